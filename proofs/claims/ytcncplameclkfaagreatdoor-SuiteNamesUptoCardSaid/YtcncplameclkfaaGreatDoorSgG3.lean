/-
  Several texts in one: each says what it proves.
  Conditions: none. Lemmas only.
-/
import Derived.Test.YtcncplameclkfaaGreatDoorSgG2
import Derived.Test.YtcncplameclkfaaGreatDoorLetG1
set_option linter.all false
section
set_option maxRecDepth 20000
set_option maxHeartbeats 4000000
namespace Go.Proofs.YtcncplameclkfaaGreatDoor
open Go Go.Abs Go.Proofs Go.Box Go.Sha Go.Shg
def stL(s:St):List Nat:=[s.a,s.b,s.c,s.d,s.e,s.f,s.g,s.h]
theorem stL_lt{s:St}(h:OkS s)(i:Nat):(stL s).getD i 0<18446744073709551616:=by
 match i with
 |0=>exact h.a
 |1=>exact h.b
 |2=>exact h.c
 |3=>exact h.d
 |4=>exact h.e
 |5=>exact h.f
 |6=>exact h.g
 |7=>exact h.h
 |i+8=>simp[stL]
theorem stL_add(v s:St){i:Nat}(h:i<8):(stL (sY v s)).getD i 0=((stL v).getD i 0+(stL s).getD i 0) % 18446744073709551616:=by
 match i,h with
 |0,_|1,_|2,_|3,_|4,_|5,_|6,_|7,_=>rfl
theorem stL_take(s:St){i:Nat}(h:i<8):(stL s).take (i+1)=(stL s).take i++[(stL s).getD i 0]:=by
 match i,h with
 |0,_|1,_|2,_|3,_|4,_|5,_|6,_|7,_=>rfl
theorem keys_get{t:Nat}(h:t<80):(lP keys512)[t]? = some (.sc (.int .u64 (kM t:Nat))):=mE h
theorem kM_lt(t:Nat):kM t<18446744073709551616:=by
 have h:∀x∈keys512,x<18446744073709551616:=by decide
 unfold kM
 by_cases hi:t<keys512.length
 ·simp only[List.getD,List.getElem?_eq_getElem hi,Option.getD_some]
  exact h _ (List.getElem_mem hi)
 ·simp only[List.getD,List.getElem?_eq_none (Nat.le_of_not_lt hi),Option.getD_none]
  decide
theorem dblock_pure(v:St)(hv:OkS v)(b:List UInt8)(hbl:b.length=128):APure Tryz.prog 153 [kindS,.imm 0 (lP (stL v)) 8,.imm 0 (bw b) 128] (.imm 0 (lP (stL (blockM v b))) 8):=by
 have hcut:=fun x hx=>cut_pure (lP keys512) (lP first512) 80 8 x hx
 have hs1:=fun x hx=>dturned_pure (lP keys512) (lP first512) 80 8 x 14 18 41 hx (by omega) (by omega) (by omega)
 have hs2:=fun x hx=>dturned_pure (lP keys512) (lP first512) 80 8 x 28 34 39 hx (by omega) (by omega) (by omega)
 have hwd:=words_pure b hbl
 have hwl:∀t,t<80→(lP (wlM b 80))[t]? = some (.sc (.int .u64 (wM b t:Nat))):=fun t ht=>by rw[mE (by rw[qU];exact ht),wM_get b ht]
 have hwn:(lP (wlM b 80)).length=80:=by rw[ll,qU]
 have hkl:(lP keys512).length=80:=rfl
 have hkg:=fun t ht=>keys_get (t:=t) ht
 have hv0:(lP (stL v))[0]? = some (.sc (.int .u64 (v.a:Nat))):=rfl
 have hv1:(lP (stL v))[1]? = some (.sc (.int .u64 (v.b:Nat))):=rfl
 have hv2:(lP (stL v))[2]? = some (.sc (.int .u64 (v.c:Nat))):=rfl
 have hv3:(lP (stL v))[3]? = some (.sc (.int .u64 (v.d:Nat))):=rfl
 have hv4:(lP (stL v))[4]? = some (.sc (.int .u64 (v.e:Nat))):=rfl
 have hv5:(lP (stL v))[5]? = some (.sc (.int .u64 (v.f:Nat))):=rfl
 have hv6:(lP (stL v))[6]? = some (.sc (.int .u64 (v.g:Nat))):=rfl
 have hv7:(lP (stL v))[7]? = some (.sc (.int .u64 (v.h:Nat))):=rfl
 have hvl:(lP (stL v)).length=8:=rfl
 unfold kindS KS FS at *
 generalize lP keys512=ks at *
 generalize lP first512=fs at *
 generalize lP (wlM b 80)=ws at *
 generalize hvr:lP (stL v)=vr at *
 unfold lu by3 at *
 refine az (c:=⟨Tryz.prog,145,[(2,[0,0,1,0,0,1,0,0,1,0,0,1,0,0,1,0,0,1,0,0,1,0,0,1,0,0,0,0,0,0,0,0]),(6,[0,1,0,0,1,0,0,0,0,0,1,0,0,0,0,0,0,0,0,1,0,0,1,0,0,0,0,1,0,0]),(21,[0,1,0,0,0,1,0,0,0,1,0,0,0,2,0]),(1000000,[3]),(4000021,[1,3,19,20,21]),(4000016,[1,3,19]),(4000015,[1,3,7,8,9,10,11,12,13,14,15,16]),(4000011,[1,3,7,8,9,10,12,13,14,15,16,17,18]),(4000007,[1,3,7,8,9,10,11,12,13,14,16,17,18]),(4000006,[1,3,7,8,9,10,11,12,13,14,16,17]),(4000002,[1,3,7,8,9,10,11,12,13,14,15])],[],[]⟩) (rs:=[ResultVar.tmp 6]) Tryz.mixed Tryz.func153 rfl rfl rfl (Nat.le_of_ble_eq_true rfl) (by kernel_rfl) fun H=>?_
 simp(disch:=omega)only[↓kX,kW,aS,simprocAttr]
 intro k hk0 hk
 first|refine CallK.p (hwd) ?_|refine CallP.i (hwd) ?_
 simp(disch:=omega)only[↓kX,kW,aS,simprocAttr,hv0,hv1,hv2,hv3,hv4,hv5,hv6,hv7,hvl]
 refine br (c:=⟨Tryz.prog,145,[(2,[0,0,1,0,0,1,0,0,1,0,0,1,0,0,1,0,0,1,0,0,1,0,0,1,0,0,0,0,0,0,0,0]),(6,[0,1,0,0,1,0,0,0,0,0,1,0,0,0,0,0,0,0,0,1,0,0,1,0,0,0,0,1,0,0]),(21,[0,1,0,0,0,1,0,0,0,1,0,0,0,2,0]),(1000000,[3]),(4000021,[1,3,19,20,21]),(4000016,[1,3,19]),(4000015,[1,3,7,8,9,10,11,12,13,14,15,16]),(4000011,[1,3,7,8,9,10,12,13,14,15,16,17,18]),(4000007,[1,3,7,8,9,10,11,12,13,14,16,17,18]),(4000006,[1,3,7,8,9,10,11,12,13,14,16,17]),(4000002,[1,3,7,8,9,10,11,12,13,14,15])],[],[]⟩) Tryz.mixed (by kernel_rfl) (fun m σ H'=>∃t:Nat,t+m=80∧σ 1=.imm 0 vr 8∧σ 3=.ip (AV.cellsOf (lu (.imm 0 ks 80) (.imm 0 fs 8))) 0∧σ 7=.imm 0 ws 80∧σ 8=.sc (.int .u64 ((ln b v t).a:Nat))∧σ 9=.sc (.int .u64 ((ln b v t).b:Nat))∧σ 10=.sc (.int .u64 ((ln b v t).c:Nat))∧σ 11=.sc (.int .u64 ((ln b v t).d:Nat))∧σ 12=.sc (.int .u64 ((ln b v t).e:Nat))∧σ 13=.sc (.int .u64 ((ln b v t).f:Nat))∧σ 14=.sc (.int .u64 ((ln b v t).g:Nat))∧σ 15=.sc (.int .u64 ((ln b v t).h:Nat))∧σ 16=.sc (.int .i64 t)∧H'=H) 80 ?_ ?_
 ·refine⟨0,by omega,?_⟩
  simp(disch:=omega)only[↓kX,kW,aS,simprocAttr,aj hk,lu]
  exact⟨rfl,rfl,rfl,rfl,rfl,rfl,rfl,rfl⟩
 ·rintro m σ H' ⟨t,ht,g1,g3,g7,g8,g9,g10,g11,g12,g13,g14,g15,g16,rfl⟩
  have hok:=roundsM_ok b hv t
  by_cases hlt:t<80
  ·have hb:decide ((t:Int)<80)=true:=by simp;omega
   have hstep:ln b v (t+1)=stepM (ln b v t) (kM t) (wM b t):=rfl
   have hk1:=hkg t hlt
   have hw1:=hwl t hlt
   have hk2:=kM_lt t
   have hw2:=wM_lt b t
   generalize ln b v t=s at *
   generalize hk9:kM t=kk at *
   generalize hw9:wM b t=ww at *
   obtain⟨sa,sb,sc,sd,se,sf,sg,sh⟩:=s
   obtain⟨l1,l2,l3,l4,l5,l6,l7,l8⟩:=hok
   simp only at g8 g9 g10 g11 g12 g13 g14 g15 l1 l2 l3 l4 l5 l6 l7 l8
   unfold Go.Shg.stepM Go.Shg.oneM Go.Shg.twoM Go.Shg.chM Go.Shg.maM at hstep
   simp only at hstep
   have c1:=hs1 se l5
   have c2:=hs2 sa l1
   have t1:turM 64 se 14 18 41<18446744073709551616:=tur_lt (w:=64) l5 (by omega) (by omega) (by omega)
   have t2:turM 64 sa 28 34 39<18446744073709551616:=tur_lt (w:=64) l1 (by omega) (by omega) (by omega)
   generalize turM 64 se 14 18 41=u1 at *
   generalize turM 64 sa 28 34 39=u2 at *
   have d1:=mJ (a:=se) (b:=sf) (by omega) (by omega)
   have d2:=not64 (a:=se) (by omega)
   have c3:=hcut (18446744073709551615-se) (by omega)
   have d3:=mJ (a:=18446744073709551615-se) (b:=sg) (by omega) (by omega)
   have d4:=mK (a:=se &&& sf) (b:=(18446744073709551615-se) &&& sg) (Nat.lt_of_le_of_lt Nat.and_le_left (by omega)) (Nat.lt_of_le_of_lt Nat.and_le_left (by omega))
   have n1:(se &&& sf) ^^^ ((18446744073709551615-se) &&& sg)<18446744073709551616:=ch_lt l6 l7
   have n2:(sa &&& sb) ^^^ (sa &&& sc) ^^^ (sb &&& sc)<18446744073709551616:=ma_lt l2 l3
   have d5:=mJ (a:=sa) (b:=sb) (by omega) (by omega)
   have d6:=mJ (a:=sa) (b:=sc) (by omega) (by omega)
   have d7:=mJ (a:=sb) (b:=sc) (by omega) (by omega)
   have d8:=mK (a:=sa &&& sb) (b:=sa &&& sc) (Nat.lt_of_le_of_lt Nat.and_le_left (by omega)) (Nat.lt_of_le_of_lt Nat.and_le_left (by omega))
   have d9:=mK (a:=(sa &&& sb) ^^^ (sa &&& sc)) (b:=sb &&& sc) (xor64 (Nat.lt_of_le_of_lt Nat.and_le_left (by omega)) (Nat.lt_of_le_of_lt Nat.and_le_left (by omega))) (Nat.lt_of_le_of_lt Nat.and_le_left (by omega))
   generalize (se &&& sf) ^^^ ((18446744073709551615-se) &&& sg)=v1 at *
   generalize (sa &&& sb) ^^^ (sa &&& sc) ^^^ (sb &&& sc)=v2 at *
   have e1:IntKind.u64.wrap ((sh:Int)+(u1:Int))=(((sh+u1) % 18446744073709551616:Nat):Int):=mn
   have e2:IntKind.u64.wrap ((((sh+u1) % 18446744073709551616:Nat):Int)+(v1:Int))=(((sh+u1+v1) % 18446744073709551616:Nat):Int):=by rw[mn,Nat.mod_add_mod]
   have e3:IntKind.u64.wrap ((((sh+u1+v1) % 18446744073709551616:Nat):Int)+(kk:Int))=(((sh+u1+v1+kk) % 18446744073709551616:Nat):Int):=by rw[mn,Nat.mod_add_mod]
   have e4:IntKind.u64.wrap ((((sh+u1+v1+kk) % 18446744073709551616:Nat):Int)+(ww:Int))=(((sh+u1+v1+kk+ww) % 18446744073709551616:Nat):Int):=by rw[mn,Nat.mod_add_mod]
   have e5:IntKind.u64.wrap ((u2:Int)+(v2:Int))=(((u2+v2) % 18446744073709551616:Nat):Int):=mn
   generalize hone:sh+u1+v1+kk+ww=o1 at *
   generalize htwo:u2+v2=o2 at *
   have e6:IntKind.u64.wrap ((sd:Int)+((o1 % 18446744073709551616:Nat):Int))=(((sd+o1) % 18446744073709551616:Nat):Int):=by rw[mn,Nat.add_mod_mod]
   have e7:IntKind.u64.wrap (((o1 % 18446744073709551616:Nat):Int)+((o2 % 18446744073709551616:Nat):Int))=(((o1+o2) % 18446744073709551616:Nat):Int):=by rw[mn,←Nat.add_mod]
   have c4:=hcut ((sd+o1) % 18446744073709551616) (Nat.mod_lt _ (by decide))
   have c5:=hcut ((o1+o2) % 18446744073709551616) (Nat.mod_lt _ (by decide))
   simp(disch:=omega)only[↓kX,kW,aS,simprocAttr,g1,g3,g7,g8,g9,g10,g11,g12,g13,g14,g15,g16,hb,lu]
   first|refine CallK.p (c1) ?_|refine CallP.i (c1) ?_
   simp(disch:=omega)only[↓kX,kW,aS,simprocAttr,g1,g3,g7,g8,g9,g10,g11,g12,g13,g14,g15,g16,lu,d1,d2,d3,d4,d5,d6,d7,d8,d9,e1,e2,e3,e4,e5,e6,e7,hk1,hw1,hkl,hwn]
   first|refine CallK.p (c3) ?_|refine CallP.i (c3) ?_
   simp(disch:=omega)only[↓kX,kW,aS,simprocAttr,g1,g3,g7,g8,g9,g10,g11,g12,g13,g14,g15,g16,lu,d1,d2,d3,d4,d5,d6,d7,d8,d9,e1,e2,e3,e4,e5,e6,e7,hk1,hw1,hkl,hwn]
   first|refine CallK.p (c2) ?_|refine CallP.i (c2) ?_
   simp(disch:=omega)only[↓kX,kW,aS,simprocAttr,g1,g3,g7,g8,g9,g10,g11,g12,g13,g14,g15,g16,lu,d1,d2,d3,d4,d5,d6,d7,d8,d9,e1,e2,e3,e4,e5,e6,e7,hk1,hw1,hkl,hwn]
   first|refine CallK.p (c4) ?_|refine CallP.i (c4) ?_
   simp(disch:=omega)only[↓kX,kW,aS,simprocAttr,g1,g3,g7,g8,g9,g10,g11,g12,g13,g14,g15,g16,lu,d1,d2,d3,d4,d5,d6,d7,d8,d9,e1,e2,e3,e4,e5,e6,e7,hk1,hw1,hkl,hwn]
   first|refine CallK.p (c5) ?_|refine CallP.i (c5) ?_
   simp(disch:=omega)only[↓kX,kW,aS,simprocAttr,g1,g3,g7,g8,g9,g10,g11,g12,g13,g14,g15,g16,lu,d1,d2,d3,d4,d5,d6,d7,d8,d9,e1,e2,e3,e4,e5,e6,e7,hk1,hw1,hkl,hwn]
   exact⟨m-1,by omega,t+1,by omega,by rw[hstep],by rw[hstep],by rw[hstep],by rw[hstep],by rw[hstep],by rw[hstep],by rw[hstep],by rw[hstep],rfl⟩
  ·obtain rfl:t=80:=by omega
   have hb:decide (((80:Nat):Int)<80)=false:=by decide
   simp(disch:=omega)only[↓kX,kW,aS,simprocAttr,g1,g3,g7,g8,g9,g10,g11,g12,g13,g14,g15,g16,hb,lu]
   refine jn 20 (by simp(disch:=omega)only[↓kX,kW,aS,simprocAttr]) fun kt hkt0 hkt=>?_
   have hbk:blockM v b=sY v (ln b v 80):=rfl
   rw[hbk]
   have hlv:=stL_lt hv
   have hls:=stL_lt hok
   have hgs:∀i,i<8→(lP (stL (ln b v 80)))[i]? = some (.sc (.int .u64 ((stL (ln b v 80)).getD i 0:Nat))):=fun i hi=>mE hi
   have hgv:∀i,i<8→vr[i]? = some (.sc (.int .u64 ((stL v).getD i 0:Nat))):=fun i hi=>by rw[←hvr];exact mE hi
   have hsl:(lP (stL (ln b v 80))).length=8:=rfl
   have hadd:=fun i hi=>stL_add v (ln b v 80) (i:=i) hi
   have htk:=fun i hi=>stL_take (sY v (ln b v 80)) (i:=i) hi
   have hta:∀i,i≤8→(lP ((stL (sY v (ln b v 80))).take i)).length=i:=fun i hi=>by rw[ll,List.length_take];exact Nat.min_eq_left hi
   have hfull:(stL (sY v (ln b v 80))).take 8=stL (sY v (ln b v 80)):=rfl
   have hini:∀l:List AV,l=lP (stL (ln b v 80))→AV.imm 0 l 8=AV.imm 0 (lP (stL (ln b v 80))) 8:=fun l hl=>by rw[hl]
   refine br (c:=⟨Tryz.prog,145,[(2,[0,0,1,0,0,1,0,0,1,0,0,1,0,0,1,0,0,1,0,0,1,0,0,1,0,0,0,0,0,0,0,0]),(6,[0,1,0,0,1,0,0,0,0,0,1,0,0,0,0,0,0,0,0,1,0,0,1,0,0,0,0,1,0,0]),(21,[0,1,0,0,0,1,0,0,0,1,0,0,0,2,0]),(1000000,[3]),(4000021,[1,3,19,20,21]),(4000016,[1,3,19]),(4000015,[1,3,7,8,9,10,11,12,13,14,15,16]),(4000011,[1,3,7,8,9,10,12,13,14,15,16,17,18]),(4000007,[1,3,7,8,9,10,11,12,13,14,16,17,18]),(4000006,[1,3,7,8,9,10,11,12,13,14,16,17]),(4000002,[1,3,7,8,9,10,11,12,13,14,15])],[],[]⟩) Tryz.mixed (by kernel_rfl) (fun m2 σ2 H2=>∃i:Nat,i+m2=8∧σ2 1=.imm 0 vr 8∧σ2 3=.ip (AV.cellsOf (lu (.imm 0 ks 80) (.imm 0 fs 8))) 0∧σ2 19=.imm 0 (lP (stL (ln b v 80))) 8∧σ2 21=.sc (.int .i64 i)∧∃k o,k≠0∧H' k=none∧H2=H'.set k o∧cy0 56 1 o i∧σ2 20=.imm k (lP ((stL (sY v (ln b v 80))).take i)) i) 8 ?_ ?_
   ·refine⟨0,by omega,?_⟩
    simp(disch:=omega)only[↓kX,kW,aS,simprocAttr,g1,g3,g7,lu]
    exact⟨rfl,kt,_,hkt0,hkt,rfl,.inr ⟨rfl,rfl⟩,rfl⟩
   ·rintro m2 σ2 H2 ⟨i,hi,q1,q3,q19,q21,k,o,hk0,hk,rfl,ho,q20⟩
    by_cases hil:i<8
    ·have hb2:decide ((i:Int)<8)=true:=by simp;omega
     have a1:=hgs i hil
     have a2:=hgv i hil
     have b1:=hls i
     have b2:=hlv i
     have hd:=hadd i hil
     have ht1:=htk i hil
     have ht2:=hta i (by omega)
     rw[hd]at ht1
     generalize hnx:(stL (sY v (ln b v 80))).take (i+1)=nx at *
     generalize (stL (sY v (ln b v 80))).take i=ac at *
     generalize (stL (ln b v 80)).getD i 0=x at *
     generalize (stL v).getD i 0=y at *
     generalize lP (stL (ln b v 80))=sr at *
     have e1:IntKind.u64.wrap ((y:Int)+(x:Int))=(((y+x) % 18446744073709551616:Nat):Int):=mn
     have c1:=hcut ((y+x) % 18446744073709551616) (Nat.mod_lt _ (by decide))
     simp(disch:=omega)only[↓kX,kW,aS,simprocAttr,q1,q3,q19,q20,q21,hb2,lu,a1,a2,hsl,hvl,e1]
     first|refine CallK.p (c1) ?_|refine CallP.i (c1) ?_
     simp(disch:=omega)only[↓kX,kW,aS,simprocAttr,q1,q3,q19,q20,q21,hk0,ho,ht2]
     intro k' o' hk0' hk' ho'
     exact⟨m2-1,by omega,i+1,by omega,rfl,rfl,k',o',hk0',am hk',rfl,by simpa [ht2] using ho',by rw[hnx,ht1,←rf]⟩
    ·obtain rfl:i=8:=by omega
     have hb2:decide (((8:Nat):Int)<8)=false:=by decide
     rw[hfull]at q20
     simp(disch:=omega)only[↓kX,kW,aS,simprocAttr,q1,q3,q19,q20,q21,hb2,lu]
     first|exact Sub.set_new hk|trace_state
theorem lenB_take(n:Nat){j:Nat}(h:j<8):(rK n).take (j+1)=(rK n).take j++[UInt8.ofNat (n*8/2^(56-8*j))]:=by
 match j,h with
 |0,_|1,_|2,_|3,_|4,_|5,_|6,_=>rfl
 |7,_=>
  show _=_++[UInt8.ofNat (n*8/2^0)]
  rw[Nat.pow_zero,Nat.div_one]
  rfl
theorem told_at(s:St){i j:Nat}(hi:i<8)(hj:j<8):(qY s).take (8*i+j+1)=(qY s).take (8*i+j)++[UInt8.ofNat ((stL s).getD i 0/2^(56-8*j))]:=by
 match j,hj with
 |0,_|1,_|2,_|3,_|4,_|5,_|6,_=>
  match i,hi with
  |0,_|1,_|2,_|3,_|4,_|5,_|6,_|7,_=>rfl
 |7,_=>
  rw[show 56-8*7=0 from rfl,Nat.pow_zero,Nat.div_one]
  match i,hi with
  |0,_|1,_|2,_|3,_|4,_|5,_|6,_|7,_=>rfl
theorem told_len(s:St):(qY s).length=64:=rfl
def padZ(b:List UInt8)(j:Nat):List UInt8:=b++[128]++List.replicate j 0
theorem padZ_len(b:List UInt8)(j:Nat):(padZ b j).length=b.length+1+j:=by simp[padZ];omega
theorem padZ_snoc(b:List UInt8)(j:Nat):padZ b (j+1)=padZ b j++[0]:=by simp[padZ,List.replicate_succ']
theorem dsum_pure(b:List UInt8)(hb:b.length≤100000000):APure Tryz.prog 133 [kindS,eu b] (eu (nR b)):=by
 have hblk:=fun v hv c hc=>dblock_pure v hv c hc
 unfold eu kindS KS FS at *
 rw[show lP first512=lP (stL nL) from rfl]at *
 generalize hks:lP keys512=ks at *
 have hel:=gz b
 refine az (c:=⟨Tryz.prog,101,[(17,[1,0,0,0,0,0,0,0,0,0]),(1000000,[2]),(4000025,[2,9,11,12,13]),(4000017,[2,5,6,9,10]),(4000012,[1,2,5,6,8]),(4000006,[1,2,5,6,7,38]),(4000003,[1,2,5,6,30]),(4000002,[1,2,5,6])],[17],[]⟩) (rs:=[ResultVar.tmp 4]) Tryz.mixed Tryz.func133 rfl rfl rfl (Nat.le_of_ble_eq_true rfl) (by kernel_rfl) fun H=>?_
 simp(disch:=omega)only[↓kX,kW,aS,Nat.reduceBEq,Nat.reduceLT,reduceCtorEq,↓reduceIte,Nat.reduceMul,Nat.reduceAdd,Nat.reduceLeDiff,Nat.reduceEqDiff,Int.reduceToNat,Nat.reduceSub,Nat.reduceMod,Nat.reduceDiv,Int.reducePow,Int.reduceLE,Int.reduceNeg,Int.reduceLT,Int.reduceBEq,Int.reduceBNe,Int.reduceEq,lu]
 intro k hk0 hk k2 hk20 hk2
 simp(disch:=omega)only[↓kX,kW,aS,Nat.reduceBEq,Nat.reduceLT,reduceCtorEq,↓reduceIte,Nat.reduceMul,Nat.reduceAdd,Nat.reduceLeDiff,Nat.reduceEqDiff,Int.reduceToNat,Nat.reduceSub,Nat.reduceMod,Nat.reduceDiv,Int.reducePow,Int.reduceLE,Int.reduceNeg,Int.reduceLT,Int.reduceBEq,Int.reduceBNe,Int.reduceEq,hk20,lu]
 intro k3 o3 hk30 hk3 ho3
 simp(disch:=omega)only[↓kX,kW,aS,Nat.reduceBEq,Nat.reduceLT,reduceCtorEq,↓reduceIte,Nat.reduceMul,Nat.reduceAdd,Nat.reduceLeDiff,Nat.reduceEqDiff,Int.reduceToNat,Nat.reduceSub,Nat.reduceMod,Nat.reduceDiv,Int.reducePow,Int.reduceLE,Int.reduceNeg,Int.reduceLT,Int.reduceBEq,Int.reduceBNe,Int.reduceEq,hk30,ho3,lu,rY]
 intro k4 o4 hk40 hk4 ho4
 rw[ef hk]at hk2
 have h32:IntKind.i64.wrap (Int.tdiv 64 4)=16:=by decide
 refine br (c:=⟨Tryz.prog,101,[(17,[1,0,0,0,0,0,0,0,0,0]),(1000000,[2]),(4000025,[2,9,11,12,13]),(4000017,[2,5,6,9,10]),(4000012,[1,2,5,6,8]),(4000006,[1,2,5,6,7,38]),(4000003,[1,2,5,6,30]),(4000002,[1,2,5,6])],[17],[]⟩) Tryz.mixed (by kernel_rfl) (fun m σ H'=>∃j:Nat,j+m=mW b.length∧σ 1=.imm 0 (bw b) b.length∧σ 2=AV.ip (AV.cellsOf (lu (.imm 0 ks 80) (.imm 0 (lP (stL nL)) 8))) 0∧σ 5=.sc (.int .i64 128)∧∃k o,k≠0∧H k=none∧H'=H.set k o∧cy0 5 1 o (b.length+1+j)∧σ 6=.imm k (bw (padZ b j)) (b.length+1+j)) (mW b.length) ?_ ?_
 ·refine⟨0,by omega,?_⟩
  simp(disch:=omega)only[↓kX,kW,aS,Nat.reduceBEq,Nat.reduceLT,reduceCtorEq,↓reduceIte,Nat.reduceMul,Nat.reduceAdd,Nat.reduceLeDiff,Nat.reduceEqDiff,Int.reduceToNat,Nat.reduceSub,Nat.reduceMod,Nat.reduceDiv,Int.reducePow,Int.reduceLE,Int.reduceNeg,Int.reduceLT,Int.reduceBEq,Int.reduceBNe,Int.reduceEq,lu]
  rw[ef hk2]at hk4
  exact⟨rfl,k4,o4,hk40,am hk4,by rw[ef (am hk3)],ho4,by rw[show padZ b 0=b++[128] by simp[padZ],←me];rfl⟩
 ·rintro m σ H' ⟨j,hj,g1,g2,g5,k,o,hk0,hk,rfl,ho,g6⟩
  have hzl:(bw (padZ b j)).length=b.length+1+j:=by rw[gz,padZ_len]
  have w1:IntKind.i64.wrap (((b.length+1+j:Nat):Int)+16)=((b.length+1+j+16:Nat):Int):=by rw[iw (by unfold mW at hj;omega)];rfl
  have hzn:mW b.length<128:=Nat.mod_lt _ (by decide)
  by_cases hlt:j<mW b.length
  ·have hne:((((b.length+1+j+16) % 128:Nat):Int) != 0)=true:=nT (by unfold mW at hlt;omega)
   simp(disch:=omega)only[↓kX,kW,aS,Nat.reduceBEq,Nat.reduceLT,reduceCtorEq,↓reduceIte,Nat.reduceMul,Nat.reduceAdd,Nat.reduceLeDiff,Nat.reduceEqDiff,Int.reduceToNat,Nat.reduceSub,Nat.reduceMod,Nat.reduceDiv,Int.reducePow,Int.reduceLE,Int.reduceNeg,Int.reduceLT,Int.reduceBEq,Int.reduceBNe,Int.reduceEq,g1,g2,g5,g6,lu,h32,w1,jd,hne,hk0,ho,hzl]
   intro k' o' hk0' hk' ho'
   exact⟨m-1,by omega,j+1,by omega,k',o',hk0',am hk',rfl,ho',by rw[padZ_snoc,←me];rfl⟩
  ·obtain rfl:j=mW b.length:=by omega
   have hne:((((b.length+1+mW b.length+16) % 128:Nat):Int) != 0)=false:=nF (by unfold mW;omega)
   simp(disch:=omega)only[↓kX,kW,aS,Nat.reduceBEq,Nat.reduceLT,reduceCtorEq,↓reduceIte,Nat.reduceMul,Nat.reduceAdd,Nat.reduceLeDiff,Nat.reduceEqDiff,Int.reduceToNat,Nat.reduceSub,Nat.reduceMod,Nat.reduceDiv,Int.reducePow,Int.reduceLE,Int.reduceNeg,Int.reduceLT,Int.reduceBEq,Int.reduceBNe,Int.reduceEq,g1,g2,g5,g6,lu,h32,w1,jd,hne]
   have hpe:rJ b b.length=padZ b (mW b.length)++List.replicate 8 0++rK b.length:=rfl
   have hN8:(b.length+1+mW b.length+16) % 128=0:=by unfold mW;omega
   have hpl:=padZ_len b (mW b.length)
   generalize padZ b (mW b.length)=P1 at *
   generalize hN1:b.length+1+mW b.length=N1 at *
   have hN1l:N1≤100000130:=by omega
   refine br (c:=⟨Tryz.prog,101,[(17,[1,0,0,0,0,0,0,0,0,0]),(1000000,[2]),(4000025,[2,9,11,12,13]),(4000017,[2,5,6,9,10]),(4000012,[1,2,5,6,8]),(4000006,[1,2,5,6,7,38]),(4000003,[1,2,5,6,30]),(4000002,[1,2,5,6])],[17],[]⟩) Tryz.mixed (by kernel_rfl) (fun m2 σ2 H2=>∃i0:Nat,i0+m2=8∧σ2 1=.imm 0 (bw b) b.length∧σ2 2=AV.ip (AV.cellsOf (lu (.imm 0 ks 80) (.imm 0 (lP (stL nL)) 8))) 0∧σ2 5=.sc (.int .i64 128)∧σ2 7=.sc (.int .i64 (8+i0:Nat))∧∃k o,k≠0∧H k=none∧H2=H.set k o∧cy0 5 1 o (N1+i0)∧σ2 6=.imm k (bw (P1++List.replicate i0 0)) (N1+i0)) 8 ?_ ?_
   ·refine⟨0,by omega,?_⟩
    simp(disch:=omega)only[↓kX,kW,aS,Nat.reduceBEq,Nat.reduceLT,reduceCtorEq,↓reduceIte,Nat.reduceMul,Nat.reduceAdd,Nat.reduceLeDiff,Nat.reduceEqDiff,Int.reduceToNat,Nat.reduceSub,Nat.reduceMod,Nat.reduceDiv,Int.reducePow,Int.reduceLE,Int.reduceNeg,Int.reduceLT,Int.reduceBEq,Int.reduceBNe,Int.reduceEq,g1,g2,g5,g6,lu]
    exact⟨k,o,hk0,hk,rfl,ho,by simp⟩
   ·clear g1 g2 g5 g6 ho hk hk0 hzl
    clear k o
    rintro m2 σ2 H2 ⟨i0,hi0,q1,q2,q5,q7,k,o,hk0,hk,rfl,ho,q6⟩
    have hil0:(bw (P1++List.replicate i0 0)).length=N1+i0:=by rw[gz,List.length_append,List.length_replicate,hpl]
    by_cases hl0:i0<8
    ·have hb0:decide (((8+i0:Nat):Int)<16)=true:=dT (by omega)
     have w0:IntKind.i64.wrap (((8+i0:Nat):Int)+1)=((8+(i0+1):Nat):Int):=by rw[iw (by omega)];omega
     simp(disch:=omega)only[↓kX,kW,aS,Nat.reduceBEq,Nat.reduceLT,reduceCtorEq,↓reduceIte,Nat.reduceMul,Nat.reduceAdd,Nat.reduceLeDiff,Nat.reduceEqDiff,Int.reduceToNat,Nat.reduceSub,Nat.reduceMod,Nat.reduceDiv,Int.reducePow,Int.reduceLE,Int.reduceNeg,Int.reduceLT,Int.reduceBEq,Int.reduceBNe,Int.reduceEq,q1,q2,q5,q6,q7,lu,h32,hb0,w0,hk0,ho,hil0]
     intro k' o' hk0' hk' ho'
     exact⟨m2-1,by omega,i0+1,by omega,rfl,k',o',hk0',am hk',rfl,ho',by
      rw[List.replicate_succ',←List.append_assoc,←rY]
      rfl⟩
    obtain rfl:i0=8:=by omega
    have hb0:decide (((8+8:Nat):Int)<16)=false:=by decide
    have hplB:(P1++List.replicate 8 0).length=N1+8:=by rw[List.length_append,List.length_replicate,hpl]
    have hN8':(N1+8+8) % 128=0:=hN8
    have hN2l:N1+8≤100000138:=by omega
    clear hpl hil0 hN1l hN8 hN1
    generalize P1++List.replicate 8 0=P2 at *
    generalize N1+8=N2 at *
    simp(disch:=omega)only[↓kX,kW,aS,Nat.reduceBEq,Nat.reduceLT,reduceCtorEq,↓reduceIte,Nat.reduceMul,Nat.reduceAdd,Nat.reduceLeDiff,Nat.reduceEqDiff,Int.reduceToNat,Nat.reduceSub,Nat.reduceMod,Nat.reduceDiv,Int.reducePow,Int.reduceLE,Int.reduceNeg,Int.reduceLT,Int.reduceBEq,Int.reduceBNe,Int.reduceEq,q1,q2,q5,q6,q7,lu,h32,hb0]
    refine br (c:=⟨Tryz.prog,101,[(17,[1,0,0,0,0,0,0,0,0,0]),(1000000,[2]),(4000025,[2,9,11,12,13]),(4000017,[2,5,6,9,10]),(4000012,[1,2,5,6,8]),(4000006,[1,2,5,6,7,38]),(4000003,[1,2,5,6,30]),(4000002,[1,2,5,6])],[17],[]⟩) Tryz.mixed (by kernel_rfl) (fun m2 σ2 H2=>∃(j:Nat) (z:Int),j+m2=8∧z=7-(j:Int)∧σ2 1=.imm 0 (bw b) b.length∧σ2 2=AV.ip (AV.cellsOf (lu (.imm 0 ks 80) (.imm 0 (lP (stL nL)) 8))) 0∧σ2 5=.sc (.int .i64 128)∧σ2 8=.sc (.int .i64 z)∧∃k o,k≠0∧H k=none∧H2=H.set k o∧cy0 5 1 o (N2+j)∧σ2 6=.imm k (bw (P2++(rK b.length).take j)) (N2+j)) 8 ?_ ?_
    ·refine⟨0,7,by omega,by omega,?_⟩
     simp(disch:=omega)only[↓kX,kW,aS,Nat.reduceBEq,Nat.reduceLT,reduceCtorEq,↓reduceIte,Nat.reduceMul,Nat.reduceAdd,Nat.reduceLeDiff,Nat.reduceEqDiff,Int.reduceToNat,Nat.reduceSub,Nat.reduceMod,Nat.reduceDiv,Int.reducePow,Int.reduceLE,Int.reduceNeg,Int.reduceLT,Int.reduceBEq,Int.reduceBNe,Int.reduceEq,q1,q2,q5,q6,lu]
     exact⟨k,o,hk0,hk,rfl,ho,by simp⟩
    ·clear q1 q2 q5 q6 q7 ho hk hk0
     clear k o
     rintro m3 σ3 H3 ⟨j,z,hj,hz,q1,q2,q5,q8,k,o,hk0,hk,rfl,ho,q6⟩
     have hjl:(bw (P2++(rK b.length).take j)).length=N2+j:=by rw[gz,List.length_append,List.length_take,hplB];show _+min j 8=_;omega
     by_cases hlt:j<8
     ·have htk:=lenB_take b.length hlt
      obtain⟨r,hr⟩:∃r:Nat,r=7-j:=⟨_,rfl⟩
      obtain rfl:z=(r:Int):=by omega
      have hb3:decide ((0:Int)≤(r:Int))=true:=by simp
      have w1:IntKind.i64.wrap (8*(r:Int))=((8*r:Nat):Int):=by rw[iw (by omega)];omega
      have w2:IntKind.u64.wrap (b.length:Int)=(b.length:Int):=jw (by omega)
      have w3:IntKind.u64.wrap ((b.length:Int)*8)=((b.length*8:Nat):Int):=pP (n:=8) (by show b.length*8<_;omega)
      have c1:=shift_pure (b.length*8) (8*r) (by omega) (by omega)
      rw[show 56-8*j=8*r by omega]at htk
      generalize hsx:b.length*8/2^(8*r)=sx at *
      generalize hlb:(rK b.length).take (j+1)=l2 at *
      generalize (rK b.length).take j=l1 at *
      simp(disch:=omega)only[↓kX,kW,aS,Nat.reduceBEq,Nat.reduceLT,reduceCtorEq,↓reduceIte,Nat.reduceMul,Nat.reduceAdd,Nat.reduceLeDiff,Nat.reduceEqDiff,Int.reduceToNat,Nat.reduceSub,Nat.reduceMod,Nat.reduceDiv,Int.reducePow,Int.reduceLE,Int.reduceNeg,Int.reduceLT,Int.reduceBEq,Int.reduceBNe,Int.reduceEq,q1,q2,q5,q6,q8,lu,hb3,w1,w2,w3,hel]
      first|refine CallK.p (c1) ?_|refine CallP.i (c1) ?_
      simp(disch:=omega)only[↓kX,kW,aS,Nat.reduceBEq,Nat.reduceLT,reduceCtorEq,↓reduceIte,Nat.reduceMul,Nat.reduceAdd,Nat.reduceLeDiff,Nat.reduceEqDiff,Int.reduceToNat,Nat.reduceSub,Nat.reduceMod,Nat.reduceDiv,Int.reducePow,Int.reduceLE,Int.reduceNeg,Int.reduceLT,Int.reduceBEq,Int.reduceBNe,Int.reduceEq,q1,q2,q5,q6,q8,lu,hb3,w1,w2,w3,jd,jC,hk0,ho,hjl]
      intro k' o' hk0' hk' ho'
      have hl1:P2.length+l1.length=N2+j:=by rw[gz,List.length_append]at hjl;exact hjl
      rw[hl1]at ho'
      exact⟨m3-1,by omega,j+1,(r:Int)-1,by omega,by omega,rfl,k',o',hk0',am hk',rfl,ho',by rw[hlb,htk,←List.append_assoc,ofNat_mod];rfl⟩
     ·obtain rfl:j=8:=by omega
      obtain rfl:z = -1:=by omega
      have hb3:decide ((0:Int) ≤ -1)=false:=by decide
      rw[show(rK b.length).take 8=rK b.length from rfl,←hpe]at q6
      simp(disch:=omega)only[↓kX,kW,aS,Nat.reduceBEq,Nat.reduceLT,reduceCtorEq,↓reduceIte,Nat.reduceMul,Nat.reduceAdd,Nat.reduceLeDiff,Nat.reduceEqDiff,Int.reduceToNat,Nat.reduceSub,Nat.reduceMod,Nat.reduceDiv,Int.reducePow,Int.reduceLE,Int.reduceNeg,Int.reduceLT,Int.reduceBEq,Int.reduceBNe,Int.reduceEq,q1,q2,q5,q6,q8,lu,hb3]
      have hpn:(rJ b b.length).length=N2+8:=by rw[←hjl,show(rK b.length).take 8=rK b.length from rfl,←hpe,gz]
      have hpm:=padS_len b b.length
      have hsh:nR b=qY (oY nL (rJ b b.length) ((rJ b b.length).length/128)):=rfl
      have hfo:OkS nL:=⟨by decide,by decide,by decide,by decide,by decide,by decide,by decide,by decide⟩
      have hbo:=fun i=>blocksM_ok hfo (rJ b b.length) i
      have hbs:∀i,oY nL (rJ b b.length) (i+1)=blockM (oY nL (rJ b b.length) i) (((rJ b b.length).drop (i*128)).take 128):=fun i=>rfl
      have hb0:oY nL (rJ b b.length) 0=nL:=rfl
      rw[hsh]
      generalize rJ b b.length=p at *
      have hpl2:=gz p
      rw[←hpn]at q6 ho
      obtain⟨nb,hnb⟩:∃nb,nb=p.length/128:=⟨_,rfl⟩
      rw[←hnb]
      refine br (c:=⟨Tryz.prog,101,[(17,[1,0,0,0,0,0,0,0,0,0]),(1000000,[2]),(4000025,[2,9,11,12,13]),(4000017,[2,5,6,9,10]),(4000012,[1,2,5,6,8]),(4000006,[1,2,5,6,7,38]),(4000003,[1,2,5,6,30]),(4000002,[1,2,5,6])],[17],[]⟩) Tryz.mixed (by kernel_rfl) (fun m4 σ4 H4=>∃i:Nat,i+m4=nb∧σ4 2=AV.ip (AV.cellsOf (lu (.imm 0 ks 80) (.imm 0 (lP (stL nL)) 8))) 0∧σ4 5=.sc (.int .i64 128)∧σ4 10=.sc (.int .i64 (i*128:Nat))∧H4=H.set k o∧σ4 6=.imm k (bw p) p.length∧σ4 9=.imm 0 (lP (stL (oY nL p i))) 8) nb ?_ ?_
      ·refine⟨0,by omega,?_⟩
       simp(disch:=omega)only[↓kX,kW,aS,Nat.reduceBEq,Nat.reduceLT,reduceCtorEq,↓reduceIte,Nat.reduceMul,Nat.reduceAdd,Nat.reduceLeDiff,Nat.reduceEqDiff,Int.reduceToNat,Nat.reduceSub,Nat.reduceMod,Nat.reduceDiv,Int.reducePow,Int.reduceLE,Int.reduceNeg,Int.reduceLT,Int.reduceBEq,Int.reduceBNe,Int.reduceEq,q1,q2,q5,q6,q8,lu]
       rfl
      ·rintro m4 σ4 H4 ⟨i,hi,r2,r5,r10,rfl,r6,r9⟩
       by_cases hil:i<nb
       ·have hb4:decide (((i*128:Nat):Int)<(p.length:Int))=true:=dT (by omega)
        have w1:IntKind.i64.wrap (((i*128:Nat):Int)+128)=((i*128+128:Nat):Int):=by rw[iw (by omega)];rfl
        have hcl:((p.drop (i*128)).take 128).length=128:=by rw[List.length_take,List.length_drop];omega
        have c1:=hblk _ (hbo i) _ hcl
        have hst:=hbs i
        generalize hcc:(p.drop (i*128)).take 128=cc at *
        simp(disch:=omega)only[↓kX,kW,aS,Nat.reduceBEq,Nat.reduceLT,reduceCtorEq,↓reduceIte,Nat.reduceMul,Nat.reduceAdd,Nat.reduceLeDiff,Nat.reduceEqDiff,Int.reduceToNat,Nat.reduceSub,Nat.reduceMod,Nat.reduceDiv,Int.reducePow,Int.reduceLE,Int.reduceNeg,Int.reduceLT,Int.reduceBEq,Int.reduceBNe,Int.reduceEq,r2,r5,r10,r6,r9,lu,hb4,w1,hpl2]
        rw[show i*128+128-i*128=128 by omega,qP,qO,hcc]
        first|refine CallK.p (c1) ?_|refine CallP.i (c1) ?_
        simp(disch:=omega)only[↓kX,kW,aS,Nat.reduceBEq,Nat.reduceLT,reduceCtorEq,↓reduceIte,Nat.reduceMul,Nat.reduceAdd,Nat.reduceLeDiff,Nat.reduceEqDiff,Int.reduceToNat,Nat.reduceSub,Nat.reduceMod,Nat.reduceDiv,Int.reducePow,Int.reduceLE,Int.reduceNeg,Int.reduceLT,Int.reduceBEq,Int.reduceBNe,Int.reduceEq,r2,r5,r10,r6,r9,lu,w1]
        exact⟨m4-1,by omega,i+1,by omega,by first|rfl|(rw[Nat.add_mul]),by rw[hst]⟩
       ·obtain rfl:i=nb:=by omega
        have hb4:decide (((i*128:Nat):Int)<(p.length:Int))=false:=dF (by omega)
        simp(disch:=omega)only[↓kX,kW,aS,Nat.reduceBEq,Nat.reduceLT,reduceCtorEq,↓reduceIte,Nat.reduceMul,Nat.reduceAdd,Nat.reduceLeDiff,Nat.reduceEqDiff,Int.reduceToNat,Nat.reduceSub,Nat.reduceMod,Nat.reduceDiv,Int.reducePow,Int.reduceLE,Int.reduceNeg,Int.reduceLT,Int.reduceBEq,Int.reduceBNe,Int.reduceEq,r2,r5,r10,r6,r9,lu,hb4,hpl2]
        have hS:=hbo i
        generalize oY nL p i=S at *
        refine jn 11 (by simp(disch:=omega)only[↓kX,kW,aS,Nat.reduceBEq,Nat.reduceLT,reduceCtorEq,↓reduceIte,Nat.reduceMul,Nat.reduceAdd,Nat.reduceLeDiff,Nat.reduceEqDiff,Int.reduceToNat,Nat.reduceSub,Nat.reduceMod,Nat.reduceDiv,Int.reducePow,Int.reduceLE,Int.reduceNeg,Int.reduceLT,Int.reduceBEq,Int.reduceBNe,Int.reduceEq]) fun kt hkt0 hkt=>?_
        have hgs:∀i,i<8→(lP (stL S))[i]? = some (.sc (.int .u64 ((stL S).getD i 0:Nat))):=fun i hi=>mE hi
        have hsl:(lP (stL S)).length=8:=rfl
        have hlt:=stL_lt hS
        have hta:=fun i j hi hj=>told_at S (i:=i) (j:=j) hi hj
        have htl:∀n,n≤64→(bw ((qY S).take n)).length=n:=fun n hn=>by rw[gz,List.length_take,told_len];omega
        have htf:(qY S).take 64=qY S:=List.take_of_length_le (Nat.le_refl _)
        have htz:(qY S).take 0=[]:=rfl
        have hml:=told_len S
        generalize hsr:lP (stL S)=sr at *
        generalize qY S=T at *
        refine br (c:=⟨Tryz.prog,101,[(17,[1,0,0,0,0,0,0,0,0,0]),(1000000,[2]),(4000025,[2,9,11,12,13]),(4000017,[2,5,6,9,10]),(4000012,[1,2,5,6,8]),(4000006,[1,2,5,6,7,38]),(4000003,[1,2,5,6,30]),(4000002,[1,2,5,6])],[17],[]⟩) Tryz.mixed (by kernel_rfl) (fun m5 σ5 H5=>∃i:Nat,i+m5=8∧σ5 2=AV.ip (AV.cellsOf (lu (.imm 0 ks 80) (.imm 0 (lP (stL nL)) 8))) 0∧σ5 9=.imm 0 sr 8∧σ5 12=.sc (.int .i64 i)∧∃kt ot,kt≠0∧(H.set k o) kt=none∧H5=(H.set k o).set kt ot∧cy0 5 1 ot (8*i)∧σ5 11=.imm kt (bw (T.take (8*i))) (8*i)) 8 ?_ ?_
        ·refine⟨0,by omega,?_⟩
         simp(disch:=omega)only[↓kX,kW,aS,Nat.reduceBEq,Nat.reduceLT,reduceCtorEq,↓reduceIte,Nat.reduceMul,Nat.reduceAdd,Nat.reduceLeDiff,Nat.reduceEqDiff,Int.reduceToNat,Nat.reduceSub,Nat.reduceMod,Nat.reduceDiv,Int.reducePow,Int.reduceLE,Int.reduceNeg,Int.reduceLT,Int.reduceBEq,Int.reduceBNe,Int.reduceEq,r2,r5,r10,r6,r9,lu]
         exact⟨kt,_,hkt0,hkt,rfl,.inr ⟨rfl,rfl⟩,rfl⟩
        ·clear hkt hkt0
         clear kt
         rintro m5 σ5 H5 ⟨i5,hi5,s2,s9,s12,kt,ot,hkt0,hkt,rfl,hot,s11⟩
         by_cases hil5:i5<8
         ·have hb5:decide ((i5:Int)<8)=true:=by simp;omega
          have h88:IntKind.i64.wrap (64-8)=56:=by decide
          have a1:=hgs i5 hil5
          have b1:=hlt i5
          have d1:=fun j hj=>hta i5 j hil5 hj
          generalize (stL S).getD i5 0=x at *
          simp(disch:=omega)only[↓kX,kW,aS,Nat.reduceBEq,Nat.reduceLT,reduceCtorEq,↓reduceIte,Nat.reduceMul,Nat.reduceAdd,Nat.reduceLeDiff,Nat.reduceEqDiff,Int.reduceToNat,Nat.reduceSub,Nat.reduceMod,Nat.reduceDiv,Int.reducePow,Int.reduceLE,Int.reduceNeg,Int.reduceLT,Int.reduceBEq,Int.reduceBNe,Int.reduceEq,s2,s9,s11,s12,lu,hb5,h88]
          refine br (c:=⟨Tryz.prog,101,[(17,[1,0,0,0,0,0,0,0,0,0]),(1000000,[2]),(4000025,[2,9,11,12,13]),(4000017,[2,5,6,9,10]),(4000012,[1,2,5,6,8]),(4000006,[1,2,5,6,7,38]),(4000003,[1,2,5,6,30]),(4000002,[1,2,5,6])],[17],[]⟩) Tryz.mixed (by kernel_rfl) (fun m6 σ6 H6=>∃(j:Nat) (z:Int),j+m6=8∧z=56-8*(j:Int)∧σ6 2=AV.ip (AV.cellsOf (lu (.imm 0 ks 80) (.imm 0 (lP (stL nL)) 8))) 0∧σ6 9=.imm 0 sr 8∧σ6 12=.sc (.int .i64 i5)∧σ6 13=.sc (.int .i64 z)∧∃kt ot,kt≠0∧(H.set k o) kt=none∧H6=(H.set k o).set kt ot∧cy0 5 1 ot (8*i5+j)∧σ6 11=.imm kt (bw (T.take (8*i5+j))) (8*i5+j)) 8 ?_ ?_
          ·refine⟨0,56,by omega,by omega,?_⟩
           simp(disch:=omega)only[↓kX,kW,aS,Nat.reduceBEq,Nat.reduceLT,reduceCtorEq,↓reduceIte,Nat.reduceMul,Nat.reduceAdd,Nat.reduceLeDiff,Nat.reduceEqDiff,Int.reduceToNat,Nat.reduceSub,Nat.reduceMod,Nat.reduceDiv,Int.reducePow,Int.reduceLE,Int.reduceNeg,Int.reduceLT,Int.reduceBEq,Int.reduceBNe,Int.reduceEq,s2,s9,s11,s12,lu]
           exact⟨kt,ot,hkt0,hkt,rfl,hot,rfl⟩
          ·clear hkt hkt0 s11 hot
           clear kt ot
           rintro m6 σ6 H6 ⟨j,z,hj,hz,s2,s9,s12,s13,kt,ot,hkt0,hkt,rfl,hot,s11⟩
           by_cases hjl:j<8
           ·obtain⟨r,hr⟩:∃r:Nat,r=56-8*j:=⟨_,rfl⟩
            obtain rfl:z=(r:Int):=by omega
            have hb6:decide ((0:Int)≤(r:Int))=true:=by simp
            have htk:=d1 j hjl
            rw[show 56-8*j=r by omega]at htk
            have c1:=shift_pure x r (by omega) (by omega)
            have hle:=htl (8*i5+j) (by omega)
            have w1:IntKind.i64.wrap ((r:Int)-8)=(r:Int)-8:=iw (by omega)
            generalize hsx:x/2^r=sx at *
            generalize hT2:T.take (8*i5+j+1)=T2 at *
            generalize T.take (8*i5+j)=T1 at *
            simp(disch:=omega)only[↓kX,kW,aS,Nat.reduceBEq,Nat.reduceLT,reduceCtorEq,↓reduceIte,Nat.reduceMul,Nat.reduceAdd,Nat.reduceLeDiff,Nat.reduceEqDiff,Int.reduceToNat,Nat.reduceSub,Nat.reduceMod,Nat.reduceDiv,Int.reducePow,Int.reduceLE,Int.reduceNeg,Int.reduceLT,Int.reduceBEq,Int.reduceBNe,Int.reduceEq,s2,s9,s11,s12,s13,lu,hb6,a1,hsl]
            first|refine CallK.p (c1) ?_|refine CallP.i (c1) ?_
            simp(disch:=omega)only[↓kX,kW,aS,Nat.reduceBEq,Nat.reduceLT,reduceCtorEq,↓reduceIte,Nat.reduceMul,Nat.reduceAdd,Nat.reduceLeDiff,Nat.reduceEqDiff,Int.reduceToNat,Nat.reduceSub,Nat.reduceMod,Nat.reduceDiv,Int.reducePow,Int.reduceLE,Int.reduceNeg,Int.reduceLT,Int.reduceBEq,Int.reduceBNe,Int.reduceEq,s2,s9,s11,s12,s13,lu,jd,jC,hkt0,hot,hle,w1]
            intro k' o' hk0' hk' ho'
            have hl1:T1.length=8*i5+j:=by rw[gz]at hle;exact hle
            rw[hl1]at ho'
            exact⟨m6-1,by omega,j+1,(r:Int)-8,by omega,by omega,rfl,k',o',hk0',am hk',rfl,ho',by rw[←Nat.add_assoc,hT2,htk,ofNat_mod]⟩
           ·obtain rfl:j=8:=by omega
            obtain rfl:z = -8:=by omega
            have hb6:decide ((0:Int) ≤ -8)=false:=by decide
            simp(disch:=omega)only[↓kX,kW,aS,Nat.reduceBEq,Nat.reduceLT,reduceCtorEq,↓reduceIte,Nat.reduceMul,Nat.reduceAdd,Nat.reduceLeDiff,Nat.reduceEqDiff,Int.reduceToNat,Nat.reduceSub,Nat.reduceMod,Nat.reduceDiv,Int.reducePow,Int.reduceLE,Int.reduceNeg,Int.reduceLT,Int.reduceBEq,Int.reduceBNe,Int.reduceEq,s2,s9,s11,s12,s13,lu,hb6]
            exact⟨m5-1,by omega,i5+1,by omega,rfl,kt,ot,hkt0,hkt,rfl,hot,rfl⟩
         ·obtain rfl:i5=8:=by omega
          have hb5:decide (((8:Nat):Int)<8)=false:=by decide
          rw[show 8*8=64 from rfl,htf]at s11
          simp(disch:=omega)only[↓kX,kW,aS,Nat.reduceBEq,Nat.reduceLT,reduceCtorEq,↓reduceIte,Nat.reduceMul,Nat.reduceAdd,Nat.reduceLeDiff,Nat.reduceEqDiff,Int.reduceToNat,Nat.reduceSub,Nat.reduceMod,Nat.reduceDiv,Int.reducePow,Int.reduceLE,Int.reduceNeg,Int.reduceLT,Int.reduceBEq,Int.reduceBNe,Int.reduceEq,s2,s9,s11,s12,lu,hb5,hml]
          exact(Sub.set_new hk).trans (Sub.set_new hkt)
end Go.Proofs.YtcncplameclkfaaGreatDoor
end
section
set_option maxRecDepth 20000
set_option maxHeartbeats 4000000
namespace Go.Proofs.YtcncplameclkfaaGreatDoor
open Go Go.Abs Go.Proofs Go.Box Go.Sha Go.Shg
theorem mX(f:Nat→Nat)(n:Nat){i:Nat}(h:i<n):((List.range n).map f).getD i 0=f i:=by
 simp[List.getD,h]
theorem list_ext{l m:List Nat}(hl:l.length=m.length)(h:∀i,i<l.length→l.getD i 0=m.getD i 0):l=m:=by
 apply List.ext_getElem hl
 intro i h1 h2
 have:=h i h1
 simpa [List.getD,h1,h2] using this
def wiM(b:List UInt8)(n:Nat):List Nat:=(List.range 16).map fun j=>wpM b j (min 8 (n-j*8))
theorem rp(b:List UInt8)(n:Nat):(wiM b n).length=16:=by simp[wiM]
theorem rep_zero(n i:Nat):(List.replicate n 0).getD i 0=0:=by
 simp only[List.getD,List.getElem?_replicate]
 split<;>rfl
theorem wiM_zero(b:List UInt8):wiM b 0=List.replicate 16 0:=by
 apply list_ext (by simp[rp])
 intro i hi
 have hi':i<16:=by simpa [rp] using hi
 unfold wiM
 rw[mX _ _ hi',show min 8 (0-i*8)=0 by omega]
 rw[rep_zero]
 rfl
theorem wiM_get(b:List UInt8)(n:Nat)(h:n<128):(wiM b n).getD (n/8) 0=wpM b (n/8) (n % 8):=by
 unfold wiM
 rw[mX _ _ (by omega),show min 8 (n-n/8*8)=n % 8 by omega]
theorem wiM_set(b:List UInt8)(n:Nat)(h:n<128):(wiM b n).set (n/8) (wpM b (n/8) (n % 8)*256+(b.getD n 0).toNat)=wiM b (n+1):=by
 apply list_ext (by simp[rp])
 intro i hi
 have hi':i<16:=by simpa [rp] using hi
 unfold wiM
 by_cases e:n/8=i
 ·subst e
  rw[getD_set_eq (by simpa using hi'),mX _ _ hi',show min 8 (n+1-n/8*8)=n % 8+1 by omega,wpM,show n/8*8+n % 8=n by omega]
 ·rw[getD_set_ne e,mX _ _ hi',mX _ _ hi']
  congr 1
  omega
theorem or_byte{a x:Nat}(h:x<256):(a*256) ||| x=a*256+x:=by
 have:=Nat.two_pow_add_eq_or_of_lt (i:=8) h a
 rw[Nat.mul_comm]
 exact this.symm
def rgM(b:List UInt8)(T:Nat):List Nat:=(List.range 16).map fun j=>wM b (T-1-(T-1-j) % 16)
theorem pQ(b:List UInt8)(T:Nat):(rgM b T).length=16:=by simp[rgM]
theorem wiM_full(b:List UInt8):wiM b 128=rgM b 16:=by
 apply list_ext (by rw[rp,pQ])
 intro i hi
 have hi':i<16:=by simpa [rp] using hi
 unfold wiM rgM
 rw[mX _ _ hi',mX _ _ hi',show min 8 (128-i*8)=8 by omega,wpM_eight,show 16-1-(16-1-i) % 16=i by omega,wM_first b hi']
theorem rgM_get(b:List UInt8){T j k:Nat}(hj:j<16)(hT:16≤T)(hk:k<T)(hk2:T≤k+16)(e:k % 16=j):(rgM b T).getD j 0=wM b k:=by
 unfold rgM
 rw[mX _ _ hj]
 congr 1
 omega
theorem rgM_set(b:List UInt8){t:Nat}(ht:16≤t):(rgM b t).set (t % 16) (wM b t)=rgM b (t+1):=by
 apply list_ext (by simp[pQ])
 intro i hi
 have hi':i<16:=by simpa [pQ] using hi
 by_cases e:t % 16=i
 ·subst e
  rw[getD_set_eq (by simpa [pQ] using hi'),rgM_get b (k:=t) hi' (by omega) (by omega) (by omega) rfl]
 ·rw[getD_set_ne e]
  unfold rgM
  rw[mX _ _ hi',mX _ _ hi']
  congr 1
  omega
def adM(v s:St)(i:Nat):List Nat:=(stL (sY v s)).take i++(stL v).drop i
theorem adM_zero(v s:St):adM v s 0=stL v:=rfl
theorem adM_full(v s:St):adM v s 8=stL (sY v s):=rfl
theorem adM_len(v s:St){i:Nat}(h:i≤8):(adM v s i).length=8:=by
 simp[adM,stL];omega
theorem adM_get(v s:St){i:Nat}(h:i<8):(adM v s i).getD i 0=(stL v).getD i 0:=by
 match i,h with
 |0,_|1,_|2,_|3,_|4,_|5,_|6,_|7,_=>rfl
theorem adM_set(v s:St){i:Nat}(h:i<8):(adM v s i).set i (((stL v).getD i 0+(stL s).getD i 0) % 18446744073709551616)=adM v s (i+1):=by
 match i,h with
 |0,_|1,_|2,_|3,_|4,_|5,_|6,_|7,_=>rfl
def F3(H:AH)(a r w:Nat)(ca cr cw:AObj):AH:=((H.set a ca).set r cr).set w cw
variable {H:AH} {a r w s:Nat}
theorem F3_getA(h1:a≠r)(h2:a≠w)(ca cr cw:AObj):F3 H a r w ca cr cw a=some ca:=by simp[F3,AH.set,h1,h2]
theorem F3_getW(ca cr cw:AObj):F3 H a r w ca cr cw w=some cw:=by simp[F3,AH.set]
theorem F3_setW(ca cr cw x:AObj):(F3 H a r w ca cr cw).set w x=F3 H a r w ca cr x:=by unfold F3;rw[set_set]
theorem F3_setS(ca cr cw x:AObj):(F3 H a r w ca cr cw).set s x=F4 H a r w s ca cr cw x:=rfl
theorem D4.of{x y z:AObj}(h1:H a=none)(h2:H r=none)(h3:H w=none)(n1:¬a=r)(n2:¬a=w)(n3:¬r=w)(h:F3 H a r w x y z s=none):D4 H a r w s:=by
 unfold F3 at h
 have e3:=bK0 h
 have h':=am h
 have e2:=bK0 h'
 have h'':=am h'
 exact⟨h1,h2,h3,am h'',n1,n2,bK0 h'',n3,e2,e3⟩
end Go.Proofs.YtcncplameclkfaaGreatDoor
end
section
set_option maxRecDepth 20000
set_option maxHeartbeats 4000000
namespace Go.Proofs.YtcncplameclkfaaGreatDoor
open Go Go.Abs Go.Proofs Go.Box Go.Sha Go.Shg
theorem ptold_pure(S:St)(hS:OkS S):APure Tryz.prog 145 [.agg (lP (stL S)),.sc (.int .i64 64)] (eu (qY S)):=by
 have hgs:∀i,i<8→(lP (stL S))[i]? = some (.sc (.int .u64 ((stL S).getD i 0:Nat))):=fun i hi=>mE hi
 have hsl:(lP (stL S)).length=8:=rfl
 have hlt:=stL_lt hS
 have hta:=fun i j hi hj=>told_at S (i:=i) (j:=j) hi hj
 have htl:∀n,n≤64→(bw ((qY S).take n)).length=n:=fun n hn=>by rw[gz,List.length_take,told_len];omega
 have htf:(qY S).take 64=qY S:=List.take_of_length_le (Nat.le_refl _)
 have hml:=told_len S
 have hst8:(lP (stL S)).map AV.strip0=lP (stL S):=by simp[lP,AV.strip0]
 have ht8:(lP (stL S)).take 8=lP (stL S):=rfl
 unfold eu
 generalize hsr:lP (stL S)=sr at *
 generalize qY S=T at *
 refine az (c:=⟨Tryz.prog,28,[(1000000,[2])],[],[]⟩) (rs:=[ResultVar.tmp 4]) Tryz.mixed Tryz.func145 rfl rfl rfl (Nat.le_of_ble_eq_true rfl) (by kernel_rfl) fun H=>?_
 simp(disch:=omega)only[↓kX,kW,aS,Nat.reduceBEq,Nat.reduceLT,reduceCtorEq,↓reduceIte,Nat.reduceMul,Nat.reduceAdd,Nat.reduceLeDiff,Nat.reduceEqDiff,Int.reduceToNat,Nat.reduceSub,Nat.reduceMod,Nat.reduceDiv,Int.reducePow,Int.reduceLE,Int.reduceNeg,Int.reduceLT,Int.reduceBEq,Int.reduceBNe,Int.reduceEq,hsl,ht8,hml]
 intro k hk0 hk
 refine jn 5 (by simp(disch:=omega)only[↓kX,kW,aS,Nat.reduceBEq,Nat.reduceLT,reduceCtorEq,↓reduceIte,Nat.reduceMul,Nat.reduceAdd,Nat.reduceLeDiff,Nat.reduceEqDiff,Int.reduceToNat,Nat.reduceSub,Nat.reduceMod,Nat.reduceDiv,Int.reducePow,Int.reduceLE,Int.reduceNeg,Int.reduceLT,Int.reduceBEq,Int.reduceBNe,Int.reduceEq]) fun kt hkt0 hkt=>?_
 rw[ef hk]at hkt
 refine br (c:=⟨Tryz.prog,28,[(1000000,[2])],[],[]⟩) Tryz.mixed (by kernel_rfl) (fun m5 σ5 H5=>∃i:Nat,i+m5=8∧σ5 1=.sc (.int .i64 64)∧σ5 9=.agg sr∧σ5 10=.sc (.int .i64 i)∧∃kt ot,kt≠0∧H kt=none∧H5=H.set kt ot∧cy0 5 1 ot (8*i)∧σ5 5=.imm kt (bw (T.take (8*i))) (8*i)) 8 ?_ ?_
 ·refine⟨0,by omega,?_⟩
  simp(disch:=omega)only[↓kX,kW,aS,Nat.reduceBEq,Nat.reduceLT,reduceCtorEq,↓reduceIte,Nat.reduceMul,Nat.reduceAdd,Nat.reduceLeDiff,Nat.reduceEqDiff,Int.reduceToNat,Nat.reduceSub,Nat.reduceMod,Nat.reduceDiv,Int.reducePow,Int.reduceLE,Int.reduceNeg,Int.reduceLT,Int.reduceBEq,Int.reduceBNe,Int.reduceEq,hst8,aj hk]
  exact⟨kt,_,hkt0,hkt,rfl,.inr ⟨rfl,rfl⟩,rfl⟩
 ·clear hkt hkt0
  clear kt
  rintro m5 σ5 H5 ⟨i5,hi5,s1,s9,s10,kt,ot,hkt0,hkt,rfl,hot,s5⟩
  by_cases hil5:i5<8
  ·have hb5:decide ((i5:Int)<8)=true:=by simp;omega
   have h88:IntKind.i64.wrap (64-8)=56:=by decide
   have a1:=hgs i5 hil5
   have b1:=hlt i5
   have d1:=fun j hj=>hta i5 j hil5 hj
   generalize (stL S).getD i5 0=x at *
   have hgd:sr.getD i5 AV.any=.sc (.int .u64 (x:Nat)):=by simp[List.getD,a1]
   simp(disch:=omega)only[↓kX,kW,aS,Nat.reduceBEq,Nat.reduceLT,reduceCtorEq,↓reduceIte,Nat.reduceMul,Nat.reduceAdd,Nat.reduceLeDiff,Nat.reduceEqDiff,Int.reduceToNat,Nat.reduceSub,Nat.reduceMod,Nat.reduceDiv,Int.reducePow,Int.reduceLE,Int.reduceNeg,Int.reduceLT,Int.reduceBEq,Int.reduceBNe,Int.reduceEq,s1,s9,s10,s5,hb5,h88,a1,hsl,hgd]
   refine br (c:=⟨Tryz.prog,28,[(1000000,[2])],[],[]⟩) Tryz.mixed (by kernel_rfl) (fun m6 σ6 H6=>∃(j:Nat) (z:Int),j+m6=8∧z=56-8*(j:Int)∧σ6 1=.sc (.int .i64 64)∧σ6 9=.agg sr∧σ6 10=.sc (.int .i64 i5)∧σ6 7=.sc (.int .u64 x)∧σ6 8=.sc (.int .i64 z)∧∃kt ot,kt≠0∧H kt=none∧H6=H.set kt ot∧cy0 5 1 ot (8*i5+j)∧σ6 5=.imm kt (bw (T.take (8*i5+j))) (8*i5+j)) 8 ?_ ?_
   ·refine⟨0,56,by omega,by omega,?_⟩
    simp(disch:=omega)only[↓kX,kW,aS,Nat.reduceBEq,Nat.reduceLT,reduceCtorEq,↓reduceIte,Nat.reduceMul,Nat.reduceAdd,Nat.reduceLeDiff,Nat.reduceEqDiff,Int.reduceToNat,Nat.reduceSub,Nat.reduceMod,Nat.reduceDiv,Int.reducePow,Int.reduceLE,Int.reduceNeg,Int.reduceLT,Int.reduceBEq,Int.reduceBNe,Int.reduceEq,s1,s9,s10,s5,hgd]
    exact⟨kt,ot,hkt0,hkt,rfl,hot,rfl⟩
   ·clear hkt hkt0 s5 hot
    clear kt ot
    rintro m6 σ6 H6 ⟨j,z,hj,hz,s1,s9,s10,s7,s8,kt,ot,hkt0,hkt,rfl,hot,s5⟩
    by_cases hjl:j<8
    ·obtain⟨r,hr⟩:∃r:Nat,r=56-8*j:=⟨_,rfl⟩
     obtain rfl:z=(r:Int):=by omega
     have hb6:decide ((0:Int)≤(r:Int))=true:=by simp
     have htk:=d1 j hjl
     rw[show 56-8*j=r by omega]at htk
     have hle:=htl (8*i5+j) (by omega)
     have w1:IntKind.i64.wrap ((r:Int)-8)=(r:Int)-8:=iw (by omega)
     have hsx:(x:Int).fdiv (2^min r 64)=((x/2^r:Nat):Int):=by rw[minL (by omega),shrN]
     generalize x/2^r=sx at *
     generalize hT2:T.take (8*i5+j+1)=T2 at *
     generalize T.take (8*i5+j)=T1 at *
     simp(disch:=omega)only[↓kX,kW,aS,Nat.reduceBEq,Nat.reduceLT,reduceCtorEq,↓reduceIte,Nat.reduceMul,Nat.reduceAdd,Nat.reduceLeDiff,Nat.reduceEqDiff,Int.reduceToNat,Nat.reduceSub,Nat.reduceMod,Nat.reduceDiv,Int.reducePow,Int.reduceLE,Int.reduceNeg,Int.reduceLT,Int.reduceBEq,Int.reduceBNe,Int.reduceEq,s1,s9,s10,s7,s8,s5,hb6,mS,hsx,jC,hkt0,hot,hle,w1]
     intro k' o' hk0' hk' ho'
     have hl1:T1.length=8*i5+j:=by rw[gz]at hle;exact hle
     rw[hl1]at ho'
     exact⟨m6-1,by omega,j+1,(r:Int)-8,by omega,by omega,rfl,k',o',hk0',am hk',rfl,ho',by rw[←Nat.add_assoc,hT2,htk]⟩
    ·obtain rfl:j=8:=by omega
     obtain rfl:z = -8:=by omega
     have hb6:decide ((0:Int) ≤ -8)=false:=by decide
     simp(disch:=omega)only[↓kX,kW,aS,Nat.reduceBEq,Nat.reduceLT,reduceCtorEq,↓reduceIte,Nat.reduceMul,Nat.reduceAdd,Nat.reduceLeDiff,Nat.reduceEqDiff,Int.reduceToNat,Nat.reduceSub,Nat.reduceMod,Nat.reduceDiv,Int.reducePow,Int.reduceLE,Int.reduceNeg,Int.reduceLT,Int.reduceBEq,Int.reduceBNe,Int.reduceEq,s1,s9,s10,s7,s8,s5,hb6]
     exact⟨m5-1,by omega,i5+1,by omega,rfl,kt,ot,hkt0,hkt,rfl,hot,rfl⟩
  ·obtain rfl:i5=8:=by omega
   have hb5:decide (((8:Nat):Int)<8)=false:=by decide
   rw[show 8*8=64 from rfl,htf]at s5
   simp(disch:=omega)only[↓kX,kW,aS,Nat.reduceBEq,Nat.reduceLT,reduceCtorEq,↓reduceIte,Nat.reduceMul,Nat.reduceAdd,Nat.reduceLeDiff,Nat.reduceEqDiff,Int.reduceToNat,Nat.reduceSub,Nat.reduceMod,Nat.reduceDiv,Int.reducePow,Int.reduceLE,Int.reduceNeg,Int.reduceLT,Int.reduceBEq,Int.reduceBNe,Int.reduceEq,s1,s9,s10,s5,hb5,hml]
   exact Sub.set_new hkt
theorem padded_pure(r:List UInt8)(all:Nat)(hr:r.length≤100000000)(ha:all≤100000000):APure Tryz.prog 142 [eu r,.sc (.int .i64 all),.sc (.int .i64 128)] (eu (rJ r all)):=by
 unfold eu
 have hel:=gz r
 refine az (c:=⟨Tryz.prog,49,[],[10],[]⟩) (rs:=[ResultVar.tmp 6]) Tryz.mixed Tryz.func142 rfl rfl rfl (Nat.le_of_ble_eq_true rfl) (by kernel_rfl) fun H=>?_
 simp(disch:=omega)only[↓kX,kW,aS,Nat.reduceBEq,Nat.reduceLT,reduceCtorEq,↓reduceIte,Nat.reduceMul,Nat.reduceAdd,Nat.reduceLeDiff,Nat.reduceEqDiff,Int.reduceToNat,Nat.reduceSub,Nat.reduceMod,Nat.reduceDiv,Int.reducePow,Int.reduceLE,Int.reduceNeg,Int.reduceLT,Int.reduceBEq,Int.reduceBNe,Int.reduceEq]
 intro k hk0 hk
 simp(disch:=omega)only[↓kX,kW,aS,Nat.reduceBEq,Nat.reduceLT,reduceCtorEq,↓reduceIte,Nat.reduceMul,Nat.reduceAdd,Nat.reduceLeDiff,Nat.reduceEqDiff,Int.reduceToNat,Nat.reduceSub,Nat.reduceMod,Nat.reduceDiv,Int.reducePow,Int.reduceLE,Int.reduceNeg,Int.reduceLT,Int.reduceBEq,Int.reduceBNe,Int.reduceEq,hk0]
 intro k3 o3 hk30 hk3 ho3
 simp(disch:=omega)only[↓kX,kW,aS,Nat.reduceBEq,Nat.reduceLT,reduceCtorEq,↓reduceIte,Nat.reduceMul,Nat.reduceAdd,Nat.reduceLeDiff,Nat.reduceEqDiff,Int.reduceToNat,Nat.reduceSub,Nat.reduceMod,Nat.reduceDiv,Int.reducePow,Int.reduceLE,Int.reduceNeg,Int.reduceLT,Int.reduceBEq,Int.reduceBNe,Int.reduceEq,hk30,ho3,rY]
 intro k4 o4 hk40 hk4 ho4
 have h56:IntKind.i64.wrap (128-IntKind.i64.wrap (Int.tdiv 128 8))=112:=by decide
 have h8:IntKind.i64.wrap (Int.tdiv 128 8)=16:=by decide
 refine br (c:=⟨Tryz.prog,49,[],[10],[]⟩) Tryz.mixed (by kernel_rfl) (fun m σ H'=>∃j:Nat,j+m=mW r.length∧σ 1=.sc (.int .i64 all)∧σ 2=.sc (.int .i64 128)∧∃k o,k≠0∧H k=none∧H'=H.set k o∧cy0 5 1 o (r.length+1+j)∧σ 7=.imm k (bw (padZ r j)) (r.length+1+j)) (mW r.length) ?_ ?_
 ·refine⟨0,by omega,?_⟩
  simp(disch:=omega)only[↓kX,kW,aS,Nat.reduceBEq,Nat.reduceLT,reduceCtorEq,↓reduceIte,Nat.reduceMul,Nat.reduceAdd,Nat.reduceLeDiff,Nat.reduceEqDiff,Int.reduceToNat,Nat.reduceSub,Nat.reduceMod,Nat.reduceDiv,Int.reducePow,Int.reduceLE,Int.reduceNeg,Int.reduceLT,Int.reduceBEq,Int.reduceBNe,Int.reduceEq]
  exact⟨k4,o4,hk40,am hk4,by rw[ef (am hk3)],ho4,by rw[show padZ r 0=r++[128] by simp[padZ],←me];rfl⟩
 ·rintro m σ H' ⟨j,hj,g1,g2,k,o,hk0,hk,rfl,ho,g7⟩
  have hzl:(bw (padZ r j)).length=r.length+1+j:=by rw[gz,padZ_len]
  have hzn:mW r.length<128:=Nat.mod_lt _ (by decide)
  by_cases hlt:j<mW r.length
  ·have hne:((((r.length+1+j) % 128:Nat):Int) != (128-16))=true:=nT (by unfold mW at hlt;omega)
   simp(disch:=omega)only[↓kX,kW,aS,Nat.reduceBEq,Nat.reduceLT,reduceCtorEq,↓reduceIte,Nat.reduceMul,Nat.reduceAdd,Nat.reduceLeDiff,Nat.reduceEqDiff,Int.reduceToNat,Nat.reduceSub,Nat.reduceMod,Nat.reduceDiv,Int.reducePow,Int.reduceLE,Int.reduceNeg,Int.reduceLT,Int.reduceBEq,Int.reduceBNe,Int.reduceEq,g1,g2,g7,h56,h8,jd,hne,hk0,ho,hzl]
   intro k' o' hk0' hk' ho'
   exact⟨m-1,by omega,j+1,by omega,k',o',hk0',am hk',rfl,ho',by rw[padZ_snoc,←me];rfl⟩
  ·obtain rfl:j=mW r.length:=by omega
   have hne:((((r.length+1+mW r.length) % 128:Nat):Int) != (128-16))=false:=nF (by unfold mW;omega)
   have hpe:rJ r all=padZ r (mW r.length)++List.replicate 8 0++rK all:=rfl
   have hpl:=padZ_len r (mW r.length)
   generalize padZ r (mW r.length)=P1 at *
   generalize hN1:r.length+1+mW r.length=N1 at *
   have hN1l:N1≤100000130:=by omega
   have h80:IntKind.i64.wrap (IntKind.i64.wrap (Int.tdiv 128 8)-8)=8:=by decide
   have w2:IntKind.u64.wrap (all:Int)=(all:Int):=jw (by omega)
   have w3:IntKind.u64.wrap ((all:Int)*8)=((all*8:Nat):Int):=pP (n:=8) (by show all*8<_;omega)
   simp(disch:=omega)only[↓kX,kW,aS,Nat.reduceBEq,Nat.reduceLT,reduceCtorEq,↓reduceIte,Nat.reduceMul,Nat.reduceAdd,Nat.reduceLeDiff,Nat.reduceEqDiff,Int.reduceToNat,Nat.reduceSub,Nat.reduceMod,Nat.reduceDiv,Int.reducePow,Int.reduceLE,Int.reduceNeg,Int.reduceLT,Int.reduceBEq,Int.reduceBNe,Int.reduceEq,g1,g2,g7,h56,h8,h80,jd,hne,hk0,ho,hzl,w2,w3]
   intro k5 o5 hk50 hk5 ho5
   have ht8:((16:Int)-8).toNat=8:=rfl
   rw[ht8]at ho5
   have hplB:(P1++List.replicate 8 0).length=N1+8:=by rw[List.length_append,List.length_replicate,hpl]
   have he8:bw P1++bw (List.replicate 8 0)=bw (P1++List.replicate 8 0):=me ..
   obtain⟨P2,hP2⟩:∃P2,P2=P1++List.replicate 8 0:=⟨_,rfl⟩
   obtain⟨N2,hN2⟩:∃N2,N2=N1+8:=⟨_,rfl⟩
   rw[←hP2,←hN2]at hplB
   rw[←hP2]at hpe he8
   rw[←hN2]at ho5
   have hN2l:N2≤100000200:=by omega
   refine br (c:=⟨Tryz.prog,49,[],[10],[]⟩) Tryz.mixed (by kernel_rfl) (fun m2 σ2 H2=>∃i:Nat,i+m2=8∧σ2 8=.sc (.int .u64 (all*8:Nat))∧σ2 35=.sc (.int .i64 i)∧∃k o,k≠0∧H k=none∧H2=H.set k o∧cy0 5 1 o (N2+i)∧σ2 7=.imm k (bw (P2++(rK all).take i)) (N2+i)) 8 ?_ ?_
   ·refine⟨0,by omega,?_⟩
    simp(disch:=omega)only[↓kX,kW,aS,Nat.reduceBEq,Nat.reduceLT,reduceCtorEq,↓reduceIte,Nat.reduceMul,Nat.reduceAdd,Nat.reduceLeDiff,Nat.reduceEqDiff,Int.reduceToNat,Nat.reduceSub,Nat.reduceMod,Nat.reduceDiv,Int.reducePow,Int.reduceLE,Int.reduceNeg,Int.reduceLT,Int.reduceBEq,Int.reduceBNe,Int.reduceEq,g1,g2]
    exact⟨k5,o5,hk50,am hk5,rfl,ho5,by rw[ht8,he8,←hN2]⟩
   ·rintro m2 σ2 H2 ⟨i,hi,g8,g35,k,o,hk0,hk,rfl,ho,g7⟩
    have hil:(bw (P2++(rK all).take i)).length=N2+i:=by rw[gz,List.length_append,List.length_take,hplB];show _+min i 8=_;omega
    by_cases hlt:i<8
    ·have hb2:decide ((i:Int)<8)=true:=by simp;omega
     have htk:=lenB_take all hlt
     have w4:IntKind.i64.wrap (8*(i:Int))=((8*i:Nat):Int):=by rw[iw (by omega)];omega
     have w5:IntKind.i64.wrap (56-((8*i:Nat):Int))=((56-8*i:Nat):Int):=by rw[iw (by omega)];omega
     have hsx:((all*8:Nat):Int).fdiv (2^min (56-8*i) 64)=((all*8/2^(56-8*i):Nat):Int):=by rw[minL (by omega),shrN]
     have hbu:IntKind.u64.bits=64:=rfl
     generalize all*8/2^(56-8*i)=sx at *
     generalize hlb:(rK all).take (i+1)=l2 at *
     generalize (rK all).take i=l1 at *
     simp(disch:=omega)only[↓kX,kW,aS,Nat.reduceBEq,Nat.reduceLT,reduceCtorEq,↓reduceIte,Nat.reduceMul,Nat.reduceAdd,Nat.reduceLeDiff,Nat.reduceEqDiff,Int.reduceToNat,Nat.reduceSub,Nat.reduceMod,Nat.reduceDiv,Int.reducePow,Int.reduceLE,Int.reduceNeg,Int.reduceLT,Int.reduceBEq,Int.reduceBNe,Int.reduceEq,g8,g35,g7,hb2,w4,w5,hsx,hbu,jC,hk0,ho,hil]
     intro k' o' hk0' hk' ho'
     have hl1:P2.length+l1.length=N2+i:=by rw[gz,List.length_append]at hil;exact hil
     rw[hl1]at ho'
     exact⟨m2-1,by omega,i+1,by omega,rfl,k',o',hk0',am hk',rfl,ho',by rw[hlb,htk,←List.append_assoc];rfl⟩
    ·obtain rfl:i=8:=by omega
     have hb2:decide (((8:Nat):Int)<8)=false:=by decide
     rw[show(rK all).take 8=rK all from rfl,←hpe]at g7 hil
     rw[gz]at hil
     simp(disch:=omega)only[↓kX,kW,aS,Nat.reduceBEq,Nat.reduceLT,reduceCtorEq,↓reduceIte,Nat.reduceMul,Nat.reduceAdd,Nat.reduceLeDiff,Nat.reduceEqDiff,Int.reduceToNat,Nat.reduceSub,Nat.reduceMod,Nat.reduceDiv,Int.reducePow,Int.reduceLE,Int.reduceNeg,Int.reduceLT,Int.reduceBEq,Int.reduceBNe,Int.reduceEq,g8,g35,g7,hb2,hil]
     first|exact Sub.set_new hk|trace_state
end Go.Proofs.YtcncplameclkfaaGreatDoor
end
