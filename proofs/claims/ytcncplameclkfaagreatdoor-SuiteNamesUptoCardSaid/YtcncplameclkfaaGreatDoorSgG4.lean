/-
  Several texts in one: each says what it proves.
  Conditions: none. Lemmas only.
-/
import Derived.Test.YtcncplameclkfaaGreatDoorSgG3
set_option linter.all false
section
set_option maxRecDepth 20000
set_option maxHeartbeats 4000000
namespace Go.Proofs.YtcncplameclkfaaGreatDoor
open Go Go.Abs Go.Proofs Go.Box Go.Sha Go.Shg
def oJ:List AV:=[.sc (.int .i64 64),.sc (.int .i64 80),.sc (.int .i64 28),.sc (.int .i64 34),.sc (.int .i64 39),.sc (.int .i64 14),.sc (.int .i64 18),.sc (.int .i64 41),.sc (.int .i64 1),.sc (.int .i64 8),.sc (.int .i64 7),.sc (.int .i64 19),.sc (.int .i64 61),.sc (.int .i64 6)]
theorem block_pure(v:St)(hv:OkS v)(b:List UInt8)(hbl:b.length=128):APure Tryz.prog 143 [.agg (lP (stL v)),.imm 0 (bw b) 128,.agg oJ,.fn (.func 144) [] []] (.agg (lP (stL (blockM v b)))):=by
 have hvl:(lP (stL v)).length=8:=rfl
 generalize hvr:lP (stL v)=vr at *
 refine az (c:=⟨Tryz.prog,174,[(6,[0,0,0,0,0,0,0,1,0,0,0,0,1,0,0,0,2]),(14,[0,0,0,0,0,1,0,1,0,1,0,0,0,0,0,1,0,0,0,0,0,1,0,1,0,1,0,0,0,0]),(16,[0,1,0,1,0,0]),(17,[0,1,0,0,1,0,1,0,0,0,0,1,0,0,0,0,1,0,0,0,0,0,0,0,0,0,0]),(18,[0,0,1,0,1,0,0,0,1,0,0,0,1,0,0,0,1,0,1,0,0,0,0]),(24,[0,0,1,0,0,1,0,0,2]),(1000000,[6]),(4000024,[4,8,12,161]),(4000019,[3,4,6,8,9,12,47,48]),(4000018,[3,4,6,8,9,12,15,16,17,18,47,48]),(4000017,[3,4,6,8,9,12,15,16,17,47,48]),(4000016,[3,4,6,8,9,12,13,14,15,16,47,48]),(4000015,[3,4,6,8,9,12,13,14,47,48]),(4000014,[3,4,6,8,9,12,13,14,47,48]),(4000012,[3,4,6,8,9,12,13,14,47,48]),(4000006,[1,3,4,6,8,9,10,24,25])],[],[]⟩) (rs:=[ResultVar.cell 8 136]) Tryz.mixed Tryz.func143 rfl rfl rfl (Nat.le_of_ble_eq_true rfl) (by kernel_rfl) fun H=>?_
 simp(disch:=omega)only[↓kX,kW,aS,Nat.reduceBEq,Nat.reduceLT,reduceCtorEq,↓reduceIte,Nat.reduceMul,Nat.reduceAdd,Nat.reduceLeDiff,Nat.reduceEqDiff,Int.reduceToNat,Nat.reduceSub,Nat.reduceMod,Nat.reduceDiv,Int.reducePow,Int.reduceLE,Int.reduceNeg,Int.reduceLT,Int.reduceBEq,Int.reduceBNe,Int.reduceEq,oJ,hvl]
 intro k hk0 hk k1 hk10 hk1 k2 hk20 hk2
 have n1:=bK0 hk1
 have n2:=bK0 hk2
 have hk1':=am hk1
 have hk2':=am hk2
 have n3:=bK0 hk2'
 have hk2'':=am hk2'
 simp(disch:=omega)only[↓kX,kW,aS,Nat.reduceBEq,Nat.reduceLT,reduceCtorEq,↓reduceIte,Nat.reduceMul,Nat.reduceAdd,Nat.reduceLeDiff,Nat.reduceEqDiff,Int.reduceToNat,Nat.reduceSub,Nat.reduceMod,Nat.reduceDiv,Int.reducePow,Int.reduceLE,Int.reduceNeg,Int.reduceLT,Int.reduceBEq,Int.reduceBNe,Int.reduceEq,aP n2,mD n2 hk1,hvl]
 intro k3 hk30 hk3
 have n4:=bK0 hk3
 have hk3':=am hk3
 have n5:=bK0 hk3'
 have hk3'':=am hk3'
 have hel:=gz b
 obtain⟨fk,hfk⟩:∃fk:AV,fk=.fn (.func 144) [] []:=⟨_,rfl⟩
 obtain⟨z8,hz8⟩:∃z8:AObj,z8=.cells [.sc (.int .u64 0),.sc (.int .u64 0),.sc (.int .u64 0),.sc (.int .u64 0),.sc (.int .u64 0),.sc (.int .u64 0),.sc (.int .u64 0),.sc (.int .u64 0)] 136 8:=⟨_,rfl⟩
 refine br (c:=⟨Tryz.prog,174,[(6,[0,0,0,0,0,0,0,1,0,0,0,0,1,0,0,0,2]),(14,[0,0,0,0,0,1,0,1,0,1,0,0,0,0,0,1,0,0,0,0,0,1,0,1,0,1,0,0,0,0]),(16,[0,1,0,1,0,0]),(17,[0,1,0,0,1,0,1,0,0,0,0,1,0,0,0,0,1,0,0,0,0,0,0,0,0,0,0]),(18,[0,0,1,0,1,0,0,0,1,0,0,0,1,0,0,0,1,0,1,0,0,0,0]),(24,[0,0,1,0,0,1,0,0,2]),(1000000,[6]),(4000024,[4,8,12,161]),(4000019,[3,4,6,8,9,12,47,48]),(4000018,[3,4,6,8,9,12,15,16,17,18,47,48]),(4000017,[3,4,6,8,9,12,15,16,17,47,48]),(4000016,[3,4,6,8,9,12,13,14,15,16,47,48]),(4000015,[3,4,6,8,9,12,13,14,47,48]),(4000014,[3,4,6,8,9,12,13,14,47,48]),(4000012,[3,4,6,8,9,12,13,14,47,48]),(4000006,[1,3,4,6,8,9,10,24,25])],[],[]⟩) Tryz.mixed (by kernel_rfl) (fun m σ H'=>∃n:Nat,n+m=128∧σ 1=.imm 0 (bw b) 128∧σ 3=fk∧σ 4=.ptr k 0∧σ 6=.ip oJ 0∧σ 8=.ptr k2 0∧σ 9=.ptr k3 0∧σ 10=.sc (.int .i64 8)∧σ 24=.sc (.int .i64 128)∧σ 25=.sc (.int .i64 n)∧H'=F3 H k k2 k3 (.cells vr 136 8) z8 (.cells (lP (wiM b n)) 168 16)) 128 ?_ ?_
 ·refine⟨0,by omega,?_⟩
  simp(disch:=omega)only[↓kX,kW,aS,Nat.reduceBEq,Nat.reduceLT,reduceCtorEq,↓reduceIte,Nat.reduceMul,Nat.reduceAdd,Nat.reduceLeDiff,Nat.reduceEqDiff,Int.reduceToNat,Nat.reduceSub,Nat.reduceMod,Nat.reduceDiv,Int.reducePow,Int.reduceLE,Int.reduceNeg,Int.reduceLT,Int.reduceBEq,Int.reduceBNe,Int.reduceEq,hvl,oJ,hfk,hz8]
  refine⟨rfl,?_⟩
  unfold F3
  rw[wiM_zero]
  rfl
 ·rintro m σ H' ⟨n,hn,g1,g3,g4,g6,g8,g9,g10,g24,g25,rfl⟩
  have wl:=rp b n
  have wal:=ll (wiM b n)
  have hgw:=fun x y z=>F3_getW (H:=H) (a:=k) (r:=k2) (w:=k3) x y z
  have hga:=fun x y z=>F3_getA (H:=H) (a:=k) (r:=k2) (w:=k3) n3 n5 x y z
  have hsw:=fun x y z u=>F3_setW (H:=H) (a:=k) (r:=k2) (w:=k3) x y z u
  by_cases hlt:n<128
  ·have hb:decide ((n:Int)<128)=true:=by simp;omega
   have hat:=nX (l:=b) (i:=n) (by omega)
   have q1:IntKind.i64.wrap ((n:Int).tdiv 8)=((n/8:Nat):Int):=(congrArg _ (show(n:Int).tdiv 8=((n/8:Nat):Int) from rfl)).trans (iw (by omega))
   have hw:=mE (l:=wiM b n) (i:=n/8) (by omega)
   have hgt:=wiM_get b n hlt
   have hst:=wiM_set b n hlt
   have hput:=oh (l:=wiM b n) (i:=n/8) (x:=wpM b (n/8) (n % 8)*256+(b.getD n 0).toNat) (by omega)
   rw[hgt]at hw
   rw[hst]at hput
   have hpl:=wpM_lt b (n/8) (n % 8)
   have hpp:256^(n % 8)≤72057594037927936:=Nat.le_trans (Nat.pow_le_pow_right (by decide) (show n % 8≤7 by omega)) (by decide)
   have hx:=(b.getD n 0).toNat_lt
   generalize (b.getD n 0).toNat=x at *
   generalize wpM b (n/8) (n % 8)=z at *
   have e1:IntKind.u64.wrap ((z:Int)*256)=((z*256:Nat):Int):=pP (n:=256) (by show z*256<_;omega)
   have e2:IntKind.u64.wrap (x:Int)=(x:Int):=by rw[wcast64];congr 1;omega
   have e3:bits .or .u64 ((z*256:Nat):Int) (x:Int)=((z*256+x:Nat):Int):=by rw[ou (by omega) (by omega),or_byte (by omega)]
   simp(disch:=omega)only[↓kX,kW,aS,Nat.reduceBEq,Nat.reduceLT,reduceCtorEq,↓reduceIte,Nat.reduceMul,Nat.reduceAdd,Nat.reduceLeDiff,Nat.reduceEqDiff,Int.reduceToNat,Nat.reduceSub,Nat.reduceMod,Nat.reduceDiv,Int.reducePow,Int.reduceLE,Int.reduceNeg,Int.reduceLT,Int.reduceBEq,Int.reduceBNe,Int.reduceEq,g1,g3,g4,g6,g8,g9,g10,g24,g25,hb,q1,hgw,hw,wal,wl,hat,hel,e1,e2,e3,mS,hput,hsw]
   exact⟨m-1,by omega,n+1,by omega,rfl,rfl⟩
  ·obtain rfl:n=128:=by omega
   have hb:decide (((128:Nat):Int)<128)=false:=by decide
   simp(disch:=omega)only[↓kX,kW,aS,Nat.reduceBEq,Nat.reduceLT,reduceCtorEq,↓reduceIte,Nat.reduceMul,Nat.reduceAdd,Nat.reduceLeDiff,Nat.reduceEqDiff,Int.reduceToNat,Nat.reduceSub,Nat.reduceMod,Nat.reduceDiv,Int.reducePow,Int.reduceLE,Int.reduceNeg,Int.reduceLT,Int.reduceBEq,Int.reduceBNe,Int.reduceEq,g1,g3,g4,g6,g8,g9,g10,g24,g25,hb,hga,oJ,hvl]
   intro k4 hk40 hk4
   have hd:=D4.of hk hk2'' hk3'' n3 n5 n4 hk4
   have hvt:vr.take 8=vr:=List.take_of_length_le (by omega)
   have hs3:=fun x y z u=>F3_setS (H:=H) (a:=k) (r:=k2) (w:=k3) (s:=k4) x y z u
   have gA:=hd.getA
   have gR:=hd.getR
   have gW:=hd.getW
   have gS:=fun x y z u=>D4.getS (H:=H) (a:=k) (r:=k2) (w:=k3) (s:=k4) x y z u
   have sA:=hd.setA
   have sR:=hd.setR
   have sW:=hd.setW
   have sS:=fun x y z u y'=>D4.setS (H:=H) (a:=k) (r:=k2) (w:=k3) (s:=k4) x y z u y'
   simp(disch:=omega)only[↓kX,kW,aS,Nat.reduceBEq,Nat.reduceLT,reduceCtorEq,↓reduceIte,Nat.reduceMul,Nat.reduceAdd,Nat.reduceLeDiff,Nat.reduceEqDiff,Int.reduceToNat,Nat.reduceSub,Nat.reduceMod,Nat.reduceDiv,Int.reducePow,Int.reduceLE,Int.reduceNeg,Int.reduceLT,Int.reduceBEq,Int.reduceBNe,Int.reduceEq,g1,g3,g4,g6,g8,g9,g10,g24,g25,hb,hga,oJ,hvl,hvt,hs3,gS,sS,ah]
   have hwf:=wiM_full b
   rw[hwf]
   refine br (c:=⟨Tryz.prog,174,[(6,[0,0,0,0,0,0,0,1,0,0,0,0,1,0,0,0,2]),(14,[0,0,0,0,0,1,0,1,0,1,0,0,0,0,0,1,0,0,0,0,0,1,0,1,0,1,0,0,0,0]),(16,[0,1,0,1,0,0]),(17,[0,1,0,0,1,0,1,0,0,0,0,1,0,0,0,0,1,0,0,0,0,0,0,0,0,0,0]),(18,[0,0,1,0,1,0,0,0,1,0,0,0,1,0,0,0,1,0,1,0,0,0,0]),(24,[0,0,1,0,0,1,0,0,2]),(1000000,[6]),(4000024,[4,8,12,161]),(4000019,[3,4,6,8,9,12,47,48]),(4000018,[3,4,6,8,9,12,15,16,17,18,47,48]),(4000017,[3,4,6,8,9,12,15,16,17,47,48]),(4000016,[3,4,6,8,9,12,13,14,15,16,47,48]),(4000015,[3,4,6,8,9,12,13,14,47,48]),(4000014,[3,4,6,8,9,12,13,14,47,48]),(4000012,[3,4,6,8,9,12,13,14,47,48]),(4000006,[1,3,4,6,8,9,10,24,25])],[],[]⟩) Tryz.mixed (by kernel_rfl) (fun m2 σ2 H2=>∃(t T:Nat),t+m2=80∧T=max t 16∧σ2 3=fk∧σ2 4=.ptr k 0∧σ2 6=.ip oJ 0∧σ2 8=.ptr k2 0∧σ2 9=.ptr k3 0∧σ2 12=.ptr k4 0∧σ2 47=.sc (.int .i64 80)∧σ2 48=.sc (.int .i64 t)∧H2=F4 H k k2 k3 k4 (.cells vr 136 8) z8 (.cells (lP (rgM b T)) 168 16) (.cells (lP (stL (ln b v t))) 136 8)) 80 ?_ ?_
   ·refine⟨0,16,by omega,by omega,?_⟩
    simp(disch:=omega)only[↓kX,kW,aS,Nat.reduceBEq,Nat.reduceLT,reduceCtorEq,↓reduceIte,Nat.reduceMul,Nat.reduceAdd,Nat.reduceLeDiff,Nat.reduceEqDiff,Int.reduceToNat,Nat.reduceSub,Nat.reduceMod,Nat.reduceDiv,Int.reducePow,Int.reduceLE,Int.reduceNeg,Int.reduceLT,Int.reduceBEq,Int.reduceBNe,Int.reduceEq,g1,g3,g4,g6,g8,g9,g10,g24,g25,oJ]
    rw[show lP (stL (ln b v 0))=vr from hvr]
   ·rintro m2 σ2 H2 ⟨t,T,ht,hT,g3,g4,g6,g8,g9,g12,g47,g48,rfl⟩
    have hok:=roundsM_ok b hv t
    by_cases hlt:t<80
    ·have hstep:ln b v (t+1)=stepM (ln b v t) (kM t) (wM b t):=rfl
     have hkk:=kM_lt t
     have hww:=wM_lt b t
     have c3:=key512_pure t hlt
     have hb2:decide ((t:Int)<80)=true:=by simp;omega
     generalize ln b v t=S at *
     obtain⟨sa,sb,sc,sd,se,sf,sg,sh⟩:=S
     obtain⟨l1,l2,l3,l4,l5,l6,l7,l8⟩:=hok
     simp only at l1 l2 l3 l4 l5 l6 l7 l8
     have hs0:(lP (stL ⟨sa,sb,sc,sd,se,sf,sg,sh⟩))[0]? = some (.sc (.int .u64 sa)):=rfl
     have hs1:(lP (stL ⟨sa,sb,sc,sd,se,sf,sg,sh⟩))[1]? = some (.sc (.int .u64 sb)):=rfl
     have hs2:(lP (stL ⟨sa,sb,sc,sd,se,sf,sg,sh⟩))[2]? = some (.sc (.int .u64 sc)):=rfl
     have hs3:(lP (stL ⟨sa,sb,sc,sd,se,sf,sg,sh⟩))[3]? = some (.sc (.int .u64 sd)):=rfl
     have hs4:(lP (stL ⟨sa,sb,sc,sd,se,sf,sg,sh⟩))[4]? = some (.sc (.int .u64 se)):=rfl
     have hs5:(lP (stL ⟨sa,sb,sc,sd,se,sf,sg,sh⟩))[5]? = some (.sc (.int .u64 sf)):=rfl
     have hs6:(lP (stL ⟨sa,sb,sc,sd,se,sf,sg,sh⟩))[6]? = some (.sc (.int .u64 sg)):=rfl
     have hs7:(lP (stL ⟨sa,sb,sc,sd,se,sf,sg,sh⟩))[7]? = some (.sc (.int .u64 sh)):=rfl
     have hsl:(lP (stL ⟨sa,sb,sc,sd,se,sf,sg,sh⟩)).length=8:=rfl
     have hsd:(lP (stL ⟨sa,sb,sc,sd,se,sf,sg,sh⟩)).drop 8=[]:=rfl
     generalize lP (stL ⟨sa,sb,sc,sd,se,sf,sg,sh⟩)=sr at *
     unfold Go.Shg.stepM Go.Shg.oneM Go.Shg.twoM Go.Shg.chM Go.Shg.maM at hstep
     simp only at hstep
     have c1:=turned_pure se 14 18 41 l5 (by omega) (by omega) (by omega)
     have c2:=turned_pure sa 28 34 39 l1 (by omega) (by omega) (by omega)
     unfold by3 at c1 c2
     generalize turM 64 se 14 18 41=u1 at *
     generalize turM 64 sa 28 34 39=u2 at *
     have d1:=mJ l5 l6
     have d2:=not64 l5
     have d3:=mJ (a:=18446744073709551615-se) (b:=sg) (by omega) l7
     have m1:se &&& sf<18446744073709551616:=Nat.lt_of_le_of_lt Nat.and_le_left l5
     have m2':(18446744073709551615-se) &&& sg<18446744073709551616:=Nat.lt_of_le_of_lt Nat.and_le_left (by omega)
     have d4:=mK m1 m2'
     have d5:=mJ l1 l2
     have d6:=mJ l1 l3
     have d7:=mJ l2 l3
     have m3:sa &&& sb<18446744073709551616:=Nat.lt_of_le_of_lt Nat.and_le_left l1
     have m4:sa &&& sc<18446744073709551616:=Nat.lt_of_le_of_lt Nat.and_le_left l1
     have m5:sb &&& sc<18446744073709551616:=Nat.lt_of_le_of_lt Nat.and_le_left l2
     have d8:=mK m3 m4
     have d9:=mK (xor64 m3 m4) m5
     generalize (se &&& sf) ^^^ ((18446744073709551615-se) &&& sg)=v1 at *
     generalize (sa &&& sb) ^^^ (sa &&& sc) ^^^ (sb &&& sc)=v2 at *
     generalize kM t=kk at *
     have x1:∀ww,((((((sh+u1) % 18446744073709551616+v1) % 18446744073709551616+kk) % 18446744073709551616+ww) % 18446744073709551616+(u2+v2) % 18446744073709551616) % 18446744073709551616)=(sh+u1+v1+kk+ww+(u2+v2)) % 18446744073709551616:=fun ww=>by omega
     have x2:∀ww,((sd+((((sh+u1) % 18446744073709551616+v1) % 18446744073709551616+kk) % 18446744073709551616+ww) % 18446744073709551616) % 18446744073709551616)=(sd+(sh+u1+v1+kk+ww)) % 18446744073709551616:=fun ww=>by omega
     by_cases h16:t<16
     ·obtain rfl:T=16:=by omega
      have hb3:decide ((15:Int)<(t:Int))=false:=by simp;omega
      have a0:=mE (l:=rgM b 16) (i:=t % 16) (by rw[pQ];omega)
      rw[rgM_get b (k:=t) (by omega) (by omega) (by omega) (by omega) rfl]at a0
      have arl:(lP (rgM b 16)).length=16:=by rw[ll,pQ]
      generalize wM b t=ww at *
      simp(disch:=omega)only[↓kX,kW,aS,Nat.reduceBEq,Nat.reduceLT,reduceCtorEq,↓reduceIte,Nat.reduceMul,Nat.reduceAdd,Nat.reduceLeDiff,Nat.reduceEqDiff,Int.reduceToNat,Nat.reduceSub,Nat.reduceMod,Nat.reduceDiv,Int.reducePow,Int.reduceLE,Int.reduceNeg,Int.reduceLT,Int.reduceBEq,Int.reduceBNe,Int.reduceEq,g3,g4,g6,g8,g9,g12,g47,g48,gA,gR,gW,gS,sA,sR,sW,sS,hs0,hs1,hs2,hs3,hs4,hs5,hs6,hs7,hsl,hsd,oJ,d1,d2,d3,d4,d5,d6,d7,d8,d9,mn,ah,hb2,hb3,a0,arl,jd]
      first|refine CallK.p (c1) ?_|refine CallP.i (c1) ?_
      simp(disch:=omega)only[↓kX,kW,aS,Nat.reduceBEq,Nat.reduceLT,reduceCtorEq,↓reduceIte,Nat.reduceMul,Nat.reduceAdd,Nat.reduceLeDiff,Nat.reduceEqDiff,Int.reduceToNat,Nat.reduceSub,Nat.reduceMod,Nat.reduceDiv,Int.reducePow,Int.reduceLE,Int.reduceNeg,Int.reduceLT,Int.reduceBEq,Int.reduceBNe,Int.reduceEq,g3,g4,g6,g8,g9,g12,g47,g48,gA,gR,gW,gS,sA,sR,sW,sS,hs0,hs1,hs2,hs3,hs4,hs5,hs6,hs7,hsl,hsd,oJ,d1,d2,d3,d4,d5,d6,d7,d8,d9,mn,ah,hfk]
      first|refine CallK.p (c3) ?_|refine CallP.i (c3) ?_
      simp(disch:=omega)only[↓kX,kW,aS,Nat.reduceBEq,Nat.reduceLT,reduceCtorEq,↓reduceIte,Nat.reduceMul,Nat.reduceAdd,Nat.reduceLeDiff,Nat.reduceEqDiff,Int.reduceToNat,Nat.reduceSub,Nat.reduceMod,Nat.reduceDiv,Int.reducePow,Int.reduceLE,Int.reduceNeg,Int.reduceLT,Int.reduceBEq,Int.reduceBNe,Int.reduceEq,g3,g4,g6,g8,g9,g12,g47,g48,gA,gR,gW,gS,sA,sR,sW,sS,hs0,hs1,hs2,hs3,hs4,hs5,hs6,hs7,hsl,hsd,oJ,d1,d2,d3,d4,d5,d6,d7,d8,d9,mn,ah]
      first|refine CallK.p (c2) ?_|refine CallP.i (c2) ?_
      simp(disch:=omega)only[↓kX,kW,aS,Nat.reduceBEq,Nat.reduceLT,reduceCtorEq,↓reduceIte,Nat.reduceMul,Nat.reduceAdd,Nat.reduceLeDiff,Nat.reduceEqDiff,Int.reduceToNat,Nat.reduceSub,Nat.reduceMod,Nat.reduceDiv,Int.reducePow,Int.reduceLE,Int.reduceNeg,Int.reduceLT,Int.reduceBEq,Int.reduceBNe,Int.reduceEq,g3,g4,g6,g8,g9,g12,g47,g48,gA,gR,gW,gS,sA,sR,sW,sS,hs0,hs1,hs2,hs3,hs4,hs5,hs6,hs7,hsl,hsd,oJ,d1,d2,d3,d4,d5,d6,d7,d8,d9,mn,ah]
      exact⟨m2-1,by omega,t+1,16,by omega,by omega,rfl,by rw[hstep,x1,x2];rfl⟩
     ·obtain rfl:T=t:=by omega
      have hb3:decide ((15:Int)<(T:Int))=true:=by simp;omega
      have a0:=mE (l:=rgM b T) (i:=T % 16) (by rw[pQ];omega)
      rw[rgM_get b (k:=T-16) (by omega) (by omega) (by omega) (by omega) (by omega)]at a0
      have a1:=mE (l:=rgM b T) (i:=(T+1) % 16) (by rw[pQ];omega)
      rw[rgM_get b (k:=T-15) (by omega) (by omega) (by omega) (by omega) (by omega)]at a1
      have a2:=mE (l:=rgM b T) (i:=(T+9) % 16) (by rw[pQ];omega)
      rw[rgM_get b (k:=T-7) (by omega) (by omega) (by omega) (by omega) (by omega)]at a2
      have a3:=mE (l:=rgM b T) (i:=(T+14) % 16) (by rw[pQ];omega)
      rw[rgM_get b (k:=T-2) (by omega) (by omega) (by omega) (by omega) (by omega)]at a3
      have arl:(lP (rgM b T)).length=16:=by rw[ll,pQ]
      have wn:=wM_next b (t:=T) (by omega)
      have hrs:=rgM_set b (t:=T) (by omega)
      have hput:=oh (l:=rgM b T) (i:=T % 16) (x:=wM b T) (by rw[pQ];omega)
      rw[hrs,ah]at hput
      simp only[List.singleton_append,List.length_cons,List.length_nil,Nat.zero_add]at hput
      have c5:=shifted_pure (wM b (T-15)) 1 8 7 (wM_lt b _) (by omega) (by omega) (by omega)
      have c6:=shifted_pure (wM b (T-2)) 19 61 6 (wM_lt b _) (by omega) (by omega) (by omega)
      unfold by3 at c5 c6
      unfold sumM at wn
      generalize shfM 64 (wM b (T-15)) 1 8 7=y5 at *
      generalize shfM 64 (wM b (T-2)) 19 61 6=y6 at *
      generalize wM b (T-15)=w15 at *
      generalize wM b (T-2)=w2 at *
      generalize wM b (T-7)=w7 at *
      generalize wM b (T-16)=w16 at *
      generalize wM b T=ww at *
      have xeq:(w16+((y5+w7) % 18446744073709551616+y6) % 18446744073709551616) % 18446744073709551616=ww:=by omega
      have i9:IntKind.i64.wrap ((T:Int)+9)=((T+9:Nat):Int):=by rw[iw (by omega)];rfl
      have i14:IntKind.i64.wrap ((T:Int)+14)=((T+14:Nat):Int):=by rw[iw (by omega)];rfl
      simp(disch:=omega)only[↓kX,kW,aS,Nat.reduceBEq,Nat.reduceLT,reduceCtorEq,↓reduceIte,Nat.reduceMul,Nat.reduceAdd,Nat.reduceLeDiff,Nat.reduceEqDiff,Int.reduceToNat,Nat.reduceSub,Nat.reduceMod,Nat.reduceDiv,Int.reducePow,Int.reduceLE,Int.reduceNeg,Int.reduceLT,Int.reduceBEq,Int.reduceBNe,Int.reduceEq,g3,g4,g6,g8,g9,g12,g47,g48,gA,gR,gW,gS,sA,sR,sW,sS,hs0,hs1,hs2,hs3,hs4,hs5,hs6,hs7,hsl,hsd,oJ,d1,d2,d3,d4,d5,d6,d7,d8,d9,mn,ah,hb2,hb3,a0,a1,a2,a3,arl,jd,i9,i14,xeq]
      first|refine CallK.p (c5) ?_|refine CallP.i (c5) ?_
      simp(disch:=omega)only[↓kX,kW,aS,Nat.reduceBEq,Nat.reduceLT,reduceCtorEq,↓reduceIte,Nat.reduceMul,Nat.reduceAdd,Nat.reduceLeDiff,Nat.reduceEqDiff,Int.reduceToNat,Nat.reduceSub,Nat.reduceMod,Nat.reduceDiv,Int.reducePow,Int.reduceLE,Int.reduceNeg,Int.reduceLT,Int.reduceBEq,Int.reduceBNe,Int.reduceEq,g3,g4,g6,g8,g9,g12,g47,g48,gA,gR,gW,gS,sA,sR,sW,sS,hs0,hs1,hs2,hs3,hs4,hs5,hs6,hs7,hsl,hsd,oJ,d1,d2,d3,d4,d5,d6,d7,d8,d9,mn,ah,a0,a1,a2,a3,arl,jd,i9,i14,xeq]
      first|refine CallK.p (c6) ?_|refine CallP.i (c6) ?_
      simp(disch:=omega)only[↓kX,kW,aS,Nat.reduceBEq,Nat.reduceLT,reduceCtorEq,↓reduceIte,Nat.reduceMul,Nat.reduceAdd,Nat.reduceLeDiff,Nat.reduceEqDiff,Int.reduceToNat,Nat.reduceSub,Nat.reduceMod,Nat.reduceDiv,Int.reducePow,Int.reduceLE,Int.reduceNeg,Int.reduceLT,Int.reduceBEq,Int.reduceBNe,Int.reduceEq,g3,g4,g6,g8,g9,g12,g47,g48,gA,gR,gW,gS,sA,sR,sW,sS,hs0,hs1,hs2,hs3,hs4,hs5,hs6,hs7,hsl,hsd,oJ,d1,d2,d3,d4,d5,d6,d7,d8,d9,mn,ah,a0,a1,a2,a3,arl,jd,i9,i14,xeq]
      first|refine CallK.p (c1) ?_|refine CallP.i (c1) ?_
      simp(disch:=omega)only[↓kX,kW,aS,Nat.reduceBEq,Nat.reduceLT,reduceCtorEq,↓reduceIte,Nat.reduceMul,Nat.reduceAdd,Nat.reduceLeDiff,Nat.reduceEqDiff,Int.reduceToNat,Nat.reduceSub,Nat.reduceMod,Nat.reduceDiv,Int.reducePow,Int.reduceLE,Int.reduceNeg,Int.reduceLT,Int.reduceBEq,Int.reduceBNe,Int.reduceEq,g3,g4,g6,g8,g9,g12,g47,g48,gA,gR,gW,gS,sA,sR,sW,sS,hs0,hs1,hs2,hs3,hs4,hs5,hs6,hs7,hsl,hsd,oJ,d1,d2,d3,d4,d5,d6,d7,d8,d9,mn,ah,hfk]
      first|refine CallK.p (c3) ?_|refine CallP.i (c3) ?_
      simp(disch:=omega)only[↓kX,kW,aS,Nat.reduceBEq,Nat.reduceLT,reduceCtorEq,↓reduceIte,Nat.reduceMul,Nat.reduceAdd,Nat.reduceLeDiff,Nat.reduceEqDiff,Int.reduceToNat,Nat.reduceSub,Nat.reduceMod,Nat.reduceDiv,Int.reducePow,Int.reduceLE,Int.reduceNeg,Int.reduceLT,Int.reduceBEq,Int.reduceBNe,Int.reduceEq,g3,g4,g6,g8,g9,g12,g47,g48,gA,gR,gW,gS,sA,sR,sW,sS,hs0,hs1,hs2,hs3,hs4,hs5,hs6,hs7,hsl,hsd,oJ,d1,d2,d3,d4,d5,d6,d7,d8,d9,mn,ah]
      first|refine CallK.p (c2) ?_|refine CallP.i (c2) ?_
      simp(disch:=omega)only[↓kX,kW,aS,Nat.reduceBEq,Nat.reduceLT,reduceCtorEq,↓reduceIte,Nat.reduceMul,Nat.reduceAdd,Nat.reduceLeDiff,Nat.reduceEqDiff,Int.reduceToNat,Nat.reduceSub,Nat.reduceMod,Nat.reduceDiv,Int.reducePow,Int.reduceLE,Int.reduceNeg,Int.reduceLT,Int.reduceBEq,Int.reduceBNe,Int.reduceEq,g3,g4,g6,g8,g9,g12,g47,g48,gA,gR,gW,gS,sA,sR,sW,sS,hs0,hs1,hs2,hs3,hs4,hs5,hs6,hs7,hsl,hsd,oJ,d1,d2,d3,d4,d5,d6,d7,d8,d9,mn,ah]
      exact⟨m2-1,by omega,T+1,T+1,by omega,by omega,rfl,by rw[hstep,x1,x2,hput];rfl⟩
    ·obtain rfl:t=80:=by omega
     obtain rfl:T=80:=by omega
     have hb2:decide (((80:Nat):Int)<80)=false:=by decide
     rw[show blockM v b=sY v (ln b v 80) from rfl]
     generalize ln b v 80=S at *
     simp(disch:=omega)only[↓kX,kW,aS,Nat.reduceBEq,Nat.reduceLT,reduceCtorEq,↓reduceIte,Nat.reduceMul,Nat.reduceAdd,Nat.reduceLeDiff,Nat.reduceEqDiff,Int.reduceToNat,Nat.reduceSub,Nat.reduceMod,Nat.reduceDiv,Int.reducePow,Int.reduceLE,Int.reduceNeg,Int.reduceLT,Int.reduceBEq,Int.reduceBNe,Int.reduceEq,g3,g4,g6,g8,g9,g12,g47,g48,hb2]
     refine br (c:=⟨Tryz.prog,174,[(6,[0,0,0,0,0,0,0,1,0,0,0,0,1,0,0,0,2]),(14,[0,0,0,0,0,1,0,1,0,1,0,0,0,0,0,1,0,0,0,0,0,1,0,1,0,1,0,0,0,0]),(16,[0,1,0,1,0,0]),(17,[0,1,0,0,1,0,1,0,0,0,0,1,0,0,0,0,1,0,0,0,0,0,0,0,0,0,0]),(18,[0,0,1,0,1,0,0,0,1,0,0,0,1,0,0,0,1,0,1,0,0,0,0]),(24,[0,0,1,0,0,1,0,0,2]),(1000000,[6]),(4000024,[4,8,12,161]),(4000019,[3,4,6,8,9,12,47,48]),(4000018,[3,4,6,8,9,12,15,16,17,18,47,48]),(4000017,[3,4,6,8,9,12,15,16,17,47,48]),(4000016,[3,4,6,8,9,12,13,14,15,16,47,48]),(4000015,[3,4,6,8,9,12,13,14,47,48]),(4000014,[3,4,6,8,9,12,13,14,47,48]),(4000012,[3,4,6,8,9,12,13,14,47,48]),(4000006,[1,3,4,6,8,9,10,24,25])],[],[]⟩) Tryz.mixed (by kernel_rfl) (fun m3 σ3 H3=>∃i:Nat,i+m3=8∧σ3 4=.ptr k 0∧σ3 8=.ptr k2 0∧σ3 12=.ptr k4 0∧σ3 161=.sc (.int .i64 i)∧H3=F4 H k k2 k3 k4 (.cells (lP (adM v S i)) 136 8) z8 (.cells (lP (rgM b 80)) 168 16) (.cells (lP (stL S)) 136 8)) 8 ?_ ?_
     ·refine⟨0,by omega,?_⟩
      simp(disch:=omega)only[↓kX,kW,aS,Nat.reduceBEq,Nat.reduceLT,reduceCtorEq,↓reduceIte,Nat.reduceMul,Nat.reduceAdd,Nat.reduceLeDiff,Nat.reduceEqDiff,Int.reduceToNat,Nat.reduceSub,Nat.reduceMod,Nat.reduceDiv,Int.reducePow,Int.reduceLE,Int.reduceNeg,Int.reduceLT,Int.reduceBEq,Int.reduceBNe,Int.reduceEq,g3,g4,g6,g8,g9,g12,g47,g48]
      rw[adM_zero,hvr]
     ·rintro m3 σ3 H3 ⟨i,hi,g4,g8,g12,g161,rfl⟩
      have al:=ll (adM v S i)
      rw[adM_len v S (by omega)]at al
      by_cases hil:i<8
      ·have hb4:decide ((i:Int)<8)=true:=by simp;omega
       have a0:=mE (l:=adM v S i) (i:=i) (by rw[adM_len v S (by omega)];omega)
       rw[adM_get v S hil]at a0
       have a1:=mE (l:=stL S) (i:=i) hil
       have sl:(lP (stL S)).length=8:=rfl
       have hput:=oh (l:=adM v S i) (i:=i) (x:=((stL v).getD i 0+(stL S).getD i 0) % 18446744073709551616) (by rw[adM_len v S (by omega)];omega)
       rw[adM_set v S hil]at hput
       generalize (stL v).getD i 0=x at *
       generalize (stL S).getD i 0=y at *
       simp(disch:=omega)only[↓kX,kW,aS,Nat.reduceBEq,Nat.reduceLT,reduceCtorEq,↓reduceIte,Nat.reduceMul,Nat.reduceAdd,Nat.reduceLeDiff,Nat.reduceEqDiff,Int.reduceToNat,Nat.reduceSub,Nat.reduceMod,Nat.reduceDiv,Int.reducePow,Int.reduceLE,Int.reduceNeg,Int.reduceLT,Int.reduceBEq,Int.reduceBNe,Int.reduceEq,g4,g8,g12,g161,hb4,a0,a1,al,sl,mn,hput,gA,gS,sA]
       exact⟨m3-1,by omega,i+1,by omega,rfl,rfl⟩
      ·obtain rfl:i=8:=by omega
       have hb4:decide (((8:Nat):Int)<8)=false:=by decide
       rw[adM_full]at *
       have ht8:(lP (stL (sY v S))).take 8=lP (stL (sY v S)):=rfl
       have hl8:(lP (stL (sY v S))).length=8:=rfl
       have hst8:(lP (stL (sY v S))).map AV.strip0=lP (stL (sY v S)):=by simp[lP,AV.strip0]
       generalize lP (stL (sY v S))=fin at *
       subst hz8
       simp(disch:=omega)only[↓kX,kW,aS,Nat.reduceBEq,Nat.reduceLT,reduceCtorEq,↓reduceIte,Nat.reduceMul,Nat.reduceAdd,Nat.reduceLeDiff,Nat.reduceEqDiff,Int.reduceToNat,Nat.reduceSub,Nat.reduceMod,Nat.reduceDiv,Int.reducePow,Int.reduceLE,Int.reduceNeg,Int.reduceLT,Int.reduceBEq,Int.reduceBNe,Int.reduceEq,g4,g8,g12,g161,hb4,gA,gR,sR,al,ht8,hl8,ah]
       exact⟨by rw[hst8],hd.sub _ _ _ _⟩
theorem dsum512_pure(b:List UInt8)(hb:b.length≤100000000):APure Tryz.prog 81 [eu b] (eu (nR b)):=by
 have c1:=great_pure
 have c2:=dsum_pure b hb
 unfold eu at *
 have ks:kindS.strip0=kindS:=rfl
 refine az (c:=⟨Tryz.prog,6,[],[],[]⟩) (rs:=[ResultVar.tmp 2]) Tryz.mixed Tryz.func81 rfl rfl rfl (Nat.le_of_ble_eq_true rfl) (by kernel_rfl) fun H=>?_
 simp(disch:=omega)only[↓kX,kW,aS,simprocAttr]
 first|refine CallK.p (c1) ?_|refine CallP.i (c1) ?_
 simp(disch:=omega)only[↓kX,kW,aS,simprocAttr,ks]
 first|refine CallK.p (c2) ?_|refine CallP.i (c2) ?_
 simp(disch:=omega)only[↓kX,kW,aS,simprocAttr]
 exact Abs.Sub.refl _
theorem first512_pure:APure Tryz.prog 141 [] (.agg (lP (stL nL))):=by
 rw[show lP (stL nL)=[.sc (.int .u64 7640891576956012808),.sc (.int .u64 13503953896175478587),.sc (.int .u64 4354685564936845355),.sc (.int .u64 11912009170470909681),.sc (.int .u64 5840696475078001361),.sc (.int .u64 11170449401992604703),.sc (.int .u64 2270897969802886507),.sc (.int .u64 6620516959819538809)] from rfl]
 refine az (c:=⟨Tryz.prog,2,[],[],[]⟩) (rs:=[ResultVar.cell 0 136]) Tryz.mixed Tryz.func141 rfl rfl rfl (Nat.le_of_ble_eq_true rfl) (by kernel_rfl) fun H=>?_
 simp(disch:=omega)only[↓kX,kW,aS,simprocAttr]
 intro k hk0 hk
 first|exact Sub.set_new hk|exact⟨rfl,Sub.set_new hk⟩|trace_state
theorem first_ok:OkS nL:=⟨by decide,by decide,by decide,by decide,by decide,by decide,by decide,by decide⟩
theorem psum512_pure(b:List UInt8)(hb:b.length≤100000000):APure Tryz.prog 106 [eu b] (eu (nR b)):=by
 have c0:=first512_pure
 have hp:=padded_pure b b.length (by omega) hb
 have hpm:=padS_len b b.length
 have hpl:(rJ b b.length).length≤100001000:=by
  simp only[rJ,mW,rK,List.length_append,List.length_replicate,List.length_cons,List.length_nil]
  omega
 have hsh:nR b=qY (oY nL (rJ b b.length) ((rJ b b.length).length/128)):=rfl
 rw[hsh]
 generalize rJ b b.length=P at *
 have hst:∀S:St,(lP (stL S)).map AV.strip0=lP (stL S):=fun S=>by simp[lP,AV.strip0]
 have hwl:∀S,(lP (stL S)).length=8:=fun S=>rfl
 have hwt:∀S,(lP (stL S)).take 8=lP (stL S):=fun S=>rfl
 have hwd:∀S,(lP (stL S)).drop 8=[]:=fun S=>rfl
 have hwp:∀S S',bG (lP (stL S)) 0 (lP (stL S'))=lP (stL S'):=fun S S'=>rfl
 have hbo:=fun i=>blocksM_ok first_ok P i
 have hbs:∀i,oY nL P (i+1)=blockM (oY nL P i) ((P.drop (i*128)).take 128):=fun i=>rfl
 have hb0:oY nL P 0=nL:=rfl
 unfold eu at *
 have hel:=gz b
 refine az (c:=⟨Tryz.prog,22,[(5,[1,0,0,1,0,2])],[],[]⟩) (rs:=[ResultVar.tmp 2]) Tryz.mixed Tryz.func106 rfl rfl rfl (Nat.le_of_ble_eq_true rfl) (by kernel_rfl) fun H=>?_
 simp(disch:=omega)only[↓kX,kW,aS,simprocAttr]
 first|refine CallK.p (c0) ?_|refine CallP.i (c0) ?_
 simp(disch:=omega)only[↓kX,kW,aS,simprocAttr,hst,hwl,hwt]
 intro kv hkv0 hkv
 try simp(disch:=omega)only[↓kX,kW,aS,simprocAttr,hel,hst,hwl,hwt,ah]
 first|refine CallK.p (hp) ?_|refine CallP.i (hp) ?_
 simp(disch:=omega)only[↓kX,kW,aS,simprocAttr]
 obtain⟨nb,hnb⟩:∃nb,nb=P.length/128:=⟨_,rfl⟩
 rw[←hnb]
 rw[←hb0]
 refine br (c:=⟨Tryz.prog,22,[(5,[1,0,0,1,0,2])],[],[]⟩) Tryz.mixed (by kernel_rfl) (fun m σ H'=>∃i:Nat,i+m=nb∧σ 3=.ptr kv 0∧σ 4=.imm 0 (bw (P.drop (i*128))) (P.drop (i*128)).length∧H'=H.set kv (.cells (lP (stL (oY nL P i))) 136 8)) nb ?_ ?_
 ·refine⟨0,by omega,?_⟩
  simp(disch:=omega)only[↓kX,kW,aS,simprocAttr]
  first|rfl|exact⟨rfl,rfl⟩|trace_state
 ·rintro m σ H' ⟨i,hi,g3,g4,rfl⟩
  have hdl:(P.drop (i*128)).length=P.length-i*128:=List.length_drop
  have her:=gz (P.drop (i*128))
  by_cases hlt:i<nb
  ·have hb1:decide ((0:Int)<((P.drop (i*128)).length:Int))=true:=dT (by omega)
   have hcl:((P.drop (i*128)).take 128).length=128:=by rw[List.length_take];omega
   have c1:=block_pure _ (hbo i) _ hcl
   rw[←hbs]at c1
   have hg0:globV 0=.ip oJ 0:=rfl
   have hdd:(P.drop (i*128)).drop 128=P.drop ((i+1)*128):=by rw[List.drop_drop,Nat.add_mul]
   have hlen64:128≤(P.drop (i*128)).length:=by omega
   have hd2:(P.drop ((i+1)*128)).length=(P.drop (i*128)).length-128:=by rw[←hdd,List.length_drop]
   have het:(bw (P.drop (i*128))).take 128=bw ((P.drop (i*128)).take 128):=qO _ _
   have hed:(bw (P.drop (i*128))).drop 128=bw (P.drop ((i+1)*128)):=by rw[qP,hdd]
   generalize (P.drop (i*128)).take 128=cc at *
   generalize P.drop (i*128)=r' at *
   simp(disch:=omega)only[↓kX,kW,aS,simprocAttr,g3,g4,hb1,set_get,set_set,hst,hwl,hwt,hg0,oJ,het,her]
   first|refine CallK.p (c1) ?_|refine CallP.i (c1) ?_
   simp(disch:=omega)only[↓kX,kW,aS,simprocAttr,g3,g4,set_get,set_set,hst,hwl,hwt,hwp,hed,her]
   exact⟨m-1,by omega,i+1,by omega,by rw[List.take_of_length_le (by rw[gz,hd2];exact Nat.le_refl _),hd2],rfl⟩
  ·obtain rfl:i=nb:=by omega
   have hb1:decide ((0:Int)<((P.drop (i*128)).length:Int))=false:=dF (by omega)
   have ht:=ptold_pure _ (hbo i)
   unfold eu at ht
   simp(disch:=omega)only[↓kX,kW,aS,simprocAttr,g3,g4,hb1,set_get,hst,hwl,hwt]
   first|refine CallK.p (ht) ?_|refine CallP.i (ht) ?_
   simp(disch:=omega)only[↓kX,kW,aS,simprocAttr]
   first|exact Sub.set_new hkv|exact⟨rfl,Sub.set_new hkv⟩|trace_state
end Go.Proofs.YtcncplameclkfaaGreatDoor
end
