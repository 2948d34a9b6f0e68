/-
  The program's halves and products of wide numbers.
  Conditions: none. Lemmas only.
-/
import Derived.Test.YtcncplameclkfaaGreatDoorByG3
import Derived.Test.YtcncplameclkfaaGreatDoorBxG1
set_option linter.all false
set_option maxRecDepth 20000
set_option maxHeartbeats 8000000
namespace Go.Proofs.YtcncplameclkfaaGreatDoor
open Go Go.Abs Go.Proofs Go.Box
theorem and32(x:Nat)(hx:x<18446744073709551616):bits .and .u64 (x:Int) 4294967295=((x % 4294967296:Nat):Int):=by
 have h:=mJ (a:=x) (b:=4294967295) hx (by decide)
 rw[show((4294967295:Nat):Int)=4294967295 from rfl]at h
 rw[h,show(4294967295:Nat)=2^32-1 from rfl,Nat.and_two_pow_sub_one_eq_mod]
theorem zeros_h{l:List AV}(h:l.length=8):bG [.sc (.int .u64 0),.sc (.int .u64 0),.sc (.int .u64 0),.sc (.int .u64 0),.sc (.int .u64 0),.sc (.int .u64 0),.sc (.int .u64 0),.sc (.int .u64 0)] 0 l=l:=by
 rw[ah,h]
 simp
theorem lE{H:AH}{a b:Nat}{x y:AObj}(h:¬a=b):((H.set a x).set b y) a=some x:=by
 first
  |(rw[aP h];exact set_get)
  |(rw[aP (fun e=>h e.symm)];exact set_get)
theorem shalves_pure(a:Nat):APure Tryz.prog 148 [.agg (lH (kZ 4 a))] (.agg (lH (pE 8 a))):=by
 have hal:(lH (kZ 4 a)).length=4:=by rw[lV,lL]
 have hat:(lH (kZ 4 a)).take 4=lH (kZ 4 a):=List.take_of_length_le (by omega)
 have ga:=fun i (h:i<8)=>mf (l:=kZ 4 a) (i:=i/2) (by rw[lL];omega)
 have hh:=fun i (h:i<8)=>half_of 4 a i h
 have mA:=fun i=>wget 4 a i
 have p0:lH (partH 8 a 0)=[.sc (.int .u64 0),.sc (.int .u64 0),.sc (.int .u64 0),.sc (.int .u64 0),.sc (.int .u64 0),.sc (.int .u64 0),.sc (.int .u64 0),.sc (.int .u64 0)]:=rfl
 have pe:=partH_end 8 a
 have pl:=rT 8 a
 have ps:=fun i h=>partH_set 8 a (i:=i) h
 rw[←pe]
 generalize partH 8 a=F at *
 generalize kZ 4 a=A at *
 obtain⟨Z,hZ⟩:∃Z:AObj,Z=.cells [.sc (.int .u64 0),.sc (.int .u64 0),.sc (.int .u64 0),.sc (.int .u64 0),.sc (.int .u64 0),.sc (.int .u64 0),.sc (.int .u64 0),.sc (.int .u64 0)] 136 8:=⟨_,rfl⟩
 refine az (c:=⟨Tryz.prog,21,[(1000000,[1])],[],[]⟩) (rs:=[ResultVar.cell 2 136]) Tryz.mixed Tryz.func148 rfl rfl rfl (Nat.le_of_ble_eq_true rfl) (by kernel_rfl) fun H=>?_
 simp(disch:=omega)only[↓kX,kW,aS,simprocAttr,hal,hat]
 intro k1 hk10 hk1 k2 hk20 hk2
 have n12:=bK0 hk2
 have hk2':=am hk2
 have v1:∀X Y,((H.set k1 X).set k2 Y) k1=some X:=fun X Y=>by
  first
   |(rw[aP n12];exact set_get)
   |(rw[aP (fun e=>n12 e.symm)];exact set_get)
 simp(disch:=omega)only[↓kX,kW,aS,simprocAttr,v1,mD n12 hk1,hal,hat]
 intro k3 hk30 hk3
 have n23:=bK0 hk3
 have hk3':=am hk3
 rw[←hZ]
 refine br (c:=⟨Tryz.prog,21,[(1000000,[1])],[],[]⟩) Tryz.mixed (by kernel_rfl) (fun m σ H'=>∃i,i+m=8∧σ 1=.ip (lH A) 0∧σ 2=.ptr k2 0∧σ 3=.ptr k3 0∧σ 5=.sc (.int .i64 (i:Nat))∧H'=(H.set k2 Z).set k3 (.cells (lH (F i)) 136 8)) 8 ?_ ?_
 ·refine⟨0,by omega,?_⟩
  rw[p0,←hZ]
  simp(disch:=omega)only[↓kX,kW,aS,simprocAttr]
  first|rfl|exact⟨rfl,rfl⟩|trace_state
 ·rintro m σ H' ⟨i,hi,g1,g2,g3,g5,rfl⟩
  have hl:=pl i
  have hfl:(lH (F i)).length=8:=by rw[lV,hl]
  by_cases hlt:i<8
  ·have hb2:decide ((i:Int)<8)=true:=dT (by omega)
   have xa:=ga i hlt
   have hput:=oL (l:=F i) (i:=i) (x:=a/4294967296^i % 4294967296) (by omega)
   rw[ps i hlt,←hh i hlt]at hput
   have mx:=mA (i/2)
   generalize A.getD (i/2) 0=x at *
   have w1:IntKind.i64.wrap ((i/2:Nat):Int)=((i/2:Nat):Int):=iw (by omega)
   have hmul:32*((i % 2:Nat):Int)=((32*(i % 2):Nat):Int):=by omega
   have w2:IntKind.i64.wrap ((32*(i % 2):Nat):Int)=((32*(i % 2):Nat):Int):=iw (by omega)
   have b2:decide (((32*(i % 2):Nat):Int)<0)=false:=dF (by omega)
   have hmin:min (32*(i % 2)) 64=32*(i % 2):=by omega
   have o1:=and32 (x/2^(32*(i % 2))) (Nat.lt_of_le_of_lt (Nat.div_le_self _ _) mx)
   generalize hF':F (i+1)=F' at *
   simp(disch:=omega)only[↓kX,kW,aS,simprocAttr,g1,g2,g3,g5,hb2,jd,nC,xa,hal,w1,hmul,w2,b2,mS,hmin,shrN,o1,set_get,set_set,hfl,hput]
   exact⟨m-1,by omega,i+1,by omega,rfl,by rw[hF']⟩
  ·obtain rfl:i=8:=by omega
   have hb2:decide (((8:Nat):Int)<8)=false:=by decide
   have htk:(lH (F 8)).take 8=lH (F 8):=List.take_of_length_le (by omega)
   have v2:∀X Y,((H.set k2 X).set k3 Y) k2=some X:=fun X Y=>by
    first
     |(rw[aP n23];exact set_get)
     |(rw[aP (fun e=>n23 e.symm)];exact set_get)
   rw[hZ]
   simp(disch:=omega)only[↓kX,kW,aS,simprocAttr,g1,g2,g3,g5,hb2,v2,set_get,hfl,htk,ah]
   refine⟨by rw[kY],?_⟩
   exact((Sub.set_new hk2').set_free hk3').set_free hk2'
theorem swmul_pure(a b:Nat)(ha:a<18446744073709551616^4)(hb:b<18446744073709551616^4):APure Tryz.prog 113 [.agg (lH (kZ 4 a)),.agg (lH (kZ 4 b))] (.agg (lH (kZ 8 (a*b)))):=by
 have c1:=shalves_pure a
 have c2:=shalves_pure b
 have hal:(lH (kZ 4 a)).length=4:=by rw[lV,lL]
 have hbl:(lH (kZ 4 b)).length=4:=by rw[lV,lL]
 have hat:(lH (kZ 4 a)).take 4=lH (kZ 4 a):=List.take_of_length_le (by omega)
 have hbt:(lH (kZ 4 b)).take 4=lH (kZ 4 b):=List.take_of_length_le (by omega)
 generalize kZ 4 a=Wa at *
 generalize kZ 4 b=Wb at *
 have lA:=qm 8 a
 have lB:=qm 8 b
 have hDA:(lH (pE 8 a)).length=8:=by rw[lV,lA]
 have hDB:(lH (pE 8 b)).length=8:=by rw[lV,lB]
 have dA:=rZ 8 a
 have dB:=rZ 8 b
 obtain⟨hm1,hm2,hm3⟩:=mul_halves ha hb
 generalize pE 8 a=A at *
 generalize pE 8 b=B at *
 refine az (c:=⟨Tryz.prog,71,[(1,[0,0,0,0,2,2,2,2]),(10,[0,0,1,0,0,1,0,0,0,0,0,1,0,0,0,0]),(20,[0,0,0,0,1,0,0,0,0,1,0,0,0,2]),(1000000,[3,2]),(1000001,[6,5]),(4000020,[4,7,12,53]),(4000014,[4,5,6,7,18]),(4000011,[4,5,6,7,8,11,18,21]),(4000010,[4,5,6,7,8,10,11,18,21]),(4000001,[4,5,6])],[],[(1,(.op 0 0 (.op 1 0 (.op 2 0 (.op 3 0 (.or (.op 4 3 (.op 5 3 (.op 6 2 (.op 7 2 .nil)))) (.op 5 3 (.op 4 3 (.op 6 2 (.op 7 2 .nil))))))))))]⟩) (rs:=[ResultVar.cell 4 136]) Tryz.mixed Tryz.func113 rfl rfl rfl (Nat.le_of_ble_eq_true rfl) (by kernel_rfl) fun H=>?_
 simp(disch:=omega)only[↓kX,kW,aS,simprocAttr,hal,hbl,hat,hbt]
 intro k1 hk10 hk1 k2 hk20 hk2 k3 hk30 hk3
 obtain⟨q1,q2,q3,q4,n13,hk3'⟩:=frz3 hk1 hk2 hk3
 simp(disch:=omega)only[↓kX,kW,aS,simprocAttr,q1,q2,q3,q4,hal,hbl,hat,hbt]
 obtain⟨Z,hZ⟩:∃Z:AObj,Z=.cells [.sc (.int .u64 0),.sc (.int .u64 0),.sc (.int .u64 0),.sc (.int .u64 0),.sc (.int .u64 0),.sc (.int .u64 0),.sc (.int .u64 0),.sc (.int .u64 0)] 136 8:=⟨_,rfl⟩
 rw[←hZ]
 obtain⟨E,hE⟩:∃E,E=H.set k3 Z:=⟨_,rfl⟩
 rw[←hE]
 refine eI00 (fun σ F=>∃b5 b6,σ 4=.ptr k3 0∧σ 5=.ptr b5 0∧σ 6=.ptr b6 0∧¬b5=b6∧E b5=none∧E b6=none∧F=(E.set b5 (.cells (lH A) 136 8)).set b6 (.cells (lH B) 136 8)) ?_ ?_
 ·simp(disch:=omega)only[↓kX,kW,aS,simprocAttr,q1,q2,q3,q4,hal,hbl,hat,hbt]
  rw[kY]
  first|refine CallK.p (c1) ?_|refine CallP.i (c1) ?_
  simp(disch:=omega)only[↓kX,kW,aS,simprocAttr,hal,hbl,hat,hbt,kY]
  first|refine CallK.p (c2) ?_|refine CallP.i (c2) ?_
  simp(disch:=omega)only[↓kX,kW,aS,simprocAttr,hal,hbl,hat,hbt,kY,hDA,hDB]
  have zA:=zeros_h hDA
  have zB:=zeros_h hDB
  refine⟨?_,?_⟩
  ·intro b5 hb50 hb5 b6 hb60 hb6
   have n56:=bK0 hb6
   have hb6':=am hb6
   have u1:∀X Y,((E.set b5 X).set b6 Y) b5=some X:=fun X Y=>lE n56
   have u2:∀X Y X',((E.set b5 X).set b6 Y).set b5 X'=(E.set b5 X').set b6 Y:=fun X Y X'=>mG n56
   simp(disch:=omega)only[↓kX,kW,aS,simprocAttr,u1,u2,set_get,set_set,hDA,hDB,zA,zB]
   exact⟨b5,b6,rfl,rfl,n56,hb5,hb6',rfl⟩
  ·intro b6 hb60 hb6 b5 hb50 hb5
   have n65:=bK0 hb5
   have hb5':=am hb5
   have u1:∀X Y,((E.set b6 X).set b5 Y) b6=some X:=fun X Y=>lE n65
   have u2:∀X Y X',((E.set b6 X).set b5 Y).set b6 X'=(E.set b6 X').set b5 Y:=fun X Y X'=>mG n65
   simp(disch:=omega)only[↓kX,kW,aS,simprocAttr,u1,u2,set_get,set_set,hDA,hDB,zA,zB]
   exact⟨b5,b6,rfl,rfl,fun e=>n65 e.symm,hb5',hb6,by first|exact fD n65|exact fD (fun e=>n65 e.symm)|exact(fD n65).symm|exact(fD (fun e=>n65 e.symm)).symm⟩
 ·rintro σ F ⟨b5,b6,g4,g5,g6,n56,hb5,hb6,rfl⟩
  have hb6':(E.set b5 (.cells (lH A) 136 8)) b6=none:=by
   first
    |(rw[aP n56];exact hb6)
    |(rw[aP (fun e=>n56 e.symm)];exact hb6)
  have z1:∀X Y,((E.set b5 X).set b6 Y) b5=some X:=fun X Y=>lE n56
  have dAt:(lH A).take 8=lH A:=List.take_of_length_le (by omega)
  have dBt:(lH B).take 8=lH B:=List.take_of_length_le (by omega)
  simp(disch:=omega)only[↓kX,kW,aS,simprocAttr,g4,g5,g6,set_get,aj hb6',aj hb5,hDA,hDB,dAt,dBt]
  intro k7 hk70 hk7
  clear hb5 hb6 hb6' z1 g5 g6 n56
  have n37:¬k3=k7:=by
   intro e
   rw[hE,←e,set_get]at hk7
   cases hk7
  have hk7':H k7=none:=by rw[hE]at hk7;exact am hk7
  have v3:E k3=some Z:=by rw[hE];exact set_get
  have hspec:=fun i hi=>D32.mulI_spec dA dB i hi
  have hk2s:=fun i hi k hk=>D32.mulK_spec (i:=i) (D32.dig_getD dA i) dB k (hspec i hi).1 hk (by have h:=(hspec i hi).2.1;omega)
  have hmS:∀i,D32.mulI A B (i+1)=(D32.mulK (A.getD i 0) B i B.length (D32.mulI A B i,0)).1.set (i+B.length) (D32.mulK (A.getD i 0) B i B.length (D32.mulI A B i,0)).2:=fun i=>rfl
  have hm0:lH (D32.mulI A B 0)=[.sc (.int .u64 0),.sc (.int .u64 0),.sc (.int .u64 0),.sc (.int .u64 0),.sc (.int .u64 0),.sc (.int .u64 0),.sc (.int .u64 0),.sc (.int .u64 0),.sc (.int .u64 0),.sc (.int .u64 0),.sc (.int .u64 0),.sc (.int .u64 0),.sc (.int .u64 0),.sc (.int .u64 0),.sc (.int .u64 0),.sc (.int .u64 0)]:=by
   show lH (List.replicate (A.length+B.length) 0)=_
   rw[lA,lB]
   rfl
  have hmm:D32.mulM A B=D32.mulI A B 8:=by unfold D32.mulM;rw[lA]
  rw[hmm]at hm1 hm2 hm3
  have hgA:=fun i=>D32.dig_getD dA i
  have hgB:=fun i=>D32.dig_getD dB i
  have aA:=fun i (h:i<8)=>mf (l:=A) (i:=i) (by omega)
  have aB:=fun i (h:i<8)=>mf (l:=B) (i:=i) (by omega)
  rw[lA,lB]at hspec
  rw[lA,lB]at hk2s
  rw[lB]at hmS
  refine br (c:=⟨Tryz.prog,71,[(1,[0,0,0,0,2,2,2,2]),(10,[0,0,1,0,0,1,0,0,0,0,0,1,0,0,0,0]),(20,[0,0,0,0,1,0,0,0,0,1,0,0,0,2]),(1000000,[3,2]),(1000001,[6,5]),(4000020,[4,7,12,53]),(4000014,[4,5,6,7,18]),(4000011,[4,5,6,7,8,11,18,21]),(4000010,[4,5,6,7,8,10,11,18,21]),(4000001,[4,5,6])],[],[(1,(.op 0 0 (.op 1 0 (.op 2 0 (.op 3 0 (.or (.op 4 3 (.op 5 3 (.op 6 2 (.op 7 2 .nil)))) (.op 5 3 (.op 4 3 (.op 6 2 (.op 7 2 .nil))))))))))]⟩) Tryz.mixed (by kernel_rfl) (fun m σ H'=>∃i,i+m=8∧σ 4=.ptr k3 0∧σ 5=.ip (lH A) 0∧σ 6=.ip (lH B) 0∧σ 7=.ptr k7 0∧σ 18=.sc (.int .i64 (i:Nat))∧H'=E.set k7 (.cells (lH (D32.mulI A B i)) 168 16)) 8 ?_ ?_
  ·refine⟨0,by omega,?_⟩
   rw[hm0]
   simp(disch:=omega)only[↓kX,kW,aS,simprocAttr,g4]
  ·clear g4
   rintro m σ H' ⟨i,hi,g4,g5,g6,g7,g18,rfl⟩
   have w1:IntKind.i64.wrap ((i:Int)+1)=((i+1:Nat):Int):=by rw[iw (by omega)];rfl
   by_cases hlt:i<8
   ·have hb1:decide ((i:Int)<8)=true:=dT (by omega)
    have hM:=hspec i (by omega)
    have hKs:=hk2s i (by omega)
    have hS:=hmS i
    have hai:=aA i hlt
    have hg:=hgA i
    obtain⟨hM1,hM2,hM3,-⟩:=hM
    generalize D32.mulI A B i=M at *
    generalize hN:D32.mulI A B (i+1)=N at *
    have hK0:D32.mulK (A.getD i 0) B i 0 (M,0)=(M,0):=rfl
    have hKS:∀k,D32.mulK (A.getD i 0) B i (k+1) (M,0)=((D32.mulK (A.getD i 0) B i k (M,0)).1.set (i+k) (((D32.mulK (A.getD i 0) B i k (M,0)).1.getD (i+k) 0+A.getD i 0*B.getD k 0+(D32.mulK (A.getD i 0) B i k (M,0)).2) % 4294967296),((D32.mulK (A.getD i 0) B i k (M,0)).1.getD (i+k) 0+A.getD i 0*B.getD k 0+(D32.mulK (A.getD i 0) B i k (M,0)).2)/4294967296):=fun k=>rfl
    generalize A.getD i 0=x at *
    generalize hG:(fun k=>D32.mulK x B i k (M,0))=G at *
    have hG':∀k,D32.mulK x B i k (M,0)=G k:=fun k=>by rw[←hG]
    simp only[hG']at hKs hS hK0 hKS
    clear hG hG'
    simp(disch:=omega)only[↓kX,kW,aS,simprocAttr,g4,g5,g6,g7,g18,hb1]
    refine br (c:=⟨Tryz.prog,71,[(1,[0,0,0,0,2,2,2,2]),(10,[0,0,1,0,0,1,0,0,0,0,0,1,0,0,0,0]),(20,[0,0,0,0,1,0,0,0,0,1,0,0,0,2]),(1000000,[3,2]),(1000001,[6,5]),(4000020,[4,7,12,53]),(4000014,[4,5,6,7,18]),(4000011,[4,5,6,7,8,11,18,21]),(4000010,[4,5,6,7,8,10,11,18,21]),(4000001,[4,5,6])],[],[(1,(.op 0 0 (.op 1 0 (.op 2 0 (.op 3 0 (.or (.op 4 3 (.op 5 3 (.op 6 2 (.op 7 2 .nil)))) (.op 5 3 (.op 4 3 (.op 6 2 (.op 7 2 .nil))))))))))]⟩) Tryz.mixed (by kernel_rfl) (fun m2 σ2 H2=>∃k,k+m2=8∧σ2 4=.ptr k3 0∧σ2 5=.ip (lH A) 0∧σ2 6=.ip (lH B) 0∧σ2 7=.ptr k7 0∧σ2 8=.sc (.int .i64 (i:Nat))∧σ2 9=.sc (.int .u64 ((G k).2:Nat))∧σ2 18=.sc (.int .i64 (i:Nat))∧σ2 21=.sc (.int .i64 (k:Nat))∧H2=E.set k7 (.cells (lH (G k).1) 168 16)) 8 ?_ ?_
    ·refine⟨0,by omega,?_⟩
     rw[hK0]
     simp(disch:=omega)only[↓kX,kW,aS,simprocAttr,g4,g5,g6,g7,g18]
     first|rfl|exact⟨rfl,rfl⟩|trace_state
    ·clear g4 g5 g6 g7 g18
     clear σ
     rintro m2 σ H2 ⟨k,hk,g4,g5,g6,g7,g8,g9,g18,g21,rfl⟩
     have w2:IntKind.i64.wrap ((k:Int)+1)=((k+1:Nat):Int):=by rw[iw (by omega)];rfl
     have w3:IntKind.i64.wrap ((i:Int)+(k:Int))=((i+k:Nat):Int):=by rw[iw (by omega)];rfl
     obtain⟨q1,q2,q3,q4,-⟩:=hKs k (by omega)
     have hSk:=hKS k
     rw[hM2]at q3
     have hgx:=D32.dig_getD q1 (i+k)
     have hgb:=hgB k
     generalize hG1:(G k).1=L at *
     generalize hG2:(G k).2=c at *
     have hll:(lH L).length=16:=by rw[lV,q3]
     by_cases hkB:k<8
     ·have hb2:decide ((k:Int)<8)=true:=dT (by omega)
      have hbk:=aB k hkB
      have hlx:=mf (l:=L) (i:=i+k) (by omega)
      have hput:=oL (l:=L) (i:=i+k) (x:=(L.getD (i+k) 0+x*B.getD k 0+c) % 4294967296) (by omega)
      have hp:x*B.getD k 0≤4294967295*4294967295:=Nat.mul_le_mul (by omega) (by omega)
      generalize B.getD k 0=yb at *
      generalize L.getD (i+k) 0=xo at *
      have w4:IntKind.u64.wrap ((x:Int)*(yb:Int))=((x*yb:Nat):Int):=by rw[←Int.natCast_mul];exact jw (by omega)
      have w5:IntKind.u64.wrap (((x*yb:Nat):Int)+(xo:Int))=((x*yb+xo:Nat):Int):=by rw[←Int.natCast_add];exact jw (by omega)
      have w6:IntKind.u64.wrap (((x*yb+xo:Nat):Int)+(c:Int))=((xo+x*yb+c:Nat):Int):=by rw[←Int.natCast_add,Nat.add_comm (x*yb)];exact jw (by omega)
      have o1:=and32 (xo+x*yb+c) (by omega)
      have o2:((xo+x*yb+c:Nat):Int).fdiv 4294967296=(((xo+x*yb+c)/4294967296:Nat):Int):=by rw[show(4294967296:Int)=2^32 by decide,shrN]
      have hmin:min 32 64=32:=rfl
      simp(disch:=omega)only[↓kX,kW,aS,simprocAttr,g4,g5,g6,g7,g8,g9,g18,g21,hb2,hai,hbk,hlx,hll,hDA,hDB,w2,w3,w4,w5,w6,o1,o2,hmin,mS,set_get,set_set,hput]
      exact⟨m2-1,by omega,k+1,by omega,by rw[hSk],rfl,by rw[hSk]⟩
     ·obtain rfl:k=8:=by omega
      have hb2:decide (((8:Nat):Int)<8)=false:=by decide
      have hput:=oL (l:=L) (i:=i+8) (x:=c) (by omega)
      rw[hG1,hG2]at hS
      rw[←hS]at hput
      have w8:(i:Int)+8=((i+8:Nat):Int):=by omega
      have w9:IntKind.i64.wrap ((i+8:Nat):Int)=((i+8:Nat):Int):=iw (by omega)
      simp(disch:=omega)only[↓kX,kW,aS,simprocAttr,g4,g5,g6,g7,g8,g9,g18,g21,hb2,hll,w1,w8,w9,set_get,set_set,hput]
      exact⟨m-1,by omega,i+1,by omega,rfl,by rw[hN]⟩
   ·obtain rfl:i=8:=by omega
    have hb1:decide (((8:Nat):Int)<8)=false:=by decide
    generalize D32.mulI A B 8=L at *
    have hL16:(lH L).length=16:=by rw[lV,hm2]
    have hwo:=fun t=>word_of hm1 t
    rw[hm3]at hwo
    have p0:lH (qZ 8 (a*b) 0)=[.sc (.int .u64 0),.sc (.int .u64 0),.sc (.int .u64 0),.sc (.int .u64 0),.sc (.int .u64 0),.sc (.int .u64 0),.sc (.int .u64 0),.sc (.int .u64 0)]:=rfl
    have pe:=partW_end 8 (a*b)
    have pl:=pY 8 (a*b)
    have ps:=fun i h=>partW_set 8 (a*b) (i:=i) h
    rw[←pe]
    generalize qZ 8 (a*b)=F at *
    have gL:=fun i=>D32.dig_getD hm1 i
    have aL:=fun i (h:i<16)=>mf (l:=L) (i:=i) (by omega)
    simp(disch:=omega)only[↓kX,kW,aS,simprocAttr,g4,g5,g6,g7,g18,hb1]
    intro k12 hk120 hk12
    have n712:=bK0 hk12
    have hk12':=am hk12
    refine br (c:=⟨Tryz.prog,71,[(1,[0,0,0,0,2,2,2,2]),(10,[0,0,1,0,0,1,0,0,0,0,0,1,0,0,0,0]),(20,[0,0,0,0,1,0,0,0,0,1,0,0,0,2]),(1000000,[3,2]),(1000001,[6,5]),(4000020,[4,7,12,53]),(4000014,[4,5,6,7,18]),(4000011,[4,5,6,7,8,11,18,21]),(4000010,[4,5,6,7,8,10,11,18,21]),(4000001,[4,5,6])],[],[(1,(.op 0 0 (.op 1 0 (.op 2 0 (.op 3 0 (.or (.op 4 3 (.op 5 3 (.op 6 2 (.op 7 2 .nil)))) (.op 5 3 (.op 4 3 (.op 6 2 (.op 7 2 .nil))))))))))]⟩) Tryz.mixed (by kernel_rfl) (fun m σ H'=>∃i,i+m=8∧σ 4=.ptr k3 0∧σ 7=.ptr k7 0∧σ 12=.ptr k12 0∧σ 53=.sc (.int .i64 (i:Nat))∧H'=(E.set k7 (.cells (lH L) 168 16)).set k12 (.cells (lH (F i)) 136 8)) 8 ?_ ?_
    ·refine⟨0,by omega,?_⟩
     rw[p0]
     simp(disch:=omega)only[↓kX,kW,aS,simprocAttr,g4,g7]
    ·clear g4 g5 g6 g7 g18
     clear σ
     rintro m σ H' ⟨i,hi,g4,g7,g12,g53,rfl⟩
     have hl:=pl i
     have hfl:(lH (F i)).length=8:=by rw[lV,hl]
     have y1:∀X Y,((E.set k7 X).set k12 Y) k7=some X:=fun X Y=>lE n712
     by_cases hlt:i<8
     ·have hb2:decide ((i:Int)<8)=true:=dT (by omega)
      have w1:2*(i:Int)=((2*i:Nat):Int):=by omega
      have w2:IntKind.i64.wrap ((2*i:Nat):Int)=((2*i:Nat):Int):=iw (by omega)
      have w3:IntKind.i64.wrap (((2*i:Nat):Int)+1)=((2*i+1:Nat):Int):=by rw[iw (by omega)];rfl
      have w4:IntKind.i64.wrap ((i:Int)+1)=((i+1:Nat):Int):=by rw[iw (by omega)];rfl
      have a1:=aL (2*i) (by omega)
      have a2:=aL (2*i+1) (by omega)
      have l1:=gL (2*i)
      have l2:=gL (2*i+1)
      have hw:=hwo i
      have hput:=oL (l:=F i) (i:=i) (x:=a*b/18446744073709551616^i % 18446744073709551616) (by omega)
      rw[ps i hlt,←hw]at hput
      generalize L.getD (2*i) 0=lo at *
      generalize L.getD (2*i+1) 0=hi' at *
      have w5:IntKind.u64.wrap ((hi':Int)*2^32)=((hi'*4294967296:Nat):Int):=by
       rw[show((hi':Int)*2^32)=((hi'*4294967296:Nat):Int) by rw[Int.natCast_mul];rfl]
       exact jw (by omega)
      have w5':IntKind.u64.wrap ((hi':Int)*4294967296)=((hi'*4294967296:Nat):Int):=by
       rw[show((hi':Int)*4294967296)=((hi'*4294967296:Nat):Int) by rw[Int.natCast_mul];rfl]
       exact jw (by omega)
      have hor:bits .or .u64 (lo:Int) ((hi'*4294967296:Nat):Int)=((lo+hi'*4294967296:Nat):Int):=by
       rw[ou (by omega) (by omega),show(4294967296:Nat)=2^32 from rfl,or_add (by omega:lo<2^32),Nat.mul_comm hi']
      have hmin:min 32 64=32:=rfl
      generalize hF':F (i+1)=F' at *
      simp(disch:=omega)only[↓kX,kW,aS,simprocAttr,g4,g7,g12,g53,hb2,w1,w2,w3,w4,w5,w5',a1,a2,y1,hL16,hfl,hmin,mS,hor,hput,set_get,set_set]
      exact⟨m-1,by omega,i+1,by omega,rfl,by rw[hF']⟩
     ·obtain rfl:i=8:=by omega
      have hb2:decide (((8:Nat):Int)<8)=false:=by decide
      have htk:(lH (F 8)).take 8=lH (F 8):=List.take_of_length_le (by omega)
      have v2:∀X Y,((E.set k7 X).set k12 Y) k3=some Z:=fun X Y=>by
       rw[aP (by intro e;subst e;rw[aP n37,v3]at hk12;cases hk12),aP n37,v3]
      rw[hZ]at v2
      simp(disch:=omega)only[↓kX,kW,aS,simprocAttr,g4,g7,g12,g53,hb2,v2,set_get,hfl,htk,ah]
      refine⟨by rw[kY],?_⟩
      have hE12:H k12=none:=by
       rw[hE]at hk12'
       exact am hk12'
      rw[hE]
      exact(((Sub.set_new hk3').set_free hk7').set_free hE12).set_free hk3'
end Go.Proofs.YtcncplameclkfaaGreatDoor
