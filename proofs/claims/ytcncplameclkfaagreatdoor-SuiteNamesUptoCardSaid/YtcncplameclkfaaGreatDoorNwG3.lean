/-
  Several texts in one: each says what it proves.
  Conditions: none. Lemmas only.
-/
import Derived.Test.YtcncplameclkfaaGreatDoorNwG1
import Derived.Test.YtcncplameclkfaaGreatDoorNmG2
import Derived.Test.YtcncplameclkfaaGreatDoorNwG2
set_option linter.all false
section
set_option maxRecDepth 20000
set_option maxHeartbeats 8000000
namespace Go.Proofs.YtcncplameclkfaaGreatDoor
open Go Go.Abs Go.Proofs Go.Box
open Go.Nam (p25 lessP sQ)
abbrev nA(n:Nat):AV:=.agg (lH (kZ 4 n))
theorem mI(n:Nat):(lH (kZ 4 n)).length=4:=by rw[lV,lL]
theorem mH(n:Nat):(lH (kZ 4 n)).take 4=lH (kZ 4 n):=List.take_of_length_le (by rw[mI];omega)
theorem nA_put(m n:Nat):bG (lH (kZ 4 m)) 0 (lH (kZ 4 n))=lH (kZ 4 n):=oX (by rw[mI,mI])
abbrev lX:Nat:=115792089237316195423570985008687907853269984665640564039457584007913129639936
theorem qz:lX=18446744073709551616^4:=by decide
theorem nA_p25:lH (kZ 4 p25)=[.sc (.int .u64 18446744073709551597),.sc (.int .u64 18446744073709551615),.sc (.int .u64 18446744073709551615),.sc (.int .u64 9223372036854775807)]:=rfl
theorem pprime_pure:APure Tryz.prog 149 [] (nA p25):=by
 unfold nA
 rw[nA_p25]
 refine az (c:=⟨Tryz.prog,2,[],[],[]⟩) (rs:=[ResultVar.cell 0 58]) Tryz.mixed Tryz.func149 rfl rfl rfl (Nat.le_of_ble_eq_true rfl) (by kernel_rfl) fun H=>?_
 simp(disch:=omega)only[↓kX,kW,aS,simprocAttr]
 intro k hk0 hk
 exact⟨rfl,Sub.set_new hk⟩
theorem sbit_pure(n i:Nat)(hi:i<256):APure Tryz.prog 89 [nA n,.sc (.int .i64 i)] (.sc (.int .u64 (n/2^i % 2:Nat))):=by
 unfold nA
 have sl:=mI
 have st:=mH
 have aw:=mf (l:=kZ 4 n) (i:=i/64) (by rw[lL];omega)
 have gw:=mT 4 n (i/64) (by omega)
 have mw:=wget 4 n (i/64)
 have hbit:(kZ 4 n).getD (i/64) 0/2^(i % 64) % 2=n/2^i % 2:=by
  rw[gw]
  have h2:(18446744073709551616:Nat)=2^(i % 64)*2^(64-i % 64):=by
   rw[←Nat.pow_add,show i % 64+(64-i % 64)=64 by omega]
  have h3:(2:Nat)^(64-i % 64)=2*2^(63-i % 64):=by rw[show 64-i % 64=(63-i % 64)+1 by omega,Nat.pow_succ,Nat.mul_comm]
  have h4:(2:Nat)^i=18446744073709551616^(i/64)*2^(i % 64):=by
   rw[show(18446744073709551616:Nat)=2^64 from rfl,←Nat.pow_mul,←Nat.pow_add,Nat.div_add_mod]
  rw[h4,←Nat.div_div_eq_div_mul]
  generalize n/18446744073709551616^(i/64)=y
  conv=>lhs;rw[h2]
  rw[Nat.mod_mul_right_div_self,h3,Nat.mod_mul_right_mod]
 rw[←hbit]
 have b1:decide ((i:Int)<0)=false:=dF (by omega)
 have b2:decide ((255:Int)<(i:Int))=false:=dF (by omega)
 have w1:IntKind.i64.wrap ((i/64:Nat):Int)=((i/64:Nat):Int):=iw (by omega)
 have b3:decide (((i % 64:Nat):Int)<0)=false:=dF (by omega)
 have hmin:min (i % 64) 64=i % 64:=by omega
 have hx:(kZ 4 n).getD (i/64) 0/2^(i % 64)<18446744073709551616:=Nat.lt_of_le_of_lt (Nat.div_le_self _ _) mw
 have o1:=mJ (a:=(kZ 4 n).getD (i/64) 0/2^(i % 64)) (b:=1) hx (by decide)
 rw[show((1:Nat):Int)=1 from rfl,Nat.and_one_is_mod]at o1
 generalize (kZ 4 n).getD (i/64) 0=x at *
 refine az (c:=⟨Tryz.prog,19,[(1000000,[2])],[],[]⟩) (rs:=[ResultVar.tmp 4]) Tryz.mixed Tryz.func89 rfl rfl rfl (Nat.le_of_ble_eq_true rfl) (by kernel_rfl) fun H=>?_
 simp(disch:=omega)only[↓kX,kW,aS,simprocAttr,sl,st]
 intro k1 hk10 hk1
 simp(disch:=omega)only[↓kX,kW,aS,simprocAttr,set_get,aj hk1,sl,st,b1,b2,nC,jd,w1,aw,b3,hmin,mS,shrN,o1]
 first|exact Abs.Sub.refl _|exact⟨rfl,Abs.Sub.refl _⟩|trace_state
theorem nP(a:Nat)(ha:a<lX):APure Tryz.prog 136 [nA a] (nA (a % p25)):=by
 unfold nA
 have sl:=mI
 have st:=mH
 have sp:=nA_put
 have c1:=pprime_pure
 have cS:=fun x (h:x<lX)=>qp x p25 (by rw[←qz];exact h) (by decide)
 have cP:=fun x=>nQ (if x<p25 then 1 else 0) (x+18446744073709551616^4-p25) x (by split<;>omega)
 simp only[Go.Nam.words_lessP]at cP
 have hend:=Go.Nam.lessP_two ha
 have hle:=fun i=>Nat.lt_of_le_of_lt (Go.Nam.lessPn_le a i) ha
 have hs:∀i,sQ a (i+1)=lessP (sQ a i):=fun _=>rfl
 have h0:a=sQ a 0:=rfl
 rw[←hend]
 conv=>lhs;rw[h0]
 clear hend h0
 generalize sQ a=X at *
 unfold nA at c1
 have zq:=fun x=>mP (sl x)
 obtain⟨Z,hZ⟩:∃Z:AObj,Z=.cells [.sc (.int .u64 0),.sc (.int .u64 0),.sc (.int .u64 0),.sc (.int .u64 0)] 58 4:=⟨_,rfl⟩
 refine az (c:=⟨Tryz.prog,19,[(3,[0,0,0,0,0,0,2,2,0]),(1000003,[3])],[],[(3,(.op 1 0 (.op 0 4 (.op 2 0 (.op 3 0 (.op 4 0 (.op 5 0 (.op 6 3 (.op 7 2 (.op 8 0 .nil))))))))))]⟩) (rs:=[ResultVar.cell 2 58]) Tryz.mixed Tryz.func136 rfl rfl rfl (Nat.le_of_ble_eq_true rfl) (by kernel_rfl) fun H=>?_
 simp(disch:=omega)only[↓kX,kW,aS,simprocAttr,sl,st]
 intro k1 hk10 hk1 k2 hk20 hk2
 have n12:=bK0 hk2
 have hk2':=am hk2
 have v1:∀X Y,((H.set k1 X).set k2 Y) k1=some X:=fun X Y=>lE n12
 have s1:∀X Y X',((H.set k1 X).set k2 Y).set k1 X'=(H.set k1 X').set k2 Y:=fun X Y X'=>mG n12
 rw[←hZ]
 refine br (c:=⟨Tryz.prog,19,[(3,[0,0,0,0,0,0,2,2,0]),(1000003,[3])],[],[(3,(.op 1 0 (.op 0 4 (.op 2 0 (.op 3 0 (.op 4 0 (.op 5 0 (.op 6 3 (.op 7 2 (.op 8 0 .nil))))))))))]⟩) Tryz.mixed (by kernel_rfl) (fun m σ H'=>∃i:Nat,i+m=2∧σ 1=.ptr k1 0∧σ 2=.ptr k2 0∧σ 5=.sc (.int .i64 i)∧H'=(H.set k1 (.cells (lH (kZ 4 (X i))) 58 4)).set k2 Z) 2 ?_ ?_
 ·refine⟨0,by omega,?_⟩
  simp(disch:=omega)only[↓kX,kW,aS,simprocAttr]
  first|rfl|exact⟨rfl,rfl⟩|trace_state
 ·rintro m σ H' ⟨i,hi,g1,g2,g5,rfl⟩
  by_cases hlt:i<2
  ·have hb:decide ((i:Int)<2)=true:=dT (by omega)
   have w1:IntKind.i64.wrap ((i:Int)+1)=((i+1:Nat):Int):=by rw[iw (by omega)];rfl
   have eS:=cS (X i) (hle i)
   have eP:=cP (X i)
   rw[←hs]at eP
   simp(disch:=omega)only[↓kX,kW,aS,simprocAttr,g1,g2,g5,hb,v1,sl,st,kY]
   refine jk ?_
   simp(disch:=omega)only[↓kX,kW,aS,simprocAttr,g1,g2,g5,hb,v1,sl,st,kY]
   first|refine CallK.p (c1) ?_|refine CallP.i (c1) ?_
   simp(disch:=omega)only[↓kX,kW,aS,simprocAttr,g1,g2,g5,v1,sl,st,kY]
   generalize (if X i<p25 then 1 else 0)=bt at *
   generalize X i+18446744073709551616^4-p25=xl at *
   first|refine CallK.p (eS) ?_|refine CallP.i (eS) ?_
   simp(disch:=omega)only[↓kX,kW,aS,simprocAttr,g1,g2,g5,sl,kY]
   intro k7 hk70 hk7
   rw[zq,aj hk7]
   simp(disch:=omega)only[↓kX,kW,aS,simprocAttr,g1,g2,g5,v1,sl,st,kY]
   first|refine CallK.p (eP) ?_|refine CallP.i (eP) ?_
   simp(disch:=omega)only[↓kX,kW,aS,simprocAttr,g1,g2,g5,v1,s1,sl,st,sp,kY,w1]
   exact⟨m-1,by omega,i+1,by omega,rfl,rfl⟩
  ·obtain rfl:i=2:=by omega
   have hb:decide (((2:Nat):Int)<2)=false:=by decide
   rw[hZ]
   simp(disch:=omega)only[↓kX,kW,aS,simprocAttr,g1,g2,g5,hb,v1,set_get,set_set,sl,st,zq]
   refine⟨by rw[kY],?_⟩
   exact(Sub.set_new hk1).set_free hk2'
end Go.Proofs.YtcncplameclkfaaGreatDoor
end
section
set_option maxRecDepth 20000
set_option maxHeartbeats 8000000
namespace Go.Proofs.YtcncplameclkfaaGreatDoor
open Go Go.Abs Go.Proofs Go.Box
open Go.Nam (p25 lessP sQ MulS words_half)
theorem p25_b{n:Nat}:n % p25<lX:=Nat.lt_trans (Nat.mod_lt _ (by decide)) (by decide)
theorem pright_pure(a:Nat)(ha:a<lX):APure Tryz.prog 119 [nA a] (.sc (.bool (decide (a<p25)))):=by
 unfold nA
 have sl:=mI
 have st:=mH
 have c1:=pprime_pure
 unfold nA at c1
 have c2:=qp a p25 (by rw[←qz];exact ha) (by decide)
 have zq:=fun x=>mP (sl x)
 have hb:(((if a<p25 then 1 else 0:Nat):Int) == 1)=decide (a<p25):=by split<;>simp[*]
 generalize (if a<p25 then 1 else 0)=bt at *
 generalize decide (a<p25)=R at *
 generalize a+18446744073709551616^4-p25=xl at *
 refine az (c:=⟨Tryz.prog,13,[(1,[0,0,0,0,0,0,2,2,0]),(1000000,[1]),(1000001,[3])],[],[]⟩) (rs:=[ResultVar.tmp 2]) Tryz.mixed Tryz.func119 rfl rfl rfl (Nat.le_of_ble_eq_true rfl) (by kernel_rfl) fun H=>?_
 simp(disch:=omega)only[↓kX,kW,aS,simprocAttr,sl,st]
 intro k1 hk10 hk1
 first|refine CallK.p (c1) ?_|refine CallP.i (c1) ?_
 simp(disch:=omega)only[↓kX,kW,aS,simprocAttr,sl,st]
 rw[kY]
 first|refine CallK.p (c2) ?_|refine CallP.i (c2) ?_
 simp(disch:=omega)only[↓kX,kW,aS,simprocAttr,sl,st]
 intro k2 hk20 hk2
 rw[aj hk1]at hk2
 rw[zq,aj hk2,hb]
 exact⟨rfl,Abs.Sub.refl _⟩
theorem padd_pure(a b:Nat)(ha:a<lX)(hb:b<lX):APure Tryz.prog 122 [nA a,nA b] (nA ((a+b) % p25)):=by
 unfold nA
 have sl:=mI
 have st:=mH
 have c1:=nP a ha
 have c2:=nP b hb
 have ra:a % p25<p25:=Nat.mod_lt _ (by decide)
 have rb:b % p25<p25:=Nat.mod_lt _ (by decide)
 have c3:=qN (a % p25) (b % p25) (Nat.lt_trans ra (by decide)) (Nat.lt_trans rb (by decide))
 have hs:a % p25+b % p25<lX:=by unfold p25 lX at *;omega
 have c4:=nP (a % p25+b % p25) hs
 rw[←Nat.add_mod]at c4
 unfold nA at c1 c2 c4
 have zq:=fun x=>mP (sl x)
 generalize (a+b) % p25=R at *
 generalize (a % p25+b % p25)/18446744073709551616^4=cy at *
 generalize a % p25+b % p25=s at *
 generalize a % p25=x at *
 generalize b % p25=y at *
 refine az (c:=⟨Tryz.prog,17,[(1,[0,0,0,0,0,0,0,0,2,2,0]),(1000000,[3,2]),(1000001,[5])],[],[]⟩) (rs:=[ResultVar.cell 4 58]) Tryz.mixed Tryz.func122 rfl rfl rfl (Nat.le_of_ble_eq_true rfl) (by kernel_rfl) fun H=>?_
 simp(disch:=omega)only[↓kX,kW,aS,simprocAttr,sl,st]
 intro k1 hk10 hk1 k2 hk20 hk2 k3 hk30 hk3
 obtain⟨q1,q2,q3,q4,n13,hk3'⟩:=frz3 hk1 hk2 hk3
 simp(disch:=omega)only[↓kX,kW,aS,simprocAttr,q1,q2,q3,q4,sl,st]
 rw[kY]
 first|refine CallK.p (c1) ?_|refine CallP.i (c1) ?_
 simp(disch:=omega)only[↓kX,kW,aS,simprocAttr,sl,st]
 rw[kY]
 first|refine CallK.p (c2) ?_|refine CallP.i (c2) ?_
 simp(disch:=omega)only[↓kX,kW,aS,simprocAttr,sl,st]
 first|refine CallK.p (c3) ?_|refine CallP.i (c3) ?_
 simp(disch:=omega)only[↓kX,kW,aS,simprocAttr,sl,st]
 intro k5 hk50 hk5
 rw[zq,aj hk5]
 simp(disch:=omega)only[↓kX,kW,aS,simprocAttr,sl,st]
 rw[kY]
 first|refine CallK.p (c4) ?_|refine CallP.i (c4) ?_
 simp(disch:=omega)only[↓kX,kW,aS,simprocAttr,set_get,set_set,sl,st,zq,kY]
 first|exact Sub.set_new hk3'|exact⟨rfl,Sub.set_new hk3'⟩|trace_state
theorem pneg_pure(a:Nat)(ha:a<lX):APure Tryz.prog 125 [nA a] (nA ((p25-a % p25) % p25)):=by
 unfold nA
 have sl:=mI
 have st:=mH
 have c0:=pprime_pure
 have c1:=nP a ha
 have ra:a % p25<p25:=Nat.mod_lt _ (by decide)
 have c2:=qp p25 (a % p25) (by decide) (Nat.lt_trans ra (by decide))
 rw[Go.Nam.words_neg (Nat.le_of_lt ra)]at c2
 have hs:p25-a % p25<lX:=Nat.lt_of_le_of_lt (Nat.sub_le _ _) (by decide)
 have c4:=nP (p25-a % p25) hs
 unfold nA at c0 c1 c4
 have zq:=fun x=>mP (sl x)
 generalize (p25-a % p25) % p25=R at *
 generalize (if p25<a % p25 then 1 else 0)=bt at *
 generalize p25-a % p25=s at *
 generalize a % p25=x at *
 generalize p25=q at *
 refine az (c:=⟨Tryz.prog,14,[(1,[0,0,0,0,0,0,0,2,2,0]),(1000000,[1]),(1000001,[3])],[],[]⟩) (rs:=[ResultVar.cell 2 58]) Tryz.mixed Tryz.func125 rfl rfl rfl (Nat.le_of_ble_eq_true rfl) (by kernel_rfl) fun H=>?_
 simp(disch:=omega)only[↓kX,kW,aS,simprocAttr,sl,st]
 intro k1 hk10 hk1 k2 hk20 hk2
 have n12:=bK0 hk2
 have hk2':=am hk2
 have v1:∀X Y,((H.set k1 X).set k2 Y) k1=some X:=fun X Y=>lE n12
 simp(disch:=omega)only[↓kX,kW,aS,simprocAttr,v1,mD n12 hk1,sl,st]
 first|refine CallK.p (c0) ?_|refine CallP.i (c0) ?_
 simp(disch:=omega)only[↓kX,kW,aS,simprocAttr,sl,st]
 rw[kY]
 first|refine CallK.p (c1) ?_|refine CallP.i (c1) ?_
 simp(disch:=omega)only[↓kX,kW,aS,simprocAttr,sl,st]
 first|refine CallK.p (c2) ?_|refine CallP.i (c2) ?_
 simp(disch:=omega)only[↓kX,kW,aS,simprocAttr,sl,st]
 intro k5 hk50 hk5
 rw[zq,aj hk5]
 simp(disch:=omega)only[↓kX,kW,aS,simprocAttr,sl,st]
 rw[kY]
 first|refine CallK.p (c4) ?_|refine CallP.i (c4) ?_
 simp(disch:=omega)only[↓kX,kW,aS,simprocAttr,set_get,set_set,sl,st,zq,kY]
 first|exact Sub.set_new hk2'|exact⟨rfl,Sub.set_new hk2'⟩|trace_state
theorem psub_pure(a b:Nat)(ha:a<lX)(hb:b<lX):APure Tryz.prog 121 [nA a,nA b] (nA ((a+(p25-b % p25) % p25) % p25)):=by
 unfold nA
 have sl:=mI
 have st:=mH
 have c1:=pneg_pure b hb
 have c2:=padd_pure a ((p25-b % p25) % p25) ha p25_b
 unfold nA at c1 c2
 have zq:=fun x=>mP (sl x)
 generalize (a+(p25-b % p25) % p25) % p25=R at *
 generalize (p25-b % p25) % p25=y at *
 refine az (c:=⟨Tryz.prog,9,[(1,[1,1,0,0,2]),(1000000,[3,2])],[],[]⟩) (rs:=[ResultVar.cell 4 58]) Tryz.mixed Tryz.func121 rfl rfl rfl (Nat.le_of_ble_eq_true rfl) (by kernel_rfl) fun H=>?_
 simp(disch:=omega)only[↓kX,kW,aS,simprocAttr,sl,st]
 intro k1 hk10 hk1 k2 hk20 hk2 k3 hk30 hk3
 obtain⟨q1,q2,q3,q4,n13,hk3'⟩:=frz3 hk1 hk2 hk3
 simp(disch:=omega)only[↓kX,kW,aS,simprocAttr,q1,q2,q3,q4,sl,st,kY]
 first|refine CallK.p (c1) ?_|refine CallP.i (c1) ?_
 simp(disch:=omega)only[↓kX,kW,aS,simprocAttr,sl,st,kY]
 first|refine CallK.p (c2) ?_|refine CallP.i (c2) ?_
 simp(disch:=omega)only[↓kX,kW,aS,simprocAttr,set_get,set_set,sl,st,zq,kY]
 first|exact Sub.set_new hk3'|exact⟨rfl,Sub.set_new hk3'⟩|trace_state
theorem rh(n:Nat):kZ 4 (n % lX)=kZ 4 n:=by
 simp only[kZ,List.cons.injEq,and_true]
 unfold lX
 refine⟨?_,?_,?_,?_⟩<;>omega
theorem words_one{x:Nat}(h:x<18446744073709551616):lH (kZ 4 x)=[.sc (.int .u64 (x:Nat)),.sc (.int .u64 0),.sc (.int .u64 0),.sc (.int .u64 0)]:=by
 have e:kZ 4 x=[x,0,0,0]:=by
  simp only[kZ,List.cons.injEq,and_true]
  refine⟨?_,?_,?_,?_⟩<;>omega
 rw[e]
 rfl
theorem eight_parts(n:Nat):∃x0 x1 x2 x3 x4 x5 x6 x7:Nat, (lH (kZ 8 n))[0]? = some (.sc (.int .u64 x0))∧(lH (kZ 8 n))[1]? = some (.sc (.int .u64 x1))∧(lH (kZ 8 n))[2]? = some (.sc (.int .u64 x2))∧(lH (kZ 8 n))[3]? = some (.sc (.int .u64 x3))∧(lH (kZ 8 n))[4]? = some (.sc (.int .u64 x4))∧(lH (kZ 8 n))[5]? = some (.sc (.int .u64 x5))∧(lH (kZ 8 n))[6]? = some (.sc (.int .u64 x6))∧(lH (kZ 8 n))[7]? = some (.sc (.int .u64 x7))∧
    lH (kZ 4 n)=[.sc (.int .u64 x0),.sc (.int .u64 x1),.sc (.int .u64 x2),.sc (.int .u64 x3)]∧lH (kZ 4 (n/lX))=[.sc (.int .u64 x4),.sc (.int .u64 x5),.sc (.int .u64 x6),.sc (.int .u64 x7)]∧x4=n/lX % 18446744073709551616:=by
 rw[words_half]
 exact⟨_,_,_,_,_,_,_,_,rfl,rfl,rfl,rfl,rfl,rfl,rfl,rfl,rfl,rfl,rfl⟩
theorem pmul_pure(a b:Nat)(ha:a<lX)(hb:b<lX):APure Tryz.prog 93 [nA a,nA b] (nA (a*b % p25)):=by
 unfold nA
 have sl:=mI
 have st:=mH
 have sp:=nA_put
 have sl8:∀n,(lH (kZ 8 n)).length=8:=fun n=>by rw[lV,lL]
 have st8:∀n,(lH (kZ 8 n)).take 8=lH (kZ 8 n):=fun n=>List.take_of_length_le (by rw[sl8];omega)
 have zq:=fun x=>mP (sl x)
 have z8:∀n,bG [.sc (.int .u64 0),.sc (.int .u64 0),.sc (.int .u64 0),.sc (.int .u64 0),.sc (.int .u64 0),.sc (.int .u64 0),.sc (.int .u64 0),.sc (.int .u64 0)] 0 (lH (kZ 8 n))=lH (kZ 8 n):=fun n=>oX (by rw[sl8];rfl)
 have c1:=swmul_pure a b (by rw[←qz];exact ha) (by rw[←qz];exact hb)
 have hw:a*b<13407807929942597099574024998205846127479365820592393377723561443721764030073546976801874298166903427690031858186486050853753882811946569946433649006084096:=by
  have:=Nat.mul_lt_mul'' ha hb
  exact Nat.lt_of_lt_of_le this (by decide)
 obtain⟨w,hwe⟩:∃w,w=a*b:=⟨_,rfl⟩
 obtain⟨m,hm⟩:∃m,m=w/lX*38:=⟨_,rfl⟩
 obtain⟨s1,hs1⟩:∃s,s=w % lX+m % lX:=⟨_,rfl⟩
 obtain⟨s2,hs2⟩:∃s,s=s1 % lX+38*(m/lX+s1/lX):=⟨_,rfl⟩
 obtain⟨s3,hs3⟩:∃s,s=s2 % lX+38*(s2/lX):=⟨_,rfl⟩
 have hS:MulS w m s1 s2 s3:=⟨hm,hs1,hs2,hs3⟩
 rw[←hwe]at c1 hw ⊢
 obtain⟨b1,b2,b3,b4⟩:=hS.small hw
 have hmod:=hS.mod
 clear hS hwe
 have lB:∀n,n % lX<18446744073709551616^4:=fun n=>by rw[←qz];exact Nat.mod_lt _ (by decide)
 have hwB:w/lX<18446744073709551616^4:=by rw[←qz];exact Nat.div_lt_of_lt_mul hw
 have c2:=swmul_pure (w/lX) 38 hwB (by decide)
 rw[←hm,words_one (x:=38) (by decide)]at c2
 have c3:=qN (w % lX) (m % lX) (lB _) (lB _)
 rw[←hs1,rh,rh,←qz]at c3
 have c4:=qN (s1 % lX) (38*(m/lX+s1/lX)) (lB _) (by rw[←qz];unfold lX at *;omega)
 rw[←hs2,rh,←qz,words_one (x:=38*(m/lX+s1/lX)) (by unfold lX at *;omega)]at c4
 have c5:=qN (s2 % lX) (38*(s2/lX)) (lB _) (by rw[←qz];unfold lX at *;omega)
 rw[←hs3,rh,←qz,words_one (x:=38*(s2/lX)) (by unfold lX at *;omega)]at c5
 have c6:=nP s3 b4
 rw[hmod]at c6
 unfold nA at c6
 obtain⟨w0,w1,w2,w3,w4,w5,w6,w7,e0,e1,e2,e3,e4,e5,e6,e7,hL,hM,-⟩:=eight_parts w
 obtain⟨m0,m1,m2,m3,m4,m5,m6,m7,f0,f1,f2,f3,f4,f5,f6,f7,hmL,-,hm4⟩:=eight_parts m
 rw[Nat.mod_eq_of_lt (by have:=b1;unfold lX;omega)]at hm4
 rw[←hm4]at c4 b1
 have b1:m4<38:=b1
 have b2:s1/lX≤1:=b2
 have b3:s2/lX≤1:=b3
 clear hmod hw hwB lB hs1 hs2 hs3 hm hm4 b4
 generalize s1/lX=y1 at *
 generalize s2/lX=y2 at *
 generalize w/lX=h at *
 generalize w % p25=R at *
 obtain⟨Z,hZ⟩:∃Z:AObj,Z=.cells [.sc (.int .u64 0),.sc (.int .u64 0),.sc (.int .u64 0),.sc (.int .u64 0)] 58 4:=⟨_,rfl⟩
 refine az (c:=⟨Tryz.prog,71,[(2,[0,0,0,0,0,0,0,0,0,0,0,0,0,0,0,0,0,0,2,2,2,2]),(1000000,[3,2]),(1000001,[5]),(1000002,[7,6]),(1000003,[8]),(4000006,[4,9]),(4000005,[4,9,11]),(4000004,[4,8,9,10]),(4000003,[4,6,8]),(4000002,[4,6,7]),(4000001,[4,5])],[],[(2,(.op 0 0 (.op 1 0 (.op 2 0 (.op 3 0 (.op 4 0 (.op 5 0 (.op 6 0 (.op 7 0 (.op 8 0 (.op 9 0 (.op 10 0 (.op 11 0 (.op 12 0 (.op 13 0 (.op 14 0 (.op 15 0 (.op 16 0 (.op 17 0 (.or (.op 18 3 (.op 19 3 (.op 20 2 (.op 21 2 .nil)))) (.op 19 3 (.op 18 3 (.op 20 2 (.op 21 2 .nil))))))))))))))))))))))))]⟩) (rs:=[ResultVar.cell 4 58]) Tryz.mixed Tryz.func93 rfl rfl rfl (Nat.le_of_ble_eq_true rfl) (by kernel_rfl) fun H=>?_
 simp(disch:=omega)only[↓kX,kW,aS,simprocAttr,sl,st]
 intro k1 hk10 hk1 k2 hk20 hk2 k3 hk30 hk3
 obtain⟨q1,q2,q3,q4,n13,hk3'⟩:=frz3 hk1 hk2 hk3
 rw[←hZ]
 simp(disch:=omega)only[↓kX,kW,aS,simprocAttr,q1,q2,q3,q4,sl,st]
 rw[kY,kY]
 first|refine CallK.p (c1) ?_|refine CallP.i (c1) ?_
 simp(disch:=omega)only[↓kX,kW,aS,simprocAttr,sl8]
 intro k5 hk50 hk5
 rw[z8,aj hk5]
 clear hk5
 obtain⟨E,hE⟩:∃E,E=H.set k3 Z:=⟨_,rfl⟩
 rw[←hE]
 refine eI00 (fun σ F=>∃b6 b7,σ 4=.ptr k3 0∧σ 6=.ptr b6 0∧σ 7=.ptr b7 0∧¬b6=b7∧E b6=none∧E b7=none∧F=(E.set b6 (.cells (lH (kZ 4 w)) 58 4)).set b7 (.cells (lH (kZ 4 h)) 58 4)) ?_ ?_
 ·simp(disch:=omega)only[↓kX,kW,aS,simprocAttr,e0,e1,e2,e3,e4,e5,e6,e7,sl8]
  refine⟨?_,?_⟩
  ·intro b6 hb60 hb6 b7 hb70 hb7
   have n67:=bK0 hb7
   have hb7':=am hb7
   have u1:∀X Y,((E.set b6 X).set b7 Y) b6=some X:=fun X Y=>lE n67
   have u2:∀X Y X',((E.set b6 X).set b7 Y).set b6 X'=(E.set b6 X').set b7 Y:=fun X Y X'=>mG n67
   rw[←hL,←hM]
   simp(disch:=omega)only[↓kX,kW,aS,simprocAttr,u1,u2,set_get,set_set,sl,zq]
   exact⟨b6,b7,rfl,rfl,n67,hb6,hb7',rfl⟩
  ·intro b7 hb70 hb7 b6 hb60 hb6
   have n76:=bK0 hb6
   have hb6':=am hb6
   have u1:∀X Y,((E.set b7 X).set b6 Y) b7=some X:=fun X Y=>lE n76
   have u2:∀X Y X',((E.set b7 X).set b6 Y).set b7 X'=(E.set b7 X').set b6 Y:=fun X Y X'=>mG n76
   rw[←hL,←hM]
   simp(disch:=omega)only[↓kX,kW,aS,simprocAttr,u1,u2,set_get,set_set,sl,zq]
   exact⟨b6,b7,rfl,rfl,fun e=>n76 e.symm,hb6',hb7,by first|exact fD n76|exact fD (fun e=>n76 e.symm)|exact(fD n76).symm|exact(fD (fun e=>n76 e.symm)).symm⟩
 ·rintro σ F ⟨b6,b7,g4,g6,g7,n67,hb6,hb7,rfl⟩
  have hb7':(E.set b6 (.cells (lH (kZ 4 w)) 58 4)) b7=none:=by
   first
    |(rw[aP n67];exact hb7)
    |(rw[aP (fun e=>n67 e.symm)];exact hb7)
  have v6:∀X Y,((E.set b6 X).set b7 Y) b6=some X:=fun X Y=>lE n67
  simp(disch:=omega)only[↓kX,kW,aS,simprocAttr,g4,g6,g7,v6,set_get,aj hb7',aj hb6,sl,st]
  rw[kY]
  first|refine CallK.p (c2) ?_|refine CallP.i (c2) ?_
  simp(disch:=omega)only[↓kX,kW,aS,simprocAttr,g4,sl8]
  intro k8 hk80 hk8
  rw[z8,aj hk8]
  rw[hmL]at c3
  have w5:IntKind.u64.wrap ((m4:Int)+(y1:Int))=((m4+y1:Nat):Int):=by rw[←Int.natCast_add];exact jw (by omega)
  have w6:IntKind.u64.wrap (38*((m4+y1:Nat):Int))=((38*(m4+y1):Nat):Int):=by rw[show 38*((m4+y1:Nat):Int)=((38*(m4+y1):Nat):Int) by omega];exact jw (by omega)
  have w7:IntKind.u64.wrap (38*(y2:Int))=((38*y2:Nat):Int):=by rw[show 38*(y2:Int)=((38*y2:Nat):Int) by omega];exact jw (by omega)
  simp(disch:=omega)only[↓kX,kW,aS,simprocAttr,g4,sl,st,sl8,f0,f1,f2,f3,kY]
  first|refine CallK.p (c3) ?_|refine CallP.i (c3) ?_
  simp(disch:=omega)only[↓kX,kW,aS,simprocAttr,g4,sl,st,kY]
  intro k9 hk90 hk9
  rw[zq]
  simp(disch:=omega)only[↓kX,kW,aS,simprocAttr,g4,sl,st,sl8,f4,set_get,w5,w6,kY]
  first|refine CallK.p (c4) ?_|refine CallP.i (c4) ?_
  simp(disch:=omega)only[↓kX,kW,aS,simprocAttr,g4,sl,st,set_get,set_set,sp,w7,kY]
  first|refine CallK.p (c5) ?_|refine CallP.i (c5) ?_
  simp(disch:=omega)only[↓kX,kW,aS,simprocAttr,g4,sl,st,set_get,set_set,sp,kY]
  have n39:¬k3=k9:=by
   intro e
   rw[hE,←e,set_get]at hk9
   cases hk9
  have hk9':H k9=none:=by rw[hE]at hk9;exact am hk9
  have v3:∀X,(E.set k9 X) k3=some Z:=fun X=>by rw[aP n39,hE,set_get]
  rw[hZ]at v3
  first|refine CallK.p (c6) ?_|refine CallP.i (c6) ?_
  simp(disch:=omega)only[↓kX,kW,aS,simprocAttr,g4,sl,st,v3,zq,set_get,set_set,kY]
  rw[hE]
  first|exact((Sub.set_new hk3').set_free hk9').set_free hk3'|exact⟨rfl,((Sub.set_new hk3').set_free hk9').set_free hk3'⟩|trace_state
end Go.Proofs.YtcncplameclkfaaGreatDoor
end
section
set_option maxRecDepth 20000
set_option maxHeartbeats 8000000
namespace Go.Proofs.YtcncplameclkfaaGreatDoor
open Go Go.Abs Go.Proofs Go.Box
open Go.Nam (p25)
def stepE(x a b:Nat):Nat:=if b=0 then x*x % p25 else x*x % p25*a % p25
theorem pstep_live(H:AH)(k i e a x:Nat)(hi:i<256)(ha:a<lX)(hx:x<lX)(hk:H k=some (.cells (lH (kZ 4 x)) 58 4)):
    ACalls Tryz.prog 154 [.sc (.int .i64 i),.ptr k 0,.ip (lH (kZ 4 e)) 0,.ip (lH (kZ 4 a)) 0] H fun v H'=>v=.tup []∧H'=H.set k (.cells (lH (kZ 4 (stepE x a (e/2^i % 2)))) 58 4):=by
 have sl:=mI
 have st:=mH
 have sp:=nA_put
 have c1:=pmul_pure x x hx hx
 have c2:=sbit_pure e i hi
 have c3:=pmul_pure (x*x % p25) a p25_b ha
 have c4:=nQ (e/2^i % 2) (x*x % p25) (x*x % p25*a % p25) (by omega)
 unfold stepE
 unfold nA at c1 c2 c3
 generalize e/2^i % 2=bt at *
 generalize (if bt=0 then x*x % p25 else x*x % p25*a % p25)=R at *
 generalize x*x % p25*a % p25=z at *
 generalize x*x % p25=y at *
 refine ao0 (c:=⟨Tryz.prog,16,[(1,[1,0,0,1,1,1,0,0,2])],[],[]⟩) (rs:=[]) Tryz.mixed Tryz.func154 rfl rfl rfl (Nat.le_of_ble_eq_true rfl) (by kernel_rfl) ?_
 simp(disch:=omega)only[↓kX,kW,aS,simprocAttr,hk,sl,st,kY]
 first|refine CallK.p (c1) ?_|refine CallP.i (c1) ?_
 simp(disch:=omega)only[↓kX,kW,aS,simprocAttr,hk,set_get,set_set,sl,st,sp,kY]
 first|refine CallK.p (c2) ?_|refine CallP.i (c2) ?_
 simp(disch:=omega)only[↓kX,kW,aS,simprocAttr,hk,set_get,set_set,sl,st,sp,kY]
 first|refine CallK.p (c3) ?_|refine CallP.i (c3) ?_
 simp(disch:=omega)only[↓kX,kW,aS,simprocAttr,hk,set_get,set_set,sl,st,sp,kY]
 first|refine CallK.p (c4) ?_|refine CallP.i (c4) ?_
 simp(disch:=omega)only[↓kX,kW,aS,simprocAttr,hk,set_get,set_set,sl,st,sp,kY]
 exact⟨_,rfl,_,Abs.Sub.refl _,rfl,rfl⟩
theorem ppower_pure(a e:Nat)(ha:a<lX)(he:e<lX):APure Tryz.prog 137 [nA a,nA e] (nA (a^e % p25)):=by
 unfold nA
 have sl:=mI
 have st:=mH
 have sp:=nA_put
 have zq:=fun x=>mP (sl x)
 have hst:=fun j=>Go.Nam.pow_high a e j
 have hz:a^(e/2^256) % p25=1:=by
  rw[Nat.div_eq_of_lt (show e<2^256 from he),Nat.pow_zero]
  rfl
 have hend:a^(e/2^0) % p25=a^e % p25:=by rw[Nat.pow_zero,Nat.div_one]
 have hl:∀j,a^(e/2^j) % p25<lX:=fun j=>p25_b
 have cS:=fun H k i x (hi:i<256) (hx:x<lX) hk=>pstep_live H k i e a x hi ha hx hk
 rw[←hend]
 clear hend
 generalize hX:(fun j=>a^(e/2^j) % p25)=X at *
 have hX':∀j,a^(e/2^j) % p25=X j:=fun j=>by rw[←hX]
 simp only[hX']at hst hz hl ⊢
 clear hX hX'
 have w1:lH (kZ 4 1)=[.sc (.int .u64 1),.sc (.int .u64 0),.sc (.int .u64 0),.sc (.int .u64 0)]:=rfl
 obtain⟨Z,hZ⟩:∃Z:AObj,Z=.cells [.sc (.int .u64 0),.sc (.int .u64 0),.sc (.int .u64 0),.sc (.int .u64 0)] 58 4:=⟨_,rfl⟩
 refine az (c:=⟨Tryz.prog,19,[(1000000,[3,2])],[],[]⟩) (rs:=[ResultVar.cell 4 58]) Tryz.mixed Tryz.func137 rfl rfl rfl (Nat.le_of_ble_eq_true rfl) (by kernel_rfl) fun H=>?_
 simp(disch:=omega)only[↓kX,kW,aS,simprocAttr,sl,st]
 intro k1 hk10 hk1 k2 hk20 hk2 k3 hk30 hk3
 obtain⟨q1,q2,q3,q4,n13,hk3'⟩:=frz3 hk1 hk2 hk3
 rw[←hZ]
 simp(disch:=omega)only[↓kX,kW,aS,simprocAttr,q1,q2,q3,q4,sl,st]
 intro k5 hk50 hk5
 have n35:=bK0 hk5
 have hk5':=am hk5
 have v3:∀X Y,((H.set k3 X).set k5 Y) k3=some X:=fun X Y=>lE n35
 rw[←w1,zq]
 refine br (c:=⟨Tryz.prog,19,[(1000000,[3,2])],[],[]⟩) Tryz.mixed (by kernel_rfl) (fun m σ H'=>∃i:Nat,i+m=256∧σ 4=.ptr k3 0∧σ 5=.ptr k5 0∧σ 6=.fn (.func 154) [] [.ptr k5 0,.ip (lH (kZ 4 e)) 0,.ip (lH (kZ 4 a)) 0]∧σ 10=.sc (.int .i64 i)∧H'=(H.set k3 Z).set k5 (.cells (lH (kZ 4 (X m))) 58 4)) 256 ?_ ?_
 ·refine⟨0,by omega,?_⟩
  rw[hz]
  simp(disch:=omega)only[↓kX,kW,aS,simprocAttr,zq]
  first|rfl|exact⟨rfl,rfl⟩|trace_state
 ·rintro m σ H' ⟨i,hi,g4,g5,g6,g10,rfl⟩
  by_cases hlt:i<256
  ·have hb:decide ((i:Int)<256)=true:=dT (by omega)
   have w2:IntKind.i64.wrap ((i:Int)+1)=((i+1:Nat):Int):=by rw[iw (by omega)];rfl
   obtain⟨j,rfl⟩:∃j,m=j+1:=⟨m-1,by omega⟩
   have w3:IntKind.i64.wrap (255-(i:Int))=(j:Int):=by rw[iw (by omega)];omega
   have hsj:=hst j
   have cj:=cS ((H.set k3 Z).set k5 (.cells (lH (kZ 4 (X (j+1)))) 58 4)) k5 j (X (j+1)) (by omega) (hl _) set_get
   unfold stepE at cj
   rw[←hsj,set_set]at cj
   simp(disch:=omega)only[↓kX,kW,aS,simprocAttr,g4,g5,g6,g10,hb,w3]
   refine CallK.i cj ?_
   rintro v E ⟨rfl,rfl⟩
   simp(disch:=omega)only[↓kX,kW,aS,simprocAttr,g4,g5,g6,g10,w2]
   exact⟨j,by omega,i+1,by omega,rfl,rfl⟩
  ·obtain rfl:i=256:=by omega
   obtain rfl:m=0:=by omega
   have hb:decide (((256:Nat):Int)<256)=false:=by decide
   rw[hZ]
   simp(disch:=omega)only[↓kX,kW,aS,simprocAttr,g4,g5,g6,g10,hb,v3,set_get,sl,st,zq]
   refine⟨by rw[kY],?_⟩
   exact((Sub.set_new hk3').set_free hk5').set_free hk3'
theorem words_val{x:Nat}(h:x<lX):valW (kZ 4 x)=x:=by rw[rj,Nat.mod_eq_of_lt (by rw[←qz];exact h)]
theorem words_inj{x y:Nat}(hx:x<lX)(hy:y<lX):kZ 4 x=kZ 4 y↔x=y:=⟨fun h=>by rw[←words_val hx,h,words_val hy],fun h=>by rw[h]⟩
theorem eqL{l l':List Nat}(h1:l.length=4)(h2:l'.length=4):eqG Tryz.prog 6 58 (.agg (lH l)) (.agg (lH l'))=some (decide (l=l')):=by
 match l,h1,l',h2 with
 |[a0,a1,a2,a3],_,[b0,b1,b2,b3],_=>
  show eqG Tryz.prog 6 58 (.agg [.sc (.int .u64 (a0:Nat)),.sc (.int .u64 (a1:Nat)),.sc (.int .u64 (a2:Nat)),.sc (.int .u64 (a3:Nat))]) (.agg [.sc (.int .u64 (b0:Nat)),.sc (.int .u64 (b1:Nat)),.sc (.int .u64 (b2:Nat)),.sc (.int .u64 (b3:Nat))])=_
  rw[Tryz.eq58]
  congr 1
  rw[Bool.eq_iff_iff]
  simp only[Bool.and_eq_true,beq_iff_eq,decide_eq_true_eq,List.cons.injEq,and_true,Int.ofNat_inj,Int.natCast_inj]
theorem eqN{x y:Nat}(hx:x<lX)(hy:y<lX):eqG Tryz.prog 6 58 (nA x) (nA y)=some (decide (x=y)):=by
 unfold nA
 rw[eqL (lL 4 x) (lL 4 y),decide_eq_decide.2 (words_inj hx hy)]
theorem ckN(x:Nat):cl0 Tryz.prog 6 58 (nA x)=true:=Tryz.ck58 _ _ _ _
theorem eoN:bB0 Tryz.prog 58=true:=by kernel_rfl
theorem pinv_pure(a:Nat)(ha:a<lX):APure Tryz.prog 94 [nA a] (nA (a^(p25-2) % p25)):=by
 have c1:=ppower_pure a (p25-2) ha (Nat.lt_of_le_of_lt (Nat.sub_le _ _) (by decide))
 unfold nA at *
 have e1:lH (kZ 4 (p25-2))=[.sc (.int .u64 18446744073709551595),.sc (.int .u64 18446744073709551615),.sc (.int .u64 18446744073709551615),.sc (.int .u64 9223372036854775807)]:=rfl
 rw[e1]at c1
 have sl:=mI
 have st:=mH
 have zq:=fun x=>mP (sl x)
 generalize a^(p25-2) % p25=R at *
 refine az (c:=⟨Tryz.prog,6,[(1000000,[1])],[],[]⟩) (rs:=[ResultVar.cell 2 58]) Tryz.mixed Tryz.func94 rfl rfl rfl (Nat.le_of_ble_eq_true rfl) (by kernel_rfl) fun H=>?_
 simp(disch:=omega)only[↓kX,kW,aS,simprocAttr,sl,st]
 intro k1 hk10 hk1 k2 hk20 hk2
 have n12:=bK0 hk2
 have hk2':=am hk2
 have v1:∀X Y,((H.set k1 X).set k2 Y) k1=some X:=fun X Y=>lE n12
 simp(disch:=omega)only[↓kX,kW,aS,simprocAttr,v1,mD n12 hk1,sl,st]
 rw[kY]
 first|refine CallK.p (c1) ?_|refine CallP.i (c1) ?_
 simp(disch:=omega)only[↓kX,kW,aS,simprocAttr,set_get,set_set,sl,st,zq,kY]
 first|exact Sub.set_new hk2'|exact⟨rfl,Sub.set_new hk2'⟩|trace_state
theorem pencode_pure(a:Nat)(ha:a<lX):APure Tryz.prog 92 [nA a] (eu (lQ 32 (a % p25))):=by
 have c1:=nP a ha
 have c2:=swbytes_pure (a % p25)
 unfold nA at *
 have sl:=mI
 have st:=mH
 generalize lQ 32 (a % p25)=R at *
 refine az (c:=⟨Tryz.prog,6,[(1000000,[1])],[],[]⟩) (rs:=[ResultVar.tmp 2]) Tryz.mixed Tryz.func92 rfl rfl rfl (Nat.le_of_ble_eq_true rfl) (by kernel_rfl) fun H=>?_
 simp(disch:=omega)only[↓kX,kW,aS,simprocAttr,sl,st]
 intro k1 hk10 hk1
 rw[kY]
 first|refine CallK.p (c1) ?_|refine CallP.i (c1) ?_
 simp(disch:=omega)only[↓kX,kW,aS,simprocAttr]
 first|refine CallK.p (c2) ?_|refine CallP.i (c2) ?_
 simp(disch:=omega)only[↓kX,kW,aS,simprocAttr]
 rw[aj hk1]
 first|exact Abs.Sub.refl _|exact⟨rfl,Abs.Sub.refl _⟩|trace_state
def mU(r0 t b:Nat):Nat:=if r0*r0 % p25=b then r0 else r0*t % p25
def rootV(r:Nat):Nat:=if r % 2=0 then r else (p25-r % p25) % p25
theorem proot_gen(a b r0 t:Nat)(E1 E2:List AV)(hE1:E1=[.sc (.int .u64 18446744073709551614), .sc (.int .u64 18446744073709551615), .sc (.int .u64 18446744073709551615), .sc (.int .u64 1152921504606846975)])(hE2:E2=[.sc (.int .u64 18446744073709551611), .sc (.int .u64 18446744073709551615), .sc (.int .u64 18446744073709551615), .sc (.int .u64 2305843009213693951)])
    (ha:a<lX) (hb:b<p25) (hr0:r0<p25) (ht:t<p25) (c0:APure Tryz.prog 136 [nA a] (nA b)) (c1:APure Tryz.prog 137 [nA b,.agg E1] (nA r0)) (c2:APure Tryz.prog 137 [nA 2,.agg E2] (nA t)):
    APure Tryz.prog 120 [nA a] (if mU r0 t b*mU r0 t b % p25=b then .tup [nA (rootV (mU r0 t b)),.sc (.bool true)] else .tup [nA 0,.sc (.bool false)]):=by
 subst hE1 hE2
 have e3:lH (kZ 4 2)=[.sc (.int .u64 2),.sc (.int .u64 0),.sc (.int .u64 0),.sc (.int .u64 0)]:=rfl
 have e0:lH (kZ 4 0)=[.sc (.int .u64 0),.sc (.int .u64 0),.sc (.int .u64 0),.sc (.int .u64 0)]:=rfl
 unfold nA at *
 rw[e3]at c2
 have lB:∀ {x:Nat},x<p25→x<lX:=fun h=>Nat.lt_trans h (by decide)
 have cM:=fun x y (hx:x<p25) (hy:y<p25)=>pmul_pure x y (lB hx) (lB hy)
 have cN:=fun x (hx:x<p25)=>pneg_pure x (lB hx)
 have cE:=fun x y (hx:x<p25) (hy:y<p25)=>eqN (lB hx) (lB hy)
 have cP:=fun x=>nQ (x % 2) x ((p25-x % p25) % p25) (by omega)
 have ck:=fun x=>ckN x
 have eo:=eoN
 unfold nA at *
 have sl:=mI
 have st:=mH
 have sp:=nA_put
 have zq:=fun x=>mP (sl x)
 have hml:∀x,x % p25<p25:=fun x=>Nat.mod_lt _ (by decide)
 have m1:=cM r0 t hr0 ht
 have m2:=cM r0 r0 hr0 hr0
 have hrl:mU r0 t b<p25:=by unfold mU;split;exact hr0;exact hml _
 have m3:=cM (mU r0 t b) (mU r0 t b) hrl hrl
 have q2:=cE (r0*r0 % p25) b (hml _) hb
 have q3:=cE (mU r0 t b*mU r0 t b % p25) b (hml _) hb
 have n4:=cN (mU r0 t b) hrl
 have n5:=cP (mU r0 t b)
 have a0:=mf (l:=kZ 4 (mU r0 t b)) (i:=0) (by rw[lL];omega)
 have g0:=mT 4 (mU r0 t b) 0 (by omega)
 rw[Nat.pow_zero,Nat.div_one]at g0
 rw[g0]at a0
 have o1:=mJ (a:=mU r0 t b % 18446744073709551616) (b:=1) (Nat.mod_lt _ (by decide)) (by decide)
 rw[show((1:Nat):Int)=1 from rfl,Nat.and_one_is_mod,show mU r0 t b % 18446744073709551616 % 2=mU r0 t b % 2 by omega]at o1
 have hV:rootV (mU r0 t b)=if mU r0 t b % 2=0 then mU r0 t b else (p25-mU r0 t b % p25) % p25:=rfl
 rw[←hV]at n5
 have hR:mU r0 t b=if r0*r0 % p25=b then r0 else r0*t % p25:=rfl
 clear hV cM cN cE cP g0
 generalize rootV (mU r0 t b)=V at *
 generalize (p25-mU r0 t b % p25) % p25=N at *
 generalize mU r0 t b*mU r0 t b % p25=S at *
 generalize mU r0 t b=r at *
 generalize r0*t % p25=o at *
 generalize r0*r0 % p25=s0 at *
 generalize r % 18446744073709551616=rx at *
 obtain⟨Z,hZ⟩:∃Z:AObj,Z=.cells [.sc (.int .u64 0),.sc (.int .u64 0),.sc (.int .u64 0),.sc (.int .u64 0)] 58 4:=⟨_,rfl⟩
 refine az (c:=⟨Tryz.prog,37,[(5,[1,1,0,1,0]),(7,[1,1,0,1,0]),(9,[0,1,0,1,1,0,0,2,0]),(1000003,[5]),(1000004,[6])],[],[]⟩) (rs:=[ResultVar.cell 2 58,ResultVar.tmp 3]) Tryz.mixed Tryz.func120 rfl rfl rfl (Nat.le_of_ble_eq_true rfl) (by kernel_rfl) fun H=>?_
 simp(disch:=omega)only[↓kX,kW,aS,simprocAttr,sl,st]
 intro k1 hk10 hk1 k2 hk20 hk2
 have n12:=bK0 hk2
 have hk2':=am hk2
 have v1:∀X Y,((H.set k1 X).set k2 Y) k1=some X:=fun X Y=>lE n12
 have s1:∀X Y X',((H.set k1 X).set k2 Y).set k1 X'=(H.set k1 X').set k2 Y:=fun X Y X'=>mG n12
 rw[←hZ]
 simp(disch:=omega)only[↓kX,kW,aS,simprocAttr,v1,sl,st]
 rw[kY]
 first|refine CallK.p (c0) ?_|refine CallP.i (c0) ?_
 simp(disch:=omega)only[↓kX,kW,aS,simprocAttr,v1,s1,sl,st,sp,kY]
 first|refine CallK.p (c1) ?_|refine CallP.i (c1) ?_
 simp(disch:=omega)only[↓kX,kW,aS,simprocAttr,v1,s1,sl,st,sp,kY]
 intro k4 hk40 hk4
 rw[zq]
 have n24:=bK0 hk4
 have hk4a:=am hk4
 have n14:=bK0 hk4a
 have hk4':=am hk4a
 have v2:∀X Y W,(((H.set k1 X).set k2 Y).set k4 W) k1=some X:=fun X Y W=>by rw[aP n14,v1]
 have v3:∀X Y W,(((H.set k1 X).set k2 Y).set k4 W) k2=some Y:=fun X Y W=>lE n24
 first|refine CallK.p (c2) ?_|refine CallP.i (c2) ?_
 simp(disch:=omega)only[↓kX,kW,aS,simprocAttr,sl,st,kY]
 intro k5 hk50 hk5
 rw[zq,aj hk5]
 simp(disch:=omega)only[↓kX,kW,aS,simprocAttr,v2,set_get,sl,st,kY]
 first|refine CallK.p (m1) ?_|refine CallP.i (m1) ?_
 simp(disch:=omega)only[↓kX,kW,aS,simprocAttr,sl,st,kY]
 intro k6 hk60 hk6
 rw[zq,aj hk6]
 clear hk6 hk5
 simp(disch:=omega)only[↓kX,kW,aS,simprocAttr,v2,set_get,sl,st,kY]
 first|refine CallK.p (m2) ?_|refine CallP.i (m2) ?_
 simp(disch:=omega)only[↓kX,kW,aS,simprocAttr,v2,set_get,sl,st,kY,q2,ck,eo]
 by_cases h0:s0=b
 ·rw[if_pos h0]at hR
  subst hR
  rw[decide_eq_true h0]
  simp(disch:=omega)only[↓kX,kW,aS,simprocAttr,v2,set_get,sl,st,kY]
  first|refine CallK.p (m3) ?_|refine CallP.i (m3) ?_
  simp(disch:=omega)only[↓kX,kW,aS,simprocAttr,v2,set_get,sl,st,kY,q3,ck,eo]
  by_cases h1:S=b
  ·rw[if_pos h1,decide_eq_true h1]
   rw[hZ]
   simp(disch:=omega)only[↓kX,kW,aS,simprocAttr,v2,v3,set_get,sl,st,kY,a0,o1]
   first|refine CallK.p (n4) ?_|refine CallP.i (n4) ?_
   simp(disch:=omega)only[↓kX,kW,aS,simprocAttr,v2,v3,o1,set_get,sl,st,kY]
   first|refine CallK.p (n5) ?_|refine CallP.i (n5) ?_
   simp(disch:=omega)only[↓kX,kW,aS,simprocAttr,v2,v3,set_get,sl,st,zq,kY]
   first|exact(((Sub.set_new hk1).set_free hk2').set_free hk4').set_free hk2'|exact⟨rfl,(((Sub.set_new hk1).set_free hk2').set_free hk4').set_free hk2'⟩|trace_state
  ·rw[if_neg h1,decide_eq_false h1]
   rw[hZ]
   simp(disch:=omega)only[↓kX,kW,aS,simprocAttr,v2,v3,set_get,sl,st,kY]
   exact⟨rfl,(((Sub.set_new hk1).set_free hk2').set_free hk4').set_free hk2'⟩
 ·rw[if_neg h0]at hR
  subst hR
  rw[decide_eq_false h0]
  simp(disch:=omega)only[↓kX,kW,aS,simprocAttr,v2,set_get,set_set,sp,sl,st,kY]
  first|refine CallK.p (m3) ?_|refine CallP.i (m3) ?_
  simp(disch:=omega)only[↓kX,kW,aS,simprocAttr,v2,set_get,sl,st,kY,q3,ck,eo]
  by_cases h1:S=b
  ·rw[if_pos h1,decide_eq_true h1]
   rw[hZ]
   simp(disch:=omega)only[↓kX,kW,aS,simprocAttr,v2,v3,set_get,sl,st,kY,a0,o1]
   first|refine CallK.p (n4) ?_|refine CallP.i (n4) ?_
   simp(disch:=omega)only[↓kX,kW,aS,simprocAttr,v2,v3,o1,set_get,sl,st,kY]
   first|refine CallK.p (n5) ?_|refine CallP.i (n5) ?_
   simp(disch:=omega)only[↓kX,kW,aS,simprocAttr,v2,v3,set_get,sl,st,zq,kY]
   first|exact(((Sub.set_new hk1).set_free hk2').set_free hk4').set_free hk2'|exact⟨rfl,(((Sub.set_new hk1).set_free hk2').set_free hk4').set_free hk2'⟩|trace_state
  ·rw[if_neg h1,decide_eq_false h1]
   rw[hZ]
   simp(disch:=omega)only[↓kX,kW,aS,simprocAttr,v2,v3,set_get,sl,st,kY]
   exact⟨rfl,(((Sub.set_new hk1).set_free hk2').set_free hk4').set_free hk2'⟩
end Go.Proofs.YtcncplameclkfaaGreatDoor
end
section
set_option maxRecDepth 20000
set_option maxHeartbeats 4000000
namespace Go.Proofs.YtcncplameclkfaaGreatDoor
open Go Go.Abs Go.Proofs Go.Box
open Go.Nam (p25 turnN)
theorem turn_two:turnN*turnN % p25=p25-1:=by decide +kernel
theorem neg_mul{y:Nat}(h:y<p25):y*(p25-1) % p25=(p25-y) % p25:=by
 by_cases h0:y=0
 ·subst h0
  rw[Nat.zero_mul,Nat.sub_zero,Nat.mod_self,Nat.zero_mod]
 ·obtain⟨z,rfl⟩:∃z,y=z+1:=⟨y-1,by omega⟩
  have e:(z+1)*(p25-1)=p25*z+(p25-(z+1)):=by
   rw[Nat.add_mul,Nat.mul_sub,Nat.one_mul,Nat.mul_one,Nat.mul_comm z]
   have:z≤p25*z:=Nat.le_mul_of_pos_left _ (by decide)
   generalize p25*z=w at *
   omega
  rw[e,Nat.mul_add_mod]
theorem sq_neg{y:Nat}(h:y<p25):(p25-y) % p25*((p25-y) % p25) % p25=y*y % p25:=by
 rw[←neg_mul h,←Nat.mul_mod]
 have e:y*(p25-1)*(y*(p25-1))=y*y*((p25-1)*(p25-1)):=by
  simp only[Nat.mul_assoc,Nat.mul_comm,Nat.mul_left_comm]
 rw[e,Nat.mul_mod,show(p25-1)*(p25-1) % p25=1 by decide +kernel,Nat.mul_one,Nat.mod_mod]
theorem sq_turn(x:Nat):x*turnN % p25*(x*turnN % p25) % p25=x*x % p25*(p25-1) % p25:=by
 rw[←Nat.mul_mod]
 have e:x*turnN*(x*turnN)=x*x*(turnN*turnN):=by
  generalize turnN=t
  simp only[Nat.mul_assoc,Nat.mul_comm,Nat.mul_left_comm]
 rw[e,Nat.mul_mod,turn_two]
theorem twice_turn(x:Nat):x*turnN % p25*turnN % p25=x*(p25-1) % p25:=by
 rw[Nat.mod_mul_mod,Nat.mul_assoc,Nat.mul_mod,turn_two,Nat.mod_mul_mod]
theorem thrice_turn(x:Nat):x*(p25-1) % p25*turnN % p25=x*turnN % p25*(p25-1) % p25:=by
 rw[Nat.mod_mul_mod,Nat.mod_mul_mod,Nat.mul_assoc,Nat.mul_comm (p25-1) turnN,←Nat.mul_assoc]
theorem zero_sq{x:Nat}(h:x<p25)(h2:x*x % p25=0):x=0:=by
 have hd:p25 ∣ x∨p25 ∣ x:=Go.Nam.pr_p25.mul (Nat.dvd_of_mod_eq_zero h2)
 have hd:p25 ∣ x:=by rcases hd with h|h<;>exact h
 refine Classical.byContradiction fun h0=>?_
 have:=Nat.le_of_dvd (by omega) hd
 omega
theorem p25_odd:p25 % 2=1:=by decide
theorem root_same{r0 b:Nat}(hr:r0<p25)(hb:b<p25):rootF turnN b 4 r0=if mU r0 turnN b*mU r0 turnN b % p25=b then (rootV (mU r0 turnN b),true) else (0,false):=by
 have hx1:r0*turnN % p25<p25:=Nat.mod_lt _ (by decide)
 have t2:=twice_turn r0
 have t3:=thrice_turn r0
 have s1:=sq_turn r0
 rw[neg_mul hr]at t2
 rw[neg_mul hr,neg_mul hx1]at t3
 rw[neg_mul (Nat.mod_lt _ (by decide))]at s1
 have q2:=sq_neg hr
 have q3:=sq_neg hx1
 have hodd:=p25_odd
 have hz:=fun h=>zero_sq hr h
 simp only[rootF]
 rw[t2,t3,q2,q3]
 unfold mU rootV
 generalize r0*turnN % p25=x1 at *
 rw[s1]
 by_cases h0:r0*r0 % p25=b
 ·rw[if_pos h0,h0,if_pos rfl,Nat.mod_eq_of_lt hr]
  by_cases h2:r0 % 2=0
  ·rw[if_pos ⟨h2,rfl⟩,if_pos h2]
  ·rw[if_neg (fun h=>h2 h.1),if_neg h2]
   have hb0:b≠0:=fun e=>h2 (by rw[hz (by rw[h0,e])])
   have hr0:r0≠0:=fun e=>h2 (by rw[e])
   have e1:(p25-r0) % p25=p25-r0:=Nat.mod_eq_of_lt (by omega)
   have e2:(p25-b) % p25=p25-b:=Nat.mod_eq_of_lt (by omega)
   rw[e1,e2,if_neg (fun h=>by have:=h.2;omega),if_pos ⟨by omega,rfl⟩]
 ·rw[if_neg h0]
  rw[if_neg (fun h=>h0 h.2)]
  rw[s1]
  generalize (p25-r0*r0 % p25) % p25=sq at *
  by_cases h1:sq=b
  ·rw[if_pos h1,Nat.mod_eq_of_lt hx1]
   by_cases h2:x1 % 2=0
   ·rw[if_pos ⟨h2,h1⟩,if_pos h2]
   ·rw[if_neg (fun h=>h2 h.1),if_neg h2,if_neg (fun h=>h0 h.2)]
    have hx0:x1≠0:=fun e=>h2 (by rw[e])
    have e1:(p25-x1) % p25=p25-x1:=Nat.mod_eq_of_lt (by omega)
    rw[e1,if_pos ⟨by omega,h1⟩]
  ·rw[if_neg h1,if_neg (fun h=>h1 h.2),if_neg (fun h=>h0 h.2),if_neg (fun h=>h1 h.2)]
def sqrV(b:Nat):Nat:=rootV (mU (b^((p25+3)/8) % p25) turnN b)
def sqrB(b:Nat):Prop:=mU (b^((p25+3)/8) % p25) turnN b*mU (b^((p25+3)/8) % p25) turnN b % p25=b
theorem exp_same:(p25+3)/8=(p25-5)/8+1:=by decide
theorem droot_pure(b:Nat)(hb:b<p25)[Decidable (sqrB b)]:APure Tryz.prog 131 [fA b] (if sqrB b then .tup [fA (sqrV b),.sc (.bool true)] else .tup [fA 0,.sc (.bool false)]):=by
 have h:=froot_pure b hb
 have e:b^((p25-5)/8) % p25*b % p25=b^((p25+3)/8) % p25:=by
  rw[exp_same]
  generalize (p25-5)/8=n
  rw[Nat.pow_succ,Nat.mod_mul_mod]
 have hR:rootD b=if sqrB b then (sqrV b,true) else (0,false):=by
  unfold rootD
  rw[e,root_same (Nat.mod_lt _ (by decide)) hb]
  unfold sqrB sqrV
  congr
 rw[hR]at h
 split
 ·rename_i hc
  rw[if_pos hc]at h
  exact h
 ·rename_i hc
  rw[if_neg hc]at h
  exact h
theorem proot_pure(a:Nat)(ha:a<lX)[Decidable (sqrB (a % p25))]:APure Tryz.prog 120 [nA a] (if sqrB (a % p25) then .tup [nA (sqrV (a % p25)),.sc (.bool true)] else .tup [nA 0,.sc (.bool false)]):=by
 have hb:a % p25<p25:=Nat.mod_lt _ (by decide)
 have c0:=nP a ha
 have c1:=ppower_pure (a % p25) ((p25+3)/8) p25_b (by decide)
 have c2:=ppower_pure 2 ((p25-1)/4) (by decide) (by decide)
 rw[Go.Nam.turn_eq]at c2
 have h:=proot_gen a (a % p25) ((a % p25)^((p25+3)/8) % p25) turnN _ _ rfl rfl ha hb (Nat.mod_lt _ (by decide)) Go.Nam.turn_lt c0 c1 c2
 generalize a % p25=b at *
 split
 ·rename_i hc
  unfold sqrB at hc
  rw[if_pos hc]at h
  exact h
 ·rename_i hc
  unfold sqrB at hc
  rw[if_neg hc]at h
  exact h
end Go.Proofs.YtcncplameclkfaaGreatDoor
end
