/-
  The document's ladder.
  Conditions: none. Lemmas only.
-/
import Derived.Test.YtcncplameclkfaaGreatDoorNwG5
import Derived.Test.YtcncplameclkfaaGreatDoorNwG4
import Derived.Test.YtcncplameclkfaaGreatDoorNmG2
set_option linter.all false
set_option maxRecDepth 20000
set_option maxHeartbeats 4000000
namespace Go.Proofs.YtcncplameclkfaaGreatDoor
open Go Go.Abs Go.Proofs Go.Box
open Go.Nam (p25 lJ lT nc nV mQ oE oD fmul_lt L4 my turnL mY)
theorem dmult_bad(k u:List UInt8)(h:k.length≠32∨u.length≠32):APure Tryz.prog 22 [eu k,eu u] (.tup [eu [],.sc (.int .i64 1)]):=by
 unfold eu
 by_cases hk:k.length=32
 ·have hu:u.length≠32:=h.resolve_left fun g=>g hk
  have b1:((u.length:Int) != 32)=true:=nT (by omega)
  refine az (c:=⟨Tryz.prog,132,[(7,[0,0,0,0,2,2,2,2,2,2,2,2]),(12,[1,0,1,1,2,2,2,2]),(15,[0,0,0,0,0,2,2]),(16,[0,0,0,0,0,2,2]),(23,[1,1,1,0,0,2]),(26,[1,1,1,1,0,0,0,2]),(28,[1,0,1,1,2,2,2,2]),(29,[1,1,0,0,0,0,0]),(1000006,[9]),(1000013,[15]),(1000014,[16]),(1000015,[17]),(1000016,[18]),(1000017,[19]),(1000018,[20]),(1000019,[21]),(1000020,[22]),(1000021,[23]),(1000025,[24]),(4000029,[4,5]),(4000028,[6,9,10,11,12,13,14]),(4000026,[6,9,10,11,12,13,14]),(4000025,[6,9,10,11,12,13,14,19,21,24]),(4000023,[6,9,10,11,12,13,14,19,20,21]),(4000021,[6,9,10,11,12,13,14,19,20,21,22,23]),(4000020,[6,9,10,11,12,13,14,17,18,19,20,21,22]),(4000019,[6,9,10,11,12,13,14,17,18,19,20,21]),(4000018,[6,9,10,11,12,13,14,17,18,19,20]),(4000017,[6,9,10,11,12,13,14,16,17,18,19]),(4000016,[6,9,10,11,12,13,14,15,16,17,18]),(4000015,[6,9,10,11,12,13,14,15,16,17]),(4000014,[6,9,10,11,12,13,14,15,16]),(4000013,[6,9,10,11,12,13,14,15]),(4000012,[6,9,10,11,12,13,14]),(4000007,[6,9,10,11,12,13]),(4000006,[6,9]),(4000005,[6,8]),(4000003,[1,6]),(4000001,[0,1,32])],[1000038,1000040],[(7,(.op 0 0 (.op 1 0 (.op 2 0 (.op 3 0 (.or (.op 4 3 (.or (.op 5 3 (.or (.op 6 3 (.op 7 3 (.op 8 2 (.op 9 2 (.op 10 2 (.op 11 2 .nil)))))) (.op 7 3 (.op 6 3 (.op 8 2 (.op 9 2 (.op 10 2 (.op 11 2 .nil)))))))) (.or (.op 6 3 (.or (.op 5 3 (.op 7 3 (.op 8 2 (.op 9 2 (.op 10 2 (.op 11 2 .nil)))))) (.op 7 3 (.op 5 3 (.op 8 2 (.op 9 2 (.op 10 2 (.op 11 2 .nil)))))))) (.op 7 3 (.or (.op 5 3 (.op 6 3 (.op 8 2 (.op 9 2 (.op 10 2 (.op 11 2 .nil)))))) (.op 6 3 (.op 5 3 (.op 8 2 (.op 9 2 (.op 10 2 (.op 11 2 .nil))))))))))) (.or (.op 5 3 (.or (.op 4 3 (.or (.op 6 3 (.op 7 3 (.op 8 2 (.op 9 2 (.op 10 2 (.op 11 2 .nil)))))) (.op 7 3 (.op 6 3 (.op 8 2 (.op 9 2 (.op 10 2 (.op 11 2 .nil)))))))) (.or (.op 6 3 (.or (.op 4 3 (.op 7 3 (.op 8 2 (.op 9 2 (.op 10 2 (.op 11 2 .nil)))))) (.op 7 3 (.op 4 3 (.op 8 2 (.op 9 2 (.op 10 2 (.op 11 2 .nil)))))))) (.op 7 3 (.or (.op 4 3 (.op 6 3 (.op 8 2 (.op 9 2 (.op 10 2 (.op 11 2 .nil)))))) (.op 6 3 (.op 4 3 (.op 8 2 (.op 9 2 (.op 10 2 (.op 11 2 .nil))))))))))) (.or (.op 6 3 (.or (.op 4 3 (.or (.op 5 3 (.op 7 3 (.op 8 2 (.op 9 2 (.op 10 2 (.op 11 2 .nil)))))) (.op 7 3 (.op 5 3 (.op 8 2 (.op 9 2 (.op 10 2 (.op 11 2 .nil)))))))) (.or (.op 5 3 (.or (.op 4 3 (.op 7 3 (.op 8 2 (.op 9 2 (.op 10 2 (.op 11 2 .nil)))))) (.op 7 3 (.op 4 3 (.op 8 2 (.op 9 2 (.op 10 2 (.op 11 2 .nil)))))))) (.op 7 3 (.or (.op 4 3 (.op 5 3 (.op 8 2 (.op 9 2 (.op 10 2 (.op 11 2 .nil)))))) (.op 5 3 (.op 4 3 (.op 8 2 (.op 9 2 (.op 10 2 (.op 11 2 .nil))))))))))) (.op 7 3 (.or (.op 4 3 (.or (.op 5 3 (.op 6 3 (.op 8 2 (.op 9 2 (.op 10 2 (.op 11 2 .nil)))))) (.op 6 3 (.op 5 3 (.op 8 2 (.op 9 2 (.op 10 2 (.op 11 2 .nil)))))))) (.or (.op 5 3 (.or (.op 4 3 (.op 6 3 (.op 8 2 (.op 9 2 (.op 10 2 (.op 11 2 .nil)))))) (.op 6 3 (.op 4 3 (.op 8 2 (.op 9 2 (.op 10 2 (.op 11 2 .nil)))))))) (.op 6 3 (.or (.op 4 3 (.op 5 3 (.op 8 2 (.op 9 2 (.op 10 2 (.op 11 2 .nil)))))) (.op 5 3 (.op 4 3 (.op 8 2 (.op 9 2 (.op 10 2 (.op 11 2 .nil))))))))))))))))))),(12,(.op 0 4 (.op 2 4 (.op 3 4 (.or (.op 1 3 (.op 4 2 (.op 5 2 (.op 6 2 (.op 7 2 .nil))))) (.op 4 2 (.op 1 3 (.op 5 2 (.op 6 2 (.op 7 2 .nil)))))))))),(15,(.op 3 0 (.op 0 4 (.op 1 4 (.op 2 0 (.op 4 0 (.op 5 3 (.op 6 2 .nil)))))))),(16,(.op 3 0 (.op 0 4 (.op 1 4 (.op 2 0 (.op 4 0 (.op 5 3 (.op 6 2 .nil)))))))),(28,(.op 0 4 (.op 2 4 (.op 3 4 (.or (.op 1 3 (.op 4 2 (.op 5 2 (.op 6 2 (.op 7 2 .nil))))) (.op 4 2 (.op 1 3 (.op 5 2 (.op 6 2 (.op 7 2 .nil))))))))))]⟩) (rs:=[ResultVar.tmp 4,ResultVar.tmp 5]) Tryz.mixed Tryz.func22 rfl rfl rfl (Nat.le_of_ble_eq_true rfl) (by kernel_rfl) fun H=>?_
  simp(disch:=omega)only[↓kX,kW,aS,simprocAttr,hk,b1]
  first|exact⟨rfl,Abs.Sub.refl _⟩|exact Abs.Sub.refl _
 ·have b1:((k.length:Int) != 32)=true:=nT (by omega)
  refine az (c:=⟨Tryz.prog,132,[(7,[0,0,0,0,2,2,2,2,2,2,2,2]),(12,[1,0,1,1,2,2,2,2]),(15,[0,0,0,0,0,2,2]),(16,[0,0,0,0,0,2,2]),(23,[1,1,1,0,0,2]),(26,[1,1,1,1,0,0,0,2]),(28,[1,0,1,1,2,2,2,2]),(29,[1,1,0,0,0,0,0]),(1000006,[9]),(1000013,[15]),(1000014,[16]),(1000015,[17]),(1000016,[18]),(1000017,[19]),(1000018,[20]),(1000019,[21]),(1000020,[22]),(1000021,[23]),(1000025,[24]),(4000029,[4,5]),(4000028,[6,9,10,11,12,13,14]),(4000026,[6,9,10,11,12,13,14]),(4000025,[6,9,10,11,12,13,14,19,21,24]),(4000023,[6,9,10,11,12,13,14,19,20,21]),(4000021,[6,9,10,11,12,13,14,19,20,21,22,23]),(4000020,[6,9,10,11,12,13,14,17,18,19,20,21,22]),(4000019,[6,9,10,11,12,13,14,17,18,19,20,21]),(4000018,[6,9,10,11,12,13,14,17,18,19,20]),(4000017,[6,9,10,11,12,13,14,16,17,18,19]),(4000016,[6,9,10,11,12,13,14,15,16,17,18]),(4000015,[6,9,10,11,12,13,14,15,16,17]),(4000014,[6,9,10,11,12,13,14,15,16]),(4000013,[6,9,10,11,12,13,14,15]),(4000012,[6,9,10,11,12,13,14]),(4000007,[6,9,10,11,12,13]),(4000006,[6,9]),(4000005,[6,8]),(4000003,[1,6]),(4000001,[0,1,32])],[1000038,1000040],[(7,(.op 0 0 (.op 1 0 (.op 2 0 (.op 3 0 (.or (.op 4 3 (.or (.op 5 3 (.or (.op 6 3 (.op 7 3 (.op 8 2 (.op 9 2 (.op 10 2 (.op 11 2 .nil)))))) (.op 7 3 (.op 6 3 (.op 8 2 (.op 9 2 (.op 10 2 (.op 11 2 .nil)))))))) (.or (.op 6 3 (.or (.op 5 3 (.op 7 3 (.op 8 2 (.op 9 2 (.op 10 2 (.op 11 2 .nil)))))) (.op 7 3 (.op 5 3 (.op 8 2 (.op 9 2 (.op 10 2 (.op 11 2 .nil)))))))) (.op 7 3 (.or (.op 5 3 (.op 6 3 (.op 8 2 (.op 9 2 (.op 10 2 (.op 11 2 .nil)))))) (.op 6 3 (.op 5 3 (.op 8 2 (.op 9 2 (.op 10 2 (.op 11 2 .nil))))))))))) (.or (.op 5 3 (.or (.op 4 3 (.or (.op 6 3 (.op 7 3 (.op 8 2 (.op 9 2 (.op 10 2 (.op 11 2 .nil)))))) (.op 7 3 (.op 6 3 (.op 8 2 (.op 9 2 (.op 10 2 (.op 11 2 .nil)))))))) (.or (.op 6 3 (.or (.op 4 3 (.op 7 3 (.op 8 2 (.op 9 2 (.op 10 2 (.op 11 2 .nil)))))) (.op 7 3 (.op 4 3 (.op 8 2 (.op 9 2 (.op 10 2 (.op 11 2 .nil)))))))) (.op 7 3 (.or (.op 4 3 (.op 6 3 (.op 8 2 (.op 9 2 (.op 10 2 (.op 11 2 .nil)))))) (.op 6 3 (.op 4 3 (.op 8 2 (.op 9 2 (.op 10 2 (.op 11 2 .nil))))))))))) (.or (.op 6 3 (.or (.op 4 3 (.or (.op 5 3 (.op 7 3 (.op 8 2 (.op 9 2 (.op 10 2 (.op 11 2 .nil)))))) (.op 7 3 (.op 5 3 (.op 8 2 (.op 9 2 (.op 10 2 (.op 11 2 .nil)))))))) (.or (.op 5 3 (.or (.op 4 3 (.op 7 3 (.op 8 2 (.op 9 2 (.op 10 2 (.op 11 2 .nil)))))) (.op 7 3 (.op 4 3 (.op 8 2 (.op 9 2 (.op 10 2 (.op 11 2 .nil)))))))) (.op 7 3 (.or (.op 4 3 (.op 5 3 (.op 8 2 (.op 9 2 (.op 10 2 (.op 11 2 .nil)))))) (.op 5 3 (.op 4 3 (.op 8 2 (.op 9 2 (.op 10 2 (.op 11 2 .nil))))))))))) (.op 7 3 (.or (.op 4 3 (.or (.op 5 3 (.op 6 3 (.op 8 2 (.op 9 2 (.op 10 2 (.op 11 2 .nil)))))) (.op 6 3 (.op 5 3 (.op 8 2 (.op 9 2 (.op 10 2 (.op 11 2 .nil)))))))) (.or (.op 5 3 (.or (.op 4 3 (.op 6 3 (.op 8 2 (.op 9 2 (.op 10 2 (.op 11 2 .nil)))))) (.op 6 3 (.op 4 3 (.op 8 2 (.op 9 2 (.op 10 2 (.op 11 2 .nil)))))))) (.op 6 3 (.or (.op 4 3 (.op 5 3 (.op 8 2 (.op 9 2 (.op 10 2 (.op 11 2 .nil)))))) (.op 5 3 (.op 4 3 (.op 8 2 (.op 9 2 (.op 10 2 (.op 11 2 .nil))))))))))))))))))),(12,(.op 0 4 (.op 2 4 (.op 3 4 (.or (.op 1 3 (.op 4 2 (.op 5 2 (.op 6 2 (.op 7 2 .nil))))) (.op 4 2 (.op 1 3 (.op 5 2 (.op 6 2 (.op 7 2 .nil)))))))))),(15,(.op 3 0 (.op 0 4 (.op 1 4 (.op 2 0 (.op 4 0 (.op 5 3 (.op 6 2 .nil)))))))),(16,(.op 3 0 (.op 0 4 (.op 1 4 (.op 2 0 (.op 4 0 (.op 5 3 (.op 6 2 .nil)))))))),(28,(.op 0 4 (.op 2 4 (.op 3 4 (.or (.op 1 3 (.op 4 2 (.op 5 2 (.op 6 2 (.op 7 2 .nil))))) (.op 4 2 (.op 1 3 (.op 5 2 (.op 6 2 (.op 7 2 .nil))))))))))]⟩) (rs:=[ResultVar.tmp 4,ResultVar.tmp 5]) Tryz.mixed Tryz.func22 rfl rfl rfl (Nat.le_of_ble_eq_true rfl) (by kernel_rfl) fun H=>?_
  simp(disch:=omega)only[↓kX,kW,aS,simprocAttr,b1]
  first|exact⟨rfl,Abs.Sub.refl _⟩|exact Abs.Sub.refl _
theorem gadd(a b:Nat)(ha:a<p25)(hb:b<p25):APure Tryz.prog 49 [fA a,fA b] (fA (nc a b)):=fadd_pure a b ha hb
theorem gsub(a b:Nat)(ha:a<p25)(hb:b<p25):APure Tryz.prog 50 [fA a,fA b] (fA (nV a b)):=by
 have h:=fsub_pure a b ha hb
 unfold nV
 rw[Nat.mod_eq_of_lt hb]
 exact h
theorem qy(a b:Nat)(ha:a<p25)(hb:b<p25):APure Tryz.prog 51 [fA a,fA b] (fA (mQ a b)):=rW a b ha hb
abbrev cX(n:Nat):AObj:=.cells (lM (lJ n)) 46 16
theorem step_p(x:Nat)(s:L4):(Go.Nam.stepL x s).a<p25∧(Go.Nam.stepL x s).b<p25∧(Go.Nam.stepL x s).c<p25∧(Go.Nam.stepL x s).d<p25:=⟨fmul_lt _ _,fmul_lt _ _,fmul_lt _ _,fmul_lt _ _⟩
theorem swap_p(bit:Nat)(s:L4)(h:s.a<p25∧s.b<p25∧s.c<p25∧s.d<p25):(my bit s).a<p25∧(my bit s).b<p25∧(my bit s).c<p25∧(my bit s).d<p25:=by
 unfold my
 split
 ·exact h
 ·exact⟨h.2.2.1,h.2.2.2,h.1,h.2.1⟩
theorem climb_p(x:Nat)(bit:Nat→Nat)(s:L4)(h:s.a<p25∧s.b<p25∧s.c<p25∧s.d<p25):∀i,(mY x bit s i).a<p25∧(mY x bit s i).b<p25∧(mY x bit s i).c<p25∧(mY x bit s i).d<p25
 |0=>h
 |i+1=>by
  rw[sV]
  exact swap_p _ _ (step_p _ _)
theorem red_first(x:Nat):(⟨1,0,x,1⟩:L4).red=⟨1,0,x % p25,1⟩:=by
 unfold L4.red
 rw[show 1 % p25=1 by decide,show 0 % p25=0 by decide]
theorem dmult_pure(k u:List UInt8)(hk:k.length=32)(hu:u.length=32):APure Tryz.prog 22 [eu k,eu u] (.tup [eu (lQ 32 (oH (oI k u))),.sc (.int .i64 0)]):=by
 have cC:=dclamp_pure k hk
 have hcl:=ni k
 rw[hk]at hcl
 have b1:((k.length:Int) != 32)=false:=by rw[hk];rfl
 have b2:((u.length:Int) != 32)=false:=by rw[hu];rfl
 have hel:=gz u
 have a31:=nX (l:=u) (i:=31) (by omega)
 have p31:=oT (l:=u) (i:=31) (b:=u.getD 31 0 % 128) (by omega)
 have n31:((u.getD 31 0).toNat % 128:Nat)=(u.getD 31 0 % 128).toNat:=by simp
 have w31:IntKind.u8.wrap ((u.getD 31 0 % 128).toNat:Int)=((u.getD 31 0 % 128).toNat:Int):=wrapU8 (by have:=(u.getD 31 0 % 128).toNat_lt;omega)
 have hLl:(u.set 31 (u.getD 31 0 % 128)).length=32:=by rw[List.length_set,hu]
 have c1:=qj (u.set 31 (u.getD 31 0 % 128)) (by rw[hLl];decide)
 rw[Go.Nam.numL_top u hu]at c1
 generalize u.set 31 (u.getD 31 0 % 128)=UL at *
 generalize u.getD 31 0 % 128=y2 at *
 generalize u.getD 31 0=y1 at *
 have hxB:lY u % 57896044618658097711785492504343953926634992332820282019728792003956564819968<18446744073709551616^4:=Nat.lt_trans (Nat.mod_lt _ (by decide)) (by decide)
 unfold oI
 generalize lY u % 57896044618658097711785492504343953926634992332820282019728792003956564819968=x at *
 have c2:=of_pure x
 have c3:=fof_pure x hxB
 have hULe:=gz UL
 have sl:=nU
 have st:=mz
 have zx:=fun x=>nO (sl x)
 have pa:∀x y,bG (lM (lJ x)) 0 (lM (lJ y))=lM (lJ y):=fun x y=>oX (by rw[sl,sl])
 unfold eu at *
 rw[hcl]at cC
 rw[hLl]at c1
 refine az (c:=⟨Tryz.prog,132,[(7,[0,0,0,0,2,2,2,2,2,2,2,2]),(12,[1,0,1,1,2,2,2,2]),(15,[0,0,0,0,0,2,2]),(16,[0,0,0,0,0,2,2]),(23,[1,1,1,0,0,2]),(26,[1,1,1,1,0,0,0,2]),(28,[1,0,1,1,2,2,2,2]),(29,[1,1,0,0,0,0,0]),(1000006,[9]),(1000013,[15]),(1000014,[16]),(1000015,[17]),(1000016,[18]),(1000017,[19]),(1000018,[20]),(1000019,[21]),(1000020,[22]),(1000021,[23]),(1000025,[24]),(4000029,[4,5]),(4000028,[6,9,10,11,12,13,14]),(4000026,[6,9,10,11,12,13,14]),(4000025,[6,9,10,11,12,13,14,19,21,24]),(4000023,[6,9,10,11,12,13,14,19,20,21]),(4000021,[6,9,10,11,12,13,14,19,20,21,22,23]),(4000020,[6,9,10,11,12,13,14,17,18,19,20,21,22]),(4000019,[6,9,10,11,12,13,14,17,18,19,20,21]),(4000018,[6,9,10,11,12,13,14,17,18,19,20]),(4000017,[6,9,10,11,12,13,14,16,17,18,19]),(4000016,[6,9,10,11,12,13,14,15,16,17,18]),(4000015,[6,9,10,11,12,13,14,15,16,17]),(4000014,[6,9,10,11,12,13,14,15,16]),(4000013,[6,9,10,11,12,13,14,15]),(4000012,[6,9,10,11,12,13,14]),(4000007,[6,9,10,11,12,13]),(4000006,[6,9]),(4000005,[6,8]),(4000003,[1,6]),(4000001,[0,1,32])],[1000038,1000040],[(7,(.op 0 0 (.op 1 0 (.op 2 0 (.op 3 0 (.or (.op 4 3 (.or (.op 5 3 (.or (.op 6 3 (.op 7 3 (.op 8 2 (.op 9 2 (.op 10 2 (.op 11 2 .nil)))))) (.op 7 3 (.op 6 3 (.op 8 2 (.op 9 2 (.op 10 2 (.op 11 2 .nil)))))))) (.or (.op 6 3 (.or (.op 5 3 (.op 7 3 (.op 8 2 (.op 9 2 (.op 10 2 (.op 11 2 .nil)))))) (.op 7 3 (.op 5 3 (.op 8 2 (.op 9 2 (.op 10 2 (.op 11 2 .nil)))))))) (.op 7 3 (.or (.op 5 3 (.op 6 3 (.op 8 2 (.op 9 2 (.op 10 2 (.op 11 2 .nil)))))) (.op 6 3 (.op 5 3 (.op 8 2 (.op 9 2 (.op 10 2 (.op 11 2 .nil))))))))))) (.or (.op 5 3 (.or (.op 4 3 (.or (.op 6 3 (.op 7 3 (.op 8 2 (.op 9 2 (.op 10 2 (.op 11 2 .nil)))))) (.op 7 3 (.op 6 3 (.op 8 2 (.op 9 2 (.op 10 2 (.op 11 2 .nil)))))))) (.or (.op 6 3 (.or (.op 4 3 (.op 7 3 (.op 8 2 (.op 9 2 (.op 10 2 (.op 11 2 .nil)))))) (.op 7 3 (.op 4 3 (.op 8 2 (.op 9 2 (.op 10 2 (.op 11 2 .nil)))))))) (.op 7 3 (.or (.op 4 3 (.op 6 3 (.op 8 2 (.op 9 2 (.op 10 2 (.op 11 2 .nil)))))) (.op 6 3 (.op 4 3 (.op 8 2 (.op 9 2 (.op 10 2 (.op 11 2 .nil))))))))))) (.or (.op 6 3 (.or (.op 4 3 (.or (.op 5 3 (.op 7 3 (.op 8 2 (.op 9 2 (.op 10 2 (.op 11 2 .nil)))))) (.op 7 3 (.op 5 3 (.op 8 2 (.op 9 2 (.op 10 2 (.op 11 2 .nil)))))))) (.or (.op 5 3 (.or (.op 4 3 (.op 7 3 (.op 8 2 (.op 9 2 (.op 10 2 (.op 11 2 .nil)))))) (.op 7 3 (.op 4 3 (.op 8 2 (.op 9 2 (.op 10 2 (.op 11 2 .nil)))))))) (.op 7 3 (.or (.op 4 3 (.op 5 3 (.op 8 2 (.op 9 2 (.op 10 2 (.op 11 2 .nil)))))) (.op 5 3 (.op 4 3 (.op 8 2 (.op 9 2 (.op 10 2 (.op 11 2 .nil))))))))))) (.op 7 3 (.or (.op 4 3 (.or (.op 5 3 (.op 6 3 (.op 8 2 (.op 9 2 (.op 10 2 (.op 11 2 .nil)))))) (.op 6 3 (.op 5 3 (.op 8 2 (.op 9 2 (.op 10 2 (.op 11 2 .nil)))))))) (.or (.op 5 3 (.or (.op 4 3 (.op 6 3 (.op 8 2 (.op 9 2 (.op 10 2 (.op 11 2 .nil)))))) (.op 6 3 (.op 4 3 (.op 8 2 (.op 9 2 (.op 10 2 (.op 11 2 .nil)))))))) (.op 6 3 (.or (.op 4 3 (.op 5 3 (.op 8 2 (.op 9 2 (.op 10 2 (.op 11 2 .nil)))))) (.op 5 3 (.op 4 3 (.op 8 2 (.op 9 2 (.op 10 2 (.op 11 2 .nil))))))))))))))))))),(12,(.op 0 4 (.op 2 4 (.op 3 4 (.or (.op 1 3 (.op 4 2 (.op 5 2 (.op 6 2 (.op 7 2 .nil))))) (.op 4 2 (.op 1 3 (.op 5 2 (.op 6 2 (.op 7 2 .nil)))))))))),(15,(.op 3 0 (.op 0 4 (.op 1 4 (.op 2 0 (.op 4 0 (.op 5 3 (.op 6 2 .nil)))))))),(16,(.op 3 0 (.op 0 4 (.op 1 4 (.op 2 0 (.op 4 0 (.op 5 3 (.op 6 2 .nil)))))))),(28,(.op 0 4 (.op 2 4 (.op 3 4 (.or (.op 1 3 (.op 4 2 (.op 5 2 (.op 6 2 (.op 7 2 .nil))))) (.op 4 2 (.op 1 3 (.op 5 2 (.op 6 2 (.op 7 2 .nil))))))))))]⟩) (rs:=[ResultVar.tmp 4,ResultVar.tmp 5]) Tryz.mixed Tryz.func22 rfl rfl rfl (Nat.le_of_ble_eq_true rfl) (by kernel_rfl) fun H=>?_
 simp(disch:=omega)only[↓kX,kW,aS,simprocAttr,b1,b2]
 first|refine CallK.p (cC) ?_|refine CallP.i (cC) ?_
 simp(disch:=omega)only[↓kX,kW,aS,simprocAttr]
 intro kz hkz0 hkz kw hkw
 have hwn:H kw=none:=by
  rcases hkw with rfl|⟨_,h⟩
  ·exact hkz
  ·exact am h
 try rw[ef hkz]
 simp(disch:=omega)only[↓kX,kW,aS,simprocAttr,set_get,set_set,hel,hu,a31,p31,n31,w31,jd,hULe,hLl]
 refine CallK.i (give_row hLl.symm c1 hwn) ?_
 rintro v' E' ⟨rfl,rfl⟩
 simp(disch:=omega)only[↓kX,kW,aS,simprocAttr]
 first|refine CallK.p (c2) ?_|refine CallP.i (c2) ?_
 simp(disch:=omega)only[↓kX,kW,aS,simprocAttr]
 have i0:=nJ 0 (by decide)
 have i1:=nJ 1 (by decide)
 unfold fA at *
 first|refine CallK.p (c3) ?_|refine CallP.i (c3) ?_
 simp(disch:=omega)only[↓kX,kW,aS,simprocAttr,sl,st,ke]
 intro k9 hk90 hk9
 rw[zx,aj hk9]
 refine eI00 (fun σ F=>∃bA bB bC bD,σ 6=.imm 0 (bw (mu k)) 32∧σ 9=.ip (lM (lJ (x % p25))) 0∧σ 10=.ptr bA 0∧σ 11=.ptr bB 0∧σ 12=.ptr bC 0∧σ 13=.ptr bD 0∧D4 E' bA bB bC bD∧F=F4 E' bA bB bC bD (cX 1) (cX 0) (cX (x % p25)) (cX 1)) ?_ ?_
 ·simp(disch:=omega)only[↓kX,kW,aS,simprocAttr,sl,st,ke]
  first|refine CallK.p (i1) ?_|refine CallP.i (i1) ?_
  simp(disch:=omega)only[↓kX,kW,aS,simprocAttr,sl,st,ke]
  first|refine CallK.p (i0) ?_|refine CallP.i (i0) ?_
  simp(disch:=omega)only[↓kX,kW,aS,simprocAttr,sl,st,ke]
  first|refine CallK.p (i1) ?_|refine CallP.i (i1) ?_
  simp(disch:=omega)only[↓kX,kW,aS,simprocAttr,sl,st,ke]
  all_goals (repeat' (refine And.intro ?_ ?_))
  all_goals (intro ka ha0 ha)
  all_goals (repeat' (refine And.intro ?_ ?_))
  all_goals (intro kb hb0 hb)
  all_goals (repeat' (refine And.intro ?_ ?_))
  all_goals (intro kc hc0 hc kd hd0 hd)
  all_goals
   have d:=D4.of4 ha hb hc hd
   have hF:∀X Y Z W,(((E'.set ka X).set kb Y).set kc Z).set kd W=F4 E' ka kb kc kd X Y Z W:=fun _ _ _ _=>rfl
   rw[hF]
   simp(disch:=omega)only[↓kX,kW,aS,simprocAttr,hF,d.getA,d.getR,d.getW,D4.getS,d.setA,d.setR,d.setW,D4.setS,sl,st,zx]
  all_goals
   refine⟨_,_,_,_,rfl,rfl,rfl,rfl,?_,?_⟩
   ·constructor<;>first|exact d.na|exact d.nr|exact d.nw|exact d.ns|exact d.e1|exact d.e2|exact d.e3|exact d.e4|exact d.e5|exact d.e6|exact d.e1.symm|exact d.e2.symm|exact d.e3.symm|exact d.e4.symm|exact d.e5.symm|exact d.e6.symm
   ·refine F4.same ?_ ?_ ?_ ?_ ?_ (fun z h1 h2 h3 h4=>d.else _ _ _ _ (by assumption) (by assumption) (by assumption) (by assumption))
    ·constructor<;>first|exact d.na|exact d.nr|exact d.nw|exact d.ns|exact d.e1|exact d.e2|exact d.e3|exact d.e4|exact d.e5|exact d.e6|exact d.e1.symm|exact d.e2.symm|exact d.e3.symm|exact d.e4.symm|exact d.e5.symm|exact d.e6.symm
    all_goals first|exact d.getA _ _ _ _|exact d.getR _ _ _ _|exact d.getW _ _ _ _|exact D4.getS _ _ _ _
 ·rintro σ' F ⟨bA,bB,bC,bD,g6,g9,g10,g11,g12,g13,d,rfl⟩
  have cB:=fun i (h:i<256)=>dbit_pure (mu k) i h hcl
  simp only[Go.Nam.numL_bit]at cB
  rw[←Go.Nam.climbL_red x _ _ 255 (by decide),red_first]
  obtain⟨bit,hbit⟩:∃bit:Nat→Nat,bit=fun i=>lY (mu k)/2^i % 2:=⟨_,rfl⟩
  have hb':∀i,lY (mu k)/2^i % 2=bit i:=fun i=>by rw[hbit]
  have hb1:∀i,bit i=0∨bit i=1:=fun i=>by rw[←hb'];omega
  rw[←hbit]
  simp only[hb']at cB
  have hwl:x % p25<p25:=Nat.mod_lt _ (by decide)
  have hS0:mY (x % p25) bit ⟨1,0,x % p25,1⟩ 0=⟨1,0,x % p25,1⟩:=rfl
  have hS1:=fun i=>sV (x % p25) bit ⟨1,0,x % p25,1⟩ i
  have hSb:=fun i=>climb_p (x % p25) bit ⟨1,0,x % p25,1⟩ ⟨show 1<p25 by decide,show 0<p25 by decide,hwl,show 1<p25 by decide⟩ i
  unfold eu at cB
  rw[hcl]at cB
  clear hbit hb' a31 p31 n31 w31 c1 c2 c3 hxB
  generalize mY (x % p25) bit ⟨1,0,x % p25,1⟩=S at *
  generalize x % p25=w at *
  generalize mu k=CK at *
  simp(disch:=omega)only[↓kX,kW,aS,simprocAttr,g6,g9,g10,g11,g12,g13]
  refine br (c:=⟨Tryz.prog,132,[(7,[0,0,0,0,2,2,2,2,2,2,2,2]),(12,[1,0,1,1,2,2,2,2]),(15,[0,0,0,0,0,2,2]),(16,[0,0,0,0,0,2,2]),(23,[1,1,1,0,0,2]),(26,[1,1,1,1,0,0,0,2]),(28,[1,0,1,1,2,2,2,2]),(29,[1,1,0,0,0,0,0]),(1000006,[9]),(1000013,[15]),(1000014,[16]),(1000015,[17]),(1000016,[18]),(1000017,[19]),(1000018,[20]),(1000019,[21]),(1000020,[22]),(1000021,[23]),(1000025,[24]),(4000029,[4,5]),(4000028,[6,9,10,11,12,13,14]),(4000026,[6,9,10,11,12,13,14]),(4000025,[6,9,10,11,12,13,14,19,21,24]),(4000023,[6,9,10,11,12,13,14,19,20,21]),(4000021,[6,9,10,11,12,13,14,19,20,21,22,23]),(4000020,[6,9,10,11,12,13,14,17,18,19,20,21,22]),(4000019,[6,9,10,11,12,13,14,17,18,19,20,21]),(4000018,[6,9,10,11,12,13,14,17,18,19,20]),(4000017,[6,9,10,11,12,13,14,16,17,18,19]),(4000016,[6,9,10,11,12,13,14,15,16,17,18]),(4000015,[6,9,10,11,12,13,14,15,16,17]),(4000014,[6,9,10,11,12,13,14,15,16]),(4000013,[6,9,10,11,12,13,14,15]),(4000012,[6,9,10,11,12,13,14]),(4000007,[6,9,10,11,12,13]),(4000006,[6,9]),(4000005,[6,8]),(4000003,[1,6]),(4000001,[0,1,32])],[1000038,1000040],[(7,(.op 0 0 (.op 1 0 (.op 2 0 (.op 3 0 (.or (.op 4 3 (.or (.op 5 3 (.or (.op 6 3 (.op 7 3 (.op 8 2 (.op 9 2 (.op 10 2 (.op 11 2 .nil)))))) (.op 7 3 (.op 6 3 (.op 8 2 (.op 9 2 (.op 10 2 (.op 11 2 .nil)))))))) (.or (.op 6 3 (.or (.op 5 3 (.op 7 3 (.op 8 2 (.op 9 2 (.op 10 2 (.op 11 2 .nil)))))) (.op 7 3 (.op 5 3 (.op 8 2 (.op 9 2 (.op 10 2 (.op 11 2 .nil)))))))) (.op 7 3 (.or (.op 5 3 (.op 6 3 (.op 8 2 (.op 9 2 (.op 10 2 (.op 11 2 .nil)))))) (.op 6 3 (.op 5 3 (.op 8 2 (.op 9 2 (.op 10 2 (.op 11 2 .nil))))))))))) (.or (.op 5 3 (.or (.op 4 3 (.or (.op 6 3 (.op 7 3 (.op 8 2 (.op 9 2 (.op 10 2 (.op 11 2 .nil)))))) (.op 7 3 (.op 6 3 (.op 8 2 (.op 9 2 (.op 10 2 (.op 11 2 .nil)))))))) (.or (.op 6 3 (.or (.op 4 3 (.op 7 3 (.op 8 2 (.op 9 2 (.op 10 2 (.op 11 2 .nil)))))) (.op 7 3 (.op 4 3 (.op 8 2 (.op 9 2 (.op 10 2 (.op 11 2 .nil)))))))) (.op 7 3 (.or (.op 4 3 (.op 6 3 (.op 8 2 (.op 9 2 (.op 10 2 (.op 11 2 .nil)))))) (.op 6 3 (.op 4 3 (.op 8 2 (.op 9 2 (.op 10 2 (.op 11 2 .nil))))))))))) (.or (.op 6 3 (.or (.op 4 3 (.or (.op 5 3 (.op 7 3 (.op 8 2 (.op 9 2 (.op 10 2 (.op 11 2 .nil)))))) (.op 7 3 (.op 5 3 (.op 8 2 (.op 9 2 (.op 10 2 (.op 11 2 .nil)))))))) (.or (.op 5 3 (.or (.op 4 3 (.op 7 3 (.op 8 2 (.op 9 2 (.op 10 2 (.op 11 2 .nil)))))) (.op 7 3 (.op 4 3 (.op 8 2 (.op 9 2 (.op 10 2 (.op 11 2 .nil)))))))) (.op 7 3 (.or (.op 4 3 (.op 5 3 (.op 8 2 (.op 9 2 (.op 10 2 (.op 11 2 .nil)))))) (.op 5 3 (.op 4 3 (.op 8 2 (.op 9 2 (.op 10 2 (.op 11 2 .nil))))))))))) (.op 7 3 (.or (.op 4 3 (.or (.op 5 3 (.op 6 3 (.op 8 2 (.op 9 2 (.op 10 2 (.op 11 2 .nil)))))) (.op 6 3 (.op 5 3 (.op 8 2 (.op 9 2 (.op 10 2 (.op 11 2 .nil)))))))) (.or (.op 5 3 (.or (.op 4 3 (.op 6 3 (.op 8 2 (.op 9 2 (.op 10 2 (.op 11 2 .nil)))))) (.op 6 3 (.op 4 3 (.op 8 2 (.op 9 2 (.op 10 2 (.op 11 2 .nil)))))))) (.op 6 3 (.or (.op 4 3 (.op 5 3 (.op 8 2 (.op 9 2 (.op 10 2 (.op 11 2 .nil)))))) (.op 5 3 (.op 4 3 (.op 8 2 (.op 9 2 (.op 10 2 (.op 11 2 .nil))))))))))))))))))),(12,(.op 0 4 (.op 2 4 (.op 3 4 (.or (.op 1 3 (.op 4 2 (.op 5 2 (.op 6 2 (.op 7 2 .nil))))) (.op 4 2 (.op 1 3 (.op 5 2 (.op 6 2 (.op 7 2 .nil)))))))))),(15,(.op 3 0 (.op 0 4 (.op 1 4 (.op 2 0 (.op 4 0 (.op 5 3 (.op 6 2 .nil)))))))),(16,(.op 3 0 (.op 0 4 (.op 1 4 (.op 2 0 (.op 4 0 (.op 5 3 (.op 6 2 .nil)))))))),(28,(.op 0 4 (.op 2 4 (.op 3 4 (.or (.op 1 3 (.op 4 2 (.op 5 2 (.op 6 2 (.op 7 2 .nil))))) (.op 4 2 (.op 1 3 (.op 5 2 (.op 6 2 (.op 7 2 .nil))))))))))]⟩) Tryz.mixed (by kernel_rfl) (fun m σ F=>∃(i:Nat) (z:Int),i+m=255∧z=(m:Int)-1∧σ 6=.imm 0 (bw CK) 32∧σ 9=.ip (lM (lJ w)) 0∧σ 10=.ptr bA 0∧σ 11=.ptr bB 0∧σ 12=.ptr bC 0∧σ 13=.ptr bD 0∧σ 14=.sc (.int .i64 z)∧F=F4 E' bA bB bC bD (cX (S i).a) (cX (S i).b) (cX (S i).c) (cX (S i).d)) 255 ?_ ?_
  ·refine⟨0,254,by omega,by omega,?_⟩
   rw[hS0]
   simp(disch:=omega)only[↓kX,kW,aS,simprocAttr,g6,g9,g10,g11,g12,g13]
   first|rfl|exact⟨rfl,rfl⟩|trace_state
  ·rintro m σ F ⟨i,z,hi,hz,g6,g9,g10,g11,g12,g13,g14,rfl⟩
   have hb:=hSb i
   by_cases hm0:m=0
   ·subst hm0
    obtain rfl:i=255:=by omega
    have d2:decide ((0:Int)≤z)=false:=dF (by omega)
    generalize S 255=s at *
    have m1:=finv_pure s.b hb.2.1
    have hv:s.b^(p25-2) % p25<p25:=Nat.mod_lt _ (by decide)
    have m2:=qy s.a (s.b^(p25-2) % p25) hb.1 hv
    unfold oH
    generalize s.b^(p25-2) % p25=v at *
    have m3:=fencode_pure (mQ s.a v) (fmul_lt _ _)
    generalize mQ s.a v=r at *
    unfold fA at *
    simp(disch:=omega)only[↓kX,kW,aS,simprocAttr,g6,g9,g10,g11,g12,g13,g14,d2,d.getA,d.getR,d.getW,D4.getS,d.setA,d.setR,d.setW,D4.setS,sl,st,ke]
    first|refine CallK.p (m1) ?_|refine CallP.i (m1) ?_
    simp(disch:=omega)only[↓kX,kW,aS,simprocAttr,g6,g9,g10,g11,g12,g13,g14,d.getA,d.getR,d.getW,D4.getS,d.setA,d.setR,d.setW,D4.setS,sl,st,ke]
    first|refine CallK.p (m2) ?_|refine CallP.i (m2) ?_
    simp(disch:=omega)only[↓kX,kW,aS,simprocAttr,g6,g9,g10,g11,g12,g13,g14,d.getA,d.getR,d.getW,D4.getS,d.setA,d.setR,d.setW,D4.setS,sl,st,ke]
    first|refine CallK.p (m3) ?_|refine CallP.i (m3) ?_
    simp(disch:=omega)only[↓kX,kW,aS,simprocAttr,g6,g9,g10,g11,g12,g13,g14,d.getA,d.getR,d.getW,D4.getS,d.setA,d.setR,d.setW,D4.setS,sl,st,ke]
    first|exact d.sub _ _ _ _|exact⟨rfl,d.sub _ _ _ _⟩|trace_state
   ·obtain⟨j,rfl⟩:∃j,m=j+1:=⟨m-1,by omega⟩
    obtain rfl:z=(j:Int):=by omega
    have d2:decide ((0:Int)≤(j:Int))=true:=dT (by omega)
    have w2:IntKind.i64.wrap ((j:Int)-1)=(j:Int)-1:=iw (by omega)
    have c4:=cB j (by omega)
    have hn:=hS1 i
    rw[show 254-i=j by omega]at hn
    have hbn:=hSb (i+1)
    generalize hsn:S (i+1)=sn at *
    generalize S i=s at *
    have hbj:=hb1 j
    generalize bit j=bt at *
    obtain⟨a,b,c,e⟩:=s
    have u1:=nJ 65535 (by decide)
    have u2:=nJ 56130 (by decide)
    rcases hbj with rfl|rfl
    ·have hb0:(((0:Nat):Int) == 1)=false:=rfl
     simp(disch:=omega)only[↓kX,kW,aS,simprocAttr,g6,g9,g10,g11,g12,g13,g14,d2]
     first|refine CallK.p (c4) ?_|refine CallP.i (c4) ?_
     simp(disch:=omega)only[↓kX,kW,aS,simprocAttr,g6,g9,g10,g11,g12,g13,g14,hb0,d.getA,d.getR,d.getW,D4.getS,d.setA,d.setR,d.setW,D4.setS,sl,st,pa,ke]
     obtain⟨p,hp⟩:∃p,p=a:=⟨_,rfl⟩
     obtain⟨q,hq⟩:∃q,q=b:=⟨_,rfl⟩
     obtain⟨r,hr⟩:∃r,r=c:=⟨_,rfl⟩
     obtain⟨v,hv⟩:∃v,v=e:=⟨_,rfl⟩
     subst hp hq hr hv
     rw[show my 0 ⟨p,q,r,v⟩=⟨p,q,r,v⟩ from rfl]at hn
     obtain⟨hp,hq,hr,hv⟩:p<p25∧q<p25∧r<p25∧v<p25:=hb
     have cA1:=gadd p q hp hq
     have cS1:=gsub p q hp hq
     have cS2:=gsub r v hr hv
     have cA2:=gadd r v hr hv
     unfold Go.Nam.stepL at hn
     simp only at hn
     have l1:=oE p q
     have l2:=oD p q
     have l3:=oD r v
     have l4:=oE r v
     generalize nc p q=A at *
     generalize nV p q=B at *
     generalize nV r v=C at *
     generalize nc r v=D at *
     have cM1:=qy C A l3 l1
     have cM2:=qy D B l4 l2
     have cM3:=qy A A l1 l1
     have cM4:=qy B B l2 l2
     have l5:=fmul_lt C A
     have l6:=fmul_lt D B
     have l7:=fmul_lt A A
     have l8:=fmul_lt B B
     generalize mQ C A=da at *
     generalize mQ D B=cb at *
     generalize mQ A A=aa at *
     generalize mQ B B=bb at *
     have cS3:=gsub aa bb l7 l8
     have cA3:=gadd da cb l5 l6
     have cS4:=gsub da cb l5 l6
     have l9:=oD aa bb
     have l10:=oE da cb
     have l11:=oD da cb
     generalize nV aa bb=ee at *
     generalize nc da cb=ss at *
     generalize nV da cb=dd at *
     have cM5:=qy ss ss l10 l10
     have cM6:=qy dd dd l11 l11
     have l12:=fmul_lt dd dd
     generalize mQ dd dd=hh at *
     have cM7:=qy w hh hwl l12
     have cM8:=qy aa bb l7 l8
     have cA4:=gadd 65535 56130 (by decide) (by decide)
     rw[show nc 65535 56130=121665 from rfl]at cA4
     have cM9:=qy 121665 ee (by decide) l9
     have l13:=fmul_lt 121665 ee
     generalize mQ 121665 ee=ff at *
     have cA5:=gadd aa ff l7 l13
     have l14:=oE aa ff
     generalize nc aa ff=gg at *
     have cM10:=qy ee gg l9 l14
     generalize mQ aa bb=x2 at *
     generalize mQ ee gg=z2 at *
     generalize mQ ss ss=x3 at *
     generalize mQ w hh=z3 at *
     clear l1 l2 l3 l4 l5 l6 l7 l8 l9 l10 l11 l12 l13 l14 hp hq hr hv
     unfold fA at *
     first|refine CallK.p (cA1) ?_|refine CallP.i (cA1) ?_
     simp(disch:=omega)only[↓kX,kW,aS,simprocAttr,g6,g9,g10,g11,g12,g13,g14,d.getA,d.getR,d.getW,D4.getS,d.setA,d.setR,d.setW,D4.setS,sl,st,pa,ke]
     intro k15 hk150 hk15
     rw[zx,aj hk15]
     clear hk15 hk150
     try simp(disch:=omega)only[↓kX,kW,aS,simprocAttr,g6,g9,g10,g11,g12,g13,g14,d.getA,d.getR,d.getW,D4.getS,d.setA,d.setR,d.setW,D4.setS,sl,st,pa,ke]
     first|refine CallK.p (cS1) ?_|refine CallP.i (cS1) ?_
     simp(disch:=omega)only[↓kX,kW,aS,simprocAttr,g6,g9,g10,g11,g12,g13,g14,d.getA,d.getR,d.getW,D4.getS,d.setA,d.setR,d.setW,D4.setS,sl,st,pa,ke]
     intro k16 hk160 hk16
     rw[zx,aj hk16]
     clear hk16 hk160
     refine jk ?_
     simp(disch:=omega)only[↓kX,kW,aS,simprocAttr,g6,g9,g10,g11,g12,g13,g14,d.getA,d.getR,d.getW,D4.getS,d.setA,d.setR,d.setW,D4.setS,sl,st,pa,ke]
     first|refine CallK.p (cS2) ?_|refine CallP.i (cS2) ?_
     simp(disch:=omega)only[↓kX,kW,aS,simprocAttr,g6,g9,g10,g11,g12,g13,g14,d.getA,d.getR,d.getW,D4.getS,d.setA,d.setR,d.setW,D4.setS,sl,st,pa,ke]
     first|refine CallK.p (cM1) ?_|refine CallP.i (cM1) ?_
     simp(disch:=omega)only[↓kX,kW,aS,simprocAttr,g6,g9,g10,g11,g12,g13,g14,d.getA,d.getR,d.getW,D4.getS,d.setA,d.setR,d.setW,D4.setS,sl,st,pa,ke]
     intro k17 hk170 hk17
     rw[zx,aj hk17]
     clear hk17 hk170
     refine jk ?_
     simp(disch:=omega)only[↓kX,kW,aS,simprocAttr,g6,g9,g10,g11,g12,g13,g14,d.getA,d.getR,d.getW,D4.getS,d.setA,d.setR,d.setW,D4.setS,sl,st,pa,ke]
     first|refine CallK.p (cA2) ?_|refine CallP.i (cA2) ?_
     simp(disch:=omega)only[↓kX,kW,aS,simprocAttr,g6,g9,g10,g11,g12,g13,g14,d.getA,d.getR,d.getW,D4.getS,d.setA,d.setR,d.setW,D4.setS,sl,st,pa,ke]
     first|refine CallK.p (cM2) ?_|refine CallP.i (cM2) ?_
     simp(disch:=omega)only[↓kX,kW,aS,simprocAttr,g6,g9,g10,g11,g12,g13,g14,d.getA,d.getR,d.getW,D4.getS,d.setA,d.setR,d.setW,D4.setS,sl,st,pa,ke]
     intro k18 hk180 hk18
     rw[zx,aj hk18]
     clear hk18 hk180
     try simp(disch:=omega)only[↓kX,kW,aS,simprocAttr,g6,g9,g10,g11,g12,g13,g14,d.getA,d.getR,d.getW,D4.getS,d.setA,d.setR,d.setW,D4.setS,sl,st,pa,ke]
     first|refine CallK.p (cM3) ?_|refine CallP.i (cM3) ?_
     simp(disch:=omega)only[↓kX,kW,aS,simprocAttr,g6,g9,g10,g11,g12,g13,g14,d.getA,d.getR,d.getW,D4.getS,d.setA,d.setR,d.setW,D4.setS,sl,st,pa,ke]
     intro k19 hk190 hk19
     rw[zx,aj hk19]
     clear hk19 hk190
     try simp(disch:=omega)only[↓kX,kW,aS,simprocAttr,g6,g9,g10,g11,g12,g13,g14,d.getA,d.getR,d.getW,D4.getS,d.setA,d.setR,d.setW,D4.setS,sl,st,pa,ke]
     first|refine CallK.p (cM4) ?_|refine CallP.i (cM4) ?_
     simp(disch:=omega)only[↓kX,kW,aS,simprocAttr,g6,g9,g10,g11,g12,g13,g14,d.getA,d.getR,d.getW,D4.getS,d.setA,d.setR,d.setW,D4.setS,sl,st,pa,ke]
     intro k20 hk200 hk20
     rw[zx,aj hk20]
     clear hk20 hk200
     try simp(disch:=omega)only[↓kX,kW,aS,simprocAttr,g6,g9,g10,g11,g12,g13,g14,d.getA,d.getR,d.getW,D4.getS,d.setA,d.setR,d.setW,D4.setS,sl,st,pa,ke]
     first|refine CallK.p (cS3) ?_|refine CallP.i (cS3) ?_
     simp(disch:=omega)only[↓kX,kW,aS,simprocAttr,g6,g9,g10,g11,g12,g13,g14,d.getA,d.getR,d.getW,D4.getS,d.setA,d.setR,d.setW,D4.setS,sl,st,pa,ke]
     intro k21 hk210 hk21
     rw[zx,aj hk21]
     clear hk21 hk210
     try simp(disch:=omega)only[↓kX,kW,aS,simprocAttr,g6,g9,g10,g11,g12,g13,g14,d.getA,d.getR,d.getW,D4.getS,d.setA,d.setR,d.setW,D4.setS,sl,st,pa,ke]
     first|refine CallK.p (cA3) ?_|refine CallP.i (cA3) ?_
     simp(disch:=omega)only[↓kX,kW,aS,simprocAttr,g6,g9,g10,g11,g12,g13,g14,d.getA,d.getR,d.getW,D4.getS,d.setA,d.setR,d.setW,D4.setS,sl,st,pa,ke]
     intro k22 hk220 hk22
     rw[zx,aj hk22]
     clear hk22 hk220
     try simp(disch:=omega)only[↓kX,kW,aS,simprocAttr,g6,g9,g10,g11,g12,g13,g14,d.getA,d.getR,d.getW,D4.getS,d.setA,d.setR,d.setW,D4.setS,sl,st,pa,ke]
     first|refine CallK.p (cS4) ?_|refine CallP.i (cS4) ?_
     simp(disch:=omega)only[↓kX,kW,aS,simprocAttr,g6,g9,g10,g11,g12,g13,g14,d.getA,d.getR,d.getW,D4.getS,d.setA,d.setR,d.setW,D4.setS,sl,st,pa,ke]
     intro k23 hk230 hk23
     rw[zx,aj hk23]
     clear hk23 hk230
     try simp(disch:=omega)only[↓kX,kW,aS,simprocAttr,g6,g9,g10,g11,g12,g13,g14,d.getA,d.getR,d.getW,D4.getS,d.setA,d.setR,d.setW,D4.setS,sl,st,pa,ke]
     first|refine CallK.p (cM5) ?_|refine CallP.i (cM5) ?_
     simp(disch:=omega)only[↓kX,kW,aS,simprocAttr,g6,g9,g10,g11,g12,g13,g14,d.getA,d.getR,d.getW,D4.getS,d.setA,d.setR,d.setW,D4.setS,sl,st,pa,ke]
     first|refine CallK.p (cM6) ?_|refine CallP.i (cM6) ?_
     simp(disch:=omega)only[↓kX,kW,aS,simprocAttr,g6,g9,g10,g11,g12,g13,g14,d.getA,d.getR,d.getW,D4.getS,d.setA,d.setR,d.setW,D4.setS,sl,st,pa,ke]
     first|refine CallK.p (cM7) ?_|refine CallP.i (cM7) ?_
     simp(disch:=omega)only[↓kX,kW,aS,simprocAttr,g6,g9,g10,g11,g12,g13,g14,d.getA,d.getR,d.getW,D4.getS,d.setA,d.setR,d.setW,D4.setS,sl,st,pa,ke]
     first|refine CallK.p (cM8) ?_|refine CallP.i (cM8) ?_
     simp(disch:=omega)only[↓kX,kW,aS,simprocAttr,g6,g9,g10,g11,g12,g13,g14,d.getA,d.getR,d.getW,D4.getS,d.setA,d.setR,d.setW,D4.setS,sl,st,pa,ke]
     first|refine CallK.p (u1) ?_|refine CallP.i (u1) ?_
     simp(disch:=omega)only[↓kX,kW,aS,simprocAttr,g6,g9,g10,g11,g12,g13,g14,d.getA,d.getR,d.getW,D4.getS,d.setA,d.setR,d.setW,D4.setS,sl,st,pa,ke]
     first|refine CallK.p (u2) ?_|refine CallP.i (u2) ?_
     simp(disch:=omega)only[↓kX,kW,aS,simprocAttr,g6,g9,g10,g11,g12,g13,g14,d.getA,d.getR,d.getW,D4.getS,d.setA,d.setR,d.setW,D4.setS,sl,st,pa,ke]
     first|refine CallK.p (cA4) ?_|refine CallP.i (cA4) ?_
     simp(disch:=omega)only[↓kX,kW,aS,simprocAttr,g6,g9,g10,g11,g12,g13,g14,d.getA,d.getR,d.getW,D4.getS,d.setA,d.setR,d.setW,D4.setS,sl,st,pa,ke]
     intro k24 hk240 hk24
     rw[zx,aj hk24]
     clear hk24 hk240
     try simp(disch:=omega)only[↓kX,kW,aS,simprocAttr,g6,g9,g10,g11,g12,g13,g14,d.getA,d.getR,d.getW,D4.getS,d.setA,d.setR,d.setW,D4.setS,sl,st,pa,ke]
     first|refine CallK.p (cM9) ?_|refine CallP.i (cM9) ?_
     simp(disch:=omega)only[↓kX,kW,aS,simprocAttr,g6,g9,g10,g11,g12,g13,g14,d.getA,d.getR,d.getW,D4.getS,d.setA,d.setR,d.setW,D4.setS,sl,st,pa,ke]
     first|refine CallK.p (cA5) ?_|refine CallP.i (cA5) ?_
     simp(disch:=omega)only[↓kX,kW,aS,simprocAttr,g6,g9,g10,g11,g12,g13,g14,d.getA,d.getR,d.getW,D4.getS,d.setA,d.setR,d.setW,D4.setS,sl,st,pa,ke]
     first|refine CallK.p (cM10) ?_|refine CallP.i (cM10) ?_
     simp(disch:=omega)only[↓kX,kW,aS,simprocAttr,g6,g9,g10,g11,g12,g13,g14,d.getA,d.getR,d.getW,D4.getS,d.setA,d.setR,d.setW,D4.setS,sl,st,pa,ke]
     first|refine CallK.p (c4) ?_|refine CallP.i (c4) ?_
     simp(disch:=omega)only[↓kX,kW,aS,simprocAttr,g6,g9,g10,g11,g12,g13,g14,hb0,d.getA,d.getR,d.getW,D4.getS,d.setA,d.setR,d.setW,D4.setS,sl,st,pa,ke]
     exact⟨j,by omega,i+1,(j:Int)-1,by omega,rfl,rfl,by rw[hsn,hn];rfl⟩
    ·have hb0:(((1:Nat):Int) == 1)=true:=rfl
     simp(disch:=omega)only[↓kX,kW,aS,simprocAttr,g6,g9,g10,g11,g12,g13,g14,d2]
     first|refine CallK.p (c4) ?_|refine CallP.i (c4) ?_
     simp(disch:=omega)only[↓kX,kW,aS,simprocAttr,g6,g9,g10,g11,g12,g13,g14,hb0,d.getA,d.getR,d.getW,D4.getS,d.setA,d.setR,d.setW,D4.setS,sl,st,pa,ke]
     refine eI00 (fun σ F=>σ 6=.imm 0 (bw CK) 32∧σ 9=.ip (lM (lJ w)) 0∧σ 10=.ptr bA 0∧σ 11=.ptr bB 0∧σ 12=.ptr bC 0∧σ 13=.ptr bD 0∧σ 14=.sc (.int .i64 j)∧F=F4 E' bA bB bC bD (cX c) (cX e) (cX a) (cX b)) ?_ ?_
     ·simp(disch:=omega)only[↓kX,kW,aS,simprocAttr,g6,g9,g10,g11,g12,g13,g14,d.getA,d.getR,d.getW,D4.getS,d.setA,d.setR,d.setW,D4.setS,sl,st,pa,ke]
      first|exact⟨rfl,rfl⟩|rfl|trace_state
     clear g6 g9 g10 g11 g12 g13 g14
     rintro σ F ⟨g6,g9,g10,g11,g12,g13,g14,rfl⟩
     simp(disch:=omega)only[↓kX,kW,aS,simprocAttr,g6,g9,g10,g11,g12,g13,g14,d.getA,d.getR,d.getW,D4.getS,d.setA,d.setR,d.setW,D4.setS,sl,st,pa,ke]
     obtain⟨p,hp⟩:∃p,p=c:=⟨_,rfl⟩
     obtain⟨q,hq⟩:∃q,q=e:=⟨_,rfl⟩
     obtain⟨r,hr⟩:∃r,r=a:=⟨_,rfl⟩
     obtain⟨v,hv⟩:∃v,v=b:=⟨_,rfl⟩
     subst hp hq hr hv
     rw[show my 1 ⟨r,v,p,q⟩=⟨p,q,r,v⟩ from rfl]at hn
     obtain⟨hp,hq,hr,hv⟩:p<p25∧q<p25∧r<p25∧v<p25:=⟨hb.2.2.1,hb.2.2.2,hb.1,hb.2.1⟩
     have cA1:=gadd p q hp hq
     have cS1:=gsub p q hp hq
     have cS2:=gsub r v hr hv
     have cA2:=gadd r v hr hv
     unfold Go.Nam.stepL at hn
     simp only at hn
     have l1:=oE p q
     have l2:=oD p q
     have l3:=oD r v
     have l4:=oE r v
     generalize nc p q=A at *
     generalize nV p q=B at *
     generalize nV r v=C at *
     generalize nc r v=D at *
     have cM1:=qy C A l3 l1
     have cM2:=qy D B l4 l2
     have cM3:=qy A A l1 l1
     have cM4:=qy B B l2 l2
     have l5:=fmul_lt C A
     have l6:=fmul_lt D B
     have l7:=fmul_lt A A
     have l8:=fmul_lt B B
     generalize mQ C A=da at *
     generalize mQ D B=cb at *
     generalize mQ A A=aa at *
     generalize mQ B B=bb at *
     have cS3:=gsub aa bb l7 l8
     have cA3:=gadd da cb l5 l6
     have cS4:=gsub da cb l5 l6
     have l9:=oD aa bb
     have l10:=oE da cb
     have l11:=oD da cb
     generalize nV aa bb=ee at *
     generalize nc da cb=ss at *
     generalize nV da cb=dd at *
     have cM5:=qy ss ss l10 l10
     have cM6:=qy dd dd l11 l11
     have l12:=fmul_lt dd dd
     generalize mQ dd dd=hh at *
     have cM7:=qy w hh hwl l12
     have cM8:=qy aa bb l7 l8
     have cA4:=gadd 65535 56130 (by decide) (by decide)
     rw[show nc 65535 56130=121665 from rfl]at cA4
     have cM9:=qy 121665 ee (by decide) l9
     have l13:=fmul_lt 121665 ee
     generalize mQ 121665 ee=ff at *
     have cA5:=gadd aa ff l7 l13
     have l14:=oE aa ff
     generalize nc aa ff=gg at *
     have cM10:=qy ee gg l9 l14
     generalize mQ aa bb=x2 at *
     generalize mQ ee gg=z2 at *
     generalize mQ ss ss=x3 at *
     generalize mQ w hh=z3 at *
     clear l1 l2 l3 l4 l5 l6 l7 l8 l9 l10 l11 l12 l13 l14 hp hq hr hv
     unfold fA at *
     first|refine CallK.p (cA1) ?_|refine CallP.i (cA1) ?_
     simp(disch:=omega)only[↓kX,kW,aS,simprocAttr,g6,g9,g10,g11,g12,g13,g14,d.getA,d.getR,d.getW,D4.getS,d.setA,d.setR,d.setW,D4.setS,sl,st,pa,ke]
     intro k15 hk150 hk15
     rw[zx,aj hk15]
     clear hk15 hk150
     try simp(disch:=omega)only[↓kX,kW,aS,simprocAttr,g6,g9,g10,g11,g12,g13,g14,d.getA,d.getR,d.getW,D4.getS,d.setA,d.setR,d.setW,D4.setS,sl,st,pa,ke]
     first|refine CallK.p (cS1) ?_|refine CallP.i (cS1) ?_
     simp(disch:=omega)only[↓kX,kW,aS,simprocAttr,g6,g9,g10,g11,g12,g13,g14,d.getA,d.getR,d.getW,D4.getS,d.setA,d.setR,d.setW,D4.setS,sl,st,pa,ke]
     intro k16 hk160 hk16
     rw[zx,aj hk16]
     clear hk16 hk160
     refine jk ?_
     simp(disch:=omega)only[↓kX,kW,aS,simprocAttr,g6,g9,g10,g11,g12,g13,g14,d.getA,d.getR,d.getW,D4.getS,d.setA,d.setR,d.setW,D4.setS,sl,st,pa,ke]
     first|refine CallK.p (cS2) ?_|refine CallP.i (cS2) ?_
     simp(disch:=omega)only[↓kX,kW,aS,simprocAttr,g6,g9,g10,g11,g12,g13,g14,d.getA,d.getR,d.getW,D4.getS,d.setA,d.setR,d.setW,D4.setS,sl,st,pa,ke]
     first|refine CallK.p (cM1) ?_|refine CallP.i (cM1) ?_
     simp(disch:=omega)only[↓kX,kW,aS,simprocAttr,g6,g9,g10,g11,g12,g13,g14,d.getA,d.getR,d.getW,D4.getS,d.setA,d.setR,d.setW,D4.setS,sl,st,pa,ke]
     intro k17 hk170 hk17
     rw[zx,aj hk17]
     clear hk17 hk170
     refine jk ?_
     simp(disch:=omega)only[↓kX,kW,aS,simprocAttr,g6,g9,g10,g11,g12,g13,g14,d.getA,d.getR,d.getW,D4.getS,d.setA,d.setR,d.setW,D4.setS,sl,st,pa,ke]
     first|refine CallK.p (cA2) ?_|refine CallP.i (cA2) ?_
     simp(disch:=omega)only[↓kX,kW,aS,simprocAttr,g6,g9,g10,g11,g12,g13,g14,d.getA,d.getR,d.getW,D4.getS,d.setA,d.setR,d.setW,D4.setS,sl,st,pa,ke]
     first|refine CallK.p (cM2) ?_|refine CallP.i (cM2) ?_
     simp(disch:=omega)only[↓kX,kW,aS,simprocAttr,g6,g9,g10,g11,g12,g13,g14,d.getA,d.getR,d.getW,D4.getS,d.setA,d.setR,d.setW,D4.setS,sl,st,pa,ke]
     intro k18 hk180 hk18
     rw[zx,aj hk18]
     clear hk18 hk180
     try simp(disch:=omega)only[↓kX,kW,aS,simprocAttr,g6,g9,g10,g11,g12,g13,g14,d.getA,d.getR,d.getW,D4.getS,d.setA,d.setR,d.setW,D4.setS,sl,st,pa,ke]
     first|refine CallK.p (cM3) ?_|refine CallP.i (cM3) ?_
     simp(disch:=omega)only[↓kX,kW,aS,simprocAttr,g6,g9,g10,g11,g12,g13,g14,d.getA,d.getR,d.getW,D4.getS,d.setA,d.setR,d.setW,D4.setS,sl,st,pa,ke]
     intro k19 hk190 hk19
     rw[zx,aj hk19]
     clear hk19 hk190
     try simp(disch:=omega)only[↓kX,kW,aS,simprocAttr,g6,g9,g10,g11,g12,g13,g14,d.getA,d.getR,d.getW,D4.getS,d.setA,d.setR,d.setW,D4.setS,sl,st,pa,ke]
     first|refine CallK.p (cM4) ?_|refine CallP.i (cM4) ?_
     simp(disch:=omega)only[↓kX,kW,aS,simprocAttr,g6,g9,g10,g11,g12,g13,g14,d.getA,d.getR,d.getW,D4.getS,d.setA,d.setR,d.setW,D4.setS,sl,st,pa,ke]
     intro k20 hk200 hk20
     rw[zx,aj hk20]
     clear hk20 hk200
     try simp(disch:=omega)only[↓kX,kW,aS,simprocAttr,g6,g9,g10,g11,g12,g13,g14,d.getA,d.getR,d.getW,D4.getS,d.setA,d.setR,d.setW,D4.setS,sl,st,pa,ke]
     first|refine CallK.p (cS3) ?_|refine CallP.i (cS3) ?_
     simp(disch:=omega)only[↓kX,kW,aS,simprocAttr,g6,g9,g10,g11,g12,g13,g14,d.getA,d.getR,d.getW,D4.getS,d.setA,d.setR,d.setW,D4.setS,sl,st,pa,ke]
     intro k21 hk210 hk21
     rw[zx,aj hk21]
     clear hk21 hk210
     try simp(disch:=omega)only[↓kX,kW,aS,simprocAttr,g6,g9,g10,g11,g12,g13,g14,d.getA,d.getR,d.getW,D4.getS,d.setA,d.setR,d.setW,D4.setS,sl,st,pa,ke]
     first|refine CallK.p (cA3) ?_|refine CallP.i (cA3) ?_
     simp(disch:=omega)only[↓kX,kW,aS,simprocAttr,g6,g9,g10,g11,g12,g13,g14,d.getA,d.getR,d.getW,D4.getS,d.setA,d.setR,d.setW,D4.setS,sl,st,pa,ke]
     intro k22 hk220 hk22
     rw[zx,aj hk22]
     clear hk22 hk220
     try simp(disch:=omega)only[↓kX,kW,aS,simprocAttr,g6,g9,g10,g11,g12,g13,g14,d.getA,d.getR,d.getW,D4.getS,d.setA,d.setR,d.setW,D4.setS,sl,st,pa,ke]
     first|refine CallK.p (cS4) ?_|refine CallP.i (cS4) ?_
     simp(disch:=omega)only[↓kX,kW,aS,simprocAttr,g6,g9,g10,g11,g12,g13,g14,d.getA,d.getR,d.getW,D4.getS,d.setA,d.setR,d.setW,D4.setS,sl,st,pa,ke]
     intro k23 hk230 hk23
     rw[zx,aj hk23]
     clear hk23 hk230
     try simp(disch:=omega)only[↓kX,kW,aS,simprocAttr,g6,g9,g10,g11,g12,g13,g14,d.getA,d.getR,d.getW,D4.getS,d.setA,d.setR,d.setW,D4.setS,sl,st,pa,ke]
     first|refine CallK.p (cM5) ?_|refine CallP.i (cM5) ?_
     simp(disch:=omega)only[↓kX,kW,aS,simprocAttr,g6,g9,g10,g11,g12,g13,g14,d.getA,d.getR,d.getW,D4.getS,d.setA,d.setR,d.setW,D4.setS,sl,st,pa,ke]
     first|refine CallK.p (cM6) ?_|refine CallP.i (cM6) ?_
     simp(disch:=omega)only[↓kX,kW,aS,simprocAttr,g6,g9,g10,g11,g12,g13,g14,d.getA,d.getR,d.getW,D4.getS,d.setA,d.setR,d.setW,D4.setS,sl,st,pa,ke]
     first|refine CallK.p (cM7) ?_|refine CallP.i (cM7) ?_
     simp(disch:=omega)only[↓kX,kW,aS,simprocAttr,g6,g9,g10,g11,g12,g13,g14,d.getA,d.getR,d.getW,D4.getS,d.setA,d.setR,d.setW,D4.setS,sl,st,pa,ke]
     first|refine CallK.p (cM8) ?_|refine CallP.i (cM8) ?_
     simp(disch:=omega)only[↓kX,kW,aS,simprocAttr,g6,g9,g10,g11,g12,g13,g14,d.getA,d.getR,d.getW,D4.getS,d.setA,d.setR,d.setW,D4.setS,sl,st,pa,ke]
     first|refine CallK.p (u1) ?_|refine CallP.i (u1) ?_
     simp(disch:=omega)only[↓kX,kW,aS,simprocAttr,g6,g9,g10,g11,g12,g13,g14,d.getA,d.getR,d.getW,D4.getS,d.setA,d.setR,d.setW,D4.setS,sl,st,pa,ke]
     first|refine CallK.p (u2) ?_|refine CallP.i (u2) ?_
     simp(disch:=omega)only[↓kX,kW,aS,simprocAttr,g6,g9,g10,g11,g12,g13,g14,d.getA,d.getR,d.getW,D4.getS,d.setA,d.setR,d.setW,D4.setS,sl,st,pa,ke]
     first|refine CallK.p (cA4) ?_|refine CallP.i (cA4) ?_
     simp(disch:=omega)only[↓kX,kW,aS,simprocAttr,g6,g9,g10,g11,g12,g13,g14,d.getA,d.getR,d.getW,D4.getS,d.setA,d.setR,d.setW,D4.setS,sl,st,pa,ke]
     intro k24 hk240 hk24
     rw[zx,aj hk24]
     clear hk24 hk240
     try simp(disch:=omega)only[↓kX,kW,aS,simprocAttr,g6,g9,g10,g11,g12,g13,g14,d.getA,d.getR,d.getW,D4.getS,d.setA,d.setR,d.setW,D4.setS,sl,st,pa,ke]
     first|refine CallK.p (cM9) ?_|refine CallP.i (cM9) ?_
     simp(disch:=omega)only[↓kX,kW,aS,simprocAttr,g6,g9,g10,g11,g12,g13,g14,d.getA,d.getR,d.getW,D4.getS,d.setA,d.setR,d.setW,D4.setS,sl,st,pa,ke]
     first|refine CallK.p (cA5) ?_|refine CallP.i (cA5) ?_
     simp(disch:=omega)only[↓kX,kW,aS,simprocAttr,g6,g9,g10,g11,g12,g13,g14,d.getA,d.getR,d.getW,D4.getS,d.setA,d.setR,d.setW,D4.setS,sl,st,pa,ke]
     first|refine CallK.p (cM10) ?_|refine CallP.i (cM10) ?_
     simp(disch:=omega)only[↓kX,kW,aS,simprocAttr,g6,g9,g10,g11,g12,g13,g14,d.getA,d.getR,d.getW,D4.getS,d.setA,d.setR,d.setW,D4.setS,sl,st,pa,ke]
     first|refine CallK.p (c4) ?_|refine CallP.i (c4) ?_
     simp(disch:=omega)only[↓kX,kW,aS,simprocAttr,g6,g9,g10,g11,g12,g13,g14,hb0,d.getA,d.getR,d.getW,D4.getS,d.setA,d.setR,d.setW,D4.setS,sl,st,pa,ke]
     refine eI00 (fun σ F=>σ 6=.imm 0 (bw CK) 32∧σ 9=.ip (lM (lJ w)) 0∧σ 10=.ptr bA 0∧σ 11=.ptr bB 0∧σ 12=.ptr bC 0∧σ 13=.ptr bD 0∧σ 14=.sc (.int .i64 j)∧F=F4 E' bA bB bC bD (cX x3) (cX z3) (cX x2) (cX z2)) ?_ ?_
     ·simp(disch:=omega)only[↓kX,kW,aS,simprocAttr,g6,g9,g10,g11,g12,g13,g14,d.getA,d.getR,d.getW,D4.getS,d.setA,d.setR,d.setW,D4.setS,sl,st,pa,ke]
      first|exact⟨rfl,rfl⟩|rfl|trace_state
     clear g6 g9 g10 g11 g12 g13 g14
     rintro σ F ⟨g6,g9,g10,g11,g12,g13,g14,rfl⟩
     simp(disch:=omega)only[↓kX,kW,aS,simprocAttr,g6,g9,g10,g11,g12,g13,g14,w2]
     exact⟨j,by omega,i+1,(j:Int)-1,by omega,rfl,rfl,by rw[hsn,hn];rfl⟩
theorem dmultA(k u:List UInt8):APure Tryz.prog 22 [eu k,eu u] (multA k u):=by
 unfold multA
 split
 ·rename_i h
  exact dmult_pure k u h.1 h.2
 ·rename_i h
  refine dmult_bad k u ?_
  by_cases hk:k.length=32
  ·exact .inr fun g=>h ⟨hk,g⟩
  ·exact .inl hk
theorem dshared_pure(k u:List UInt8):APure Tryz.prog 8 [eu k,eu u] (if k.length=32∧u.length=32 then (if oH (oI k u)=0 then .tup [eu [],.sc (.int .i64 8)] else .tup [eu (lQ 32 (oH (oI k u))),.sc (.int .i64 0)]) else .tup [eu [],.sc (.int .i64 1)]):=dshared_of k u (dmultA k u)
end Go.Proofs.YtcncplameclkfaaGreatDoor
