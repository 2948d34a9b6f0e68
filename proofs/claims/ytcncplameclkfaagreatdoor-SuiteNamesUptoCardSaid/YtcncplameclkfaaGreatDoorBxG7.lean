/-
  Several texts in one: each says what it proves.
  Conditions: none. Lemmas only.
-/
import Derived.Test.YtcncplameclkfaaGreatDoorBxG6
set_option linter.all false
section
set_option maxRecDepth 20000
set_option maxHeartbeats 4000000
namespace Go.Proofs.YtcncplameclkfaaGreatDoor
open Go Go.Abs Go.Proofs Go.Box
theorem or_add{a b k:Nat}(h:a<2^k):a ||| (b*2^k)=a+2^k*b:=by
 rw[Nat.or_comm,Nat.mul_comm,←Nat.two_pow_add_eq_or_of_lt h,Nat.add_comm]
theorem fD{H:AH}{a b:Nat}{x y:AObj}(h:¬a=b):(H.set b x).set a y=(H.set a y).set b x:=by
 funext z
 simp only[AH.set]
 by_cases e1:z=a
 ·subst e1;simp[h]
 ·by_cases e2:z=b
  ·subst e2;simp[e1]
  ·simp[e1,e2]
end Go.Proofs.YtcncplameclkfaaGreatDoor
end
