/-
  Several texts in one: each says what it proves.
  Conditions: none. Lemmas only.
-/
import Derived.Test.YtcncplameclkfaaGreatDoorBxG2
import Derived.Test.YtcncplameclkfaaGreatDoorAbsG6
set_option linter.all false
section
set_option maxRecDepth 20000
set_option maxHeartbeats 4000000
namespace Go.Proofs.YtcncplameclkfaaGreatDoor
open Go Go.Abs Go.Proofs Go.Box
theorem ofNat_mod(x:Nat):UInt8.ofNat (x % 256)=UInt8.ofNat x:=UInt8.toNat.inj (by simp)
end Go.Proofs.YtcncplameclkfaaGreatDoor
end
