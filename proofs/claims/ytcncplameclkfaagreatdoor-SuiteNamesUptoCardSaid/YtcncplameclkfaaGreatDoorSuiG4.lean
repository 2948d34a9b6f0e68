/-
  Several texts in one: each says what it proves.
  Conditions: none. Lemmas only.
-/
import Derived.Test.YtcncplameclkfaaGreatDoorSuiG3
set_option linter.all false
section
set_option maxRecDepth 20000
namespace Go.Proofs.YtcncplameclkfaaGreatDoor
open Go Go.Abs Go.Proofs
end Go.Proofs.YtcncplameclkfaaGreatDoor
end
