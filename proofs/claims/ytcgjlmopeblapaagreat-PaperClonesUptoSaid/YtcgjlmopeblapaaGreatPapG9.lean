/-
  The walk of the statements' runes.
  Conditions: none. Lemmas only.
-/
import Derived.Test.YtcgjlmopeblapaaGreatPapG4
set_option linter.all false
set_option linter.unusedSimpArgs false
set_option linter.unusedVariables false
set_option maxRecDepth 8000
set_option maxHeartbeats 4000000
namespace Go.Proofs.YtcgjlmopeblapaaGreat
open Go Go.Abs Go.Proofs Go.Fug
structure Wsh where
  at_ : Int
  n : Int
  name : Int
  value : Int
  author : Int
  txt : List UInt8
end Go.Proofs.YtcgjlmopeblapaaGreat
