/-
  The walks of the paper layer: numbers in bytes, as they are written.
  Conditions: none. Lemmas only.
-/
import Derived.Test.YtimonfakmadhpaaPapG1
set_option linter.all false
set_option linter.unusedSimpArgs false
set_option linter.unusedVariables false
set_option maxRecDepth 8000
set_option maxHeartbeats 4000000
namespace Go.Proofs.Ytimonfakmadhpaa
open Go Go.Abs Go.Proofs Go.Fug
end Go.Proofs.Ytimonfakmadhpaa
