/-
  The walks of the suite layer: all terms; a clone.
  Conditions: none. Lemmas only.
-/
import Derived.Test.YtaehlpkinbpmbaaSuiJ
set_option linter.all false
set_option linter.unusedSimpArgs false
set_option linter.unusedVariables false
set_option maxRecDepth 20000
namespace Go.Proofs.Ytaehlpkinbpmbaa
open Go Go.Abs Go.Proofs

end Go.Proofs.Ytaehlpkinbpmbaa
