/-
  Several texts in one: each says what it proves.
  Conditions: none. Lemmas only.
-/
import Derived.Test.YtibipjdngpjndaaSuiG4
set_option linter.all false
section
set_option linter.unusedSimpArgs false
set_option linter.unusedVariables false
set_option maxRecDepth 20000
namespace Go.Proofs.Ytibipjdngpjndaa
open Go Go.Abs Go.Proofs

end Go.Proofs.Ytibipjdngpjndaa
end
section
set_option linter.unusedSimpArgs false
set_option linter.unusedVariables false
set_option maxRecDepth 20000
namespace Go.Proofs.Ytibipjdngpjndaa
open Go Go.Abs Go.Proofs

end Go.Proofs.Ytibipjdngpjndaa
end
