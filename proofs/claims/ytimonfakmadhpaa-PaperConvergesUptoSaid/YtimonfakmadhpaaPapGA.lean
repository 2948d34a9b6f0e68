/-
  Lists of lists of operations, and wishes, as they are read.
  Conditions: none. Lemmas only.
-/
import Derived.Test.YtimonfakmadhpaaPapG7
import Derived.Test.YtimonfakmadhpaaPapG9
import Derived.Test.YtimonfakmadhpaaPapG8
set_option linter.all false
set_option maxRecDepth 20000
namespace Go.Proofs.Ytimonfakmadhpaa
open Go Go.Abs Go.Proofs Go.Fug
end Go.Proofs.Ytimonfakmadhpaa
