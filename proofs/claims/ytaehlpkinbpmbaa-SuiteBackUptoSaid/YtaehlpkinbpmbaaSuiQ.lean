/-
  The walks of the suite layer: the law that is asked of texts that are apart: what is told.
  Conditions: none. Lemmas only.
-/
import Derived.Test.YtaehlpkinbpmbaaSuiP
set_option linter.all false
set_option linter.unusedSimpArgs false
set_option linter.unusedVariables false
set_option maxRecDepth 20000
namespace Go.Proofs.Ytaehlpkinbpmbaa
open Go Go.Abs Go.Proofs

theorem nameT_inj {x y : Term} {n m : Nat} (hn : n < 18446744073709551616) (hm : m < 18446744073709551616) (h : nameT x n = nameT y m) : n = m := by
  rw [← name_num (x := x) hn,h,name_num hm]
end Go.Proofs.Ytaehlpkinbpmbaa
