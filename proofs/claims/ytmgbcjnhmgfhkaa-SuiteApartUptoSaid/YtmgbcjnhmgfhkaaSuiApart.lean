/-
  SuiteApart: the call, of the arguments as they are read.
  Conditions: none. Lemmas only.
-/
import Derived.Test.YtmgbcjnhmgfhkaaSuiR
import Derived.Test.YtmgbcjnhmgfhkaaSuiRow
import Derived.Test.YtmgbcjnhmgfhkaaSuiTys
set_option linter.all false
namespace Go.Proofs.Ytmgbcjnhmgfhkaa
open Go Go.Abs Go.Proofs
theorem suite_apart (x0 x1 x2 x3 : List UInt8) (x4 : Int) (o4 : Try.ty3.ok x4) (hb : Try.ty22.size x0 + Try.ty22.size x1 + Try.ty22.size x2 + Try.ty22.size x3 + Try.ty3.size x4 ≤ 1048576) :
    APure Try.prog 3 [(Try.ty22.enc x0).getD 0 .any, (Try.ty22.enc x1).getD 0 .any, (Try.ty22.enc x2).getD 0 .any, (Try.ty22.enc x3).getD 0 .any, (Try.ty3.enc x4).getD 0 .any] (.sc (.bool true)) := by
  simp only [size_bytes] at hb
  rw [row_bytes, row_bytes, row_bytes, row_bytes]
  exact apart_walk x0 x1 x2 x3 x4 o4 hb
end Go.Proofs.Ytmgbcjnhmgfhkaa
