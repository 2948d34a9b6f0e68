/-
  SuiteBoxes: the call, of the arguments as they are read.
  Conditions: none. Lemmas only.
-/
import Derived.Test.YtibipjdngpjndaaByG5
import Derived.Test.YtibipjdngpjndaaFugTys
set_option linter.all false
set_option maxRecDepth 20000
namespace Go.Proofs.Ytibipjdngpjndaa
open Go Go.Abs Go.Proofs
theorem jX (xs : List UInt8) : (Try.ty22.enc xs).getD 0 .any = eu xs := by
  show AV.imm 0 (xs.flatMap fun b => [.sc (.int .u8 b.toNat)]) xs.length = _
  rw [flat_one]
  rfl
theorem size_bytes (xs : List UInt8) : Try.ty22.size xs = xs.length + 1 := by
  show j2 (fun _ => 1) xs + 1 = _
  rw [sum_one]
theorem suite_boxes (x0 : List UInt8) (x1 : Int) (x2 x3 : List UInt8) (o1 : Try.ty3.ok x1) (hb : Try.ty22.size x0 + Try.ty3.size x1 + Try.ty22.size x2 + Try.ty22.size x3 ≤ 1048576) :
    APure Try.prog 3 [(Try.ty22.enc x0).getD 0 .any,(Try.ty3.enc x1).getD 0 .any,(Try.ty22.enc x2).getD 0 .any,(Try.ty22.enc x3).getD 0 .any] (.sc (.bool true)) := by
  simp only [size_bytes] at hb
  rw [jX,jX,jX]
  exact boxes_walk x0 x1 x2 x3 (by omega) (wf_i64 o1).2 (by omega) (by omega)
end Go.Proofs.Ytibipjdngpjndaa
