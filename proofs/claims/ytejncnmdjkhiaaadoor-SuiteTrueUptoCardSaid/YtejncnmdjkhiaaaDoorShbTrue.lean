/-
  SuiteTrue: the call, of the arguments as they are read.
  Conditions: none. Lemmas only.
-/
import Derived.Test.YtejncnmdjkhiaaaDoorShbI
import Derived.Test.YtejncnmdjkhiaaaDoorSuiTys
set_option linter.all false
set_option maxRecDepth 20000
namespace Go.Proofs.YtejncnmdjkhiaaaDoor
open Go Go.Abs Go.Proofs
theorem jX (xs : List UInt8) : (Tryd.ty22.enc xs).getD 0 .any = eu xs := by
  show AV.imm 0 (xs.flatMap fun b => [.sc (.int .u8 b.toNat)]) xs.length = _
  rw [flat_one]
  rfl
theorem size_bytes (xs : List UInt8) : Tryd.ty22.size xs = xs.length + 1 := by
  show j2 (fun _ => 1) xs + 1 = _
  rw [sum_one]
theorem suite_true (x0 x1 x2 : List UInt8) (x3 : UInt8) (hb : Tryd.ty22.size x0 + Tryd.ty22.size x1 + Tryd.ty22.size x2 + Tryd.ty5.size x3 ≤ 1048576) :
    APure Tryd.prog 3 [(Tryd.ty22.enc x0).getD 0 .any,(Tryd.ty22.enc x1).getD 0 .any,(Tryd.ty22.enc x2).getD 0 .any,(Tryd.ty5.enc x3).getD 0 .any] (.sc (.bool true)) := by
  simp only [size_bytes] at hb
  rw [jX,jX,jX]
  exact true_walk x0 x1 x2 x3 (by omega) (by omega) (by omega)
end Go.Proofs.YtejncnmdjkhiaaaDoor
