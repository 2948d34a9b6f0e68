/-
  FugueNobody: the call, of the arguments as they are read.
  Conditions: none. Lemmas only.
-/
import Derived.Test.YtpmmafmbjconiaaFugW
import Derived.Test.YtpmmafmbjconiaaFugTys
set_option linter.all false
namespace Go.Proofs.Ytpmmafmbjconiaa
open Go Go.Abs Go.Proofs Go.Fug
abbrev InsX := (Int × Int × Unit) × (Int × Int × Unit) × Bool × Int × Unit
abbrev insOf (x : InsX) : Ins := ⟨(x.1.1, x.1.2.1), (x.2.1.1, x.2.1.2.1), x.2.2.1, x.2.2.2.1⟩
theorem ins_enc (x : InsX) : Try.ty33.enc x = insC (insOf x) := by
  obtain ⟨⟨a, c, ⟨⟩⟩, ⟨pa, pc, ⟨⟩⟩, ri, ru, ⟨⟩⟩ := x
  rfl
theorem fugue_nobody (x0 : InsX) (x1 : Int) : APure Try.prog 10 [.agg (Try.ty33.enc x0), (Try.ty3.enc x1).getD 0 .any] (.sc (.bool true)) := by
  rw [ins_enc]
  exact nobody_walk (insOf x0) x1
end Go.Proofs.Ytpmmafmbjconiaa
