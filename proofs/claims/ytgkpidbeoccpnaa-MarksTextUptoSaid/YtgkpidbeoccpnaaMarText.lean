/-
  MarksText: the call, of the arguments as they are read.
  Conditions: none. Lemmas only.
-/
import Derived.Test.YtgkpidbeoccpnaaMarT
import Derived.Test.YtgkpidbeoccpnaaMarPg
set_option linter.all false
namespace Go.Proofs.Ytgkpidbeoccpnaa
open Go Go.Abs Go.Proofs Go.Fug
theorem marks_text (x0 : PageX) : APure Try.prog 7 [.agg (Try.ty45.enc x0)] (.sc (.bool true)) := by
  rw [page_enc]
  exact mtext_walk _ _ _
end Go.Proofs.Ytgkpidbeoccpnaa
