/-
  MarksGrow: the call, of the arguments as they are read.
  Conditions: none. Lemmas only.
-/
import Derived.Test.YtgkpidbeoccpnaaMarZ
import Derived.Test.YtgkpidbeoccpnaaMarPg
set_option linter.all false
namespace Go.Proofs.Ytgkpidbeoccpnaa
open Go Go.Abs Go.Proofs Go.Fug
theorem marks_grow (x0 : PageX) (x1 : Int) (x2 : IdX) : APure Try.prog 9 [.agg (Try.ty45.enc x0),(Try.ty3.enc x1).getD 0 .any,.agg (Try.ty27.enc x2)] (.sc (.bool true)) := by
  rw [page_enc,id_enc]
  exact mgrow_walk _ _ _ _ _
end Go.Proofs.Ytgkpidbeoccpnaa
