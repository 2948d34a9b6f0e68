/-
  MarksNobody: the call, of the arguments as they are read.
  Conditions: none. Lemmas only.
-/
import Derived.Test.YtgkpidbeoccpnaaMarV
import Derived.Test.YtgkpidbeoccpnaaMarPg
set_option linter.all false
namespace Go.Proofs.Ytgkpidbeoccpnaa
open Go Go.Abs Go.Proofs Go.Fug
theorem marks_nobody (x0 : PageX) (x1 : MkX) : APure Try.prog 8 [.agg (Try.ty45.enc x0), .agg (Try.ty31.enc x1)] (.sc (.bool true)) := by
  rw [page_enc, mk_enc]
  exact mnobody_walk _ _ _ _
end Go.Proofs.Ytgkpidbeoccpnaa
