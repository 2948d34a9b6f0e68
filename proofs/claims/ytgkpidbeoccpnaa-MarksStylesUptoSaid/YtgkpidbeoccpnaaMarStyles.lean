/-
  MarksStyles, MarksRuns: the calls, of the arguments as they are read.
  Conditions: none. Lemmas only.
-/
import Derived.Test.YtgkpidbeoccpnaaMarS
import Derived.Test.YtgkpidbeoccpnaaMarPg
set_option linter.all false
namespace Go.Proofs.Ytgkpidbeoccpnaa
open Go Go.Abs Go.Proofs Go.Fug
theorem marks_styles (x0 : PageX) : APure Try.prog 4 [.agg (Try.ty45.enc x0)] (.sc (.bool true)) := by
  rw [page_enc]
  exact mstyles_walk _ _ _
theorem marks_runs (x0 : PageX) : APure Try.prog 5 [.agg (Try.ty45.enc x0)] (.sc (.bool true)) := by
  rw [page_enc]
  exact mruns_walk _ _ _
end Go.Proofs.Ytgkpidbeoccpnaa
