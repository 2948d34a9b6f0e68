/-
  SuiteNobody: the call, of the arguments as they are read.
  Conditions: none. Lemmas only.
-/
import Derived.Test.YtmgbcjnhmgfhkaaSuiZ
import Derived.Test.YtmgbcjnhmgfhkaaSuiRow
set_option linter.all false
namespace Go.Proofs.Ytmgbcjnhmgfhkaa
open Go Go.Abs Go.Proofs
theorem suite_nobody (x0 : AskX) (x1 : Bool) (o0 : Try.ty43.ok x0) (hb : Try.ty43.size x0 + Try.ty4.size x1 ≤ 1048576) :
    APure Try.prog 6 [.agg (Try.ty43.enc x0), (Try.ty4.enc x1).getD 0 .any] (.sc (.bool true)) := by
  have hs := ask_size x0
  obtain ⟨hn, -⟩ := ask_ok x0 o0
  rw [ask_enc]
  cases x1 with
  | false => exact nobody_no (askOf x0) (by omega) (by omega) (by omega) hn.2
  | true => exact nobody_yes (askOf x0) (by omega) (by omega) (by omega) hn.2
end Go.Proofs.Ytmgbcjnhmgfhkaa
