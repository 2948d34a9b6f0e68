/-
  RosterNobody: the call, of the arguments as they are read.
  Conditions: none. Lemmas only.
-/
import Derived.Test.YtjlnpngaiphnmaaRosNobody
import Derived.Test.YtjlnpngaiphnmaaRtEnc
set_option linter.all false
set_option maxRecDepth 20000
namespace Go.Proofs.Ytjlnpngaiphnmaa
open Go Go.Abs Go.Proofs
theorem roster_nobody (x : EntX) (n : Int) : APure Try.prog 5 [.agg (Try.ty59.enc x),(Try.ty3.enc n).getD 0 .any] (.sc (.bool true)) := by
  rw [ent_enc]
  exact nobody_walk21 (entOf x) n
end Go.Proofs.Ytjlnpngaiphnmaa
