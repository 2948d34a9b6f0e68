/-
  RosterPlays: the call, of the arguments as they are read.
  Conditions: none. Lemmas only.
-/
import Derived.Test.YtjlnpngaiphnmaaRosPlays
import Derived.Test.YtjlnpngaiphnmaaRtEnc
set_option linter.all false
set_option maxRecDepth 20000
namespace Go.Proofs.Ytjlnpngaiphnmaa
open Go Go.Abs Go.Proofs
theorem roster_plays (l : List DoX) (n a : Int) (o1 : Try.ty3.ok n) (hb : Try.ty22.size l + Try.ty3.size n + Try.ty3.size a ≤ 1048576) : APure Try.prog 3 [(Try.ty22.enc l).getD 0 .any,(Try.ty3.enc n).getD 0 .any,(Try.ty3.enc a).getD 0 .any] (.sc (.bool true)) := by
  rw [dos_enc]
  obtain ⟨h1,h2⟩ := dos_size l
  have hn := wf_i64 o1
  exact plays_walk (dosOf l) n a (by omega) (fun t ht => by have := h2 t ht; omega) ⟨hn.1,by omega⟩
end Go.Proofs.Ytjlnpngaiphnmaa
