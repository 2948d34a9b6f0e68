/-
  RosterGrows: the call, of the arguments as they are read.
  Conditions: none. Lemmas only.
-/
import Derived.Test.YtjlnpngaiphnmaaRosGrows
import Derived.Test.YtjlnpngaiphnmaaRtEnc
set_option linter.all false
set_option maxRecDepth 20000
namespace Go.Proofs.Ytjlnpngaiphnmaa
open Go Go.Abs Go.Proofs
theorem roster_grows (l : List DoX) (hb : Try.ty22.size l ≤ 1048576) : APure Try.prog 4 [(Try.ty22.enc l).getD 0 .any] (.sc (.bool true)) := by
  rw [dos_enc]
  obtain ⟨h1,h2⟩ := dos_size l
  exact grows_walk (dosOf l) (by omega) (fun t ht => by have := h2 t ht; omega)
end Go.Proofs.Ytjlnpngaiphnmaa
