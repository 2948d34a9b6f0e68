/-
  LetterMakes: the call, of the arguments as they are read.
  Conditions: none. Lemmas only.
-/
import Derived.Test.YtaehlpkinbpmbaaLtO
import Derived.Test.YtaehlpkinbpmbaaLtSigned
set_option linter.all false
set_option maxRecDepth 20000
namespace Go.Proofs.Ytaehlpkinbpmbaa
open Go Go.Abs Go.Proofs
theorem letter_makes (x : WishX) (o : Try.ty26.ok x) (hb : Try.ty26.size x ≤ 1048576) : APure Try.prog 6 [.agg (Try.ty26.enc x)] (.sc (.bool true)) := by
  obtain ⟨l,t,sh,c,n,⟨⟩⟩ := x
  obtain ⟨-,-,-,-,h5,-⟩ := o
  rw [wish_enc]
  have hs : Try.ty24.size l + (Try.ty22.size t + (1 + (1 + (1 + 0)))) + 1 ≤ 1048576 := hb
  rw [size_bytes] at hs
  exact makes_walk _ _ _ _ _ (by omega) (wf_i64 h5)
end Go.Proofs.Ytaehlpkinbpmbaa
