/-
  MarksPlays: the call, of the arguments as they are read.
  Conditions: none. Lemmas only.
-/
import Derived.Test.YtgkpidbeoccpnaaMarU
import Derived.Test.YtgkpidbeoccpnaaMarPg
set_option linter.all false
namespace Go.Proofs.Ytgkpidbeoccpnaa
open Go Go.Abs Go.Proofs Go.Fug
theorem mks_enc (xs : List MkX) : (Try.ty22.enc xs).getD 0 .any = mksV (xs.map mkOf) := by
  show AV.imm 0 (xs.flatMap Try.ty31.enc) xs.length = _
  rw [flat_map mk_enc]
  unfold mksV
  rw [List.length_map]
  rfl
theorem mks_size (xs : List MkX) : xs.length ≤ Try.ty22.size xs := by
  show xs.length ≤ sumMap Try.ty31.size xs + 1
  have := sum_len Try.ty31.size (fun x => by
    obtain ⟨c, a, ⟨⟨f1, f2, ⟨⟩⟩, fb, ⟨⟩⟩, ⟨⟨t1, t2, ⟨⟩⟩, tb, ⟨⟩⟩, n, v, ⟨⟩⟩ := x
    show 1 ≤ 1 + _ + 1
    omega) xs
  omega
theorem marks_plays (x0 : List MkX) (x1 x2 : Int) (hb : Try.ty22.size x0 ≤ 1048576) : APure Try.prog 3 [(Try.ty22.enc x0).getD 0 .any, (Try.ty3.enc x1).getD 0 .any, (Try.ty3.enc x2).getD 0 .any] (.sc (.bool true)) := by
  have hs := mks_size x0
  rw [mks_enc]
  exact mplays_walk _ _ _ (by rw [List.length_map]; omega)
end Go.Proofs.Ytgkpidbeoccpnaa
