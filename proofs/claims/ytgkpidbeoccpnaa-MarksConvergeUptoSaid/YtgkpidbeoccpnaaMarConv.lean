/-
  MarksConverge: the call, of the arguments as they are read.
  Conditions: none. Lemmas only.
-/
import Derived.Test.YtgkpidbeoccpnaaMarX
import Derived.Test.YtgkpidbeoccpnaaMarPg
set_option linter.all false
namespace Go.Proofs.Ytgkpidbeoccpnaa
open Go Go.Abs Go.Proofs Go.Fug
theorem ints_size (xs : List Int) : xs.length ≤ Try.ty62.size xs := by
  show xs.length ≤ sumMap Try.ty3.size xs + 1
  have := sum_len Try.ty3.size (fun x => by show 1 ≤ 1; omega) xs
  omega
theorem ints_enc (xs : List Int) : (Try.ty62.enc xs).getD 0 .any = .imm 0 (intsC xs) xs.length := by
  show AV.imm 0 (xs.flatMap Try.ty3.enc) xs.length = _
  have : xs.flatMap Try.ty3.enc = intsC xs := by
    unfold intsC
    induction xs with
    | nil => rfl
    | cons x xs ih => rw [List.flatMap_cons,ih,List.map_cons]; rfl
  rw [this]
theorem marks_converge (x0 : PageX) (x1 : List Int) (hb : Try.ty62.size x1 ≤ 1048576) : APure Try.prog 6 [.agg (Try.ty45.enc x0),(Try.ty62.enc x1).getD 0 .any] (.sc (.bool true)) := by
  have hs := ints_size x1
  rw [page_enc,ints_enc]
  by_cases h : fewP (x0.1.map insOf) (x0.2.1.map idOf) (x0.2.2.1.map mkOf) = true ∧ x1.length ≤ 100
  · exact mconv_yes _ _ _ _ h.1 h.2
  · exact mconv_no _ _ _ _ h (by omega)
end Go.Proofs.Ytgkpidbeoccpnaa
