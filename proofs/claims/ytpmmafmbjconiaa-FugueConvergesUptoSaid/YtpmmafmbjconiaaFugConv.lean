/-
  FugueConverges: the call, of the arguments as they are read.
  Conditions: none. Lemmas only.
-/
import Derived.Test.YtpmmafmbjconiaaFugAi
import Derived.Test.YtpmmafmbjconiaaFugPlays
set_option linter.all false
namespace Go.Proofs.Ytpmmafmbjconiaa
open Go Go.Abs Go.Proofs Go.Fug
theorem ints_size (xs : List Int) : xs.length ≤ Try.ty51.size xs := by
  show xs.length ≤ sumMap Try.ty3.size xs + 1
  have := sum_len Try.ty3.size (fun x => by show 1 ≤ 1; omega) xs
  omega
theorem ints_enc (xs : List Int) : (Try.ty51.enc xs).getD 0 .any = .imm 0 (intsC xs) xs.length := by
  show AV.imm 0 (xs.flatMap Try.ty3.enc) xs.length = _
  have : xs.flatMap Try.ty3.enc = intsC xs := by
    unfold intsC
    induction xs with
    | nil => rfl
    | cons x xs ih => rw [List.flatMap_cons, ih, List.map_cons]; rfl
  rw [this]
theorem fugue_converges (x0 : List DoX) (x1 : List Int) (hb : Try.ty22.size x0 + Try.ty51.size x1 ≤ 1048576) :
    APure Try.prog 5 [(Try.ty22.enc x0).getD 0 .any, (Try.ty51.enc x1).getD 0 .any] (.sc (.bool true)) := by
  have hs := dos_size x0
  have hs1 := ints_size x1
  rw [dos_enc, ints_enc]
  have hl : (x0.map doOf).length ≤ 1048576 := by rw [List.length_map]; omega
  generalize x0.map doOf = l at *
  by_cases h : l.length ≤ 40 ∧ x1.length ≤ 200
  · exact conv_yes l x1 h.1 h.2
  · exact conv_no l x1 hl (by omega) h
end Go.Proofs.Ytpmmafmbjconiaa
