/-
  FuguePlays: the call, of the arguments as they are read.
  Conditions: none. Lemmas only.
-/
import Derived.Test.YtpmmafmbjconiaaFugO
import Derived.Test.YtpmmafmbjconiaaFugTys
set_option linter.all false
namespace Go.Proofs.Ytpmmafmbjconiaa
open Go Go.Abs Go.Proofs Go.Fug
abbrev DoX := Int × ((Int × Int × Unit) × (Int × Int × Unit) × Bool × Int × Unit) × (Int × Int × Unit) × Unit
abbrev doOf (x : DoX) : DoT := ⟨x.1, ⟨(x.2.1.1.1, x.2.1.1.2.1), (x.2.1.2.1.1, x.2.1.2.1.2.1), x.2.1.2.2.1, x.2.1.2.2.2.1⟩, (x.2.2.1.1, x.2.2.1.2.1)⟩
theorem do_enc (x : DoX) : Try.ty35.enc x = doC (doOf x) := by
  obtain ⟨kd, ⟨⟨a, c, ⟨⟩⟩, ⟨pa, pc, ⟨⟩⟩, ri, ru, ⟨⟩⟩, ⟨x1, x2, ⟨⟩⟩, ⟨⟩⟩ := x
  rfl
theorem sum_len {α : Type} (f : α → Nat) (hf : ∀ x, 1 ≤ f x) : ∀ (l : List α), l.length ≤ sumMap f l
  | [] => Nat.le_refl _
  | y :: l => by
    have := sum_len f hf l
    have := hf y
    show l.length + 1 ≤ f y + sumMap f l
    omega
theorem dos_enc (xs : List DoX) : (Try.ty22.enc xs).getD 0 .any = .imm 0 (dosC (xs.map doOf)) (xs.map doOf).length := by
  show AV.imm 0 (xs.flatMap Try.ty35.enc) xs.length = _
  have : xs.flatMap Try.ty35.enc = dosC (xs.map doOf) := by
    unfold dosC
    rw [List.flatMap_map]
    induction xs with
    | nil => rfl
    | cons x xs ih => rw [List.flatMap_cons, List.flatMap_cons, ih, do_enc]
  rw [this, List.length_map]
theorem dos_size (xs : List DoX) : xs.length ≤ Try.ty22.size xs := by
  show xs.length ≤ sumMap Try.ty35.size xs + 1
  have := sum_len Try.ty35.size (fun x => by
    obtain ⟨kd, ⟨⟨a, c, ⟨⟩⟩, ⟨pa, pc, ⟨⟩⟩, ri, ru, ⟨⟩⟩, ⟨x1, x2, ⟨⟩⟩, ⟨⟩⟩ := x
    show 1 ≤ 1 + _ + 1
    omega) xs
  omega
theorem fugue_plays (x0 : List DoX) (hb : Try.ty22.size x0 ≤ 1048576) :
    APure Try.prog 4 [(Try.ty22.enc x0).getD 0 .any] (.sc (.bool true)) := by
  have hs := dos_size x0
  rw [dos_enc]
  have hl : (x0.map doOf).length ≤ 1048576 := by rw [List.length_map]; omega
  generalize x0.map doOf = l at *
  by_cases h : l.length ≤ 60
  · exact plays_yes l h
  · exact plays_no l hl h
end Go.Proofs.Ytpmmafmbjconiaa
