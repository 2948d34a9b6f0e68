/-
  SuiteIdeals, SuiteClones: the calls, of the arguments as they are read.
  Conditions: none. Lemmas only.
-/
import Derived.Test.YtmgbcjnhmgfhkaaSuiV
import Derived.Test.YtmgbcjnhmgfhkaaSuiRow
set_option linter.all false
namespace Go.Proofs.Ytmgbcjnhmgfhkaa
open Go Go.Abs Go.Proofs
theorem sum_mem {α : Type} (f : α → Nat) : ∀ (l : List α) (x : α), x ∈ l → f x ≤ sumMap f l
  | [], _, h => by cases h
  | y :: l, x, h => by
    rcases List.mem_cons.1 h with e | e
    · subst e; show f x ≤ f x + sumMap f l; omega
    · have := sum_mem f l x e; show f x ≤ f y + sumMap f l; omega
theorem sum_len {α : Type} (f : α → Nat) (hf : ∀ x, 1 ≤ f x) : ∀ (l : List α), l.length ≤ sumMap f l
  | [] => Nat.le_refl _
  | y :: l => by
    have := sum_len f hf l
    have := hf y
    show l.length + 1 ≤ f y + sumMap f l
    omega
theorem asks_enc (xs : List AskX) : (Try.ty34.enc xs).getD 0 .any = .imm 0 (askCs (xs.map askOf)) (xs.map askOf).length := by
  show AV.imm 0 (xs.flatMap Try.ty43.enc) xs.length = _
  have : xs.flatMap Try.ty43.enc = askCs (xs.map askOf) := by
    unfold askCs
    rw [List.flatMap_map]
    induction xs with
    | nil => rfl
    | cons x xs ih => rw [List.flatMap_cons, List.flatMap_cons, ih, ask_enc]
  rw [this, List.length_map]
theorem asks_size (xs : List AskX) : xs.length ≤ Try.ty34.size xs ∧ ∀ k ∈ xs.map askOf, k.a.raw.length + k.b.raw.length + k.c.raw.length ≤ Try.ty34.size xs := by
  show xs.length ≤ sumMap Try.ty43.size xs + 1 ∧ ∀ k ∈ xs.map askOf, _ ≤ sumMap Try.ty43.size xs + 1
  refine ⟨?_, fun k hk => ?_⟩
  · have := sum_len Try.ty43.size (fun x => by
      obtain ⟨kd, n, ⟨fa, a, ⟨⟩⟩, ⟨fb, b, ⟨⟩⟩, ⟨fc, c, ⟨⟩⟩, ⟨⟩⟩ := x
      show 1 ≤ 1 + _ + 1
      omega) xs
    omega
  · obtain ⟨x, hx, rfl⟩ := List.mem_map.1 hk
    have := sum_mem Try.ty43.size xs x hx
    have := ask_size x
    omega
theorem asks_ok (xs : List AskX) (h : Try.ty34.ok xs) : ∀ k ∈ xs.map askOf, In64 k.n ∧ In64 k.a.from_ ∧ In64 k.b.from_ ∧ In64 k.c.from_ := fun k hk => by
  obtain ⟨x, hx, rfl⟩ := List.mem_map.1 hk
  exact ask_ok x (h.1 x hx)
theorem suite_ideals (x0 : List AskX) (o0 : Try.ty34.ok x0) (hb : Try.ty34.size x0 ≤ 1048576) :
    APure Try.prog 5 [(Try.ty34.enc x0).getD 0 .any] (.sc (.bool true)) := by
  obtain ⟨hs1, hs2⟩ := asks_size x0
  have ho := asks_ok x0 o0
  rw [asks_enc]
  have hl : (x0.map askOf).length ≤ 1048576 := by rw [List.length_map]; omega
  generalize x0.map askOf = l at *
  cases hf : fewB l with
  | false => exact ideals_no l hl hf
  | true =>
    have h40 : l.length ≤ 40 := by
      unfold fewB at hf
      simp only [Bool.and_eq_true, decide_eq_true_eq] at hf
      exact hf.1
    refine ideals_yes l h40 hf (fun k hk => ?_) fun k hk => ?_
    · have := hs2 k hk
      omega
    · obtain ⟨h1, h2, h3, h4⟩ := ho k hk
      exact ⟨h1.2, h2, h3, h4⟩
end Go.Proofs.Ytmgbcjnhmgfhkaa
