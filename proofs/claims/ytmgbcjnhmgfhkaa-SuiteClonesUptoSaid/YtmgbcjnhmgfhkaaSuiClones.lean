/-
  SuiteClones: the call, of the arguments as they are read.
  Conditions: none. Lemmas only.
-/
import Derived.Test.YtmgbcjnhmgfhkaaSuiX
import Derived.Test.YtmgbcjnhmgfhkaaSuiIdeals
set_option linter.all false
namespace Go.Proofs.Ytmgbcjnhmgfhkaa
open Go Go.Abs Go.Proofs
theorem suite_clones (x0 x1 x2 : List AskX) (o0 : Try.ty34.ok x0) (o1 : Try.ty34.ok x1) (o2 : Try.ty34.ok x2) (hb : Try.ty34.size x0 + Try.ty34.size x1 + Try.ty34.size x2 ≤ 1048576) :
    APure Try.prog 4 [(Try.ty34.enc x0).getD 0 .any, (Try.ty34.enc x1).getD 0 .any, (Try.ty34.enc x2).getD 0 .any] (.sc (.bool true)) := by
  have key : ∀ (x : List AskX), Try.ty34.ok x → Try.ty34.size x ≤ 1048576 → (x.map askOf).length ≤ 1048576 ∧ ∀ k ∈ x.map askOf, fineA k := fun x o hb => by
    obtain ⟨hs1, hs2⟩ := asks_size x
    have ho := asks_ok x o
    refine ⟨by rw [List.length_map]; omega, fun k hk => ?_⟩
    have := hs2 k hk
    obtain ⟨h1, h2, h3, h4⟩ := ho k hk
    exact ⟨by omega, h1.2, h2, h3, h4⟩
  obtain ⟨l0, f0⟩ := key x0 o0 (by omega)
  obtain ⟨l1, f1⟩ := key x1 o1 (by omega)
  obtain ⟨l2, f2⟩ := key x2 o2 (by omega)
  rw [asks_enc, asks_enc, asks_enc]
  generalize x0.map askOf = a at *
  generalize x1.map askOf = b at *
  generalize x2.map askOf = c at *
  have h40 : ∀ l, fewB l = true → l.length ≤ 40 := fun l hf => by
    unfold fewB at hf
    simp only [Bool.and_eq_true, decide_eq_true_eq] at hf
    exact hf.1
  cases h : (fewB a && fewB b && fewB c) with
  | false => exact clones_no a b c l0 l1 l2 h
  | true =>
    simp only [Bool.and_eq_true] at h
    exact clones_yes a b c (h40 a h.1.1) (h40 b h.1.2) (h40 c h.2) h.1.1 h.1.2 h.2 f0 f1 f2
end Go.Proofs.Ytmgbcjnhmgfhkaa
