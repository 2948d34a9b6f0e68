/-
  The fugue layer in plain Lean: the way through a text, step by step.
  Conditions: none. Lemmas only.
-/
import Derived.Test.YtpmmafmbjconiaaFugQ
set_option linter.all false
namespace Go.Fug
structure St where
  id : EId
  side : Bool
  at_ : Nat
def fullA (L : List Ins) (G : List EId) (y : EId) : List Nd := all L G y false ++ [ndOf L G y] ++ all L G y true
def outS (L : List Ins) (G : List EId) (s : St) : List Nd :=
  ((kids L s.id s.side).drop s.at_).flatMap (fullA L G) ++ if s.side then [] else (if s.id = root then [] else [ndOf L G s.id]) ++ all L G s.id true
def outW (L : List Ins) (G : List EId) (S : List St) : List Nd := S.flatMap (outS L G)
def mesS (L : List Ins) (G : List EId) (s : St) : Nat :=
  4 * (((kids L s.id s.side).drop s.at_).flatMap (fullA L G)).length + (if s.side then 0 else 4 * (all L G s.id true).length + 2) + 1
def mesW (L : List Ins) (G : List EId) (S : List St) : Nat := (S.map (mesS L G)).sum
def ixd : Nat → List Nd → List (Nat × Nd)
  | _, [] => []
  | i, n :: l => (i, n) :: ixd (i + 1) l
theorem ixd_length (i : Nat) (l : List Nd) : (ixd i l).length = l.length := by
  induction l generalizing i with
  | nil => rfl
  | cons n l ih => simp [ixd, ih]
theorem ixd_append (i : Nat) (l r : List Nd) : ixd i (l ++ r) = ixd i l ++ ixd (i + l.length) r := by
  induction l generalizing i with
  | nil => rfl
  | cons n l ih => simp [ixd, ih, Nat.add_assoc, Nat.add_comm 1]
theorem mesW_len (L : List Ins) (G : List EId) (S : List St) : S.length ≤ mesW L G S := by
  induction S with
  | nil => exact Nat.le_refl _
  | cons s S ih =>
    show S.length + 1 ≤ mesS L G s + mesW L G S
    have : 1 ≤ mesS L G s := by unfold mesS; omega
    omega
theorem mesW_cons (L : List Ins) (G : List EId) (s : St) (S : List St) : mesW L G (s :: S) = mesS L G s + mesW L G S := rfl
theorem outW_cons (L : List Ins) (G : List EId) (s : St) (S : List St) : outW L G (s :: S) = outS L G s ++ outW L G S := rfl
section
variable {L : List Ins} {G : List EId}
theorem Good.all_full (g : Good L) (x : EId) (r : Bool) : (kids L x r).flatMap (fullA L G) = all L G x r := (g.all_eq x r).symm
/-- down -/
theorem step_down (g : Good L) {s : St} (h : s.at_ < (kids L s.id s.side).length) :
    outS L G s = outS L G ⟨(kids L s.id s.side)[s.at_], false, 0⟩ ++ outS L G ⟨s.id, s.side, s.at_ + 1⟩ ∧ mesS L G ⟨(kids L s.id s.side)[s.at_], false, 0⟩ + mesS L G ⟨s.id, s.side, s.at_ + 1⟩ < mesS L G s := by
  have hy : (kids L s.id s.side)[s.at_] ≠ root := by
    obtain ⟨i, hi, e, -⟩ := mem_kids.1 (List.getElem_mem h)
    rw [← e]
    exact okI_ne (g.ok i hi)
  have hd := List.drop_eq_getElem_cons h
  generalize (kids L s.id s.side)[s.at_] = y at *
  have h1 : outS L G ⟨y, false, 0⟩ = fullA L G y := by
    simp only [outS, List.drop_zero, g.all_full, Bool.false_eq_true, if_false, if_neg hy, fullA, List.append_assoc]
  refine ⟨?_, ?_⟩
  · rw [h1]
    simp only [outS, hd, List.flatMap_cons, List.append_assoc]
  · simp only [mesS, hd, List.flatMap_cons, List.length_append, List.drop_zero, g.all_full, Bool.false_eq_true, if_false]
    simp only [fullA, List.length_append, List.length_singleton]
    omega
/-- over -/
theorem step_over (g : Good L) {s : St} (h : ¬ s.at_ < (kids L s.id s.side).length) (hs : s.side = false) :
    outS L G s = (if s.id = root then [] else [ndOf L G s.id]) ++ outS L G ⟨s.id, true, 0⟩ ∧ mesS L G ⟨s.id, true, 0⟩ < mesS L G s := by
  obtain ⟨x, sd, a⟩ := s
  simp only [] at hs h ⊢
  subst hs
  have hd : (kids L x false).drop a = [] := List.drop_eq_nil_of_le (by omega)
  refine ⟨?_, ?_⟩
  · simp only [outS, hd, List.flatMap_nil, List.nil_append, Bool.false_eq_true, if_false, List.drop_zero, if_true, List.append_nil, g.all_full]
  · simp only [mesS, hd, List.flatMap_nil, List.length_nil, Bool.false_eq_true, if_false, List.drop_zero, if_true, g.all_full]
    omega
/-- up -/
theorem step_up {s : St} (h : ¬ s.at_ < (kids L s.id s.side).length) (hs : s.side = true) : outS L G s = [] ∧ 0 < mesS L G s := by
  obtain ⟨x, sd, a⟩ := s
  simp only [] at hs h ⊢
  subst hs
  have hd : (kids L x true).drop a = [] := List.drop_eq_nil_of_le (by omega)
  refine ⟨?_, by unfold mesS; omega⟩
  simp only [outS, hd, List.flatMap_nil, if_true, List.append_nil]
theorem root_left (g : Good L) : kids L root false = [] := by
  cases e : kids L root false with
  | nil => rfl
  | cons y l =>
    obtain ⟨i, hi, -, hp, hr⟩ := mem_kids.1 (show y ∈ kids L root false by rw [e]; simp)
    have := g.ok i hi
    unfold okI at this
    simp [hp, hr] at this
theorem out_start (g : Good L) : outW L G [⟨root, false, 0⟩] = nodes L G := by
  simp only [outW, List.flatMap_cons, List.flatMap_nil, outS, root_left g, List.drop_nil, if_true, List.nil_append, Bool.false_eq_true, if_false, List.append_nil]
  rfl
theorem mes_start (g : Good L) : mesW L G [⟨root, false, 0⟩] = 4 * (nodes L G).length + 3 := by
  simp only [mesW, List.map_cons, List.map_nil, List.sum_cons, List.sum_nil, mesS, root_left g, List.drop_nil, List.flatMap_nil, List.length_nil, Bool.false_eq_true, if_false]
  show 4 * 0 + (4 * (nodes L G).length + 2) + 1 + 0 = _
  omega
end
end Go.Fug
