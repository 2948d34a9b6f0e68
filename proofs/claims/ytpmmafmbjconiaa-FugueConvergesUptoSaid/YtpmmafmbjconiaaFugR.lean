/-
  The fugue layer in plain Lean: what is done later moves no element past another one.
  Conditions: none. Lemmas only.
-/
import Derived.Test.YtpmmafmbjconiaaFugT
set_option linter.all false
namespace Go.Fug
theorem sub_putL (x : EId) : ∀ l : List EId, l.Sublist (putL l x)
  | [] => List.nil_sublist _
  | y :: l => by
    simp only [putL]
    split
    · exact (sub_putL x l).cons_cons y
    · exact (List.Sublist.refl _).cons x
theorem kids_sub (L M : List Ins) (p : EId) (r : Bool) : (kids L p r).Sublist (kids (L ++ M) p r) := by
  induction M using snocInd with
  | nil => rw [List.append_nil]; exact List.Sublist.refl _
  | snoc M i ih =>
    rw [← List.append_assoc, kids_snoc]
    split
    · exact ih.trans (sub_putL _ _)
    · exact ih
theorem flatMap_sub {α β : Type} {f g : α → List β} (h : ∀ y, (f y).Sublist (g y)) {l m : List α} (s : l.Sublist m) : (l.flatMap f).Sublist (m.flatMap g) := by
  induction s with
  | slnil => exact List.nil_sublist _
  | cons a s ih => rw [List.flatMap_cons]; exact ih.trans (List.sublist_append_right _ _)
  | cons_cons a s ih => rw [List.flatMap_cons, List.flatMap_cons]; exact List.Sublist.append (h a) ih
abbrev idsN (l : List Nd) : List EId := l.map (·.id)
theorem below_sub (L M : List Ins) (G G' : List EId) : ∀ (n m : Nat) (x : EId) (r : Bool), n ≤ m → (idsN (below L G n x r)).Sublist (idsN (below (L ++ M) G' m x r))
  | 0, _, _, _, _ => List.nil_sublist _
  | n + 1, 0, _, _, h => by omega
  | n + 1, m + 1, x, r, h => by
    simp only [below, idsN, List.map_flatMap]
    refine flatMap_sub (fun y => ?_) (kids_sub L M x r)
    simp only [List.map_append]
    exact ((below_sub L M G G' n m y false (by omega)).append (List.Sublist.refl _)).append (below_sub L M G G' n m y true (by omega))
theorem nodes_sub (L M : List Ins) (G G' : List EId) : (idsN (nodes L G)).Sublist (idsN (nodes (L ++ M) G')) := below_sub L M G G' _ _ _ _ (by simp)
theorem mem_below {L : List Ins} {G : List EId} {b : Nd} : ∀ {n : Nat} {x : EId} {r : Bool}, b ∈ below L G n x r → ∃ y ∈ L.map (·.id), b = ndOf L G y
  | 0, _, _, h => by simp [below] at h
  | n + 1, x, r, h => by
    simp only [below, List.mem_flatMap] at h
    obtain ⟨y, hy, h⟩ := h
    rcases List.mem_append.1 h with h | h
    · rcases List.mem_append.1 h with h | h
      · exact mem_below h
      · obtain ⟨i, h1, h2, -⟩ := mem_kids.1 hy
        exact ⟨y, List.mem_map.2 ⟨i, h1, h2⟩, List.mem_singleton.1 h⟩
    · exact mem_below h
theorem stays_one {L M : List Ins} {G G' : List EId} (hG : ∀ x ∈ G, x ∈ G') {a b : Nd} (ha : a ∈ nodes L G) (hb : b ∈ nodes (L ++ M) G') (h : b.id = a.id) : b.rune = a.rune ∧ (a.gone = true → b.gone = true) := by
  obtain ⟨x, hx, rfl⟩ := mem_below ha
  obtain ⟨y, -, rfl⟩ := mem_below hb
  have e : y = x := h
  subst e
  refine ⟨?_, fun hg => ?_⟩
  · unfold ndOf
    simp only []
    rw [List.find?_append]
    obtain ⟨i, hi, e⟩ := List.mem_map.1 hx
    have : (L.find? fun i => decide (i.id = y)).isSome = true := by
      rw [List.find?_isSome]
      exact ⟨i, hi, by simpa using e⟩
    obtain ⟨j, hj⟩ := Option.isSome_iff_exists.1 this
    rw [hj]; rfl
  · unfold ndOf at hg ⊢
    simp only [decide_eq_true_eq] at hg ⊢
    exact hG _ hg
theorem greedy_yes {a b : Nd} {A B : List Nd} (h : (idsN (a :: A)).Sublist (idsN (b :: B))) (e : b.id = a.id) : (idsN A).Sublist (idsN B) := by
  simp only [idsN, List.map_cons, e] at h
  exact List.cons_sublist_cons.1 h
theorem greedy_no {a b : Nd} {A B : List Nd} (h : (idsN (a :: A)).Sublist (idsN (b :: B))) (e : b.id ≠ a.id) : (idsN (a :: A)).Sublist (idsN B) := by
  simp only [idsN, List.map_cons] at h
  rcases List.sublist_cons_iff.1 h with h | ⟨r, h1, h2⟩
  · exact h
  · simp only [List.cons.injEq] at h1
    exact absurd h1.1.symm e
theorem greedy_nil {b : Nd} {B : List Nd} : (idsN []).Sublist (idsN B) := List.nil_sublist _
theorem greedy_end {A : List Nd} (h : (idsN A).Sublist (idsN [])) : A = [] := by
  have := h.length_le
  cases A with
  | nil => rfl
  | cons a A => simp [idsN] at this
end Go.Fug
