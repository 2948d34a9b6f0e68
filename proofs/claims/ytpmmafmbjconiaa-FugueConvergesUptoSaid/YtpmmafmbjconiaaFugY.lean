/-
  The fugue layer in plain Lean: where an element stands, and where one is to hang that is to stand ahead of it.
  Conditions: none. Lemmas only.
-/
import Derived.Test.YtpmmafmbjconiaaFugR
set_option linter.all false
namespace Go.Fug
theorem sum_count (x : EId) : ∀ l : List Nd, (l.map fun n => if n.id = x then 1 else 0).sum = (idsN l).count x
  | [] => rfl
  | n :: l => by
    have ih := sum_count x l
    simp only [List.map_cons, List.sum_cons, idsN, List.count_cons] at *
    rw [ih]
    by_cases h : n.id = x
    · simp [h]; omega
    · simp [h]
theorem sum_countI (x : EId) (L0 : List Ins) (G : List EId) : ∀ l : List Ins, (l.map fun i => if (ndOf L0 G i.id).id = x then 1 else 0).sum = (l.map (·.id)).count x
  | [] => rfl
  | i :: l => by
    have ih := sum_countI x L0 G l
    simp only [List.map_cons, List.sum_cons, List.count_cons] at *
    rw [ih]
    have e : (ndOf L0 G i.id).id = i.id := rfl
    rw [e]
    by_cases h : i.id = x
    · simp [h]; omega
    · simp [h]
section
variable {L : List Ins} {G : List EId}
theorem count_nodes (g : Good L) (G : List EId) (x : EId) : (idsN (nodes L G)).count x = (L.map (·.id)).count x := by
  rw [← sum_count, ← sum_countI x L G]
  exact nodes_sum g G fun n => if n.id = x then 1 else 0
theorem nodes_nodup (g : Good L) (G : List EId) : (idsN (nodes L G)).Nodup := by
  rw [List.nodup_iff_count]
  intro x
  rw [count_nodes g]
  exact List.nodup_iff_count.1 g.nd x
theorem mem_nodes (g : Good L) (G : List EId) {x : EId} : x ∈ idsN (nodes L G) ↔ x ∈ L.map (·.id) := by
  rw [← List.count_pos_iff, ← List.count_pos_iff, count_nodes g]
theorem root_not (g : Good L) : root ∉ L.map (·.id) := fun h => by
  obtain ⟨i, hi, e⟩ := List.mem_map.1 h
  exact okI_ne (g.ok i hi) e
theorem below_all (g : Good L) {n : Nat} {x : EId} {r : Bool} (d : Deep L n x) : below L G n x r = all L G x r := by
  unfold all
  by_cases h : n ≤ L.length + 1
  · rw [below_deep d h]
  · rw [below_deep (g.deep x) (by omega)]
theorem split_at (g : Good L) {a : EId} : ∀ (n : Nat) (x : EId) (r : Bool), Deep L n x → a ∈ idsN (below L G n x r) → ∃ X Y, below L G n x r = X ++ ndOf L G a :: (all L G a true ++ Y)
  | 0, x, r, _, h => by simp [below, idsN] at h
  | n + 1, x, r, d, h => by
    obtain ⟨b, hb, hba⟩ := List.mem_map.1 h
    simp only [below, List.mem_flatMap] at hb
    obtain ⟨y, hy, hb⟩ := hb
    obtain ⟨m, hm, dy⟩ := d.kid hy
    obtain rfl : n = m := by omega
    obtain ⟨K1, K2, hK⟩ := List.append_of_mem hy
    obtain ⟨F1, F2, e⟩ : ∃ F1 F2, below L G (n + 1) x r = F1 ++ ((below L G n y false ++ [ndOf L G y] ++ below L G n y true) ++ F2) := by
      have e : below L G (n + 1) x r = (kids L x r).flatMap fun y => below L G n y false ++ [ndOf L G y] ++ below L G n y true := rfl
      rw [hK, List.flatMap_append, List.flatMap_cons] at e
      exact ⟨_, _, e⟩
    rcases List.mem_append.1 hb with hb | hb
    · rcases List.mem_append.1 hb with hb | hb
      · obtain ⟨X, Y, hX⟩ := split_at g n y false dy (List.mem_map.2 ⟨b, hb, hba⟩)
        rw [hX] at e
        exact ⟨F1 ++ X, Y ++ [ndOf L G y] ++ below L G n y true ++ F2, by rw [e]; simp only [List.append_assoc, List.cons_append, List.nil_append]⟩
      · have e1 : y = a := by
          rw [List.mem_singleton.1 hb] at hba; exact hba
        subst e1
        rw [below_all g dy (r := true)] at e
        refine ⟨F1 ++ below L G n y false, F2, e.trans ?_⟩
        simp only [List.append_assoc, List.cons_append, List.nil_append]
    · obtain ⟨X, Y, hX⟩ := split_at g n y true dy (List.mem_map.2 ⟨b, hb, hba⟩)
      rw [hX] at e
      exact ⟨F1 ++ below L G n y false ++ [ndOf L G y] ++ X, Y ++ F2, by rw [e]; simp only [List.append_assoc, List.cons_append, List.nil_append]⟩
theorem nodes_split (g : Good L) {a : EId} (h : a ∈ L.map (·.id)) : ∃ X Y, nodes L G = X ++ ndOf L G a :: (all L G a true ++ Y) :=
  split_at g _ _ _ (g.deep root) ((mem_nodes g G).2 h)
/-- the first has none on its left -/
theorem first_left (g : Good L) : ∀ (n : Nat) (x : EId) (r : Bool), Deep L n x → ∀ z W, below L G n x r = z :: W → kids L z.id false = [] ∧ z.id ∈ L.map (·.id)
  | 0, x, r, _, z, W, h => by simp [below] at h
  | n + 1, x, r, d, z, W, h => by
    simp only [below] at h
    cases hk : kids L x r with
    | nil => rw [hk] at h; simp at h
    | cons y l =>
      obtain ⟨m, hm, dy⟩ := d.kid (y := y) (r := r) (by rw [hk]; simp)
      obtain rfl : n = m := by omega
      rw [hk, List.flatMap_cons] at h
      cases hb : below L G n y false with
      | nil =>
        rw [hb] at h
        simp only [List.nil_append, List.cons_append, List.cons.injEq] at h
        obtain ⟨rfl, -⟩ := h
        refine ⟨?_, ?_⟩
        · show kids L y false = []
          cases e : kids L y false with
          | nil => rfl
          | cons v l' =>
            obtain ⟨m, hm, dv⟩ := dy.kid (y := v) (r := false) (by rw [e]; simp)
            subst hm
            simp only [below, e, List.flatMap_cons] at hb
            simp at hb
        · obtain ⟨i, h1, h2, -⟩ := mem_kids.1 (show y ∈ kids L x r by rw [hk]; simp)
          exact List.mem_map.2 ⟨i, h1, h2⟩
      | cons z' W' =>
        have ih := first_left g n y false dy z' W' hb
        rw [hb] at h
        simp only [List.cons_append, List.cons.injEq] at h
        rw [← h.1]
        exact ih
theorem all_ne (g : Good L) {x : EId} {r : Bool} (h : kids L x r ≠ []) : all L G x r ≠ [] := by
  rw [g.all_eq]
  cases e : kids L x r with
  | nil => exact absurd e h
  | cons y l => simp
/-- the first that hangs on one's right -/
def planZ (L : List Ins) (G : List EId) (a : EId) : EId := ((all L G a true).head?.map (·.id)).getD root
theorem planZ_eq {a : EId} {z : Nd} {W : List Nd} (h : all L G a true = z :: W) : planZ L G a = z.id := by unfold planZ; rw [h]; rfl
theorem plan_pos (g : Good L) {a : EId} (ha : a = root ∨ a ∈ L.map (·.id)) (hk : kids L a true ≠ []) :
    ∃ p, p < (nodes L G).length ∧ (∀ k (h : k < (nodes L G).length), (nodes L G)[k].id = a ↔ k + 1 = p) ∧ ∀ h : p < (nodes L G).length, (nodes L G)[p].id = planZ L G a := by
  obtain ⟨z, W, hz⟩ : ∃ z W, all L G a true = z :: W := by
    cases e : all L G a true with
    | nil => exact absurd e (all_ne g hk)
    | cons z W => exact ⟨z, W, rfl⟩
  rw [planZ_eq hz]
  by_cases hr : a = root
  · subst hr
    have e : nodes L G = z :: W := hz
    refine ⟨0, by rw [e]; simp, fun k h => ⟨fun h' => ?_, fun h' => by omega⟩, fun h => by simp [e]⟩
    exact absurd ((mem_nodes g G).1 (by rw [← h']; exact List.mem_map.2 ⟨_, List.getElem_mem h, rfl⟩)) (root_not g)
  · obtain ⟨X, Y, e⟩ := nodes_split (G := G) g (ha.resolve_left hr)
    rw [hz] at e
    have nd := nodes_nodup g G
    refine ⟨X.length + 1, by rw [e]; simp, fun k h => ⟨fun h' => ?_, fun h' => ?_⟩, fun h => ?_⟩
    · have hX : X.length < (nodes L G).length := by rw [e]; simp
      have e1 : (idsN (nodes L G))[k]'(by simpa [idsN] using h) = (idsN (nodes L G))[X.length]'(by simpa [idsN] using hX) := by
        simp only [idsN, List.getElem_map, h']
        simp [e, ndOf]
      have := (List.getElem_inj nd).1 e1
      omega
    · obtain rfl : k = X.length := by omega
      simp [e, ndOf]
    · simp only [e]
      rw [List.getElem_append_right (by omega)]
      simp
end
end Go.Fug
