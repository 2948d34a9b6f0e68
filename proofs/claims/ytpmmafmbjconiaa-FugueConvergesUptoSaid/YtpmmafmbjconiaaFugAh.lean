/-
  The fugue layer: what is done till nothing more can be done is the same, in whatever order.
  Conditions: none. Lemmas only.
-/
import Derived.Test.YtpmmafmbjconiaaFugAg
import Derived.Test.YtpmmafmbjconiaaFugY
set_option linter.all false
set_option linter.unusedSimpArgs false
set_option linter.unusedVariables false
namespace Go.Proofs.Ytpmmafmbjconiaa
open Go Go.Abs Go.Proofs Go.Fug
theorem good_nd {L : List Ins} (g : Fug.Good L) : L.Nodup := List.Pairwise.of_map (fun x => x.id) (fun a b h e => h (by rw [e])) g.nd
def isAdd (k : DoT) : Bool := decide (k.kind ≠ 0)
def adds (l : List DoT) : List Ins := (l.filter isAdd).map (·.ins)
def drops (l : List DoT) : List EId := (l.filter fun k => !isAdd k).map (·.drop)
theorem adds_drops : ∀ l : List DoT, (adds l).length + (drops l).length = l.length
  | [] => rfl
  | k :: l => by
    have ih := adds_drops l
    simp only [adds, drops, List.length_map, List.filter_cons] at ih ⊢
    cases isAdd k <;> simp <;> omega
theorem mem_adds {l : List DoT} {i : Ins} : i ∈ adds l ↔ ∃ k ∈ l, k.kind ≠ 0 ∧ k.ins = i := by
  simp only [adds, List.mem_map, List.mem_filter, isAdd, decide_eq_true_eq, and_assoc]
theorem mem_drops {l : List DoT} {x : EId} : x ∈ drops l ↔ ∃ k ∈ l, k.kind = 0 ∧ k.drop = x := by
  simp only [drops, List.mem_map, List.mem_filter, isAdd, Bool.not_eq_true', decide_eq_false_iff_not, ne_eq, Decidable.not_not, and_assoc]
structure Inv (l : List DoT) (s : List Ins × List EId) : Prop where
  g : Fug.Good s.1
  ins : ∀ i ∈ s.1, i ∈ adds l
  gn : s.2.Nodup
  gd : ∀ x ∈ s.2, x ∈ drops l
  gs : ∀ x ∈ s.2, x ∈ s.1.map (·.id)
theorem Inv.nil (l : List DoT) : Inv l ([], []) := ⟨Fug.Good.nil, by simp, by simp, by simp, by simp⟩
def siz (s : List Ins × List EId) : Nat := s.1.length + s.2.length
theorem addL_cases (L : List Ins) (i : Ins) : (addL L i).1 = L ∧ (okI i = false ∨ i.id ∈ L.map (·.id) ∨ (i.par ≠ root ∧ i.par ∉ L.map (·.id)) ∨ L.length = 4096) ∨
    (addL L i).1 = L ++ [i] ∧ okI i = true ∧ i.id ∉ L.map (·.id) ∧ (i.par = root ∨ i.par ∈ L.map (·.id)) := by
  unfold addL
  by_cases h1 : okI i = false
  · rw [if_pos h1]; exact .inl ⟨rfl, .inl h1⟩
  · rw [if_neg h1]
    by_cases h2 : i.id ∈ L.map (·.id)
    · rw [if_pos h2]; exact .inl ⟨rfl, .inr (.inl h2)⟩
    · rw [if_neg h2]
      by_cases h3 : i.par ≠ root ∧ i.par ∉ L.map (·.id)
      · rw [if_pos h3]; exact .inl ⟨rfl, .inr (.inr (.inl h3))⟩
      · rw [if_neg h3]
        by_cases h4 : L.length = 4096
        · rw [if_pos h4]; exact .inl ⟨rfl, .inr (.inr (.inr h4))⟩
        · rw [if_neg h4]
          refine .inr ⟨rfl, by simpa using h1, h2, ?_⟩
          by_cases h5 : i.par = root
          · exact .inl h5
          · exact .inr (Decidable.not_not.1 fun h => h3 ⟨h5, h⟩)
theorem dropG_cases (L : List Ins) (G : List EId) (x : EId) : (dropG L G x).1 = G ∧ (x ∉ L.map (·.id) ∨ x ∈ G) ∨ (dropG L G x).1 = G ++ [x] ∧ x ∈ L.map (·.id) ∧ x ∉ G := by
  unfold dropG
  by_cases h1 : x ∉ L.map (·.id)
  · rw [if_pos h1]; exact .inl ⟨rfl, .inl h1⟩
  · rw [if_neg h1]
    by_cases h2 : x ∈ G
    · rw [if_pos h2]; exact .inl ⟨rfl, .inr h2⟩
    · rw [if_neg h2]; exact .inr ⟨rfl, Decidable.not_not.1 h1, h2⟩
theorem Inv.step {l : List DoT} {s : List Ins × List EId} (h : Inv l s) {k : DoT} (hk : k ∈ l) : Inv l (stepL k s) ∧ (stepL k s = s ∨ siz (stepL k s) = siz s + 1) := by
  obtain ⟨L, G⟩ := s
  obtain ⟨g, hi, gn, gd, gs⟩ := h
  simp only [] at g hi gn gd gs
  unfold stepL
  by_cases hz : k.kind = 0
  · rw [if_pos hz]
    rcases dropG_cases L G k.drop with ⟨e, -⟩ | ⟨e, h1, h2⟩
    · simp only [e]
      exact ⟨⟨g, hi, gn, gd, gs⟩, .inl trivial⟩
    · simp only [e]
      refine ⟨⟨g, hi, ?_, fun x hx => ?_, fun x hx => ?_⟩, .inr (by simp [siz]; omega)⟩
      · rw [List.nodup_append]
        exact ⟨gn, by simp, fun a ha b hb => by rw [List.mem_singleton.1 hb]; rintro rfl; exact h2 ha⟩
      · rcases List.mem_append.1 hx with h | h
        · exact gd x h
        · rw [List.mem_singleton.1 h]; exact mem_drops.2 ⟨k, hk, hz, rfl⟩
      · rcases List.mem_append.1 hx with h | h
        · exact gs x h
        · rw [List.mem_singleton.1 h]; exact h1
  · rw [if_neg hz]
    rcases addL_cases L k.ins with ⟨e, -⟩ | ⟨e, h1, h2, h3⟩
    · simp only [e]
      exact ⟨⟨g, hi, gn, gd, gs⟩, .inl trivial⟩
    · simp only [e]
      refine ⟨⟨g.snoc h1 h2 h3, fun i hx => ?_, gn, gd, fun x hx => ?_⟩, .inr (by simp [siz]; omega)⟩
      · rcases List.mem_append.1 hx with h | h
        · exact hi i h
        · rw [List.mem_singleton.1 h]; exact mem_adds.2 ⟨k, hk, hz, rfl⟩
      · simp only [List.map_append]
        exact List.mem_append_left _ (gs x hx)
theorem Inv.size {l : List DoT} {s : List Ins × List EId} (h : Inv l s) : siz s ≤ l.length := by
  have h1 := len_le_of_sub s.1 (adds l) (good_nd h.g) h.ins
  have h2 := len_le_of_sub s.2 (drops l) h.gn h.gd
  have := adds_drops l
  unfold siz
  omega
theorem Inv.run {l : List DoT} : ∀ (m : List DoT) {s : List Ins × List EId}, (∀ k ∈ m, k ∈ l) → Inv l s → Inv l (runL m s) ∧ siz s ≤ siz (runL m s) ∧ (siz (runL m s) = siz s → runL m s = s ∧ ∀ k ∈ m, stepL k s = s)
  | [], s, _, h => ⟨h, Nat.le_refl _, fun _ => ⟨rfl, by simp⟩⟩
  | k :: m, s, hm, h => by
    obtain ⟨h1, h2⟩ := h.step (hm k (by simp))
    obtain ⟨h3, h4, h5⟩ := Inv.run m (fun x hx => hm x (by simp [hx])) h1
    refine ⟨h3, ?_, fun e => ?_⟩
    · have e : runL (k :: m) s = runL m (stepL k s) := rfl
      rw [e]
      rcases h2 with h2 | h2
      · rw [h2] at h4 ⊢; exact h4
      · omega
    · have e' : runL (k :: m) s = runL m (stepL k s) := rfl
      rw [e'] at e ⊢
      rcases h2 with h2 | h2
      · rw [h2] at e h5 ⊢
        obtain ⟨h6, h7⟩ := h5 e
        exact ⟨h6, fun x hx => by
          rcases List.mem_cons.1 hx with h | h
          · rw [h]; exact h2
          · exact h7 x h⟩
      · omega
theorem rounds_inv (l : List DoT) : ∀ n, Inv l (rounds l n) ∧ ((∀ k ∈ l, stepL k (rounds l n) = rounds l n) ∨ n ≤ siz (rounds l n))
  | 0 => ⟨Inv.nil l, .inr (Nat.zero_le _)⟩
  | n + 1 => by
    obtain ⟨h1, h2⟩ := rounds_inv l n
    obtain ⟨h3, h4, h5⟩ := h1.run l (fun _ h => h)
    refine ⟨h3, ?_⟩
    by_cases e : siz (runL l (rounds l n)) = siz (rounds l n)
    · obtain ⟨h6, h7⟩ := h5 e
      left
      show ∀ k ∈ l, stepL k (runL l (rounds l n)) = runL l (rounds l n)
      rw [h6]
      exact h7
    · rcases h2 with h2 | h2
      · exfalso
        apply e
        have : ∀ m : List DoT, (∀ k ∈ m, stepL k (rounds l n) = rounds l n) → runL m (rounds l n) = rounds l n := fun m => by
          induction m with
          | nil => intro _; rfl
          | cons k m ih =>
            intro hm
            have e' : runL (k :: m) (rounds l n) = runL m (stepL k (rounds l n)) := rfl
            rw [e', hm k (by simp)]
            exact ih fun x hx => hm x (by simp [hx])
        rw [this l h2]
      · right
        show n + 1 ≤ siz (runL l (rounds l n))
        omega
theorem settled_fix (l : List DoT) : Inv l (rounds l (l.length + 1)) ∧ ∀ k ∈ l, stepL k (rounds l (l.length + 1)) = rounds l (l.length + 1) := by
  obtain ⟨h1, h2⟩ := rounds_inv l (l.length + 1)
  refine ⟨h1, ?_⟩
  rcases h2 with h2 | h2
  · exact h2
  · have := h1.size
    omega
theorem conv_sub {D D' : List DoT} (hl : D'.length ≤ 40) (hm : ∀ k, k ∈ D → k ∈ D') (hm' : ∀ k, k ∈ D' → k ∈ D) (hu : ∀ i ∈ adds D, ∀ j ∈ adds D, i.id = j.id → i = j)
    {s s' : List Ins × List EId} (h : Inv D s) (h' : Inv D' s') (hf : ∀ k ∈ D', stepL k s' = s') : (∀ i ∈ s.1, i ∈ s'.1) ∧ ∀ x ∈ s.2, x ∈ s'.2 := by
  have key : ∀ j (hj : j < s.1.length), s.1[j] ∈ s'.1 := by
    intro j
    induction j using Nat.strongRecOn with
    | ind j ih =>
      intro hj
      have hmem := List.getElem_mem hj
      have hok := h.g.ok _ hmem
      obtain ⟨k, hk, hz, hki⟩ := mem_adds.1 (h.ins _ hmem)
      have hfk := hf k (hm k hk)
      unfold stepL at hfk
      rw [if_neg hz, hki] at hfk
      have hsz := h'.size
      unfold siz at hsz
      have hid : s.1[j].id ∈ s'.1.map (·.id) := by
        rcases addL_cases s'.1 s.1[j] with ⟨-, h1 | h1 | h1 | h1⟩ | ⟨e, -⟩
        · rw [h1] at hok; cases hok
        · exact h1
        · exfalso
          rcases h.g.up j hj with h2 | ⟨q, hq, h2⟩
          · exact h1.1 h2
          · exact h1.2 (by rw [← h2]; exact List.mem_map.2 ⟨_, ih q hq (by omega), rfl⟩)
        · omega
        · exfalso
          have := congrArg (fun s => s.1.length) hfk
          simp only [e, List.length_append, List.length_singleton] at this
          omega
      obtain ⟨i', hi', he⟩ := List.mem_map.1 hid
      obtain ⟨k', hk', hz', hki'⟩ := mem_adds.1 (h'.ins _ hi')
      have := hu i' (mem_adds.2 ⟨k', hm' k' hk', hz', hki'⟩) _ (h.ins _ hmem) he
      rw [← this]
      exact hi'
  have key' : ∀ i ∈ s.1, i ∈ s'.1 := fun i hi => by
    obtain ⟨j, hj, rfl⟩ := List.mem_iff_getElem.1 hi
    exact key j hj
  refine ⟨key', fun x hx => ?_⟩
  obtain ⟨k, hk, hz, hkx⟩ := mem_drops.1 (h.gd x hx)
  have hfk := hf k (hm k hk)
  unfold stepL at hfk
  rw [if_pos hz, hkx] at hfk
  obtain ⟨i, hi, he⟩ := List.mem_map.1 (h.gs x hx)
  have hxi : x ∈ s'.1.map (·.id) := List.mem_map.2 ⟨i, key' i hi, he⟩
  rcases dropG_cases s'.1 s'.2 x with ⟨-, h1 | h1⟩ | ⟨e, -⟩
  · exact absurd hxi h1
  · exact h1
  · exfalso
    have := congrArg (fun s => s.2.length) hfk
    simp only [e, List.length_append, List.length_singleton] at this
    omega
theorem sorted_eq : ∀ {l m : List EId}, Sorted l → Sorted m → (∀ x, x ∈ l ↔ x ∈ m) → l = m
  | [], [], _, _, _ => rfl
  | [], y :: m, _, _, h => by have := (h y).2 (by simp); simp at this
  | x :: l, [], _, _, h => by have := (h x).1 (by simp); simp at this
  | x :: l, y :: m, hl, hm, h => by
    obtain ⟨a1, a2⟩ := List.pairwise_cons.1 hl
    obtain ⟨b1, b2⟩ := List.pairwise_cons.1 hm
    have exy : x = y := by
      rcases List.mem_cons.1 ((h x).1 (by simp)) with e | e
      · exact e
      · rcases List.mem_cons.1 ((h y).2 (by simp)) with e' | e'
        · exact e'.symm
        · have h1 := b1 x e
          have h2 := a1 y e'
          rw [less_asym h1] at h2
          cases h2
    subst exy
    have : l = m := sorted_eq a2 b2 fun z => by
      constructor
      · intro hz
        rcases List.mem_cons.1 ((h z).1 (by simp [hz])) with e | e
        · subst e
          have := a1 z hz
          rw [less_irr] at this
          cases this
        · exact e
      · intro hz
        rcases List.mem_cons.1 ((h z).2 (by simp [hz])) with e | e
        · subst e
          have := b1 z hz
          rw [less_irr] at this
          cases this
        · exact e
    rw [this]
theorem nodes_congr {L L' : List Ins} {G G' : List EId} (g : Fug.Good L) (g' : Fug.Good L') (h : ∀ i, i ∈ L ↔ i ∈ L') (hg : ∀ x, x ∈ G ↔ x ∈ G') : nodes L G = nodes L' G' := by
  have hlen : L.length = L'.length := Nat.le_antisymm (len_le_of_sub _ _ (good_nd g) fun i => (h i).1) (len_le_of_sub _ _ (good_nd g') fun i => (h i).2)
  have hk : ∀ p r, kids L p r = kids L' p r := fun p r => sorted_eq (kids_sorted g.nd p r) (kids_sorted g'.nd p r) fun x => by
    rw [mem_kids, mem_kids]
    constructor
    · rintro ⟨i, h1, h2⟩; exact ⟨i, (h i).1 h1, h2⟩
    · rintro ⟨i, h1, h2⟩; exact ⟨i, (h i).2 h1, h2⟩
  have hn : ∀ y, ndOf L G y = ndOf L' G' y := fun y => by
    have e1 : decide (y ∈ G) = decide (y ∈ G') := decide_eq_decide.2 (hg y)
    have e2 : (L.find? fun i => decide (i.id = y)) = L'.find? fun i => decide (i.id = y) := by
      cases e : L.find? fun i => decide (i.id = y) with
      | none =>
        symm
        rw [List.find?_eq_none] at e ⊢
        intro i hi
        exact e i ((h i).2 hi)
      | some i =>
        have hi := List.mem_of_find?_eq_some e
        have hp := List.find?_some e
        simp only [decide_eq_true_eq] at hp
        have := find_id g'.nd ((h i).1 hi)
        rw [hp] at this
        exact this.symm
    unfold ndOf
    rw [e1, e2]
  have hb : ∀ n x r, below L G n x r = below L' G' n x r := by
    intro n
    induction n with
    | zero => intro x r; rfl
    | succ n ih =>
      intro x r
      simp only [below]
      rw [hk]
      congr 1
      funext y
      rw [ih, ih, hn]
  show below L G (L.length + 1) root true = below L' G' (L'.length + 1) root true
  rw [hlen, hb]
theorem converges {D D' : List DoT} (hl : D.length ≤ 40) (hp : D'.Perm D) (hu : ∀ i ∈ adds D, ∀ j ∈ adds D, i.id = j.id → i = j) :
    nodes (rounds D (D.length + 1)).1 (rounds D (D.length + 1)).2 = nodes (rounds D' (D'.length + 1)).1 (rounds D' (D'.length + 1)).2 := by
  obtain ⟨h1, h2⟩ := settled_fix D
  obtain ⟨h3, h4⟩ := settled_fix D'
  have hm : ∀ k, k ∈ D → k ∈ D' := fun k hk => hp.mem_iff.2 hk
  have hm' : ∀ k, k ∈ D' → k ∈ D := fun k hk => hp.mem_iff.1 hk
  have hl' : D'.length ≤ 40 := by rw [hp.length_eq]; exact hl
  have hu' : ∀ i ∈ adds D', ∀ j ∈ adds D', i.id = j.id → i = j := fun i hi j hj => by
    have tr : ∀ i, i ∈ adds D' → i ∈ adds D := fun i hi => by
      obtain ⟨k, hk, r⟩ := mem_adds.1 hi
      exact mem_adds.2 ⟨k, hm' k hk, r⟩
    exact hu i (tr i hi) j (tr j hj)
  obtain ⟨a1, a2⟩ := conv_sub hl' hm hm' hu h1 h3 h4
  obtain ⟨b1, b2⟩ := conv_sub hl hm' hm hu' h3 h1 h2
  exact nodes_congr h1.g h3.g (fun i => ⟨a1 i, b1 i⟩) fun x => ⟨a2 x, b2 x⟩
end Go.Proofs.Ytpmmafmbjconiaa
