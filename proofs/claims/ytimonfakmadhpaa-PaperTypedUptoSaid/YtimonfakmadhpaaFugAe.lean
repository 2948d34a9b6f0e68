/-
  The fugue layer in plain Lean: one that is planned stands where it was planned.
  Conditions: none. Lemmas only.
-/
import Derived.Test.YtimonfakmadhpaaFugG5
set_option linter.all false
namespace Go.Fug
theorem ndOf_snoc' {L : List Ins} {G : List EId} {i : Ins} {y : EId} (h : y ≠ i.id) : bl (L ++ [i]) G y = bl L G y := by
  unfold bl
  rw [List.find?_append]
  have : ([i].find? fun j => decide (j.id = y)) = none := by simp; exact fun e => h e.symm
  rw [this]
  cases L.find? fun j => decide (j.id = y) <;> rfl
theorem no_kids' {L : List Ins} (g : Good L) {x : EId} (hr : x ≠ bL) (h : x ∉ L.map (·.id)) (r : Bool) : kids L x r = [] := by
  cases e : kids L x r with
  | nil => rfl
  | cons y l =>
    obtain ⟨j,hj,-,hp,-⟩ := mem_kids.1 (show y ∈ kids L x r by rw [e]; simp)
    obtain ⟨k,hk,rfl⟩ := List.mem_iff_getElem.1 hj
    rcases g.up k hk with h1 | ⟨q,hq,h1⟩
    · exact absurd (hp.symm.trans h1) hr
    · exact absurd (List.mem_map.2 ⟨_,List.getElem_mem _,h1.trans hp⟩) h
section
variable {L : List Ins} {G : List EId} {i : Ins}
theorem Good.new_id (g : Good (L ++ [i])) : i.id ∉ L.map (·.id) := by
  have := g.nd
  rw [List.map_append,List.nodup_append] at this
  exact fun h => this.2.2 _ h i.id (by simp) rfl
theorem Good.new_par (g : Good (L ++ [i])) : i.par = bL ∨ i.par ∈ L.map (·.id) := by
  have := g.up L.length (by simp)
  rw [List.getElem_append_right (by omega)] at this
  simp only [Nat.sub_self,List.getElem_cons_zero] at this
  rcases this with h | ⟨k,hk,h⟩
  · exact .inl h
  · rw [List.getElem_append_left hk] at h
    exact .inr (List.mem_map.2 ⟨_,List.getElem_mem hk,h⟩)
theorem Good.new_root (g : Good (L ++ [i])) : i.id ≠ bL := okI_ne (g.ok i (by simp))
theorem Good.new_ne (g : Good (L ++ [i])) : i.par ≠ i.id := fun e => by
  rcases g.new_par with h | h
  · exact g.new_root (e.symm.trans h)
  · exact g.new_id (by rw [← e]; exact h)
def insF (L : List Ins) (G : List EId) (i : Ins) (n : Nd) : List Nd :=
  if n.id = i.par then (if i.right then [n,bl (L ++ [i]) G i.id] else [bl (L ++ [i]) G i.id,n]) else [n]
theorem new_all (g : Good L) (g' : Good (L ++ [i])) (b : Bool) : all (L ++ [i]) G i.id b = [] := by
  rw [g'.all_eq,cP,if_neg (fun e => g'.new_ne e.1),no_kids' g g'.new_root g'.new_id]
  rfl
theorem slot_all (g : Good L) (g' : Good (L ++ [i])) (hk : kids L i.par i.right = []) : all (L ++ [i]) G i.par i.right = [bl (L ++ [i]) G i.id] := by
  rw [g'.all_eq,cP,if_pos ⟨rfl,rfl⟩,hk]
  simp only [dq,List.flatMap_cons,List.flatMap_nil,new_all g g',List.nil_append,List.append_nil]
theorem slot_nil (g : Good L) {x : EId} {r : Bool} (hk : kids L x r = []) : all L G x r = [] := by
  rw [g.all_eq,hk]; rfl
theorem flatMap_flatMap {α β γ : Type} (f : α → List β) (h : β → List γ) (f' : α → List γ) : ∀ l : List α,(∀ y ∈ l,f' y = (f y).flatMap h) → l.flatMap f' = (l.flatMap f).flatMap h
  | [],_ => rfl
  | y :: l,hl => by
    rw [List.flatMap_cons,List.flatMap_cons,List.flatMap_append,hl y (by simp),flatMap_flatMap f h f' l fun z hz => hl z (by simp [hz])]
theorem ins_all (g : Good L) (g' : Good (L ++ [i])) (hk : kids L i.par i.right = []) : ∀ (n : Nat) (x : EId) (r : Bool),Deep L n x → ¬ (i.par = x ∧ i.right = r) → all (L ++ [i]) G x r = (all L G x r).flatMap (insF L G i) := by
  intro n
  induction n with
  | zero =>
    intro x r d hne
    have hK : kids L x r = [] := by
      cases e : kids L x r with
      | nil => rfl
      | cons y l => obtain ⟨m,h1,-⟩ := d.kid (y := y) (r := r) (by rw [e]; simp); omega
    rw [g'.all_eq,g.all_eq,cP,if_neg hne,hK]
    rfl
  | succ n ih =>
    intro x r d hne
    rw [g'.all_eq,g.all_eq,cP,if_neg hne]
    refine flatMap_flatMap _ _ _ _ fun y hy => ?_
    obtain ⟨m,hm,dy⟩ := d.kid hy
    obtain rfl : m = n := by omega
    obtain ⟨j,hj,he,-⟩ := mem_kids.1 hy
    have hyn : y ≠ i.id := fun e => g'.new_id (by rw [← e,← he]; exact List.mem_map.2 ⟨j,hj,rfl⟩)
    rw [ndOf_snoc' hyn]
    have hid : (bl L G y).id = y := rfl
    simp only [List.flatMap_append,List.flatMap_cons,List.flatMap_nil,List.append_nil]
    by_cases hp : y = i.par
    · subst hp
      cases hr : i.right with
      | true =>
        have h1 := ih i.par false dy (fun e => by rw [hr] at e; cases e.2)
        have h2 := slot_all (G := G) g g' hk
        have h3 := slot_nil (G := G) g hk
        rw [hr] at h2 h3
        rw [h1,h2,h3]
        simp only [insF,hid,if_true,hr,List.flatMap_nil,List.append_nil,List.append_assoc,List.cons_append,List.nil_append]
      | false =>
        have h1 := ih i.par true dy (fun e => by rw [hr] at e; cases e.2)
        have h2 := slot_all (G := G) g g' hk
        have h3 := slot_nil (G := G) g hk
        rw [hr] at h2 h3
        rw [h1,h2,h3]
        simp only [insF,hid,if_true,hr,Bool.false_eq_true,if_false,List.flatMap_nil,List.nil_append,List.append_assoc,List.cons_append]
    · rw [ih y false dy (fun e => hp e.1.symm),ih y true dy (fun e => hp e.1.symm)]
      simp only [insF,hid,if_neg hp]
theorem ins_same {p : EId} (hp : i.par = p) : ∀ l : List Nd,p ∉ ck l → l.flatMap (insF L G i) = l
  | [],_ => rfl
  | n :: l,h => by
    have h1 : ¬ n.id = i.par := fun e => h (by rw [← hp,← e]; simp)
    rw [List.flatMap_cons,ins_same hp l (fun h' => h (List.mem_cons_of_mem _ h'))]
    simp only [insF,if_neg h1,List.cons_append,List.nil_append]
def liv (l : List Nd) : List Nd := l.filter fun n => !n.gone
theorem liv_append (l r : List Nd) : liv (l ++ r) = liv l ++ liv r := by simp [liv]
theorem nd_eq {n : Nd} (h : n ∈ bF L G) : n = bl L G n.id := by
  obtain ⟨y,-,rfl⟩ := mem_below h
  rfl
theorem liv_nodup (g : Good L) (G : List EId) : (ck (liv (bF L G))).Nodup := (nodes_nodup g G).sublist (List.Sublist.map _ List.filter_sublist)
theorem split_k (g : Good L) {a : EId} {k : Nat} (hk : k ≤ (liv (bF L G)).length) (h0 : k = 0 → a = bL) (h1 : ∀ h : 0 < k, a = ((liv (bF L G))[k - 1]'(by omega)).id) :
    ∃ A Y,bF L G = A ++ (all L G a true ++ Y) ∧ (liv A).length = k ∧ (a = bL ∧ A = [] ∧ Y = [] ∨ ∃ X,A = X ++ [bl L G a]) := by
  rcases Nat.eq_zero_or_pos k with e | e
  · subst e
    rw [h0 rfl]
    exact ⟨[],[],by simp only [List.append_nil,List.nil_append]; rfl,rfl,.inl ⟨rfl,rfl,rfl⟩⟩
  · have ha := h1 e
    have hmem : (liv (bF L G))[k - 1]'(by omega) ∈ liv (bF L G) := List.getElem_mem _
    obtain ⟨hmn,hgn⟩ := List.mem_filter.1 hmem
    have hnd := nd_eq hmn
    rw [← ha] at hnd
    rw [hnd] at hgn
    have hids : a ∈ L.map (·.id) := (mem_nodes g G).1 (by rw [ha]; exact List.mem_map.2 ⟨_,hmn,rfl⟩)
    obtain ⟨X,Y,hX⟩ := nodes_split (G := G) g hids
    refine ⟨X ++ [bl L G a],Y,by rw [hX]; simp,?_,.inr ⟨X,rfl⟩⟩
    have hone : liv [bl L G a] = [bl L G a] := by simp only [liv,List.filter_cons,hgn,if_true,List.filter_nil]
    have hlv : liv (bF L G) = liv X ++ bl L G a :: liv (all L G a true ++ Y) := by
      rw [hX,liv_append,show bl L G a :: (all L G a true ++ Y) = [bl L G a] ++ (all L G a true ++ Y) from rfl,liv_append [bl L G a],hone]
      rfl
    have hlt : (liv X).length < (liv (bF L G)).length := by rw [hlv]; simp
    have e1 : (ck (liv (bF L G)))[k - 1]'(by simpa [ck] using (by omega : k - 1 < (liv (bF L G)).length)) = (ck (liv (bF L G)))[(liv X).length]'(by simpa [ck] using hlt) := by
      simp only [ck,List.getElem_map]
      rw [← ha]
      simp [hlv,bl]
    have := (List.getElem_inj (liv_nodup g G)).1 e1
    rw [liv_append,hone,List.length_append,List.length_singleton]
    omega
theorem plan_ins (g : Good L) (g' : Good (L ++ [i])) {a : EId} {k : Nat} (hk : k ≤ (liv (bF L G)).length) (h0 : k = 0 → a = bL) (h1 : ∀ h : 0 < k, a = ((liv (bF L G))[k - 1]'(by omega)).id)
    (hp : (kids L a true = [] ∧ i.par = a ∧ i.right = true) ∨ (kids L a true ≠ [] ∧ i.par = planZ L G a ∧ i.right = false)) :
    ∃ A B,bF L G = A ++ B ∧ bF (L ++ [i]) G = A ++ bl (L ++ [i]) G i.id :: B ∧ (liv A).length = k := by
  obtain ⟨A,Y,hN,hA,hc⟩ := split_k g hk h0 h1
  refine ⟨A,all L G a true ++ Y,hN,?_,hA⟩
  have hnd := nodes_nodup g G
  rcases hp with ⟨hK,hpa,hr⟩ | ⟨hK,hpz,hr⟩
  · have hnil := slot_nil (G := G) g hK
    rw [hnil] at hN ⊢
    rw [List.nil_append] at hN ⊢
    have hslot : kids L i.par i.right = [] := by rw [hpa,hr]; exact hK
    rcases hc with ⟨ha,rfl,rfl⟩ | ⟨X,rfl⟩
    · have := slot_all (G := G) g g' hslot
      rw [hpa,hr,ha] at this
      exact this
    · have har : a ≠ bL := fun e => by
        have : a ∈ ck (bF L G) := by rw [hN]; simp [ck,bl]
        exact root_not g ((mem_nodes g G).1 (by rw [← e]; exact this))
      have hi := ins_all (G := G) g g' hslot _ bL true (g.deep bL) (fun e => har (hpa.symm.trans e.1))
      have hi' : bF (L ++ [i]) G = (bF L G).flatMap (insF L G i) := hi
      rw [hi',hN]
      rw [hN] at hnd
      simp only [ck,List.map_append,List.map_cons,List.map_nil,List.append_assoc,List.cons_append,List.nil_append] at hnd
      rw [List.nodup_append] at hnd
      obtain ⟨-,n2,n3⟩ := hnd
      have hX : a ∉ ck X := fun h => n3 a h _ List.mem_cons_self rfl
      have hY : a ∉ ck Y := (List.nodup_cons.1 n2).1
      simp only [List.flatMap_append,List.flatMap_cons,List.flatMap_nil,List.append_nil]
      rw [ins_same hpa X hX,ins_same hpa Y hY]
      have hid : (bl L G a).id = i.par := hpa.symm
      simp only [insF,hid,if_true,hr,List.append_assoc,List.cons_append,List.nil_append]
  · obtain ⟨z, W, hz⟩ : ∃ z W, all L G a true = z :: W := by
      cases e : all L G a true with
      | nil => exact absurd e (all_ne g hK)
      | cons z W => exact ⟨z,W,rfl⟩
    rw [planZ_eq hz] at hpz
    obtain ⟨hzl,hzi⟩ := first_left g _ a true (g.deep a) z W hz
    have hslot : kids L i.par i.right = [] := by rw [hpz,hr]; exact hzl
    have hzr : z.id ≠ bL := fun e => root_not g (by rw [← e]; exact hzi)
    have hi := ins_all (G := G) g g' hslot _ bL true (g.deep bL) (fun e => hzr (hpz.symm.trans e.1))
    have hi' : bF (L ++ [i]) G = (bF L G).flatMap (insF L G i) := hi
    rw [hz] at hN ⊢
    rw [hi',hN]
    rw [hN] at hnd
    simp only [ck,List.map_append,List.map_cons,List.cons_append] at hnd
    rw [List.nodup_append] at hnd
    obtain ⟨-,n2,n3⟩ := hnd
    have hX : z.id ∉ ck A := fun h => n3 z.id h _ List.mem_cons_self rfl
    have hY : z.id ∉ ck (W ++ Y) := by
      have := (List.nodup_cons.1 n2).1
      rwa [← List.map_append] at this
    rw [List.flatMap_append,List.cons_append,List.flatMap_cons,ins_same hpz A hX,ins_same hpz (W ++ Y) hY]
    have hid : z.id = i.par := hpz.symm
    simp only [insF,hid,if_true,hr,Bool.false_eq_true,if_false,List.cons_append,List.nil_append]
end
end Go.Fug
