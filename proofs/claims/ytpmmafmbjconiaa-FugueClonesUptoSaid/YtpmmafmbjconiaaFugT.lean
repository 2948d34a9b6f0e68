/-
  The fugue layer in plain Lean: each element stands in the text just once.
  Conditions: none. Lemmas only.
-/
import Derived.Test.YtpmmafmbjconiaaFugS
set_option linter.all false
namespace Go.Fug
def levs (L : List Ins) : Nat → List EId → List EId
  | 0, _ => []
  | n + 1, S => next L S ++ levs L n (next L S)
def cntW (L : List Ins) (G : List EId) (w : Nd → Nat) (n : Nat) (x : EId) : Nat := ((below L G n x false).map w).sum + ((below L G n x true).map w).sum
theorem sum_flatMap {α : Type} (f : α → List Nd) (w : Nd → Nat) : ∀ l : List α, ((l.flatMap f).map w).sum = (l.map fun a => ((f a).map w).sum).sum
  | [] => rfl
  | a :: l => by simp only [List.flatMap_cons, List.map_append, List.sum_append, List.map_cons, List.sum_cons, sum_flatMap f w l]
theorem belowW (L : List Ins) (G : List EId) (w : Nd → Nat) (n : Nat) (x : EId) (r : Bool) : ((below L G (n + 1) x r).map w).sum = ((kids L x r).map fun y => w (ndOf L G y) + cntW L G w n y).sum := by
  simp only [below, sum_flatMap]
  congr 1
  apply List.map_congr_left
  intro y _
  simp only [List.map_append, List.sum_append, List.map_cons, List.map_nil, List.sum_cons, List.sum_nil, cntW]
  omega
theorem cntW_sum (L : List Ins) (G : List EId) (w : Nd → Nat) (n : Nat) : ∀ S : List EId, (S.map (cntW L G w (n + 1))).sum = ((next L S).map fun y => w (ndOf L G y) + cntW L G w n y).sum
  | [] => rfl
  | x :: S => by
    have ih := cntW_sum L G w n S
    simp only [List.map_cons, List.sum_cons, next, List.flatMap_cons, List.map_append, List.sum_append] at *
    rw [ih]
    show cntW L G w (n + 1) x + _ = _
    unfold cntW
    rw [belowW, belowW]
    rfl
theorem sum_add {α : Type} (f g : α → Nat) : ∀ l : List α, (l.map fun a => f a + g a).sum = (l.map f).sum + (l.map g).sum
  | [] => rfl
  | a :: l => by simp only [List.map_cons, List.sum_cons, sum_add f g l]; omega
theorem levs_sum (L : List Ins) (G : List EId) (w : Nd → Nat) : ∀ (n : Nat) (S : List EId), (S.map (cntW L G w n)).sum = ((levs L n S).map fun y => w (ndOf L G y)).sum
  | 0, S => by
    have : ∀ S : List EId, (S.map (cntW L G w 0)).sum = 0 := fun S => by
      induction S with
      | nil => rfl
      | cons x S ih => rw [List.map_cons, List.sum_cons, ih]; rfl
    rw [this]; rfl
  | n + 1, S => by
    rw [cntW_sum, sum_add, levs_sum L G w n (next L S)]
    simp only [levs, List.map_append, List.sum_append]
/-- at which level -/
def lev (L : List Ins) : Nat → List EId
  | 0 => [root]
  | n + 1 => next L (lev L n)
theorem mem_next {L : List Ins} {S : List EId} {x : EId} : x ∈ next L S ↔ ∃ i ∈ L, i.id = x ∧ i.par ∈ S := by
  unfold next
  rw [List.mem_flatMap]
  constructor
  · rintro ⟨z, hz, hx⟩
    rcases List.mem_append.1 hx with h | h <;> (obtain ⟨i, h1, h2, h3, -⟩ := mem_kids.1 h; exact ⟨i, h1, h2, by rw [h3]; exact hz⟩)
  · rintro ⟨i, h1, h2, h3⟩
    refine ⟨i.par, h3, ?_⟩
    rw [List.mem_append]
    cases hr : i.right with
    | false => exact .inl (mem_kids.2 ⟨i, h1, h2, rfl, hr⟩)
    | true => exact .inr (mem_kids.2 ⟨i, h1, h2, rfl, hr⟩)
theorem mem_levs (L : List Ins) (x : EId) : ∀ (n k : Nat), x ∈ levs L n (lev L k) ↔ ∃ d, d < n ∧ x ∈ lev L (k + d + 1)
  | 0, k => by simp [levs]
  | n + 1, k => by
    have ih := mem_levs L x n (k + 1)
    have e : levs L (n + 1) (lev L k) = lev L (k + 1) ++ levs L n (lev L (k + 1)) := rfl
    rw [e, List.mem_append, ih]
    constructor
    · rintro (h | ⟨d, h1, h2⟩)
      · exact ⟨0, by omega, h⟩
      · exact ⟨d + 1, by omega, by rw [show k + (d + 1) + 1 = k + 1 + d + 1 by omega]; exact h2⟩
    · rintro ⟨d, h1, h2⟩
      cases d with
      | zero => exact .inl h2
      | succ d => exact .inr ⟨d, by omega, by rw [show k + 1 + d + 1 = k + (d + 1) + 1 by omega]; exact h2⟩
theorem sum_perm {l m : List EId} (h : l.Perm m) (f : EId → Nat) : (l.map f).sum = (m.map f).sum := by
  induction h with
  | nil => rfl
  | cons x _ ih => simp only [List.map_cons, List.sum_cons, ih]
  | swap x y l => simp only [List.map_cons, List.sum_cons]; omega
  | trans _ _ i1 i2 => exact i1.trans i2
theorem lev_nodup {L : List Ins} (g : Good L) : ∀ n, (lev L n).Nodup
  | 0 => by simp [lev]
  | n + 1 => next_nodup g.nd (lev_nodup g n)
theorem lev_apart {L : List Ins} (g : Good L) : ∀ (j d : Nat) (x : EId), x ∈ lev L j → x ∉ lev L (j + d + 1)
  | 0, d, x, h, h' => by
    simp only [lev, List.mem_singleton] at h
    subst h
    have e : lev L (0 + d + 1) = next L (lev L (0 + d)) := rfl
    rw [e] at h'
    obtain ⟨i, hi, e, -⟩ := mem_next.1 h'
    exact okI_ne (g.ok i hi) e
  | j + 1, d, x, h, h' => by
    obtain ⟨i, hi, e, hp⟩ := mem_next.1 (show x ∈ next L (lev L j) from h)
    have e' : lev L (j + 1 + d + 1) = next L (lev L (j + d + 1)) := by rw [show j + 1 + d + 1 = (j + d + 1) + 1 by omega]; rfl
    rw [e'] at h'
    obtain ⟨i', hi', f, hp'⟩ := mem_next.1 h'
    obtain rfl := uniq_id g.nd hi hi' (e.trans f.symm)
    exact lev_apart g j d i.par hp hp'
theorem levs_nodup {L : List Ins} (g : Good L) : ∀ (n k : Nat), (levs L n (lev L k)).Nodup
  | 0, k => List.Pairwise.nil
  | n + 1, k => by
    have e : levs L (n + 1) (lev L k) = lev L (k + 1) ++ levs L n (lev L (k + 1)) := rfl
    rw [e, List.nodup_append]
    refine ⟨lev_nodup g (k + 1), levs_nodup g n (k + 1), fun a ha b hb e => ?_⟩
    subst e
    obtain ⟨d, -, h⟩ := (mem_levs L a n (k + 1)).1 hb
    exact lev_apart g (k + 1) d a ha h
theorem id_lev {L : List Ins} (g : Good L) : ∀ (j : Nat) (h : j < L.length), ∃ d, d ≤ j ∧ L[j].id ∈ lev L (d + 1) := by
  intro j
  induction j using Nat.strongRecOn with
  | ind j ih =>
    intro h
    rcases g.up j h with e | ⟨k, hk, e⟩
    · exact ⟨0, by omega, mem_next.2 ⟨L[j], List.getElem_mem h, rfl, by rw [e]; simp [lev]⟩⟩
    · obtain ⟨d, hd, hm⟩ := ih k hk (by omega)
      exact ⟨d + 1, by omega, mem_next.2 ⟨L[j], List.getElem_mem h, rfl, by rw [← e]; exact hm⟩⟩
theorem levs_ids {L : List Ins} (g : Good L) (x : EId) : x ∈ levs L (L.length + 1) (lev L 0) ↔ x ∈ L.map (·.id) := by
  rw [mem_levs]
  constructor
  · rintro ⟨d, -, h⟩
    have e : lev L (0 + d + 1) = next L (lev L (0 + d)) := rfl
    rw [e] at h
    obtain ⟨i, hi, e, -⟩ := mem_next.1 h
    exact List.mem_map.2 ⟨i, hi, e⟩
  · intro h
    obtain ⟨i, hi, rfl⟩ := List.mem_map.1 h
    obtain ⟨j, hj, rfl⟩ := List.mem_iff_getElem.1 hi
    obtain ⟨d, hd, hm⟩ := id_lev g j hj
    exact ⟨d, by omega, by rw [Nat.zero_add]; exact hm⟩
/-- a sum over the text is one over the elements -/
theorem nodes_sum {L : List Ins} (g : Good L) (G : List EId) (w : Nd → Nat) : ((nodes L G).map w).sum = (L.map fun i => w (ndOf L G i.id)).sum := by
  have h1 := levs_sum L G w (L.length + 1) [root]
  have h2 : ([root].map (cntW L G w (L.length + 1))).sum = ((nodes L G).map w).sum := by
    have hl : below L G (L.length + 1) root false = [] := by
      show (kids L root false).flatMap _ = []
      rw [root_left g]; rfl
    simp only [List.map_cons, List.map_nil, List.sum_cons, List.sum_nil, cntW, hl]
    show 0 + _ + 0 = _
    unfold nodes
    omega
  rw [h2] at h1
  rw [h1]
  have hp : (levs L (L.length + 1) (lev L 0)).Perm (L.map (·.id)) := (List.perm_ext_iff_of_nodup (levs_nodup g _ _) g.nd).2 (levs_ids g)
  have := sum_perm hp (fun y => w (ndOf L G y))
  rw [show levs L (L.length + 1) [root] = levs L (L.length + 1) (lev L 0) from rfl, this, List.map_map]
  rfl
theorem live_len {L : List Ins} (g : Good L) {G : List EId} (gs : ∀ x ∈ G, x ∈ L.map (·.id)) (gn : G.Nodup) : ((nodes L G).filter fun n => !n.gone).length = L.length - G.length := by
  have h := nodes_sum g G fun n => if n.gone then 0 else 1
  have e1 : ∀ l : List Nd, (l.map fun n => if n.gone then 0 else 1).sum = (l.filter fun n => !n.gone).length := fun l => by
    induction l with
    | nil => rfl
    | cons n l ih => cases hg : n.gone <;> simp [List.filter_cons, hg, ih]; omega
  rw [e1] at h
  rw [h]
  have e2 : ∀ l : List Ins, (l.map fun i => if (ndOf L G i.id).gone then 0 else 1).sum + ((l.map (·.id)).filter fun x => decide (x ∈ G)).length = l.length := fun l => by
    induction l with
    | nil => rfl
    | cons i l ih =>
      have hg : (ndOf L G i.id).gone = decide (i.id ∈ G) := rfl
      by_cases hm : i.id ∈ G
      · simp only [List.map_cons, List.sum_cons, hg, hm, decide_true, if_true, List.filter_cons, List.length_cons]; omega
      · simp only [List.map_cons, List.sum_cons, hg, hm, decide_false, Bool.false_eq_true, if_false, List.filter_cons, List.length_cons]; omega
  have h2 := e2 L
  have h3 : ((L.map (·.id)).filter fun x => decide (x ∈ G)).length = G.length := by
    refine Nat.le_antisymm (len_le_of_sub _ _ (g.nd.filter _) fun x hx => ?_) (len_le_of_sub _ _ gn fun x hx => ?_)
    · simpa using (List.mem_filter.1 hx).2
    · exact List.mem_filter.2 ⟨gs x hx, by simpa using hx⟩
  omega
end Go.Fug
