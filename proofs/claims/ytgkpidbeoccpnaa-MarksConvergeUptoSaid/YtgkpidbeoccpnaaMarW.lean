/-
  Marks in whatever order: plain law; a nil in a live box that becomes a token; a row of the call's own, given away in a struct.
  Conditions: none. Lemmas only.
-/
import Derived.Test.YtgkpidbeoccpnaaMarG6
set_option linter.all false
set_option linter.unusedSimpArgs false
set_option linter.unusedVariables false
set_option maxRecDepth 8000
set_option maxHeartbeats 4000000
namespace Go.Abs
open Go Go.RowKit
theorem tok_c {c : Cfg} {Q : Exit → Sg → AH → Prop} {σ : Sg} {H : AH} {a : Code} {t : Tie a} {t' : Tie Q} (b j : Nat) {cs : List AV} {e s : Nat} (hb : H b = some (.cells cs e s)) (hj : cs[j]? = some (.sc (.slice none 0 0)))
    (h : ∀ k,k ≠ 0 → H k = none → LoopT c a Q σ ((H.set k .nilt).set b (.cells (cs.set j (.imm k [] 0)) e s)) ⟨⟩ ⟨⟩) : LoopT c a Q σ H t t' := by
  intro Γ ro ok B a' w gg
  obtain ⟨n,i,cc,g1,g2,g3,g4,g5⟩ := gg
  obtain ⟨n',i',c',k1,k2⟩ := Go.Abs.tokCell g1 hb hj
  exact h n (Nat.ne_of_gt g1.pos) (new_none g1) Γ ro ok B a' w ⟨n',i',c',k1,g2.trans k2,g3,g4.ext k2,fun x => (g5 x).ext k2⟩
theorem Frz.agg3 {H H0 : AH} {a b c a' b' c' : AV} (h : Frz H H0 a a') (g : Frz H H0 b b') (f : Frz H H0 c c') : Frz H H0 (.agg [a,b,c]) (.agg [a',b',c']) := by
  intro C u hc w hs hv
  obtain ⟨vs,rfl,hsz,h1,hv⟩ := hv.agg_inv
  refine .agg _ vs (by simpa using hsz) h1 fun j hj => ?_
  match j,hj with
  | 0,_ => exact h C _ hc w hs (hv 0 (by simp))
  | 1,_ => exact g C _ hc w hs (hv 1 (by simp))
  | 2,_ => exact f C _ hc w hs (hv 2 (by simp))
end Go.Abs
namespace Go.Proofs.Ytgkpidbeoccpnaa
open Go Go.Abs Go.Proofs Go.Fug
theorem ltM_irr (a : Mk) : ¬ ltM a a := by unfold ltM; omega
theorem ltM_asy {a b : Mk} (h : ltM a b) : ¬ ltM b a := by unfold ltM at *; omega
theorem sort_ext : ∀ {l r : List Mk},SortM l → SortM r → (∀ x,x ∈ l ↔ x ∈ r) → l = r
  | [],[],_,_,_ => rfl
  | [],n :: r,_,_,h => absurd ((h n).2 (by simp)) (by simp)
  | m :: l,[],_,_,h => absurd ((h m).1 (by simp)) (by simp)
  | m :: l,n :: r,sl,sr,h => by
    have sl' := List.pairwise_cons.1 sl
    have sr' := List.pairwise_cons.1 sr
    have e : m = n := by
      by_cases e : m = n
      · exact e
      · have h1 := (h m).1 (by simp)
        have h2 := (h n).2 (by simp)
        simp only [List.mem_cons] at h1 h2
        have h3 := sr'.1 m (h1.resolve_left e)
        have h4 := sl'.1 n (h2.resolve_left fun e' => e e'.symm)
        exact absurd h3 (ltM_asy h4)
    subst e
    rw [sort_ext sl'.2 sr'.2 fun x => ?_]
    constructor
    · intro hx
      rcases List.mem_cons.1 ((h x).1 (by simp [hx])) with rfl | h2
      · exact absurd (sl'.1 x hx) (ltM_irr x)
      · exact h2
    · intro hx
      rcases List.mem_cons.1 ((h x).2 (by simp [hx])) with rfl | h2
      · exact absurd (sr'.1 x hx) (ltM_irr x)
      · exact h2
def uniqM (M : List Mk) : Prop := ∀ a ∈ M,∀ b ∈ M,a.clock = b.clock → a.author = b.author → a = b
theorem has_mem {l : List Mk} {c a : Int} : hasM l c a = true ↔ ∃ x ∈ l,x.clock = c ∧ x.author = a := by
  unfold hasM
  rw [List.any_eq_true]
  constructor
  · rintro ⟨x,h,e⟩
    exact ⟨x,h,of_decide_eq_true e⟩
  · rintro ⟨x,h,e⟩
    exact ⟨x,h,decide_eq_true e⟩
theorem mem_book : ∀ (M l : List Mk),GoodM l → l.length + M.length ≤ 500 → uniqM (l ++ M) → ∀ x,x ∈ M.foldl (fun l m => (addM l m).1) l ↔ x ∈ l ∨ (x ∈ M ∧ rightM x = true)
  | [],l,_,_,_,x => by simp
  | m :: M,l,g,hl,u,x => by
    rw [List.foldl_cons]
    have hl1 := addM_le l m
    have hmem : ∀ y,y ∈ (addM l m).1 ↔ y ∈ l ∨ (y = m ∧ rightM m = true) := fun y => by
      by_cases hr : rightM m = true
      · cases hh : hasM l m.clock m.author with
        | true =>
          have e : (addM l m).1 = l := by unfold addM; rw [if_neg (by rw [hr]; simp),if_pos hh]
          rw [e]
          obtain ⟨z,hz,z1,z2⟩ := has_mem.1 hh
          have : z = m := u z (by simp [hz]) m (by simp) z1 z2
          subst this
          constructor
          · exact .inl
          · rintro (h | ⟨rfl,-⟩)
            · exact h
            · exact hz
        | false =>
          have e : (addM l m).1 = l.filter (fun x => newM m x) ++ [m] ++ l.filter (fun x => !newM m x) := by
            unfold addM
            rw [if_neg (by rw [hr]; simp),if_neg (by rw [hh]; simp),if_neg (by simp only [List.length_cons] at hl; omega)]
          rw [e]
          simp only [List.mem_append,List.mem_filter,List.mem_singleton,Bool.not_eq_true']
          constructor
          · rintro ((h | h) | h)
            · exact .inl h.1
            · exact .inr ⟨h,hr⟩
            · exact .inl h.1
          · rintro (h | ⟨h,-⟩)
            · cases hn : newM m y with
              | true => exact .inl (.inl ⟨h,rfl⟩)
              | false => exact .inr ⟨h,rfl⟩
            · exact .inl (.inr h)
      · have e : (addM l m).1 = l := by unfold addM; rw [if_pos (by simpa using hr)]
        rw [e]
        simp [hr]
    have hu2 : uniqM ((addM l m).1 ++ M) := fun a ha b hb => by
      have sub : ∀ y,y ∈ (addM l m).1 ++ M → y ∈ l ++ m :: M := fun y hy => by
        rcases List.mem_append.1 hy with h | h
        · rcases (hmem y).1 h with h | ⟨rfl,-⟩
          · simp [h]
          · simp
        · simp [h]
      exact u a (sub a ha) b (sub b hb)
    rw [mem_book M _ (g.add m) (by simp only [List.length_cons] at hl; omega) hu2 x,hmem]
    simp only [List.mem_cons]
    constructor
    · rintro ((h | ⟨rfl,h⟩) | h)
      · exact .inl h
      · exact .inr ⟨.inl rfl,h⟩
      · exact .inr ⟨.inr h.1,h.2⟩
    · rintro (h | ⟨rfl | h,h2⟩)
      · exact .inl (.inl h)
      · exact .inl (.inr ⟨rfl,h2⟩)
      · exact .inr ⟨h,h2⟩
theorem book_perm {M N : List Mk} (hp : M.Perm N) (hl : M.length ≤ 500) (u : uniqM M) : bookL M = bookL N := by
  refine sort_ext (bookL_good M).sort (bookL_good N).sort fun x => ?_
  have hn := hp.length_eq
  have u2 : uniqM N := fun a ha b hb => u a (hp.mem_iff.2 ha) b (hp.mem_iff.2 hb)
  unfold bookL
  rw [mem_book M [] GoodM.nil (by simpa using hl) (by simpa using u),mem_book N [] GoodM.nil (by simp; omega) (by simpa using u2)]
  simp [hp.mem_iff]
theorem uniqM.snoc {O : List Mk} (u : uniqM O) {m : Mk} (h : hasM O m.clock m.author = false) : uniqM (O ++ [m]) := by
  have hno : ∀ a ∈ O,¬ (a.clock = m.clock ∧ a.author = m.author) := fun a ha e => by
    have := has_mem.2 ⟨a,ha,e.1,e.2⟩
    rw [h] at this
    cases this
  intro a ha b hb e1 e2
  simp only [List.mem_append,List.mem_singleton] at ha hb
  rcases ha with ha | rfl <;> rcases hb with hb | rfl
  · exact u a ha b hb e1 e2
  · exact absurd ⟨e1,e2⟩ (hno a ha)
  · exact absurd ⟨e1.symm,e2.symm⟩ (hno b hb)
  · rfl
theorem mksC_put {l : List Mk} {i : Nat} {m : Mk} (h : i < l.length) : putCells (mksC l) (i * 10) (mkC m) = mksC (l.set i m) := by
  rw [putCells_eq,(mksC_cut l i (by omega)).1,mkC_len,show i * 10 + 10 = (i + 1) * 10 by omega,(mksC_cut l (i + 1) (by omega)).2,List.set_eq_take_append_cons_drop,if_pos h]
  simp only [mksC,List.flatMap_append,List.flatMap_cons,List.append_assoc]
end Go.Proofs.Ytgkpidbeoccpnaa
