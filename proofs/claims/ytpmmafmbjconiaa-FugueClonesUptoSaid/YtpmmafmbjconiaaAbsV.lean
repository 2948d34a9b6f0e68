/-
  Ghost steps behind a call: a nil slice in a live box, as what may be appended to.
  Conditions: none. Lemmas only.
-/
import Derived.Test.YtpmmafmbjconiaaAbsU
set_option linter.all false
namespace Go.Abs
open Go Go.RowKit

theorem tokCell {n : Nat} {i c : Nat → Nat} {H : AH} {w : World} (g : WR ⟨H, n, i, c, w⟩) {h e s j : Nat} {cs : List AV} (hh : H h = some (.cells cs e s)) (hj : cs[j]? = some (.sc (.slice none 0 0))) :
    ∃ n' i' c', WR ⟨(H.set n .nilt).set h (.cells (cs.set j (.imm n [] 0)) e s), n', i', c', w⟩ ∧ Ext ⟨H, n, i, c, w⟩ ⟨(H.set n .nilt).set h (.cells (cs.set j (.imm n [] 0)) e s), n', i', c', w⟩ := by
  have gN := g.nilt 0
  have eN := Ext.nilt g 0
  have hhn : h < n := g.lt h _ hh
  have ho : (H.set n .nilt) h = some (.cells cs e s) := by
    show (if h = n then _ else _) = _
    rw [if_neg (by omega)]; exact hh
  have hnt : ∀ m e' s', AObj.cells cs e s ≠ .tail m e' s' := by intro _ _ _ h; cases h
  have ex := Ext.put gN ho (o' := .cells (cs.set j (.imm n [] 0)) e s) rfl w rfl (fun b _ => rfl) rfl rfl rfl hnt
  refine ⟨n + 1, upd i n 0, upd c n 0, WR.put gN ho (o' := .cells (cs.set j (.imm n [] 0)) e s) rfl w rfl (fun b _ => rfl) rfl rfl rfl hnt ?_, eN.trans ex⟩
  obtain ⟨vs, fz, b1, b2, b3, b4, b5⟩ := gN.obj h _ ho
  refine ⟨vs, fz, b1, b2, b3, by simpa using b4, fun x hx => ?_⟩
  have hx' : x < cs.length := by simpa using hx
  refine ⟨?_, (b5 x hx').2⟩
  by_cases he : x = j
  · subst he
    have h1 := (b5 x hx').1
    have e1 : cs[x] = .sc (.slice none 0 0) := by rw [List.getElem?_eq_getElem hx'] at hj; exact Option.some.inj hj
    rw [e1] at h1
    rw [List.getElem_set_self, vr_sc h1]
    exact .imm n [] 0 none 0 (Nat.le_refl _) (Nat.zero_le _) (fun _ => ⟨Nat.lt_succ_self _, by show 0 = upd c n 0 n; rw [upd_same], .inr ⟨rfl, rfl⟩⟩) 0 0 (fun h => absurd rfl h) (fun _ => undef) (fun j h => absurd h (by simp)) (fun j h => absurd h (by simp))
  · rw [List.getElem_set_ne (by omega)]
    exact ((b5 x hx').1).ext ex

theorem ACalls.tokCell {P : Program} {f : FuncId} {args : List AV} {H : AH} {R R' : AV → AH → Prop} (h : ACalls P f args H R)
    (hr : ∀ v H', R v H' → ∃ b e s j cs, H' b = some (.cells cs e s) ∧ cs[j]? = some (.sc (.slice none 0 0)) ∧ ∀ k, k ≠ 0 → H' k = none → R' v ((H'.set k .nilt).set b (.cells (cs.set j (.imm k [] 0)) e s))) : ACalls P f args H R' := by
  intro n i c w vs g hx
  refine (h n i c w vs g hx).mono ?_
  rintro u w' ⟨v, H', n', i', c', h2, h3, h4, h5⟩
  obtain ⟨b, e, s, j, cs, g1, g2, g3⟩ := hr v H' h2
  obtain ⟨n2, i2, c2, k1, k2⟩ := Go.Abs.tokCell h3 g1 g2
  exact ⟨v, _, n2, i2, c2, g3 n' (Nat.ne_of_gt h3.pos) (new_none h3), k1, h4.trans k2, h5.ext k2⟩
/-! ### what was live stays live -/
theorem Sub.free {H H' : AH} {k : Nat} (h : Abs.Sub H H') (g : H' k = none) : H k = none := by
  cases hk : H k with
  | none => rfl
  | some o => rw [h k o hk] at g; cases g
theorem Sub.set_free {H H' : AH} {k : Nat} {o : AObj} (h : Abs.Sub H H') (g : H k = none) : Abs.Sub H (H'.set k o) := fun x o' hx => by
  have hne : ¬ x = k := by rintro rfl; rw [g] at hx; cases hx
  rw [set_other hne]
  exact h x o' hx
theorem Sub.kill_free {H H' : AH} {k : Nat} (h : Abs.Sub H H') (g : H k = none) : Abs.Sub H (H'.kill k) := fun x o' hx => by
  have hne : ¬ x = k := by rintro rfl; rw [g] at hx; cases hx
  simp only [AH.kill, if_neg hne]
  exact h x o' hx
theorem Sub.mset {A B : AH} {k : Nat} {o : AObj} (h : Abs.Sub A B) : Abs.Sub (A.set k o) (B.set k o) := fun x o' hx => by
  simp only [AH.set] at hx ⊢
  split at hx
  · rename_i e; rw [if_pos e]; exact hx
  · rename_i e; rw [if_neg e]; exact h x o' hx
theorem Sub.mkill {A B : AH} {k : Nat} (h : Abs.Sub A B) : Abs.Sub (A.kill k) (B.kill k) := fun x o' hx => by
  simp only [AH.kill] at hx ⊢
  split at hx
  · cases hx
  · rename_i e; rw [if_neg e]; exact h x o' hx
theorem ne_live {H : AH} {a b : Nat} {o : AObj} (h : H a = some o) (g : H b = none) : ¬ a = b := by
  rintro rfl
  rw [h] at g; cases g
theorem kill_under {H : AH} {k k' : Nat} {o o' : AObj} (h : H k = none) (hne : ¬ k = k') : ((H.set k o).set k' o').kill k = H.set k' o' := by
  funext x
  simp only [AH.set, AH.kill]
  by_cases h1 : x = k
  · subst h1; rw [if_pos rfl, if_neg hne, h]
  · rw [if_neg h1, if_neg h1]
theorem kill_other {H : AH} {k k' : Nat} (h : ¬ k' = k) : (H.kill k) k' = H k' := by simp [AH.kill, h]
end Go.Abs
