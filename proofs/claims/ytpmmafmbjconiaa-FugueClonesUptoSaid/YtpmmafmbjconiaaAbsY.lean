/-
  An abstract logic over the model's walks, part Y: a nil in a live box, read as a row without cells.
  Conditions: none. Lemmas only.
-/
import Derived.Test.YtpmmafmbjconiaaAbsV
import Derived.Test.YtpmmafmbjconiaaAbsW
set_option linter.all false
namespace Go.Abs
open Go Go.RowKit
theorem nilCell {n : Nat} {i c : Nat → Nat} {H : AH} {w : World} (g : WR ⟨H, n, i, c, w⟩) {h e s j : Nat} {cs : List AV} (hh : H h = some (.cells cs e s)) (hj : cs[j]? = some (.sc (.slice none 0 0))) :
    WR ⟨H.set h (.cells (cs.set j (.imm 0 [] 0)) e s), n, i, c, w⟩ ∧ Ext ⟨H, n, i, c, w⟩ ⟨H.set h (.cells (cs.set j (.imm 0 [] 0)) e s), n, i, c, w⟩ := by
  have hnt : ∀ m e' s', AObj.cells cs e s ≠ .tail m e' s' := by intro _ _ _ h; cases h
  have ex := Ext.put g hh (o' := .cells (cs.set j (.imm 0 [] 0)) e s) rfl w rfl (fun b _ => rfl) rfl rfl rfl hnt
  refine ⟨WR.put g hh (o' := .cells (cs.set j (.imm 0 [] 0)) e s) rfl w rfl (fun b _ => rfl) rfl rfl rfl hnt ?_, ex⟩
  obtain ⟨vs, fz, b1, b2, b3, b4, b5⟩ := g.obj h _ hh
  refine ⟨vs, fz, b1, b2, b3, by simpa using b4, fun x hx => ?_⟩
  have hx' : x < cs.length := by simpa using hx
  refine ⟨?_, (b5 x hx').2⟩
  by_cases he : x = j
  · subst he
    have h1 := (b5 x hx').1
    have e1 : cs[x] = .sc (.slice none 0 0) := by rw [List.getElem?_eq_getElem hx'] at hj; exact Option.some.inj hj
    rw [e1] at h1
    rw [List.getElem_set_self, vr_sc h1]
    exact VR.nil
  · rw [List.getElem_set_ne (by omega)]
    exact ((b5 x hx').1).ext ex
theorem nil_t {c : Cfg} {Q : Exit → Sg → AH → Prop} {σ : Sg} {H : AH} {a : Code} {t : Tie a} {t' : Tie Q} (k j : Nat) {cs : List AV} {e s : Nat} (hk : H k = some (.cells cs e s)) (hj : cs[j]? = some (.sc (.slice none 0 0)))
    (h : LoopT c a Q σ (H.set k (.cells (cs.set j (.imm 0 [] 0)) e s)) ⟨⟩ ⟨⟩) : LoopT c a Q σ H t t' := by
  intro Γ ro ok B a' w g
  obtain ⟨n, i, cc, g1, g2, g3, g4, g5⟩ := g
  obtain ⟨g', e'⟩ := nilCell g1 hk hj
  exact h Γ ro ok B a' w ⟨n, i, cc, g', g2.trans e', g3, g4.ext e', fun x => (g5 x).ext e'⟩
end Go.Abs
