/-
  An abstract logic over the model's walks, part O: a row that is given away at a call.
  Conditions: none. Lemmas only.
-/
import Derived.Test.YtpmmafmbjconiaaAbsZ
set_option linter.all false
namespace Go.Abs
open Go Go.RowKit
def FrzL (H H0 : AH) : List AV → List AV → Prop
  | [], [] => True
  | a :: l, b :: r => Frz H H0 a b ∧ FrzL H H0 l r
  | _, _ => False
theorem FrzL.get {H H0 : AH} : ∀ {l r : List AV}, FrzL H H0 l r → r.length = l.length ∧ ∀ j (h : j < l.length) (h' : j < r.length), Frz H H0 l[j] r[j]
  | [], [], _ => ⟨rfl, fun j h => absurd h (by simp)⟩
  | a :: l, b :: r, h => by
    obtain ⟨h1, h2⟩ := FrzL.get h.2
    refine ⟨by simp [h1], fun j hj hj' => ?_⟩
    cases j with
    | zero => exact h.1
    | succ j => exact h2 j (by simpa using hj) (by simpa using hj')
  | [], _ :: _, h => h.elim
  | _ :: _, [], h => h.elim
theorem ACalls.give {P : Program} {f : FuncId} {args args' : List AV} {H H0 : AH} {R : AV → AH → Prop} (hs : Abs.Sub H0 H) (hL : FrzL H H0 args args') (h : ACalls P f args' H0 R) : ACalls P f args H R := by
  obtain ⟨hl, ha⟩ := hL.get
  intro n i c w vs g hx
  have g0 := g.weaken H0 hs
  have ew := Ext.weaken (C := ⟨H, n, i, c, w⟩) H0 hs
  have hx' : VRs ⟨H0, n, i, c, w⟩ args' vs := by
    refine ⟨by rw [hl]; exact hx.1, fun j hj => ?_⟩
    have hj' : j < args.length := by omega
    exact ha j hj' hj ⟨H, n, i, c, w⟩ _ rfl g hs (hx.2 j hj')
  refine (h n i c w vs g0 hx').mono ?_
  rintro u w' ⟨v, H', n', i', c', h1, h2, h3, h4⟩
  exact ⟨v, H', n', i', c', h1, h2, ew.trans h3, h4⟩
theorem Sub.killed {H : AH} {k : Nat} : Abs.Sub (H.kill k) H := fun x o hx => by
  simp only [AH.kill] at hx
  split at hx
  · cases hx
  · exact hx
theorem kill_same {H : AH} {k : Nat} : (H.kill k) k = none := by simp [AH.kill]
/-- the one argument is a row of the call's own, that it gives away -/
theorem ACalls.give1 {P : Program} {f : FuncId} {H : AH} {R : AV → AH → Prop} {k n : Nat} {cs : List AV} {e s : Nat} (hk : H k = some (.cells cs e s)) (hn : n * s ≤ cs.length)
    (h : ACalls P f [.imm 0 (cs.take (n * s)) n] (H.kill k) R) : ACalls P f [.own k 0 n] H R :=
  ACalls.give (args := [.own k 0 n]) (args' := [.imm 0 (cs.take (n * s)) n]) (H0 := H.kill k) Sub.killed ⟨Frz.own hk kill_same hn, trivial⟩ h
end Go.Abs
