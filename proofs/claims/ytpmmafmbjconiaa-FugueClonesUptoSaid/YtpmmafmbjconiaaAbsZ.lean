/-
  An abstract logic over the model's walks, part Z: a nil in a live box that may be appended to, ahead of a range over a function.
  Conditions: none. Lemmas only.
-/
import Derived.Test.YtpmmafmbjconiaaAbsY
set_option linter.all false
namespace Go.Abs
open Go Go.RowKit
theorem tok_r {c : Cfg} {g : Operand} {ps : Array Tmp} {as a : Code} {Q : Exit → Sg → AH → Prop} {σ : Sg} {H : AH} {t : Tie as} {t' : Tie a} {t'' : Tie Q} (b j : Nat) {cs : List AV} {e s : Nat} (hb : H b = some (.cells cs e s)) (hj : cs[j]? = some (.sc (.slice none 0 0)))
    (h : ∀ k, k ≠ 0 → H k = none → RangeT c g ps as a Q σ ((H.set k .nilt).set b (.cells (cs.set j (.imm k [] 0)) e s)) ⟨⟩ ⟨⟩ ⟨⟩) : RangeT c g ps as a Q σ H t t' t'' := by
  intro Γ ro ok B a' w gg
  obtain ⟨n, i, cc, g1, g2, g3, g4, g5⟩ := gg
  obtain ⟨n', i', c', k1, k2⟩ := Go.Abs.tokCell g1 hb hj
  exact h n (Nat.ne_of_gt g1.pos) (new_none g1) Γ ro ok B a' w ⟨n', i', c', k1, g2.trans k2, g3, g4.ext k2, fun x => (g5 x).ext k2⟩
theorem range_t {c : Cfg} {α : Type} {enc : α → List AV} {g : Operand} {ps : Array Tmp} {assign body : Code} {Q : Exit → Sg → AH → Prop} {σ : Sg} {H : AH} {f : FuncId} {captured : List AV} {t : Tie assign} {t' : Tie body} {t'' : Tie Q} (hm : c.P.follows .mixedOrders = true)
    (hg : σ.ev g = .fn (.func f) [] captured) (hok : (okDraws c assign && okDraws c body && noRange assign && noRange body && callable c.P f && ps.all (decide <| · < c.N)) = true) (hps : ∀ x, (enc x).length = ps.size)
    {Res : AH → Prop} {S Sp : List α → Prop} {M : Nat} (iter : IterC c.P f captured enc Res S Sp M) (J : List α → AH → Prop) (Jx : Code → List α → AH → Prop) (hRes : ∀ pre Hu H', J pre Hu → Abs.Sub Hu H' → Res H') (h0 : J [] H)
    (round : ∀ pre x Hu H1, J pre Hu → Abs.Sub Hu H1 → pre.length < M → cwp c assign (AThen (cwp c body (RPost J Jx Hu H1 (pre ++ [x]))) (fun _ _ _ => False)) (putPs ps.toList (enc x) σ) H1)
    (done : ∀ xs Hu, S xs → J xs Hu → Q .normal σ Hu) (stop : ∀ code pre Hu, Sp pre → Jx code pre Hu → (code = .ret → Q .ret σ Hu) ∧ ∀ id, code = .exit id → Q (.exit id) σ Hu) : RangeT c g ps assign body Q σ H t t' t'' :=
  range_rule hm hg hok hps iter J Jx hRes h0 round done stop
theorem RPost_normal {α : Type} {J : List α → AH → Prop} {Jx : Code → List α → AH → Prop} {Hc H1 H2 : AH} {xs : List α} {σ : Sg} : RPost J Jx Hc H1 xs .normal σ H2 = ∃ Hc2, FrameStep Hc H1 Hc2 H2 ∧ J xs Hc2 := veil rfl
theorem RPost_ret {α : Type} {J : List α → AH → Prop} {Jx : Code → List α → AH → Prop} {Hc H1 H2 : AH} {xs : List α} {σ : Sg} : RPost J Jx Hc H1 xs .ret σ H2 = ∃ Hc2, FrameStep Hc H1 Hc2 H2 ∧ Jx .ret xs Hc2 := veil rfl
theorem RPost_exit {α : Type} {J : List α → AH → Prop} {Jx : Code → List α → AH → Prop} {Hc H1 H2 : AH} {xs : List α} {σ : Sg} {id : Nat} : RPost J Jx Hc H1 xs (.exit id) σ H2 = ∃ Hc2, FrameStep Hc H1 Hc2 H2 ∧ Jx (.exit id) xs Hc2 := veil rfl
theorem putPs_two {t u : Tmp} {a b : AV} {σ : Sg} : putPs [t, u] [a, b] σ = (σ.put (some t) a).put (some u) b := veil rfl
end Go.Abs
