/-
  An abstract logic over the model's walks, part J: slices of slices, calls, and the step of an operation that only yields.
  Conditions: none. Lemmas only.
-/
import Derived.Test.YtpmmafmbjconiaaAbsI
set_option linter.all false
namespace Go.Abs
open Go Go.RowKit
variable {P : Program}

/-- an operand that may lack -/
def VRo (C : Ctx) : Option AV → Option Value → Prop
  | none, none => True
  | some a, some v => VR C a v
  | _, _ => False

def boundO (v : Option Value) (y : Nat) (code : BoundsCode) (dflt : Nat) : Sem Nat := match v with
  | some v => Instr.sliceBound v y code
  | none => pure dflt

theorem run_bound {C : Ctx} {x : Option AV} {v : Option Value} (h : VRo C x v) {dflt : Nat} {i : Int} (hb : bnd x dflt = some i) {y : Nat} (h0 : 0 ≤ i) (h1 : i ≤ y) (code : BoundsCode) (w : World) :
    (boundO v y code dflt).run P w = .ok i.toNat w := by
  unfold boundO
  cases x with
  | none =>
    cases v with
    | none =>
      simp only [bnd, Option.some.injEq] at hb
      subst hb
      simp
    | some v => exact h.elim
  | some a =>
    cases v with
    | none => exact h.elim
    | some v =>
      unfold bnd at hb
      split at hb
      · rename_i hh; cases hh
      · rename_i k j hh
        cases hh
        simp only [Option.some.injEq] at hb
        subst hb
        rw [vr_sc h]
        exact run_sliceBound w k j y code h0 h1
      · cases hb

theorem sliceK_sound {t : TypeId} {x : AV} {lo hi mx : Option AV} {K : AV → Prop} (h : sliceK P t x lo hi mx K) : ∃ v, K v ∧ ∀ (C : Ctx) (u : Value) (lo' hi' mx' : Option Value), VR C x u → VRo C lo lo' → VRo C hi hi' → VRo C mx mx' →
    ∃ r, (∀ w, (Instr.sliceAt t u lo' hi' mx').run P w = .ok r w) ∧ VR C v r := by
  unfold sliceK at h
  split at h
  · rename_i e k cells n hu
    split at h
    · rename_i l h' hl hh
      obtain ⟨⟨h0, h1, h2⟩, ⟨ht, hlen⟩, hK⟩ := h
      refine ⟨_, hK, fun C u lo' hi' mx' e1 e2 e3 e4 => ?_⟩
      obtain ⟨A, cap, rfl, hn, hm, hk, b, o, ha, us, hc, hv⟩ := e1.imm_inv
      have : mx' = none := by cases mx' with | none => rfl | some _ => exact e4.elim
      subst this
      have hcut : (cells.drop (l.toNat * szOf P e)).take ((h'.toNat - l.toNat) * szOf P e) ≠ [] → cells ≠ [] ∧ ¬ (cap = l.toNat) := by
        intro hne
        refine ⟨fun e => hne (by simp [e]), fun e => hne ?_⟩
        have : h'.toNat - l.toNat = 0 := by omega
        simp [this]
      refine ⟨.slice (if cap = l.toNat then A else A.map (·.add (l.toNat * szOf P e))) (h'.toNat - l.toNat) (cap - l.toNat), fun w => ?_, ?_⟩
      · have hb1 : ∀ w, _ := fun w => run_bound (P := P) e3 hh (y := cap) (by omega) (by omega) .sliceAcap w
        have hb2 : ∀ w, _ := fun w => run_bound (P := P) e2 hl (y := h'.toNat) h0 (by omega) .sliceB w
        have hsb : (Instr.sliceBounds true n cap lo' hi' none).run P w = .ok (l.toNat, h'.toNat, cap) w := by
          unfold Instr.sliceBounds
          cases hi' with
          | none =>
            cases lo' with
            | none => have g1 := hb1 w; have g2 := hb2 w; simp [boundO] at g1 g2; simp [g1, g2]
            | some v => have g1 := hb1 w; have g2 := hb2 w; simp [boundO] at g1 g2; simp [g1, g2]
          | some hv' =>
            cases lo' with
            | none => have g1 := hb1 w; have g2 := hb2 w; simp [boundO] at g1 g2; simp [g1, g2]
            | some v => have g1 := hb1 w; have g2 := hb2 w; simp [boundO] at g1 g2; simp [g1, g2]
        simp only [Instr.sliceAt, Instr.slice, Sem.run_bind, run_underlying hu, Result.andThen_ok, hsb, run_sizeOf ht, Sem.run_pure]
      · refine .imm 0 _ _ _ _ (by omega) (by omega) (fun h => absurd rfl h) b (o + l.toNat * szOf P e) (fun hne => ?_) (fun j => us (l.toNat * szOf P e + j)) (fun j hj => ?_) (fun j hj => ?_)
        · obtain ⟨g1, g2⟩ := hcut hne
          rw [if_neg g2, ha g1]
          simp [addr_add]
        · have hj' : l.toNat * szOf P e + j < cells.length := by
            rw [List.length_take, List.length_drop] at hj
            omega
          have := hc _ hj'
          rwa [← Nat.add_assoc] at this
        · have hj' : l.toNat * szOf P e + j < cells.length := by
            rw [List.length_take, List.length_drop] at hj
            omega
          rw [List.getElem_take, List.getElem_drop]
          exact hv _ _
    · exact h.elim
  · rename_i s hu
    split at h
    · rename_i l h' hl hh
      obtain ⟨⟨h0, h1, h2⟩, hK⟩ := h
      refine ⟨_, hK, fun C u lo' hi' mx' e1 e2 e3 e4 => ⟨_, fun w => ?_, .sc _⟩⟩
      have : mx' = none := by cases mx' with | none => rfl | some _ => exact e4.elim
      subst this
      rw [vr_sc e1]
      have hb1 : ∀ w, _ := fun w => run_bound (P := P) e3 hh (y := s.size) (by omega) (by omega) .sliceAlen w
      have hb2 : ∀ w, _ := fun w => run_bound (P := P) e2 hl (y := h'.toNat) h0 (by omega) .sliceB w
      have hsb : (Instr.sliceBounds false s.size s.size lo' hi' none).run P w = .ok (l.toNat, h'.toNat, s.size) w := by
        unfold Instr.sliceBounds
        cases hi' <;> cases lo' <;> (have g1 := hb1 w; have g2 := hb2 w; simp [boundO] at g1 g2; simp [g1, g2])
      simp [Instr.sliceAt, Instr.slice, run_underlying hu, hsb]
    · exact h.elim
  · rename_i e k off n hu
    split at h
    · rename_i l h' hl hh
      obtain ⟨⟨rfl, h0, h1⟩, ht, hK⟩ := h
      refine ⟨_, hK, fun C u lo' hi' mx' e1 e2 e3 e4 => ?_⟩
      have : mx' = none := by cases mx' with | none => rfl | some _ => exact e4.elim
      subst this
      cases e1 with
      | own _ _ _ cap g1 g2 g3 g4 =>
        refine ⟨.slice (some ⟨C.i k, off, none⟩) h'.toNat cap, fun w => ?_, .own k off h'.toNat cap g1 (by omega) g3 g4⟩
        have hb1 : ∀ w, _ := fun w => run_bound (P := P) e3 hh (y := cap) (by omega) (by omega) .sliceAcap w
        have hb2 : ∀ w, _ := fun w => run_bound (P := P) e2 hl (y := h'.toNat) (by omega) (by omega) .sliceB w
        have hsb : (Instr.sliceBounds true n cap lo' hi' none).run P w = .ok (0, h'.toNat, cap) w := by
          unfold Instr.sliceBounds
          cases hi' <;> cases lo' <;> (have g1 := hb1 w; have g2 := hb2 w; simp [boundO] at g1 g2; simp [g1, g2])
        simp [Instr.sliceAt, Instr.slice, run_underlying hu, hsb, run_sizeOf ht, addr_add]
    · exact h.elim
  · rename_i e k cells n m0 hu
    split at h
    · rename_i l h' m hl hh hm0
      obtain ⟨⟨h0, h1, h2, h3⟩, ⟨ht, hlen, his⟩, hK⟩ := h
      refine ⟨_, hK, fun C u lo' hi' mx' e1 e2 e3 e4 => ?_⟩
      obtain ⟨A, cap, rfl, hn, hm, hk, b, o, ha, us, hc, hv⟩ := e1.imm_inv
      obtain ⟨mv, rfl⟩ : ∃ mv, mx' = some mv := by cases mx' with | none => exact e4.elim | some v => exact ⟨v, rfl⟩
      obtain ⟨hv', rfl⟩ : ∃ hv', hi' = some hv' := by
        cases hi' with
        | none => cases hi with
          | none => simp at his
          | some _ => exact e3.elim
        | some v => exact ⟨v, rfl⟩
      have hcut : (cells.drop (l.toNat * szOf P e)).take ((h'.toNat - l.toNat) * szOf P e) ≠ [] → cells ≠ [] ∧ ¬ (m.toNat = l.toNat) := by
        intro hne
        refine ⟨fun e => hne (by simp [e]), fun e => hne ?_⟩
        have : h'.toNat - l.toNat = 0 := by omega
        simp [this]
      refine ⟨.slice (if m.toNat = l.toNat then A else A.map (·.add (l.toNat * szOf P e))) (h'.toNat - l.toNat) (m.toNat - l.toNat), fun w => ?_, ?_⟩
      · have hb0 : ∀ w, _ := fun w => run_bound (P := P) e4 hm0 (y := cap) (by omega) (by omega) .slice3Acap w
        have hb1 : ∀ w, _ := fun w => run_bound (P := P) e3 hh (y := m.toNat) (by omega) (by omega) .slice3B w
        have hb2 : ∀ w, _ := fun w => run_bound (P := P) e2 hl (y := h'.toNat) h0 (by omega) .slice3C w
        have hsb : (Instr.sliceBounds true n cap lo' (some hv') (some mv)).run P w = .ok (l.toNat, h'.toNat, m.toNat) w := by
          unfold Instr.sliceBounds
          cases lo' <;> (have g0 := hb0 w; have g1 := hb1 w; have g2 := hb2 w; simp [boundO] at g0 g1 g2; simp [g0, g1, g2])
        simp only [Instr.sliceAt, Instr.slice, Sem.run_bind, run_underlying hu, Result.andThen_ok, hsb, run_sizeOf ht, Sem.run_pure]
      · refine .imm 0 _ _ _ _ (by omega) (by omega) (fun h => absurd rfl h) b (o + l.toNat * szOf P e) (fun hne => ?_) (fun j => us (l.toNat * szOf P e + j)) (fun j hj => ?_) (fun j hj => ?_)
        · obtain ⟨g1, g2⟩ := hcut hne
          rw [if_neg g2, ha g1]
          simp [addr_add]
        · have hj' : l.toNat * szOf P e + j < cells.length := by
            rw [List.length_take, List.length_drop] at hj
            omega
          have := hc _ hj'
          rwa [← Nat.add_assoc] at this
        · have hj' : l.toNat * szOf P e + j < cells.length := by
            rw [List.length_take, List.length_drop] at hj
            omega
          rw [List.getElem_take, List.getElem_drop]
          exact hv _ _
    · exact h.elim
  · rename_i n e cells off hu
    split at h
    · rename_i l h' hl hh
      obtain ⟨⟨h0, h1, h2, h3⟩, ⟨ht, hlen⟩, hK⟩ := h
      refine ⟨_, hK, fun C u lo' hi' mx' e1 e2 e3 e4 => ?_⟩
      have : mx' = none := by cases mx' with | none => rfl | some _ => exact e4.elim
      subst this
      obtain ⟨b, o, rfl, us, hc, hv⟩ := e1.ip_inv
      refine ⟨.slice (some (if n = l.toNat then ⟨b, o + off, none⟩ else (⟨b, o + off, none⟩ : Addr).add (l.toNat * szOf P e))) (h'.toNat - l.toNat) (n - l.toNat), fun w => ?_, ?_⟩
      · have hb1 : ∀ w, _ := fun w => run_bound (P := P) e3 hh (y := n) (by omega) (by omega) .sliceAlen w
        have hb2 : ∀ w, _ := fun w => run_bound (P := P) e2 hl (y := h'.toNat) h0 (by omega) .sliceB w
        have hsb : (Instr.sliceBounds false n n lo' hi' none).run P w = .ok (l.toNat, h'.toNat, n) w := by
          unfold Instr.sliceBounds
          cases hi' <;> cases lo' <;> (have g1 := hb1 w; have g2 := hb2 w; simp [boundO] at g1 g2; simp [g1, g2])
        simp [Instr.sliceAt, Instr.sureAddr, run_underlying hu, hsb, run_sizeOf ht]
      · refine .imm 0 _ _ _ _ (by omega) (by omega) (fun h => absurd rfl h) b (o + (off + l.toNat * szOf P e)) (fun hne => ?_) (fun j => us (off + l.toNat * szOf P e + j)) (fun j hj => ?_) (fun j hj => ?_)
        · have hne' : ¬ n = l.toNat := fun e => hne (by
            have : h'.toNat - l.toNat = 0 := by omega
            simp [this])
          rw [if_neg hne', addr_add, Nat.add_assoc]
        · have hj' : off + l.toNat * szOf P e + j < cells.length := by
            rw [List.length_take, List.length_drop] at hj
            omega
          have := hc _ hj'
          rwa [← Nat.add_assoc] at this
        · have hj' : off + l.toNat * szOf P e + j < cells.length := by
            rw [List.length_take, List.length_drop] at hj
            omega
          rw [List.getElem_take, List.getElem_drop]
          exact hv _ _
    · exact h.elim
  · exact h.elim

/-! ### calls -/
/-- a call: whatever memory there is -/
def ACalls (P : Program) (f : FuncId) (args : List AV) (H : AH) (R : AV → AH → Prop) : Prop :=
  ∀ (n : Nat) (i c : Nat → Nat) (w : World) (vs : List Value), WR ⟨H, n, i, c, w⟩ → VRs ⟨H, n, i, c, w⟩ args vs →
    Upon P ((callFunc f vs.toArray).run P w) fun u w' => ∃ v H' n' i' c', R v H' ∧ WR ⟨H', n', i', c', w'⟩ ∧ Ext ⟨H, n, i, c, w⟩ ⟨H', n', i', c', w'⟩ ∧ VR ⟨H', n', i', c', w'⟩ v u

theorem ACalls.mono {f : FuncId} {args : List AV} {H : AH} {R R' : AV → AH → Prop} (h : ACalls P f args H R) (hr : ∀ v H', R v H' → R' v H') : ACalls P f args H R' :=
  fun n i c w vs g hx => (h n i c w vs g hx).mono fun u w' ⟨v, H', n', i', c', h2, h3⟩ => ⟨v, H', n', i', c', hr _ _ h2, h3⟩

/-- a call that yields one value and changes nothing -/
def APure (P : Program) (f : FuncId) (args : List AV) (v : AV) : Prop := ∀ H, ACalls P f args H fun v' H' => v' = v ∧ H' = H

theorem run_callFunc {f : FuncId} (h : callable P f = true) (args : Array Value) (w : World) : (callFunc f args).run P w = .ok (.enter f args) w := by
  unfold callable at h
  split at h
  · rename_i fn hf
    simp only [Bool.and_eq_true, Bool.not_eq_true'] at h
    have hprog : ∀ w, (program : Sem Program).run P w = .ok P w := fun w => rfl
    have h1 : (fn.name == "runtime.NumGoroutine") = false := h.2
    have h1' : ¬ fn.name = "runtime.NumGoroutine" := by simpa using h1
    cases hb : fn.body with
    | none => simp [hb] at h
    | some c => simp [callFunc, hprog, hf, h1', hb]
  · cases h

/-- the function that a value is, its first and last arguments -/
def funcA : AV → Option (FuncId × List AV × List AV)
  | .fn (.func f) first captured => some (f, first, captured)
  | _ => none

theorem VRs.append {C : Ctx} {a b : List AV} {u v : List Value} (h : VRs C a u) (g : VRs C b v) : VRs C (a ++ b) (u ++ v) := by
  refine ⟨by simp [h.1, g.1], fun j hj => ?_⟩
  by_cases h1 : j < a.length
  · rw [List.getElem_append_left h1]
    have := h.2 j h1
    rw [show (u ++ v).getD j undef = u.getD j undef by simp only [List.getD]; rw [List.getElem?_append_left (by rw [h.1]; exact h1)]]
    exact this
  · have hlen := h.1
    rw [List.getElem_append_right (by omega)]
    have := g.2 (j - a.length) (by simp at hj; omega)
    rw [show (u ++ v).getD j undef = v.getD (j - a.length) undef by simp only [List.getD]; rw [List.getElem?_append_right (by omega), hlen]]
    exact this

theorem VRs.of_array {C : Ctx} {a : List AV} {vs : Array Value} (h1 : vs.size = a.length) (h2 : ∀ j (h : j < a.length), VR C a[j] (vs.getD j undef)) : VRs C a vs.toList :=
  ⟨by simpa using h1, fun j hj => by
    have := h2 j hj
    have e : vs.toList.getD j undef = vs.getD j undef := by simp [List.getD]
    rw [e]; exact this⟩

theorem VRs.strip {C : Ctx} {a : List AV} {v : List Value} (h : VRs C a v) : VRs C (a.map AV.strip) v := by
  refine ⟨by simp [h.1], fun j hj => ?_⟩
  rw [List.getElem_map]
  exact (h.2 j _).strip

theorem VRs.ops {C : Ctx} {ρ : Operand → AV} {ρ' : Operand → Value} (xs : Array Operand) (h : ∀ x ∈ xs, VR C (ρ x) (ρ' x)) : VRs C (xs.toList.map ρ) (xs.map ρ').toList := by
  refine ⟨by simp, fun j hj => ?_⟩
  have hj' : j < xs.size := by simpa using hj
  simp only [List.getElem_map, Array.getElem_toList]
  have : (xs.map ρ').toList.getD j undef = ρ' xs[j] := by simp [List.getD, hj']
  rw [this]
  exact h _ (Array.getElem_mem hj')

theorem eff_call {d : Option Tmp} {ty : TypeId} {ps : String} {af : Array Edge} {gd : Option (Nat × Bool)} {H : AH} {ρ : Operand → AV} {x : Operand} {xs : Array Operand} {ts : Array TypeId} {f : FuncId} {first captured : List AV} {R : AV → AH → Prop}
    (hf : funcA (ρ x) = some (f, first, captured)) (h : ACalls P f (first ++ (xs.toList.map fun y => (ρ y).strip) ++ captured) H R) :
    Eff P H ⟨d, .call ⟨.value x, xs, ts⟩, ty, ps, af, gd⟩ ρ R := by
  intro n i c w ρ' g hx
  have hxv := hx x (by simp [Op.operands, Call.operands])
  have hxs : ∀ y ∈ xs, VR ⟨H, n, i, c, w⟩ (ρ y) (ρ' y) := fun y hy => hx y (by simp [Op.operands, Call.operands, hy])
  unfold funcA at hf
  split at hf
  · rename_i f' fi ca he
    simp only [Option.some.injEq, Prod.mk.injEq] at hf
    obtain ⟨rfl, rfl, rfl⟩ := hf
    rw [he] at hxv
    generalize hv : ρ' x = v at hxv
    cases hxv with
    | fn _ _ _ vf vc h1 h2 g1 g2 =>
      have hargs := ((VRs.of_array h1 g1).append ((VRs.ops xs hxs).strip)).append (VRs.of_array h2 g2)
      rw [List.map_map] at hargs
      have := h n i c w _ g hargs
      have hrun : (execOp ρ' ⟨d, .call ⟨.value x, xs, ts⟩, ty, ps, af, gd⟩).run P w = (callFunc f' (vf.toList ++ (xs.map ρ').toList ++ vc.toList).toArray).run P w := by
        simp only [execOp, resolve, hv, Deferred.ofValue, Sem.run_bind, Sem.run_pure, Result.andThen_ok, invoke]
        congr 2
        apply Array.ext'
        simp
      rw [hrun]
      exact this
  · cases hf
/-- a call of a value, whatever it is: of its arguments that are given -/
def ACallV (P : Program) (fx : AV) (args : List AV) (H : AH) (R : AV → AH → Prop) : Prop :=
  ∀ (n : Nat) (i c : Nat → Nat) (w : World) (u : Value) (vs : List Value), WR ⟨H, n, i, c, w⟩ → VR ⟨H, n, i, c, w⟩ fx u → VRs ⟨H, n, i, c, w⟩ args vs →
    Upon P ((do let d ← Deferred.ofValue u vs.toArray; invoke d.target d.args : Sem Next).run P w) fun u w' => ∃ v H' n' i' c', R v H' ∧ WR ⟨H', n', i', c', w'⟩ ∧ Ext ⟨H, n, i, c, w⟩ ⟨H', n', i', c', w'⟩ ∧ VR ⟨H', n', i', c', w'⟩ v u
theorem ACallV.mono {fx : AV} {args : List AV} {H : AH} {R R' : AV → AH → Prop} (h : ACallV P fx args H R) (hr : ∀ v H', R v H' → R' v H') : ACallV P fx args H R' :=
  fun n i c w u vs g hu hx => (h n i c w u vs g hu hx).mono fun u w' ⟨v, H', n', i', c', h2, h3⟩ => ⟨v, H', n', i', c', hr _ _ h2, h3⟩
theorem eff_callV {d : Option Tmp} {ty : TypeId} {ps : String} {af : Array Edge} {gd : Option (Nat × Bool)} {H : AH} {ρ : Operand → AV} {x : Operand} {xs : Array Operand} {ts : Array TypeId} {R : AV → AH → Prop}
    (h : ACallV P (ρ x) (xs.toList.map fun y => (ρ y).strip) H R) : Eff P H ⟨d, .call ⟨.value x, xs, ts⟩, ty, ps, af, gd⟩ ρ R := by
  intro n i c w ρ' g hx
  have hxv := hx x (by simp [Op.operands, Call.operands])
  have hxs : ∀ y ∈ xs, VR ⟨H, n, i, c, w⟩ (ρ y) (ρ' y) := fun y hy => hx y (by simp [Op.operands, Call.operands, hy])
  have hargs := (VRs.ops xs hxs).strip
  rw [List.map_map] at hargs
  have := h n i c w _ _ g hxv hargs
  have hrun : (execOp ρ' ⟨d, .call ⟨.value x, xs, ts⟩, ty, ps, af, gd⟩).run P w = (do let d ← Deferred.ofValue (ρ' x) (xs.map ρ').toList.toArray; invoke d.target d.args : Sem Next).run P w := by
    simp only [execOp, resolve, Array.toArray_toList]
  rw [hrun]
  exact this
theorem ACalls.value {f : FuncId} {first args captured : List AV} {H : AH} {R : AV → AH → Prop} (h : ACalls P f (first ++ args ++ captured) H R) : ACallV P (.fn (.func f) first captured) args H R := by
  intro n i c w u vs g hu hx
  cases hu with
  | fn _ _ _ vf vc h1 h2 g1 g2 =>
    have := h n i c w _ g (((VRs.of_array h1 g1).append hx).append (VRs.of_array h2 g2))
    have hrun : (do let d ← Deferred.ofValue (.func (.func f) vf vc) vs.toArray; invoke d.target d.args : Sem Next).run P w = (callFunc f (vf.toList ++ vs ++ vc.toList).toArray).run P w := by
      simp only [Deferred.ofValue, Sem.run_bind, Sem.run_pure, Result.andThen_ok, invoke]
      congr 2
      apply Array.ext'
      simp
    rw [hrun]
    exact this

theorem VRs.split {C : Ctx} {a b : List AV} {vs : List Value} (h : VRs C (a ++ b) vs) : VRs C a (vs.take a.length) ∧ VRs C b (vs.drop a.length) := by
  obtain ⟨h1, h2⟩ := h
  have hl : vs.length = a.length + b.length := by rw [h1, List.length_append]
  refine ⟨⟨by rw [List.length_take]; omega, fun j hj => ?_⟩, ⟨by rw [List.length_drop]; omega, fun j hj => ?_⟩⟩
  · have := h2 j (by rw [List.length_append]; omega)
    rw [List.getElem_append_left hj] at this
    rw [show (vs.take a.length).getD j undef = vs.getD j undef by simp only [List.getD]; rw [List.getElem?_take, if_pos hj]]
    exact this
  · have := h2 (a.length + j) (by rw [List.length_append]; omega)
    rw [List.getElem_append_right (by omega)] at this
    have e : (a ++ b).length = _ := rfl
    rw [show (vs.drop a.length).getD j undef = vs.getD (a.length + j) undef by simp only [List.getD]; rw [List.getElem?_drop]]
    have e2 : b[a.length + j - a.length]'(by omega) = b[j] := by congr 1; omega
    rw [e2] at this
    exact this
theorem VRs.arr {C : Ctx} {a : List AV} {vs : List Value} (h : VRs C a vs) : vs.toArray.size = a.length ∧ ∀ j (h : j < a.length), VR C a[j] (vs.toArray.getD j undef) :=
  ⟨by simpa using h.1, fun j hj => by
    have := h.2 j hj
    rw [show vs.toArray.getD j undef = vs.getD j undef by simp [List.getD]]
    exact this⟩
theorem ACallV.calls {f : FuncId} {first args captured : List AV} {H : AH} {R : AV → AH → Prop} (h : ACallV P (.fn (.func f) first captured) args H R) : ACalls P f (first ++ args ++ captured) H R := by
  intro n i c w vs g hx
  obtain ⟨h1, h2⟩ := hx.split
  obtain ⟨h3, h4⟩ := h1.split
  have e1 := h3.arr
  have e2 := h2.arr
  have := h n i c w (.func (.func f) ((vs.take (first ++ args).length).take first.length).toArray (vs.drop (first ++ args).length).toArray) _ g (.fn _ _ _ _ _ e1.1 e2.1 e1.2 e2.2) h4
  have hrun : (do let d ← Deferred.ofValue (.func (.func f) ((vs.take (first ++ args).length).take first.length).toArray (vs.drop (first ++ args).length).toArray) ((vs.take (first ++ args).length).drop first.length).toArray; invoke d.target d.args : Sem Next).run P w = (callFunc f vs.toArray).run P w := by
    simp only [Deferred.ofValue, Sem.run_bind, Sem.run_pure, Result.andThen_ok, invoke]
    congr 2
    apply Array.ext'
    simp only [Array.toList_append]
    rw [List.take_append_drop, List.take_append_drop]
  rw [hrun] at this
  exact this
/-- what a call yields that changes nothing -/
def callPK (P : Program) (fx : AV) (args : List AV) (K : AV → Prop) : Prop := match funcA fx with
  | some (f, first, captured) => ∃ v, APure P f (first ++ args ++ captured) v ∧ K v
  | none => False

def len1K (P : Program) (xs : List AV) (ts : List TypeId) (K : AV → Prop) : Prop := match xs, ts with
  | [x], [t] => lenK P t x K
  | _, _ => False

/-- one of two, by a truth value -/
def pickK (c : AV) (X Y : Prop) : Prop := match c with
  | .sc (.bool true) => X
  | .sc (.bool false) => Y
  | _ => False

/-- the less, the greater of two whole numbers -/
def minA (b : Builtin) (xs : List AV) : Option AV := match b, xs with
  | .min, [.sc (.int k x), .sc (.int _ y)] => some (.sc (.int k (if y < x then y else x)))
  | .max, [.sc (.int k x), .sc (.int _ y)] => some (.sc (.int k (if x < y then y else x)))
  | _, _ => none
def minK (b : Builtin) (xs : List AV) (K : AV → Prop) : Prop := match minA b xs with
  | some v => K v
  | none => False
/-- it is there -/
def nilA (x : AV) : Option AV := match x with
  | .ptr h o => some (.ptr h o)
  | .ip cs o => some (.ip cs o)
  | .fn (.func f) a b => some (.fn (.func f) a b)
  | _ => none
def nilK (x : AV) (K : AV → Prop) : Prop := match nilA x with
  | some v => K v
  | none => False
theorem nilK_sound {x : AV} {K : AV → Prop} (h : nilK x K) : K x ∧ ∀ (C : Ctx) (u : Value), VR C x u → ∀ (d : Option Tmp) (y : Operand) (ty : TypeId) (ps : String) (af : Array Edge) (gd : Option (Nat × Bool)) (ρ' : Operand → Value), ρ' y = u → ∀ {P : Program} (w : World),
    (execOp ρ' ⟨d, .nilCheck y, ty, ps, af, gd⟩).run P w = .ok (.value u) w := by
  unfold nilK nilA at h
  split at h
  · rename_i v hv
    split at hv
    · cases hv
      refine ⟨h, fun C u hu d y ty ps af gd ρ' hy P w => ?_⟩
      cases hu
      simp [execOp, hy]
    · cases hv
      refine ⟨h, fun C u hu d y ty ps af gd ρ' hy P w => ?_⟩
      cases hu
      simp [execOp, hy]
    · cases hv
      refine ⟨h, fun C u hu d y ty ps af gd ρ' hy P w => ?_⟩
      cases hu
      simp [execOp, hy]
    · cases hv
  · exact h.elim

def stepP (P : Program) (o : Oper) (ρ : Operand → AV) (K : AV → Prop) : Prop := match o.op with
  | .move x | .assign x => K (ρ x)
  | .nilCheck x => nilK (ρ x) K
  | .pick c a b => pickK (ρ c) (K (ρ a)) (K (ρ b))
  | .binOp op t x y _ => binK P op t (ρ x) (ρ y) K
  | .unOp op _ x => unK op (ρ x) K
  | .convert s d x => convK P s d (ρ x) K
  | .extract t i => extrK (ρ t) i K
  | .field t x f => fieldK P t (ρ x) f K
  | .index t x i => indexK P t (ρ x) (ρ i) K
  | .indexAddr t x i => indexAddrK P t (ρ x) (ρ i) K
  | .fieldAddr t x f => fieldAddrK P t (ρ x) f K
  | .load t a => loadK P t (ρ a) K
  | .slice t x lo hi mx => sliceK P t (ρ x) (lo.map ρ) (hi.map ρ) (mx.map ρ) K
  | .build t parts => buildK P t (parts.toList.map fun p => (p.1, ρ p.2)) K
  | .buildSlice t n parts => buildSliceK P t n (parts.toList.map fun p => (p.1, (ρ p.2).strip)) K
  | .makeFunc f first captured => K (.fn f (first.toList.map fun y => (ρ y).strip) (captured.toList.map fun y => (ρ y).strip))
  | .makeInterface t x => Req (P.concrete t = true) (K (.ifc t (ρ x).strip))
  | .call ⟨.builtin .len, args, ts⟩ => len1K P (args.toList.map ρ) ts.toList K
  | .call ⟨.builtin .min, args, _⟩ => minK .min (args.toList.map ρ) K
  | .call ⟨.builtin .max, args, _⟩ => minK .max (args.toList.map ρ) K
  | .call ⟨.value f, args, _⟩ => callPK P (ρ f) (args.toList.map fun y => (ρ y).strip) K
  | _ => False

theorem VRo.map {C : Ctx} {ρ : Operand → AV} {ρ' : Operand → Value} {x : Option Operand} (h : ∀ y, x = some y → VR C (ρ y) (ρ' y)) : VRo C (x.map ρ) (x.map ρ') := by
  cases x with
  | none => trivial
  | some y => exact h y rfl

theorem parts_rel {C : Ctx} {ρ : Operand → AV} {ρ' : Operand → Value} {parts : Array (Nat × Operand)} (h : ∀ x ∈ (parts.toList.map (·.2)).toArray, VR C (ρ x) (ρ' x)) :
    (parts.toList.map fun p => (p.1, ρ' p.2)).length = (parts.toList.map fun p => (p.1, ρ p.2)).length ∧
    ∀ j (h1 : j < (parts.toList.map fun p => (p.1, ρ p.2)).length) (h2 : j < (parts.toList.map fun p => (p.1, ρ' p.2)).length),
      (parts.toList.map fun p => (p.1, ρ p.2))[j].1 = (parts.toList.map fun p => (p.1, ρ' p.2))[j].1 ∧ VR C (parts.toList.map fun p => (p.1, ρ p.2))[j].2 (parts.toList.map fun p => (p.1, ρ' p.2))[j].2 := by
  refine ⟨by simp, fun j h1 h2 => ?_⟩
  simp only [List.getElem_map]
  refine ⟨trivial, h _ ?_⟩
  simp only [List.mem_toArray, List.mem_map]
  exact ⟨_, List.getElem_mem _, rfl⟩

theorem stepP_sound {o : Oper} {ρ : Operand → AV} {K : AV → Prop} (h : stepP P o ρ K) : OutP P o ρ K := by
  obtain ⟨d, op, ty, ps, af, gd⟩ := o
  unfold stepP at h
  simp only [] at h
  split at h
  · rename_i x
    exact outP_run h fun C ρ' g hx => ⟨ρ' x, by simp [execOp], hx x (by simp [Op.operands])⟩
  · rename_i x
    exact outP_run h fun C ρ' g hx => ⟨ρ' x, by simp [execOp], hx x (by simp [Op.operands])⟩
  · rename_i x
    obtain ⟨h1, h2⟩ := nilK_sound h
    exact outP_run h1 fun C ρ' g hx => ⟨ρ' x, h2 C _ (hx x (by simp [Op.operands])) _ _ _ _ _ _ _ rfl _, hx x (by simp [Op.operands])⟩
  · rename_i c a b
    unfold pickK at h
    split at h
    · rename_i hc
      refine outP_run h fun C ρ' g hx => ?_
      have h1 := hx c (by simp [Op.operands])
      rw [hc] at h1
      exact ⟨ρ' a, by simp [execOp, vr_sc h1, asBool], hx a (by simp [Op.operands])⟩
    · rename_i hc
      refine outP_run h fun C ρ' g hx => ?_
      have h1 := hx c (by simp [Op.operands])
      rw [hc] at h1
      exact ⟨ρ' b, by simp [execOp, vr_sc h1, asBool], hx b (by simp [Op.operands])⟩
    · exact h.elim
  · rename_i op t x y yt
    obtain ⟨v, hK, hr⟩ := binK_sound h
    refine outP_run hK fun C ρ' g hx => ?_
    obtain ⟨u, h1, h2⟩ := hr C (ρ' x) (ρ' y) x y (hx x (by simp [Op.operands])) (hx y (by simp [Op.operands]))
    refine ⟨u, ?_, h2⟩
    have := h1 C.w
    simp only [execOp, Sem.run_bind] at this ⊢
    rw [this]
    rfl
  · rename_i op t x
    obtain ⟨v, hK, hr⟩ := unK_sound (P := P) h
    refine outP_run hK fun C ρ' g hx => ?_
    obtain ⟨u, h1, h2⟩ := hr C (ρ' x) (hx x (by simp [Op.operands]))
    exact ⟨u, by simp [execOp, h1], h2⟩
  · rename_i s d x
    obtain ⟨v, hK, hr⟩ := convK_sound h
    refine outP_new hK fun C ρ' g hx => ?_
    obtain ⟨u, w', h1, h2, h3, h4⟩ := hr C (ρ' x) g (hx x (by simp [Op.operands]))
    exact ⟨u, w', by simp [execOp, h1], h2, h3, h4⟩
  · rename_i t i
    obtain ⟨v, hK, hr⟩ := extrK_sound (P := P) h
    refine outP_run hK fun C ρ' g hx => ?_
    obtain ⟨u, h1, h2⟩ := hr C (ρ' t) (hx t (by simp [Op.operands]))
    exact ⟨u, by simp [execOp, h1], h2⟩
  · rename_i t x f
    obtain ⟨v, hK, hr⟩ := fieldK_sound h
    refine outP_run hK fun C ρ' g hx => ?_
    obtain ⟨u, h1, h2⟩ := hr C (ρ' x) C.w (hx x (by simp [Op.operands]))
    exact ⟨u, by simp [execOp, h1], h2⟩
  · rename_i t x i
    obtain ⟨v, hK, hr⟩ := indexK_sound h
    refine outP_run hK fun C ρ' g hx => ?_
    obtain ⟨u, h1, h2⟩ := hr C (ρ' x) (ρ' i) C.w (hx x (by simp [Op.operands])) (hx i (by simp [Op.operands]))
    exact ⟨u, by simp [execOp, h1], h2⟩
  · rename_i t x i
    obtain ⟨v, hK, hr⟩ := indexAddrK_sound h
    refine outP_run hK fun C ρ' g hx => ?_
    obtain ⟨u, h1, h2⟩ := hr C (ρ' x) (ρ' i) (hx x (by simp [Op.operands])) (hx i (by simp [Op.operands]))
    exact ⟨u, by simp [execOp, h1], h2⟩
  · rename_i t x f
    obtain ⟨v, hK, hr⟩ := fieldAddrK_sound h
    refine outP_run hK fun C ρ' g hx => ?_
    obtain ⟨u, h1, h2⟩ := hr C (ρ' x) (hx x (by simp [Op.operands]))
    exact ⟨u, by simp [execOp, h1], h2⟩
  · rename_i t x
    obtain ⟨v, hK, hr⟩ := loadK_sound h
    refine outP_run hK fun C ρ' g hx => ?_
    obtain ⟨u, h1, h2⟩ := hr C (ρ' x) (hx x (by simp [Op.operands]))
    exact ⟨u, by simp [execOp, h1], h2⟩
  · rename_i t x lo hi mx
    obtain ⟨v, hK, hr⟩ := sliceK_sound h
    refine outP_run hK fun C ρ' g hx => ?_
    obtain ⟨u, h1, h2⟩ := hr C (ρ' x) (lo.map ρ') (hi.map ρ') (mx.map ρ') (hx x (by simp [Op.operands])) (VRo.map fun y e => hx y (by simp [Op.operands, e])) (VRo.map fun y e => hx y (by simp [Op.operands, e])) (VRo.map fun y e => hx y (by simp [Op.operands, e]))
    exact ⟨u, by simp [execOp, h1], h2⟩
  · rename_i t parts
    obtain ⟨v, hK, hr⟩ := buildK_sound h
    refine outP_run hK fun C ρ' g hx => ?_
    obtain ⟨p1, p2⟩ := parts_rel (C := C) (ρ := ρ) (ρ' := ρ') (parts := parts) hx
    obtain ⟨u, h1, h2⟩ := hr C _ C.w p1 p2
    refine ⟨u, ?_, h2⟩
    have e : (parts.map fun (i, x) => (i, ρ' x)) = (parts.toList.map fun p => (p.1, ρ' p.2)).toArray := by apply Array.ext'; simp
    simp only [execOp, e, Sem.run_bind, h1, Result.andThen_ok, Sem.run_pure]
  · rename_i t n parts
    obtain ⟨v, hK, hr⟩ := buildSliceK_sound h
    refine outP_new hK fun C ρ' g hx => ?_
    obtain ⟨p1, p2⟩ := parts_rel (C := C) (ρ := fun x => (ρ x).strip) (ρ' := ρ') (parts := parts) fun x hx' => (hx x hx').strip
    obtain ⟨u, w', h1, h2, h3, h4⟩ := hr C _ g p1 p2
    refine ⟨u, w', ?_, h2, h3, h4⟩
    have e : (parts.map fun (i, x) => (i, ρ' x)) = (parts.toList.map fun p => (p.1, ρ' p.2)).toArray := by apply Array.ext'; simp
    simp only [execOp, e, Sem.run_bind, h1, Result.andThen_ok, Sem.run_pure]
  · rename_i f first captured
    refine outP_run h fun C ρ' g hx => ⟨.func f (first.map ρ') (captured.map ρ'), by simp [execOp, Instr.makeFunc], ?_⟩
    have v1 := (VRs.ops (C := C) (ρ := ρ) (ρ' := ρ') first fun y hy => hx y (by simp [Op.operands, hy])).strip
    have v2 := (VRs.ops (C := C) (ρ := ρ) (ρ' := ρ') captured fun y hy => hx y (by simp [Op.operands, hy])).strip
    rw [List.map_map] at v1 v2
    refine .fn f _ _ _ _ (by simp) (by simp) (fun j hj => ?_) (fun j hj => ?_)
    · have := v1.2 j hj
      simpa [List.getD] using this
    · have := v2.2 j hj
      simpa [List.getD] using this
  · rename_i t x
    refine outP_run h.2 fun C ρ' g hx => ⟨.iface t (ρ' x), by simp [execOp, run_makeInterface C.w t _ h.1], .ifc t _ _ (hx x (by simp [Op.operands])).strip⟩
  · rename_i args ts
    unfold len1K at h
    split at h
    · rename_i xa t ha ht
      obtain ⟨x, rfl, hxa⟩ : ∃ x, args = #[x] ∧ xa = ρ x := by
        have hl : args.toList.length = 1 := by have := congrArg List.length ha; simpa using this
        match h1 : args.toList, hl with
        | [x], _ =>
          rw [h1] at ha
          simp only [List.map_cons, List.map_nil, List.cons.injEq, and_true] at ha
          exact ⟨x, by rw [← Array.toArray_toList (xs := args), h1], ha.symm⟩
      subst hxa
      obtain ⟨v, hK, hr⟩ := lenK_sound (ty := ty) h
      have ht' : ts = #[t] := by rw [← Array.toArray_toList (xs := ts), ht]
      subst ht'
      refine outP_run hK fun C ρ' g hx => ?_
      obtain ⟨u, h1, h2⟩ := hr C (ρ' x) (hx x (by simp [Op.operands, Call.operands]))
      exact ⟨u, by simp [execOp, resolve, invoke, builtin, h1], h2⟩
    · exact h.elim
  · rename_i args ts
    unfold minK at h
    split at h
    · rename_i v hv
      unfold minA at hv
      split at hv <;> simp at hv <;> rename_i k x k' y hbb ha <;> first | (cases hbb; done) | skip
      subst hv
      obtain ⟨p, q, rfl, hp, hq⟩ : ∃ p q, args = #[p, q] ∧ ρ p = .sc (.int k x) ∧ ρ q = .sc (.int k' y) := by
        have hl : args.toList.length = 2 := by have := congrArg List.length ha; simpa using this
        match h1 : args.toList, hl with
        | [p, q], _ =>
          rw [h1] at ha
          simp only [List.map_cons, List.map_nil, List.cons.injEq, and_true] at ha
          exact ⟨p, q, by rw [← Array.toArray_toList (xs := args), h1], ha.1, ha.2⟩
      refine outP_run h fun C ρ' g hx => ⟨_, ?_, .sc _⟩
      have h1 := hx p (by simp [Op.operands, Call.operands])
      have h2 := hx q (by simp [Op.operands, Call.operands])
      rw [hp] at h1
      rw [hq] at h2
      simp [execOp, resolve, invoke, builtin, Builtin.min_, Builtin.min2, vr_sc h1, vr_sc h2]
    · exact h.elim
  · rename_i args ts
    unfold minK at h
    split at h
    · rename_i v hv
      unfold minA at hv
      split at hv <;> simp at hv <;> rename_i k x k' y hbb ha <;> first | (cases hbb; done) | skip
      subst hv
      obtain ⟨p, q, rfl, hp, hq⟩ : ∃ p q, args = #[p, q] ∧ ρ p = .sc (.int k x) ∧ ρ q = .sc (.int k' y) := by
        have hl : args.toList.length = 2 := by have := congrArg List.length ha; simpa using this
        match h1 : args.toList, hl with
        | [p, q], _ =>
          rw [h1] at ha
          simp only [List.map_cons, List.map_nil, List.cons.injEq, and_true] at ha
          exact ⟨p, q, by rw [← Array.toArray_toList (xs := args), h1], ha.1, ha.2⟩
      refine outP_run h fun C ρ' g hx => ⟨_, ?_, .sc _⟩
      have h1 := hx p (by simp [Op.operands, Call.operands])
      have h2 := hx q (by simp [Op.operands, Call.operands])
      rw [hp] at h1
      rw [hq] at h2
      simp [execOp, resolve, invoke, builtin, Builtin.max_, Builtin.max2, vr_sc h1, vr_sc h2]
    · exact h.elim
  · rename_i f args ts
    unfold callPK at h
    split at h
    · rename_i f' first captured hf
      obtain ⟨v, hp, hK⟩ := h
      exact ⟨v, fun H => eff_call hf (hp H), hK⟩
    · exact h.elim
  · exact h.elim
end Go.Abs
