/-
  An abstract logic over the model's walks, part G: each operation that only yields a value is right.
  Conditions: none. Lemmas only.
-/
import Derived.Test.YtpmmafmbjconiaaAbsF
set_option linter.all false
namespace Go.Abs
open Go Go.RowKit
variable {P : Program}

theorem outP_run {o : Oper} {ρ : Operand → AV} {K : AV → Prop} {v : AV} (hK : K v)
    (h : ∀ (C : Ctx) (ρ' : Operand → Value), WR C → (∀ x ∈ o.op.operands, VR C (ρ x) (ρ' x)) → ∃ u, (execOp ρ' o).run P C.w = .ok (.value u) C.w ∧ VR C v u) : OutP P o ρ K :=
  ⟨v, fun _ => quiet_run fun C ρ' _ g hx => h C ρ' g hx, hK⟩

theorem eqB_sound {op : BinOp} {t : TypeId} {x y : AV} {K : AV → Prop}
    (h : match op, eqG P 6 t x y with | .eql, some r => Req (eqOk P t = true) (K (.sc (.bool r))) | .neq, some r => Req (eqOk P t = true) (K (.sc (.bool (!r)))) | _, _ => False)
    (sh : ∀ (C : Ctx) (u v : Value), VR C x u → VR C y v → (∀ (a b : Operand), ∀ w, (eqGuard op t a b u v).run P w = .ok () w) ∧ binOp .eql t u v = (do pure (.bool (← Op.equal t u v))) ∧ binOp .neq t u v = (do pure (.bool (!(← Op.equal t u v))))) :
    ∃ r, K (.sc (.bool r)) ∧ ∀ (C : Ctx) (u v : Value) (a b : Operand), VR C x u → VR C y v → ∀ w, ((do eqGuard op t a b u v; binOp op t u v) : Sem Value).run P w = .ok (.bool r) w := by
  split at h
  · rename_i r hr
    refine ⟨r, h.2, fun C u v a b hx hy w => ?_⟩
    obtain ⟨s1, s2, _⟩ := sh C u v hx hy
    have := eqG_sound 6 Op.maxDepth t x y u v r (by decide) hr hx hy w
    simp [s1, s2, Op.equal, this]
  · rename_i r hr
    refine ⟨!r, h.2, fun C u v a b hx hy w => ?_⟩
    obtain ⟨s1, _, s2⟩ := sh C u v hx hy
    have := eqG_sound 6 Op.maxDepth t x y u v r (by decide) hr hx hy w
    simp [s1, s2, Op.equal, this]
  · exact h.elim

theorem eqGuard_agg {op : BinOp} {t : TypeId} (h : eqOk P t = true) (x y : Operand) (a b : Array Value) (w : World) : (eqGuard op t x y (.agg a) (.agg b)).run P w = .ok () w := by
  have h' : P.eqGuardType P.depth t = false := by simpa [eqOk] using h
  have hprog : ∀ w, (program : Sem Program).run P w = .ok P w := fun w => rfl
  cases op <;> simp [eqGuard, hprog, h']

theorem binK_sound {op : BinOp} {t : TypeId} {x y : AV} {K : AV → Prop} (h : binK P op t x y K) :
    ∃ v, K v ∧ ∀ (C : Ctx) (u1 u2 : Value) (a b : Operand), VR C x u1 → VR C y u2 → ∃ u, (∀ w, ((do eqGuard op t a b u1 u2; binOp op t u1 u2) : Sem Value).run P w = .ok u w) ∧ VR C v u := by
  unfold binK at h
  split at h
  · rename_i k a k' b
    split at h
    · obtain ⟨r, _, h1, h2⟩ := shiftI_sound (P := P) (t := t) (x := .tmp 0) (y := .tmp 0) (yk := k') h
      refine ⟨_, h2, fun C u1 u2 a b e1 e2 => ⟨r, fun w => ?_, .sc r⟩⟩
      rw [vr_sc e1, vr_sc e2]
      have := h1 w
      simpa [eqGuard_at_int] using this
    · obtain ⟨hk, h⟩ := h
      subst hk
      obtain ⟨r, _, h1, h2⟩ := binI_sound (P := P) (t := t) (x := .tmp 0) (y := .tmp 0) h
      refine ⟨_, h2, fun C u1 u2 a b e1 e2 => ⟨r, fun w => ?_, .sc r⟩⟩
      rw [vr_sc e1, vr_sc e2]
      have := h1 w
      simpa [eqGuard_at_int] using this
  · obtain ⟨r, _, h1, h2⟩ := binS_sound (P := P) (t := t) (x := .tmp 0) (y := .tmp 0) h
    refine ⟨_, h2, fun C u1 u2 a b e1 e2 => ⟨r, fun w => ?_, .sc r⟩⟩
    rw [vr_sc e1, vr_sc e2]
    have := h1 w
    simpa [eqGuard_at_string] using this
  · rename_i n1 n2
    have fin : (∀ (C : Ctx) (u v : Value), VR C x u → VR C y v → (∀ (a b : Operand), ∀ w, (eqGuard op t a b u v).run P w = .ok () w) ∧ binOp .eql t u v = (do pure (.bool (← Op.equal t u v))) ∧ binOp .neq t u v = (do pure (.bool (!(← Op.equal t u v))))) →
        ∃ v, K v ∧ ∀ (C : Ctx) (u1 u2 : Value) (a b : Operand), VR C x u1 → VR C y u2 → ∃ u, (∀ w, ((do eqGuard op t a b u1 u2; binOp op t u1 u2) : Sem Value).run P w = .ok u w) ∧ VR C v u := fun sh => by
      obtain ⟨r, h1, h2⟩ := eqB_sound h sh
      exact ⟨_, h1, fun C u1 u2 a b e1 e2 => ⟨_, h2 C u1 u2 a b e1 e2, .sc _⟩⟩
    have hsome : eqOk P t = true ∧ (eqG P 6 t x y).isSome = true := by
      revert h
      cases eqG P 6 t x y <;> cases op <;> simp [Req] <;> exact fun h _ => h
    obtain ⟨hok, hsome⟩ := hsome
    unfold eqG at hsome
    split at hsome
    · rename_i xs ys _
      refine fin fun C u v hx hy => ?_
      obtain ⟨us, rfl, _⟩ := hx.agg_inv
      obtain ⟨vs, rfl, _⟩ := hy.agg_inv
      exact ⟨fun a b w => eqGuard_agg hok a b us vs w, rfl, rfl⟩
    · unfold eqA at hsome
      split at hsome <;> first
        | (cases hsome; done)
        | exact absurd rfl (n1 _ _ _ _ rfl)
        | skip
      all_goals first
        | (exact absurd rfl (n2 _ _ rfl))
        | (refine fin fun C u v hx hy => ?_; cases hx; cases hy; refine ⟨fun a b w => ?_, rfl, rfl⟩; cases op <;> rfl)
        | (split at hsome <;> cases hsome)

theorem unK_sound {op : UnOp} {x : AV} {K : AV → Prop} (h : unK op x K) : ∃ v, K v ∧ ∀ (C : Ctx) (u : Value), VR C x u → ∃ r, (∀ w, (Op.unary op u).run P w = .ok r w) ∧ VR C v r := by
  unfold unK at h
  split at h
  · exact ⟨_, h, fun C u e => ⟨_, fun w => by rw [vr_sc e]; simp [Op.unary], .sc _⟩⟩
  · exact ⟨_, h, fun C u e => ⟨_, fun w => by rw [vr_sc e]; simp [Op.unary, Op.intArith], .sc _⟩⟩
  · exact h.elim

theorem addr_add (b o n : Nat) : (⟨b, o, none⟩ : Addr).add n = ⟨b, o + n, none⟩ := by
  unfold Addr.add
  split <;> simp_all

/-- the cells of a row, as values -/
theorem row_cells {C : Ctx} {cells : List AV} {b o : Nat} {u : Nat → Value} (hc : ∀ j, j < cells.length → C.At ⟨b, o + j, none⟩ (u j)) (off n : Nat) (h : off + n ≤ cells.length) (w : World) (hw : w = C.w) :
    (loadCells ⟨b, o + off, none⟩ n).run P w = .ok ((List.range n).map fun j => u (off + j)).toArray w := by
  subst hw
  refine run_loadCells C.w _ n (fun j => u (off + j)) fun j hj => ?_
  rw [addr_add]
  have := (hc (off + j) (by omega)).1
  rw [Nat.add_assoc]
  exact this

theorem run_loadVar {C : Ctx} {t : TypeId} {cells : List AV} {b o off : Nat} {u : Nat → Value} {a : AV} (hc : ∀ j, j < cells.length → C.At ⟨b, o + j, none⟩ (u j)) (hv : ∀ j (h : j < cells.length), VR C cells[j] (u j))
    (h : partA P t cells off = some a) : ∃ r, (loadVar t ⟨b, o + off, none⟩).run P C.w = .ok r C.w ∧ VR C a r := by
  unfold partA at h
  split at h
  · cases h
  · rename_i d hd
    split at h
    · rename_i hagg
      split at h
      · rename_i hcc
        obtain ⟨ht, hle⟩ := hcc
        simp only [Option.some.injEq] at h
        subst h
        have hl := row_cells (P := P) hc off (szOf P t) hle C.w rfl
        refine ⟨_, by simp [loadVar, run_isAgg hd, hagg, run_sizeOf ht, hl]; rfl, ?_⟩
        refine .agg _ _ (by simp; omega) (fun j hj => ?_) (fun j hj => ?_)
        · have hj' : j < szOf P t := by simpa using hj
          simp [hj']
          exact (hc (off + j) (by omega)).2.2
        · have hj' : j < szOf P t := by rw [List.length_take, List.length_drop] at hj; omega
          rw [List.getElem_take, List.getElem_drop]
          simp [hj']
          exact hv _ _
      · cases h
    · rename_i hagg
      have hlt : off < cells.length := by
        rcases Nat.lt_or_ge off cells.length with h' | h'
        · exact h'
        · rw [List.getElem?_eq_none h'] at h; cases h
      rw [List.getElem?_eq_getElem hlt] at h
      simp only [Option.some.injEq] at h
      subst h
      exact ⟨u off, by simp [loadVar, run_isAgg hd, hagg, (hc off hlt).1], hv off hlt⟩

theorem byteA_cells {C : Ctx} {cells : List AV} {u : Nat → Value} (hv : ∀ j (h : j < cells.length), VR C cells[j] (u j)) (hall : cells.all isU8 = true) :
    ∃ ns : List Int, (List.range cells.length).map u = ns.map (Value.int .u8) ∧ ns.map (fun n => UInt8.ofNat n.toNat) = cells.map byteA := by
  induction cells generalizing u with
  | nil => exact ⟨[], rfl, rfl⟩
  | cons c cells ih =>
    simp only [List.all_cons, Bool.and_eq_true] at hall
    obtain ⟨ns, h1, h2⟩ := ih (u := fun j => u (j + 1)) (fun j h => by have := hv (j + 1) (by simpa using h); rwa [List.getElem_cons_succ] at this) hall.2
    have h0 := hv 0 (by simp)
    simp only [List.getElem_cons_zero] at h0
    have hc := hall.1
    unfold isU8 at hc
    split at hc
    · rename_i n
      refine ⟨n :: ns, ?_, ?_⟩
      · rw [List.length_cons, List.range_succ_eq_map, List.map_cons, List.map_map, List.map_cons, vr_sc h0, ← h1]
        rfl
      · simp [byteA, h2]
    · cases hc

theorem foldl_push (ns : List Int) (r : ByteArray) : ns.foldl (fun r n => r.push (UInt8.ofNat n.toNat)) r = ⟨r.data ++ (ns.map fun n => UInt8.ofNat n.toNat).toArray⟩ := by
  induction ns generalizing r with
  | nil => simp
  | cons n ns ih =>
    simp only [List.foldl_cons, ih, List.map_cons]
    simp [ByteArray.push]

theorem extrK_sound {x : AV} {i : Nat} {K : AV → Prop} (h : extrK x i K) : ∃ v, K v ∧ ∀ (C : Ctx) (u : Value), VR C x u → ∃ r, (∀ w, (Instr.extract u i).run P w = .ok r w) ∧ VR C v r := by
  unfold extrK at h
  split at h
  · rename_i vs
    split at h
    · rename_i v hv
      refine ⟨v, h, fun C u e => ?_⟩
      obtain ⟨us, rfl, hs, hr⟩ := e.tup_inv
      have hlt : i < vs.length := by
        rcases Nat.lt_or_ge i vs.length with h' | h'
        · exact h'
        · rw [List.getElem?_eq_none h'] at hv; cases hv
      have := hr i hlt
      rw [List.getElem?_eq_getElem hlt] at hv
      simp only [Option.some.injEq] at hv
      rw [hv, getD_lt (by omega)] at this
      exact ⟨us[i], fun w => by simp [Instr.extract, (by omega : i < us.size)], this⟩
    · exact h.elim
  · exact h.elim

theorem fieldK_sound {t : TypeId} {x : AV} {f : Nat} {K : AV → Prop} (h : fieldK P t x f K) : ∃ v, K v ∧ ∀ (C : Ctx) (u : Value) (w : World), VR C x u → ∃ r, (Instr.field t u f).run P w = .ok r w ∧ VR C v r := by
  unfold fieldK at h
  split at h
  · rename_i fields cells hu
    split at h
    · rename_i fd hf
      split at h
      · rename_i v hp
        refine ⟨v, h, fun C u w e => ?_⟩
        obtain ⟨us, r, rfl, h1, h2⟩ := run_part_ok e hp w
        exact ⟨r, by simp [Instr.field, run_underlying hu, hf, asAgg, h1], h2⟩
      · exact h.elim
    · exact h.elim
  · exact h.elim

theorem indexK_sound {t : TypeId} {x i : AV} {K : AV → Prop} (h : indexK P t x i K) : ∃ v, K v ∧ ∀ (C : Ctx) (u j : Value) (w : World), VR C x u → VR C i j → ∃ r, (Instr.index t u j).run P w = .ok r w ∧ VR C v r := by
  unfold indexK at h
  split at h
  · rename_i s k i hu
    obtain ⟨⟨h0, h1⟩, hK⟩ := h
    refine ⟨_, hK, fun C u j w e1 e2 => ⟨_, ?_, .sc _⟩⟩
    rw [vr_sc e1, vr_sc e2]
    have hlt : i.toNat < s.size := by omega
    have hs : s[i.toNat]? = some s[i.toNat] := by simp [hlt]
    have hd : s.data.toList.getD i.toNat 0 = s[i.toNat] := by
      have : i.toNat < s.data.size := hlt
      have h2 : s.data[i.toNat]? = some s.data[i.toNat] := Array.getElem?_eq_getElem this
      simp only [List.getD, Array.getElem?_toList, h2, Option.getD_some]
      rfl
    rw [hd]
    simp [Instr.index, asIntOf, run_underlying hu, h0, hs]
  · rename_i n e cells k i hu
    obtain ⟨⟨h0, h1, ht, hg, hl⟩, hK⟩ := h
    refine ⟨_, hK, fun C u j w e1 e2 => ?_⟩
    rw [vr_sc e2]
    have hp : partA P e cells (i.toNat * szOf P e) = some (cells.getD (i.toNat * szOf P e) .any) := by
      unfold partA
      unfold indexK.aggOf at hg
      split at hg
      · rename_i d hd
        simp [hd, hg, hl, List.getD]
      · cases hg
    obtain ⟨us, r, rfl, h3, h4⟩ := run_part_ok e1 hp w
    exact ⟨r, by simp [Instr.index, asIntOf, run_underlying hu, h0, h1, run_sizeOf ht, h3], h4⟩
  · exact h.elim

theorem indexAddrK_sound {t : TypeId} {x i : AV} {K : AV → Prop} (h : indexAddrK P t x i K) : ∃ v, K v ∧ ∀ (C : Ctx) (u j : Value), VR C x u → VR C i j → ∃ r, (∀ w, (Instr.indexAt t u j).run P w = .ok r w) ∧ VR C v r := by
  unfold indexAddrK at h
  split at h
  · rename_i e k cells n kk i hu
    obtain ⟨⟨h0, h1, hl⟩, ht, hK⟩ := h
    refine ⟨_, hK, fun C u j e1 e2 => ?_⟩
    rw [vr_sc e2]
    obtain ⟨A, cap, rfl, hn, hm, hk, b, o, ha, v, hc, hv⟩ := e1.imm_inv
    have hne : cells ≠ [] := fun e => by rw [e] at hl; simp at hl
    rw [ha hne]
    refine ⟨_, fun w => ?_, .ip cells (i.toNat * szOf P e) b o v hc hv⟩
    simp [Instr.indexAt, asIntOf, run_underlying hu, h0, h1, run_sizeOf ht, addr_add]
  · rename_i e hh off n kk i hu
    obtain ⟨⟨h0, h1⟩, ht, hK⟩ := h
    refine ⟨_, hK, fun C u j e1 e2 => ?_⟩
    rw [vr_sc e2]
    cases e1 with
    | own _ _ _ cap g1 g2 g3 g4 =>
      refine ⟨_, fun w => ?_, .ptr hh (off + i.toNat * szOf P e) g1⟩
      simp [Instr.indexAt, asIntOf, run_underlying hu, h0, h1, run_sizeOf ht, addr_add]
  · rename_i n e cells off kk i hu
    obtain ⟨⟨h0, h1⟩, ht, hK⟩ := h
    refine ⟨_, hK, fun C u j e1 e2 => ?_⟩
    rw [vr_sc e2]
    obtain ⟨b, o, rfl, v, hc, hv⟩ := e1.ip_inv
    refine ⟨_, fun w => ?_, .ip cells (off + i.toNat * szOf P e) b o v hc hv⟩
    simp [Instr.indexAt, asIntOf, run_underlying hu, h0, h1, run_sizeOf ht, addr_add, Instr.sureAddr, Nat.add_assoc]
  · rename_i n e hh off kk i hu
    obtain ⟨⟨h0, h1⟩, ht, hK⟩ := h
    refine ⟨_, hK, fun C u j e1 e2 => ?_⟩
    rw [vr_sc e2]
    cases e1 with
    | ptr _ _ g1 =>
      refine ⟨_, fun w => ?_, .ptr hh (off + i.toNat * szOf P e) g1⟩
      simp [Instr.indexAt, asIntOf, run_underlying hu, h0, h1, run_sizeOf ht, addr_add, Instr.sureAddr]
  · exact h.elim

theorem fieldAddrK_sound {t : TypeId} {x : AV} {f : Nat} {K : AV → Prop} (h : fieldAddrK P t x f K) : ∃ v, K v ∧ ∀ (C : Ctx) (u : Value), VR C x u → ∃ r, (∀ w, (Instr.fieldAt t u f).run P w = .ok r w) ∧ VR C v r := by
  unfold fieldAddrK at h
  split at h
  · rename_i fields hu
    split at h
    · rename_i fd hf
      obtain ⟨⟨ht, hz⟩, hK⟩ := h
      split at hK
      · rename_i cells off
        refine ⟨_, hK, fun C u e1 => ?_⟩
        obtain ⟨b, o, rfl, v, hc, hv⟩ := e1.ip_inv
        refine ⟨_, fun w => ?_, .ip cells (off + fd.offset) b o v hc hv⟩
        simp [Instr.fieldAt, run_underlying hu, hf, Instr.sureAddr, fieldPlace, run_sizeOf ht, hz, addr_add, Nat.add_assoc]
      · rename_i hh off
        refine ⟨_, hK, fun C u e1 => ?_⟩
        cases e1 with
        | ptr _ _ g1 =>
          refine ⟨_, fun w => ?_, .ptr hh (off + fd.offset) g1⟩
          simp [Instr.fieldAt, run_underlying hu, hf, Instr.sureAddr, fieldPlace, run_sizeOf ht, hz, addr_add]
      · exact hK.elim
    · exact h.elim
  · exact h.elim

theorem loadK_sound {t : TypeId} {x : AV} {K : AV → Prop} (h : loadK P t x K) : ∃ v, K v ∧ ∀ (C : Ctx) (u : Value), VR C x u → ∃ r, (Instr.loadAt t u).run P C.w = .ok r C.w ∧ VR C v r := by
  unfold loadK at h
  split at h
  · rename_i cells off
    split at h
    · rename_i v hp
      refine ⟨v, h, fun C u e1 => ?_⟩
      obtain ⟨b, o, rfl, us, hc, hv⟩ := e1.ip_inv
      obtain ⟨r, h1, h2⟩ := run_loadVar (P := P) hc hv hp
      exact ⟨r, by simp [Instr.loadAt, Instr.sureAddr, h1], h2⟩
    · exact h.elim
  · exact h.elim

theorem lenK_sound {t ty : TypeId} {x : AV} {K : AV → Prop} (h : lenK P t x K) : ∃ v, K v ∧ ∀ (C : Ctx) (u : Value), VR C x u → ∃ r, (∀ w, (Builtin.len_ #[t] ty #[u]).run P w = .ok r w) ∧ VR C v r := by
  unfold lenK at h
  split at h
  · rename_i e k cells n hu
    refine ⟨_, h, fun C u e1 => ?_⟩
    obtain ⟨A, cap, rfl, _⟩ := e1.imm_inv
    exact ⟨_, fun w => by simp [Builtin.len_, run_underlying hu]; rfl, .sc _⟩
  · rename_i e hh off n hu
    refine ⟨_, h, fun C u e1 => ?_⟩
    cases e1
    exact ⟨_, fun w => by simp [Builtin.len_, run_underlying hu]; rfl, .sc _⟩
  · rename_i e hu
    refine ⟨_, h, fun C u e1 => ?_⟩
    rw [vr_sc e1]
    exact ⟨_, fun w => by simp [Builtin.len_, run_underlying hu]; rfl, .sc _⟩
  · rename_i s hu
    refine ⟨_, h, fun C u e1 => ?_⟩
    rw [vr_sc e1]
    exact ⟨_, fun w => by simp [Builtin.len_, run_underlying hu]; rfl, .sc _⟩
  · rename_i n e hu
    refine ⟨_, h, fun C u e1 => ?_⟩
    exact ⟨_, fun w => by simp [Builtin.len_, run_underlying hu]; rfl, .sc _⟩
  · exact h.elim
end Go.Abs
