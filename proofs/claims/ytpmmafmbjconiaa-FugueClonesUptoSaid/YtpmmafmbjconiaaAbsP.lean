/-
  An abstract logic over the model's walks, part P: maps.
  Conditions: none. Lemmas only.
-/
import Derived.Test.YtpmmafmbjconiaaAbsL
import Derived.MapKept
set_option linter.all false
namespace Go.Abs
open Go Go.RowKit
variable {P : Program}

/-- may a value of this form be hashed? -/
def chkA (P : Program) : Nat → TypeId → AV → Bool
  | 0, _, _ => false
  | d + 1, t, x => match P.underlying t with
    | none => false
    | some (.interface _) => false
    | some (.array n e) => (match x with
      | .agg cells => hasT P e && (List.range n).all fun i => (match partA P e cells (i * szOf P e) with | some a => chkA P d e a | none => false)
      | _ => false)
    | some (.struct fs) => (match x with
      | .agg cells => fs.toList.all fun f => f.name == "_" || (match partA P f.type cells f.offset with | some a => chkA P d f.type a | none => false)
      | _ => false)
    | some _ => true

theorem run_forIn_ok {α : Type} {g : α → Unit → Sem (ForInStep Unit)} {w : World} : ∀ (l : List α), (∀ a ∈ l, (g a ()).run P w = .ok (.yield ()) w) → (forIn l () g : Sem Unit).run P w = .ok () w
  | [], _ => by simp
  | a :: l, h => by
    have h1 := h a (by simp)
    have h2 := run_forIn_ok l fun b hb => h b (by simp [hb])
    simp only [List.forIn_cons, Sem.run_bind, h1, Result.andThen_ok]
    exact h2

theorem chkA_sound {C : Ctx} : ∀ (d n : Nat) (t : TypeId) (x : AV) (u : Value), d ≤ n → chkA P d t x = true → VR C x u → ∀ (e : Bool) (w : World), (Instr.checkKey e n t u).run P w = .ok () w
  | 0, _, _, _, _, _, h, _, _, _ => by simp [chkA] at h
  | d + 1, n, t, x, u, hd, h, hx, e, w => by
    obtain ⟨n, rfl⟩ : ∃ n', n = n' + 1 := ⟨n - 1, by omega⟩
    unfold chkA at h
    split at h
    · cases h
    · cases h
    · rename_i len el hu
      split at h
      · rename_i cells
        obtain ⟨vs, rfl, hs, h1, hv⟩ := hx.agg_inv
        simp only [Bool.and_eq_true, List.all_eq_true] at h
        obtain ⟨hT, h⟩ := h
        have key : ∀ i, i < len → (do Instr.checkKey e n el (← part el vs (i * (← sizeOf el))) : Sem Unit).run P w = .ok () w := by
          intro i hi
          have := h i (by simpa using hi)
          split at this
          · rename_i a ha
            obtain ⟨r, r1, r2⟩ := run_part (P := P) hs h1 hv ha w
            have r3 := chkA_sound d n el a r (by omega) this r2 e w
            simp [run_sizeOf hT, r1, r3]
          · cases this
        simp only [Instr.checkKey, Sem.run_bind, run_underlying hu, Result.andThen_ok]
        rw [Std.Legacy.Range.forIn_eq_forIn_range', run_forIn_ok]
        · rfl
        · intro i hi
          have hi' : i < len := by simpa [Std.Legacy.Range.size] using hi
          have := key i hi'
          simp [run_sizeOf hT] at this ⊢
          generalize (part el vs (i * szOf P el)).run P w = q at this
          cases q with
          | ok r w2 => simp only [Result.andThen_ok] at this ⊢; simp [this]
          | halt x w2 => simp [Result.andThen] at this
      · cases h
    · rename_i fs hu
      split at h
      · rename_i cells
        obtain ⟨vs, rfl, hs, h1, hv⟩ := hx.agg_inv
        simp only [List.all_eq_true] at h
        have key : ∀ f ∈ fs.toList, (do if f.name ≠ "_" then Instr.checkKey e n f.type (← part f.type vs f.offset) : Sem Unit).run P w = .ok () w := by
          intro f hf
          have := h f hf
          by_cases hn : f.name = "_"
          · simp [hn]
          · simp only [Bool.or_eq_true, beq_iff_eq, hn, false_or] at this
            split at this
            · rename_i a ha
              obtain ⟨r, r1, r2⟩ := run_part (P := P) hs h1 hv ha w
              have r3 := chkA_sound d n f.type a r (by omega) this r2 e w
              simp [hn, r1, r3]
            · cases this
        simp only [Instr.checkKey, Sem.run_bind, run_underlying hu, Result.andThen_ok]
        rw [← Array.forIn_toList, run_forIn_ok]
        · rfl
        · intro f hf
          have := key f hf
          by_cases hn : f.name = "_"
          · simp [hn]
          · simp [hn] at this ⊢
            generalize (part f.type vs f.offset).run P w = q at this
            cases q with
            | ok r w2 => simp only [Result.andThen_ok] at this ⊢; simp [this]
            | halt x w2 => simp [Result.andThen] at this
      · cases h
    · rename_i td n1 n2 n3 hu
      simp only [Instr.checkKey, Sem.run_bind, run_underlying hu, Result.andThen_ok]
      split
      · rename_i hh; exact absurd rfl (n1 _)
      · exact absurd rfl (n2 _ _)
      · exact absurd rfl (n3 _)
      · exact absurd rfl (n1 _)
      · exact absurd rfl (n1 _)
      · exact absurd rfl (n2 _ _)
      · exact absurd rfl (n3 _)
      · rfl

/-- where a key lies, and what lies there -/
def findA (P : Program) (kt : TypeId) (key : AV) : List (AV × AV) → Nat → Option (Option (Nat × AV))
  | [], _ => some none
  | (k, v) :: r, i => match eqG P 6 kt key k with
    | some true => some (some (i, v))
    | some false => findA P kt key r (i + 1)
    | none => none

def FoundR (C : Ctx) (ms : List MapEntry) (i0 : Nat) : Option (Nat × AV) → Option (Nat × Value) → Prop
  | none, none => True
  | some (i, v), some (i', u) => i = i' ∧ i0 ≤ i ∧ ∃ h : i - i0 < ms.length, u = ms[i - i0].val ∧ VR C v u
  | _, _ => False

theorem same_now {kt : TypeId} {td : TypeDesc} {u v : Value} {b : Bool} (hd : P.underlying kt = some td) (h : Instr.sameNow td u v = some b) (w : World) : (Op.equal kt u v).run P w = .ok b w := by
  have key : ∀ d, (Op.equalIn (d + 1) kt u v).run P w = .ok b w := by
    intro d
    unfold Instr.sameNow at h
    split at h
    · split at h
      · rename_i hkk
        simp only [Option.some.injEq] at h
        subst h hkk
        simp [Op.equalIn, run_underlying hd]
      · cases h
    · simp only [Option.some.injEq] at h
      subst h
      simp [Op.equalIn, run_underlying hd]
    · simp only [Option.some.injEq] at h
      subst h
      simp [Op.equalIn, run_underlying hd]
    · cases h
  exact key 9999

theorem find_sound {C : Ctx} {kt : TypeId} {key : AV} {u : Value} {td : TypeDesc} (hd : P.underlying kt = some td) (hk : VR C key u) : ∀ (es : List (AV × AV)) (ms : List MapEntry) (i : Nat) (r : Option (Nat × AV)), MapR C es ms → findA P kt key es i = some r →
    ∃ c, FoundR C ms i r c ∧ (∀ w, (Instr.findAsking kt u ms i).run P w = .ok c w) ∧ (Instr.findNow td u ms i = none ∨ Instr.findNow td u ms i = some c)
  | [], ms, i, r, hm, h => by
    have : ms = [] := List.eq_nil_of_length_eq_zero (by simpa using hm.1)
    subst this
    simp only [findA, Option.some.injEq] at h
    subst h
    exact ⟨none, trivial, fun w => by simp [Instr.findAsking], .inr rfl⟩
  | (k, v) :: es, ms, i, r, hm, h => by
    match ms, hm with
    | [], hm => exact absurd hm.1 (by simp)
    | m :: ms, hm =>
    have h0 := hm.2 0 (by simp)
    have hkv : VR C k m.key := by simpa using h0.1
    have hvv : VR C v m.val := by simpa using h0.2
    have hm' : MapR C es ms := ⟨by have := hm.1; simpa using this, fun j hj => by have := hm.2 (j + 1) (by simp; omega); simpa using this⟩
    simp only [findA] at h
    split at h
    · rename_i he
      simp only [Option.some.injEq] at h
      subst h
      have hq : ∀ w, (Op.equal kt u m.key).run P w = .ok true w := fun w => eqG_sound 6 10000 kt key k u m.key true (by omega) he hk hkv w
      refine ⟨some (i, m.val), ⟨rfl, Nat.le_refl _, by simp, by simp, hvv⟩, fun w => by simp [Instr.findAsking, hq], ?_⟩
      simp only [Instr.findNow]
      cases hs : Instr.sameNow td u m.key with
      | none => exact .inl rfl
      | some b =>
        have hb : b = true := by
          have := (same_now hd hs C.w).symm.trans (hq C.w)
          simpa using this
        subst hb
        exact .inr rfl
    · rename_i he
      have hq : ∀ w, (Op.equal kt u m.key).run P w = .ok false w := fun w => eqG_sound 6 10000 kt key k u m.key false (by omega) he hk hkv w
      obtain ⟨c, c1, c2, c3⟩ := find_sound hd hk es ms (i + 1) r hm' h
      refine ⟨c, ?_, fun w => by simp [Instr.findAsking, hq, c2], ?_⟩
      · unfold FoundR at c1 ⊢
        split at c1
        · trivial
        · rename_i a b c' d'
          obtain ⟨e1, e2, e3, e4, e5⟩ := c1
          refine ⟨e1, by omega, by simp; omega, ?_, e5⟩
          rw [e4]
          have : a - i = (a - (i + 1)) + 1 := by omega
          simp only [this, List.getElem_cons_succ]
        · exact c1.elim
      · simp only [Instr.findNow]
        cases hs : Instr.sameNow td u m.key with
        | none => exact .inl rfl
        | some b =>
          have hb : b = false := by
            have := (same_now hd hs C.w).symm.trans (hq C.w)
            simpa using this
          subst hb
          exact c3
    · cases h

theorem findKey_sound {C : Ctx} {kt : TypeId} {key : AV} {u : Value} {td : TypeDesc} (hd : P.underlying kt = some td) (hk : VR C key u) {es : List (AV × AV)} {ms : List MapEntry} {r : Option (Nat × AV)} (hm : MapR C es ms) (h : findA P kt key es 0 = some r) :
    ∃ c, FoundR C ms 0 r c ∧ ∀ w, (Instr.findKey kt u ms).run P w = .ok c w := by
  obtain ⟨c, c1, c2, c3⟩ := find_sound hd hk es ms 0 r hm h
  refine ⟨c, c1, fun w => ?_⟩
  rcases c3 with c3 | c3 <;> simp [Instr.findKey, run_underlying hd, c3, c2]

/-- a type's zero value -/
def zeroV (P : Program) (t : TypeId) : AV := match zeOf P t with
  | .agg _ => .agg (zeroN P t)
  | _ => (zeroN P t).headD .any
theorem zeroV_sound {C : Ctx} {t : TypeId} (h : hasT P t = true) : ∃ z, (∀ w, (zeroValue t).run P w = .ok z w) ∧ VR C (zeroV P t) z := by
  refine ⟨zeOf P t, fun w => run_zero h w, ?_⟩
  have hz := zeroN_cells (C := C) h
  unfold zeroV
  split
  · rename_i cs he
    rw [he] at hz ⊢
    exact hz.agg
  · rename_i v hn
    have hc : (zeOf P t).cells = #[zeOf P t] := by
      cases hv : zeOf P t <;> first | rfl | exact absurd hv (hn _)
    rw [hc] at hz
    have hl : (zeroN P t).length = 1 := by have := hz.1; simpa using this.symm
    obtain ⟨a, ha⟩ : ∃ a, zeroN P t = [a] := by
      match h1 : zeroN P t, hl with
      | [a], _ => exact ⟨a, rfl⟩
    have := hz.get (j := 0) (a := a) (by rw [ha]; rfl)
    rw [ha]
    simpa using this

def lookV (P : Program) (et : TypeId) (ok : Bool) (r : Option (Nat × AV)) : AV :=
  bif ok then .tup [(r.map (·.2)).getD (zeroV P et), .sc (.bool r.isSome)] else (r.map (·.2)).getD (zeroV P et)

def lookE (P : Program) (t : TypeId) (x key : AV) (ok : Bool) (H : AH) (K : AV → Prop) : Prop := match P.underlying t, x with
  | some (.map kt et), .mp h => (match H h with
    | some (.map es) => Req (chkA P 6 kt key = true ∧ hasT P et = true) (match findA P kt key es 0 with | some r => K (lookV P et ok r) | none => False)
    | _ => False)
  | some (.map kt et), .sc (.map none) => Req (chkA P 6 kt key = true ∧ hasT P et = true) (K (lookV P et ok none))
  | _, _ => False

/-- a key that determines its value -/
def plainV : Value → Bool
  | .int _ _ | .bool _ | .string _ => true
  | _ => false
def plainA : AV → Bool
  | .sc v => plainV v
  | .agg cells => cells.all fun c => match c with | .sc v => plainV v | _ => false
  | _ => false

def updK (P : Program) (t : TypeId) (m key v : AV) (H : AH) (K : AV → AH → Prop) : Prop := match P.underlying t, m with
  | some (.map kt _), .mp h => (match H h with
    | some (.map es) => Req (chkA P 6 kt key = true) (match findA P kt key es 0 with
      | some none => K (.tup []) (H.set h (.map (es ++ [(key.strip, v.strip)])))
      | some (some (i, _)) => Req ((es[i]?).map (·.1) = some key ∧ plainA key = true) (K (.tup []) (H.set h (.map (es.set i (key, v.strip)))))
      | none => False)
    | _ => False)
  | _, _ => False

def mapK (_ : Program) (r : Bool) (H : AH) (K : AV → AH → Prop) : Prop := bif r then False else ∀ k, k ≠ 0 → H k = none → K (.mp k) (H.set k (.map []))

def lenE (P : Program) (t : TypeId) (x : AV) (H : AH) (K : AV → Prop) : Prop := match P.underlying t, x with
  | some (.map _ _), .mp h => (match H h with
    | some (.map es) => K (.sc (.int .i64 es.length))
    | _ => False)
  | some (.map _ _), .sc (.map none) => K (.sc (.int .i64 0))
  | _, _ => lenK P t x K

theorem map_obj {C : Ctx} (g : WR C) {h : Nat} {es : List (AV × AV)} (ho : C.H h = some (.map es)) : ∃ ms clock, C.w.heap[C.i h]? = some (.map ms clock) ∧ MapR C es ms.toList ∧ (∀ j (hj : j < ms.size), ms[j].born < clock) ∧ (ms.toList.map (·.born)).Nodup := g.obj h _ ho

theorem lookE_sound {d : Option Tmp} {t : TypeId} {x y : Operand} {ok : Bool} {ty : TypeId} {ps : String} {af : Array Edge} {gd : Option (Nat × Bool)} {ρ : Operand → AV} {H : AH} {K : AV → Prop} (h : lookE P t (ρ x) (ρ y) ok H K) :
    ∃ v, Quiet P H ⟨d, .lookup t x y ok, ty, ps, af, gd⟩ ρ v ∧ K v := by
  have fin : ∀ (C : Ctx) (et : TypeId) (r : Option (Nat × AV)) (c : Option (Nat × Value)) (z : Value) (ms : List MapEntry), FoundR C ms 0 r c → VR C (zeroV P et) z →
      VR C (lookV P et ok r) (if ok then .tuple #[(c.map (·.2)).getD z, .bool c.isSome] else (c.map (·.2)).getD z) := by
    intro C et r c z ms hf hz
    have hv : VR C ((r.map (·.2)).getD (zeroV P et)) ((c.map (·.2)).getD z) ∧ r.isSome = c.isSome := by
      rcases r with _ | ⟨i, v⟩ <;> rcases c with _ | ⟨j, u⟩
      · exact ⟨hz, rfl⟩
      · exact hf.elim
      · exact hf.elim
      · exact ⟨hf.2.2.2.2, rfl⟩
    unfold lookV
    cases ok with
    | false => exact hv.1
    | true =>
      simp only [cond_true, if_true]
      refine .tup _ _ rfl fun j hj => ?_
      match j, hj with
      | 0, _ => simpa using hv.1
      | 1, _ => rw [← hv.2]; exact .sc _
  unfold lookE at h
  split at h
  · rename_i kt et hh hu hx
    split at h
    · rename_i es hH
      obtain ⟨⟨hc, hT⟩, h⟩ := h
      split at h
      · rename_i r hr
        refine ⟨_, quiet_run fun C ρ' hCH g hxx => ?_, h⟩
        have e1 := hxx x (by simp [Op.operands])
        have e2 := hxx y (by simp [Op.operands])
        rw [hx] at e1
        obtain ⟨ms, clock, b1, b2, b3, b4⟩ := map_obj g (by rw [hCH]; exact hH)
        generalize hv : ρ' x = u at e1
        cases e1 with
        | mp _ hlt =>
          obtain ⟨td, hd⟩ : ∃ td, P.underlying kt = some td := by
            unfold chkA at hc
            cases hk : P.underlying kt with
            | none => simp [hk] at hc
            | some td => exact ⟨td, rfl⟩
          obtain ⟨c, c1, c2⟩ := findKey_sound hd e2 b2 hr
          obtain ⟨z, z1, z2⟩ := zeroV_sound (C := C) hT
          refine ⟨_, ?_, fin C et r c z _ c1 z2⟩
          have hck := chkA_sound 6 10000 kt (ρ y) (ρ' y) (by omega) hc e2
          cases c with
          | none => cases ok <;> simp [execOp, Instr.lookup, hv, run_underlying hu, MapKept.run_getObj_map b1, hck, c2, z1]
          | some q => obtain ⟨i, m⟩ := q; cases ok <;> simp [execOp, Instr.lookup, hv, run_underlying hu, MapKept.run_getObj_map b1, hck, c2]
      · exact h.elim
    · exact h.elim
  · rename_i kt et hu hx
    obtain ⟨⟨hc, hT⟩, h⟩ := h
    refine ⟨_, quiet_run fun C ρ' hCH g hxx => ?_, h⟩
    have e1 := hxx x (by simp [Op.operands])
    have e2 := hxx y (by simp [Op.operands])
    rw [hx] at e1
    have hv := vr_sc e1
    obtain ⟨td, hd⟩ : ∃ td, P.underlying kt = some td := by
      unfold chkA at hc
      cases hk : P.underlying kt with
      | none => simp [hk] at hc
      | some td => exact ⟨td, rfl⟩
    obtain ⟨z, z1, z2⟩ := zeroV_sound (C := C) hT
    refine ⟨_, ?_, fin C et none none z [] trivial z2⟩
    have hck := chkA_sound 6 10000 kt (ρ y) (ρ' y) (by omega) hc e2
    cases ok <;> simp [execOp, Instr.lookup, hv, run_underlying hu, hck, Instr.findKey, run_underlying hd, Instr.findNow, z1]
  · exact h.elim

theorem lenE_sound {d : Option Tmp} {t : TypeId} {x : Operand} {ty : TypeId} {ps : String} {af : Array Edge} {gd : Option (Nat × Bool)} {ρ : Operand → AV} {H : AH} {K : AV → Prop} (h : lenE P t (ρ x) H K) :
    ∃ v, Quiet P H ⟨d, .call ⟨.builtin .len, #[x], #[t]⟩, ty, ps, af, gd⟩ ρ v ∧ K v := by
  unfold lenE at h
  split at h
  · rename_i kt et hh hu hx
    split at h
    · rename_i es hH
      refine ⟨_, quiet_run fun C ρ' hCH g hxx => ?_, h⟩
      have e1 := hxx x (by simp [Op.operands, Call.operands])
      rw [hx] at e1
      obtain ⟨ms, clock, b1, b2, b3, b4⟩ := map_obj g (by rw [hCH]; exact hH)
      generalize hv : ρ' x = u at e1
      cases e1 with
      | mp _ hlt =>
        have hl : ms.size = es.length := by have := b2.1; simpa using this
        refine ⟨.int .i64 es.length, ?_, .sc _⟩
        simp [execOp, resolve, invoke, builtin, hv, Builtin.len_, run_underlying hu, MapKept.run_getObj_map b1, goInt, hl]
    · exact h.elim
  · rename_i kt et hu hx
    refine ⟨_, quiet_run fun C ρ' hCH g hxx => ?_, h⟩
    have e1 := hxx x (by simp [Op.operands, Call.operands])
    rw [hx] at e1
    have hv := vr_sc e1
    refine ⟨_, ?_, .sc _⟩
    simp [execOp, resolve, invoke, builtin, hv, Builtin.len_, run_underlying hu, goInt]
  · obtain ⟨v, hK, hv⟩ := lenK_sound (ty := ty) h
    refine ⟨v, quiet_run fun C ρ' hCH g hxx => ?_, hK⟩
    have e1 := hxx x (by simp [Op.operands, Call.operands])
    obtain ⟨r, r1, r2⟩ := hv C _ e1
    refine ⟨r, ?_, r2⟩
    simp [execOp, resolve, invoke, builtin, r1]

theorem new_none {C : Ctx} (g : WR C) : C.H C.n = none := by
  cases h : C.H C.n with
  | none => rfl
  | some o => exact absurd (g.lt _ _ h) (Nat.lt_irrefl _)

theorem mapK_sound {d : Option Tmp} {t : TypeId} {r : Option Operand} {ty : TypeId} {ps : String} {af : Array Edge} {gd : Option (Nat × Bool)} {ρ : Operand → AV} {H : AH} {K : AV → AH → Prop} (h : mapK P r.isSome H K) :
    Eff P H ⟨d, .makeMap t r, ty, ps, af, gd⟩ ρ K := by
  refine eff_of fun C ρ' hCH g hx => ?_
  cases r with
  | some r => exact h.elim
  | none =>
    have ex := Ext.add g (.map []) (.map #[] 0) 0
    refine ⟨.value (.map (some C.w.heap.size)), _, C.w.alloc (.map #[] 0), by simp [execOp, Instr.makeMap], .inl rfl, .mp C.n, ⟨C.H.set C.n (.map []), C.n + 1, upd C.i C.n C.w.heap.size, upd C.c C.n 0, C.w.alloc (.map #[] 0)⟩, ?_, rfl, ?_, ex, ?_⟩
    · have := h C.n (Nat.ne_of_gt g.pos) (by rw [← hCH]; exact new_none g)
      rw [← hCH] at this
      exact this
    · refine WR.add g (.map []) (.map #[] 0) 0 ⟨#[], 0, ?_, ⟨rfl, fun j hj => absurd hj (by simp)⟩, fun j hj => absurd hj (by simp), by simp⟩
      show (C.w.alloc (.map #[] 0)).heap[upd C.i C.n C.w.heap.size C.n]? = _
      rw [upd_same]
      exact heap_alloc_new _ _
    · have := VR.mp (C := ⟨C.H.set C.n (.map []), C.n + 1, upd C.i C.n C.w.heap.size, upd C.c C.n 0, C.w.alloc (.map #[] 0)⟩) C.n (Nat.lt_succ_self _)
      have e2 : (⟨C.H.set C.n (.map []), C.n + 1, upd C.i C.n C.w.heap.size, upd C.c C.n 0, C.w.alloc (.map #[] 0)⟩ : Ctx).i C.n = C.w.heap.size := upd_same
      rw [e2] at this
      exact this

theorem plain_eq {C : Ctx} {a : AV} {u v : Value} (ha : plainA a = true) (h : VR C a u) (g : VR C a v) : u = v := by
  cases a with
  | sc x => rw [vr_sc h, vr_sc g]
  | agg cells =>
    obtain ⟨us, rfl, hu, -, hu2⟩ := h.agg_inv
    obtain ⟨vs, rfl, hv, -, hv2⟩ := g.agg_inv
    congr 1
    apply Array.ext (by omega)
    intro j h1 h2
    have hj : j < cells.length := by omega
    have a1 := hu2 j hj
    have a2 := hv2 j hj
    rw [getD_lt h1] at a1
    rw [getD_lt h2] at a2
    have hp := List.all_eq_true.1 ha cells[j] (List.getElem_mem hj)
    generalize cells[j] = c at a1 a2 hp
    cases c with
    | sc x => rw [vr_sc a1, vr_sc a2]
    | _ => simp at hp
  | _ => simp [plainA] at ha
theorem sameBits_plain {n : Nat} {u : Value} (h : plainV u = true) : Instr.sameBits n u u = true := by
  cases u <;> simp [plainV] at h <;> cases n <;> simp [Instr.sameBits] <;> first | exact decide_eq_true rfl | (rename_i s _; show (s.data == s.data) = true; simp) | (rename_i s _ _; show (s.data == s.data) = true; simp) | (rename_i s; show (s.data == s.data) = true; simp)
theorem sameBits_key {C : Ctx} {a : AV} {u : Value} (ha : plainA a = true) (h : VR C a u) : Instr.sameBits 10000 u u = true := by
  cases a with
  | sc x => rw [vr_sc h]; exact sameBits_plain ha
  | agg cells =>
    obtain ⟨us, rfl, hu, -, hu2⟩ := h.agg_inv
    have key : ∀ n, Instr.sameBits (n + 1) (.agg us) (.agg us) = true := by
      intro n
      simp only [Instr.sameBits, beq_self_eq_true, Bool.true_and, List.all_eq_true]
      rintro ⟨x, y⟩ hxy
      obtain ⟨j, hj, he⟩ := List.getElem_of_mem hxy
      simp only [List.getElem_zip, Prod.mk.injEq] at he
      obtain ⟨rfl, rfl⟩ := he
      have hjs : j < us.size := by simpa using hj
      have a1 := hu2 j (by omega)
      rw [getD_lt hjs] at a1
      have hp := List.all_eq_true.1 ha cells[j] (List.getElem_mem (by omega))
      generalize cells[j] = c at a1 hp
      cases c with
      | sc x =>
        have e := vr_sc a1
        show Instr.sameBits n us.toList[j] us.toList[j] = true
        rw [Array.getElem_toList, e]
        exact sameBits_plain hp
      | _ => simp at hp
    exact key 9999
  | _ => simp [plainA] at ha

theorem map_set_get (ms : List MapEntry) (i j : Nat) (e : MapEntry) (hi : i < ms.length) : (ms.set i e).getD j default = if j = i then e else ms.getD j default := by
  simp only [List.getD]
  by_cases h : j = i
  · subst h; simp [hi]
  · rw [List.getElem?_set_ne (Ne.symm h), if_neg h]

theorem map_put {C : Ctx} (g : WR C) {h : Nat} {es es' : List (AV × AV)} (ho : C.H h = some (.map es)) {ms : Array MapEntry} {clock : Nat} (hlt : C.i h < C.w.heap.size)
    (hm : MapR C es' ms.toList) (hb : ∀ j (hj : j < ms.size), ms[j].born < clock) (hn : (ms.toList.map (·.born)).Nodup) :
    WR ⟨C.H.set h (.map es'), C.n, C.i, C.c, { C.w with heap := C.w.heap.setIfInBounds (C.i h) (.map ms clock) }⟩ ∧ Ext C ⟨C.H.set h (.map es'), C.n, C.i, C.c, { C.w with heap := C.w.heap.setIfInBounds (C.i h) (.map ms clock) }⟩ := by
  have hoth : ∀ b, b ≠ C.i h → (C.w.heap.setIfInBounds (C.i h) (.map ms clock))[b]? = C.w.heap[b]? := fun b hb => by
    rw [Array.getElem?_setIfInBounds_ne (Ne.symm hb)]
  have hnt : ∀ m e s, AObj.map es ≠ .tail m e s := by intro _ _ _ h; cases h
  have ex := Ext.put g ho (o' := .map es') rfl { C.w with heap := C.w.heap.setIfInBounds (C.i h) (.map ms clock) } (by simp) hoth rfl rfl rfl hnt
  exact ⟨WR.put g ho (o' := .map es') rfl _ (by simp) hoth rfl rfl rfl hnt ⟨ms, clock, by simp [hlt], hm.ext ex, hb, hn⟩, ex⟩

theorem updK_sound {d : Option Tmp} {t : TypeId} {m y x : Operand} {ty : TypeId} {ps : String} {af : Array Edge} {gd : Option (Nat × Bool)} {ρ : Operand → AV} {H : AH} {K : AV → AH → Prop} (h : updK P t (ρ m) (ρ y) (ρ x) H K) :
    Eff P H ⟨d, .mapUpdate t m y x, ty, ps, af, gd⟩ ρ K := by
  refine eff_of fun C ρ' hCH g hx => ?_
  have e1 := hx m (by simp [Op.operands])
  have e2 := hx y (by simp [Op.operands])
  have e3 := hx x (by simp [Op.operands])
  unfold updK at h
  split at h
  case h_2 => exact h.elim
  rename_i kt et hh hu hm
  rw [hm] at e1
  split at h
  case h_2 => exact h.elim
  rename_i es hH
  obtain ⟨hc, h⟩ := h
  have hH' : C.H hh = some (.map es) := by rw [hCH]; exact hH
  obtain ⟨ms, clock, b1, b2, b3, b4⟩ := map_obj g hH'
  have hblk := g.blk hh _ hH' rfl
  obtain ⟨td, hd⟩ : ∃ td, P.underlying kt = some td := by
    unfold chkA at hc
    cases hk : P.underlying kt with
    | none => simp [hk] at hc
    | some td => exact ⟨td, rfl⟩
  have hck := chkA_sound 6 10000 kt (ρ y) (ρ' y) (by omega) hc e2
  have hl : ms.size = es.length := by have := b2.1; simpa using this
  generalize hv : ρ' m = u at e1
  cases e1 with
  | mp _ hlt =>
  split at h
  · rename_i hr
    obtain ⟨c, c1, c2⟩ := findKey_sound hd e2 b2 hr
    have hcn : c = none := by cases c with | none => rfl | some q => exact c1.elim
    subst hcn
    have hm' : MapR C (es ++ [((ρ y).strip, (ρ x).strip)]) (ms.push ⟨ρ' y, ρ' x, clock⟩).toList := by
      refine ⟨by simp [hl], fun j hj => ?_⟩
      simp only [Array.toList_push]
      by_cases hlt2 : j < es.length
      · have := b2.2 j hlt2
        rw [List.getElem_append_left hlt2]
        have e : (ms.toList ++ [(⟨ρ' y, ρ' x, clock⟩ : MapEntry)]).getD j default = ms.toList.getD j default := by
          simp only [List.getD]; rw [List.getElem?_append_left (by simp; omega)]
        rw [e]; exact this
      · obtain rfl : j = es.length := by simp at hj; omega
        have e : (ms.toList ++ [(⟨ρ' y, ρ' x, clock⟩ : MapEntry)]).getD es.length default = ⟨ρ' y, ρ' x, clock⟩ := by
          simp only [List.getD]; rw [List.getElem?_append_right (by simp; omega)]; simp [hl]
        rw [e, List.getElem_append_right (Nat.le_refl _)]
        simp only [Nat.sub_self, List.getElem_singleton]
        exact ⟨e2.strip, e3.strip⟩
    obtain ⟨w1, w2⟩ := map_put g hH' hblk hm' (clock := clock + 1) (fun j hj => by
      rw [Array.getElem_push]
      split
      · have := b3 j (by assumption); omega
      · simp) (by
      rw [Array.toList_push, List.map_append, List.map_singleton, List.nodup_append]
      refine ⟨b4, by simp, ?_⟩
      intro a ha b hb
      simp only [List.mem_singleton] at hb
      obtain ⟨q, hq, rfl⟩ := List.mem_map.1 ha
      obtain ⟨j, hj, rfl⟩ := List.getElem_of_mem hq
      have := b3 j (by simpa using hj)
      simp only [Array.getElem_toList]
      omega)
    refine ⟨.skip, undef, _, ?_, .inr ⟨rfl, rfl⟩, .tup [], _, ?_, rfl, w1, w2, VR.skipped⟩
    · simp [execOp, Instr.mapUpdate, hv, run_underlying hu, MapKept.run_getObj_map b1, hck, c2, MapKept.run_setObj_map _ b1]
    · rw [← hCH] at h; exact h
  · rename_i i v hr
    obtain ⟨⟨hk, hp⟩, h⟩ := h
    obtain ⟨c, c1, c2⟩ := findKey_sound hd e2 b2 hr
    obtain ⟨i', mv, rfl⟩ : ∃ i' mv, c = some (i', mv) := by rcases c with _ | ⟨a, b⟩; exact c1.elim; exact ⟨_, _, rfl⟩
    obtain ⟨rfl, -, hi, hmv, hvv⟩ := c1
    simp only [Nat.sub_zero, Array.length_toList] at hi
    have hie : i < es.length := by omega
    have hkey : VR C (ρ y) ms[i].key := by
      have := (b2.2 i hie).1
      rw [List.getElem?_eq_getElem hie] at hk
      simp only [Option.map_some, Option.some.injEq] at hk
      rw [hk] at this
      simpa [List.getD, hi] using this
    have hsame : ms[i].key = ρ' y := plain_eq hp hkey e2
    have hbits := sameBits_key hp e2
    have hm' : MapR C (es.set i (ρ y, (ρ x).strip)) (ms.modify i fun e => { e with key := ρ' y, val := ρ' x }).toList := by
      have etl : (ms.modify i fun e => { e with key := ρ' y, val := ρ' x }).toList = ms.toList.set i ⟨ρ' y, ρ' x, ms[i].born⟩ := by
        apply List.ext_getElem (by simp)
        intro j h1 h2
        simp only [Array.getElem_toList, Array.getElem_modify, List.getElem_set]
        by_cases hji : i = j
        · subst hji; simp
        · simp [hji]
      rw [etl]
      refine ⟨by simp [hl], fun j hj => ?_⟩
      rw [map_set_get _ _ _ _ (by simpa using hi), List.getElem_set]
      by_cases hji : j = i
      · subst hji
        simp only [if_true]
        exact ⟨e2, e3.strip⟩
      · rw [if_neg (Ne.symm hji), if_neg hji]
        exact b2.2 j (by simpa using hj)
    obtain ⟨w1, w2⟩ := map_put g hH' hblk hm' (clock := clock) (fun j hj => by
      have hj' : j < ms.size := by simpa using hj
      have := b3 j hj'
      rw [Array.getElem_modify]
      split <;> exact this) (by
      have : ((ms.modify i fun e => { e with key := ρ' y, val := ρ' x }).toList.map (·.born)) = ms.toList.map (·.born) := by
        apply List.ext_getElem (by simp)
        intro j h1 h2
        simp only [List.getElem_map, Array.getElem_toList, Array.getElem_modify]
        split <;> rfl
      rw [this]; exact b4)
    refine ⟨.skip, undef, _, ?_, .inr ⟨rfl, rfl⟩, .tup [], _, ?_, rfl, w1, w2, VR.skipped⟩
    · have hki : (((ms[i]?).map (·.key)).getD (ρ' y)) = ρ' y := by simp [hi, hsame]
      simp [execOp, Instr.mapUpdate, hv, run_underlying hu, MapKept.run_getObj_map b1, hck, c2, Instr.keyThatStays, hki, hbits, MapKept.run_setObj_map _ b1]
    · rw [← hCH] at h; exact h
  · exact h.elim
end Go.Abs
