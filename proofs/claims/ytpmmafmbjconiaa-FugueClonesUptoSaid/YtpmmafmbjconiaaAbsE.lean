/-
  An abstract logic over the model's walks, part E: parts of values, equality, what cells hold.
  Conditions: none. Lemmas only.
-/
import Derived.Test.YtpmmafmbjconiaaAbsD
set_option linter.all false
namespace Go.Abs
open Go Go.RowKit

theorem VR.agg_inv {C : Ctx} {cells : List AV} {v : Value} (h : VR C (.agg cells) v) : ∃ vs : Array Value, v = .agg vs ∧ vs.size = cells.length ∧ (∀ j, j < vs.size → (vs.getD j undef).oneCell' = true) ∧ ∀ j (h : j < cells.length), VR C cells[j] (vs.getD j undef) := by
  cases h with
  | agg _ vs hs h1 hv => exact ⟨vs, rfl, hs, h1, hv⟩
theorem VR.tup_inv {C : Ctx} {cells : List AV} {v : Value} (h : VR C (.tup cells) v) : ∃ vs : Array Value, v = .tuple vs ∧ vs.size = cells.length ∧ ∀ j (h : j < cells.length), VR C cells[j] (vs.getD j undef) := by
  cases h with
  | tup _ vs hs hv => exact ⟨vs, rfl, hs, hv⟩
theorem VR.imm_inv {C : Ctx} {k : Nat} {cells : List AV} {n : Nat} {v : Value} (h : VR C (.imm k cells n) v) : ∃ A cap, v = .slice A n cap ∧ n ≤ cap ∧ cap ≤ maxLen ∧
    (k ≠ 0 → k < C.n ∧ cap = C.c k ∧ (A = some ⟨C.i k, 0, none⟩ ∨ (A = none ∧ cap = 0))) ∧ ∃ b o, (cells ≠ [] → A = some ⟨b, o, none⟩) ∧ ∃ u : Nat → Value,
      (∀ j, j < cells.length → C.At ⟨b, o + j, none⟩ (u j)) ∧ ∀ j (h : j < cells.length), VR C cells[j] (u j) := by
  cases h with
  | imm _ _ _ A cap hn hm hk b o ha u hc hv => exact ⟨A, cap, rfl, hn, hm, hk, b, o, ha, u, hc, hv⟩
theorem VR.ip_inv {C : Ctx} {cells : List AV} {off : Nat} {v : Value} (h : VR C (.ip cells off) v) : ∃ b o, v = .pointer (some ⟨b, o + off, none⟩) ∧ ∃ u : Nat → Value,
      (∀ j, j < cells.length → C.At ⟨b, o + j, none⟩ (u j)) ∧ ∀ j (h : j < cells.length), VR C cells[j] (u j) := by
  cases h with
  | ip _ _ b o u hc hv => exact ⟨b, o, rfl, u, hc, hv⟩

def aggD : TypeDesc → Bool
  | .struct _ | .array _ _ => true
  | _ => false

theorem run_isAgg {P : Program} {t : TypeId} {d : TypeDesc} (h : P.underlying t = some d) (w : World) : (isAgg t).run P w = .ok (aggD d) w := by
  simp [isAgg, run_underlying h]
  cases d <;> rfl

/-- a part of a row of cells -/
def partA (P : Program) (t : TypeId) (cells : List AV) (off : Nat) : Option AV := match P.underlying t with
  | none => none
  | some d => if aggD d then (if hasT P t = true ∧ off + szOf P t ≤ cells.length then some (.agg ((cells.drop off).take (szOf P t))) else none) else cells[off]?

theorem getD_lt {vs : Array Value} {j : Nat} (h : j < vs.size) : vs.getD j undef = vs[j] := by simp [h]

theorem run_part {P : Program} {C : Ctx} {t : TypeId} {cells : List AV} {vs : Array Value} {off : Nat} {a : AV} (hs : vs.size = cells.length) (h1 : ∀ j, j < vs.size → (vs.getD j undef).oneCell' = true)
    (hv : ∀ j (h : j < cells.length), VR C cells[j] (vs.getD j undef)) (h : partA P t cells off = some a) (w : World) : ∃ u, (part t vs off).run P w = .ok u w ∧ VR C a u := by
  unfold partA at h
  split at h
  · cases h
  · rename_i d hd
    split at h
    · rename_i hagg
      split at h
      · rename_i hc
        obtain ⟨ht, hle⟩ := hc
        simp only [Option.some.injEq] at h
        subst h
        refine ⟨_, by simp [part, run_isAgg hd, hagg, run_sizeOf ht]; rfl, ?_⟩
        have hz : (vs.extract off (off + szOf P t)).size = szOf P t := by rw [Array.size_extract]; omega
        have hg : ∀ j, j < szOf P t → (vs.extract off (off + szOf P t)).getD j undef = vs.getD (off + j) undef := fun j hj => by
          rw [getD_lt (by omega), getD_lt (by omega), Array.getElem_extract]
        refine .agg _ _ ?_ (fun j hj => ?_) (fun j hj => ?_)
        · rw [hz, List.length_take, List.length_drop]; omega
        · rw [hz] at hj
          rw [hg j hj]; exact h1 _ (by omega)
        · have hj' : j < szOf P t := by rw [List.length_take, List.length_drop] at hj; omega
          rw [hg j hj', List.getElem_take, List.getElem_drop]
          exact hv _ _
      · cases h
    · rename_i hagg
      have hlt : off < cells.length := by
        rcases Nat.lt_or_ge off cells.length with h' | h'
        · exact h'
        · rw [List.getElem?_eq_none h'] at h; cases h
      rw [List.getElem?_eq_getElem hlt] at h
      simp only [Option.some.injEq] at h
      subst h
      have hlt' : off < vs.size := by omega
      refine ⟨vs[off], by simp [part, run_isAgg hd, hagg, hlt'], ?_⟩
      have := hv off hlt
      rwa [getD_lt hlt'] at this

theorem run_part_ok {P : Program} {C : Ctx} {t : TypeId} {cells : List AV} {v : Value} {off : Nat} {a : AV} (hv : VR C (.agg cells) v) (h : partA P t cells off = some a) (w : World) : ∃ vs u, v = .agg vs ∧ (part t vs off).run P w = .ok u w ∧ VR C a u := by
  obtain ⟨vs, rfl, hs, h1, hv⟩ := hv.agg_inv
  obtain ⟨u, hu⟩ := run_part hs h1 hv h w
  exact ⟨vs, u, rfl, hu⟩

/-- equality, structs too -/
def eqG (P : Program) : Nat → TypeId → AV → AV → Option Bool
  | 0, _, _, _ => none
  | d + 1, t, x, y => match P.underlying t, x, y with
    | some (.struct fields), .agg xs, .agg ys => if P.stoodInHeld t then none else
        (fields.toList.foldr (fun f r => if f.name ≠ "_" then (match partA P f.type xs f.offset, partA P f.type ys f.offset with
          | some a, some b => (match eqG P d f.type a b, r with | some p, some q => some (p && q) | _, _ => none)
          | _, _ => none) else r) (some true))
    | _, x, y => eqA P t x y

/-- no nil interface is compared -/
def eqOk (P : Program) (t : TypeId) : Bool := !P.eqGuardType P.depth t

def binK (P : Program) (op : BinOp) (t : TypeId) (x y : AV) (K : AV → Prop) : Prop := match x, y with
  | .sc (.int k a), .sc (.int k' b) => if op = .shl ∨ op = .shr then shiftI op k a b K else Req (k = k') (binI op k a b K)
  | .sc (.string a), .sc (.string b) => binS op a b K
  | x, y => match op, eqG P 6 t x y with
    | .eql, some r => Req (eqOk P t = true) (K (.sc (.bool r)))
    | .neq, some r => Req (eqOk P t = true) (K (.sc (.bool (!r))))
    | _, _ => False


theorem eqA_sound {P : Program} {C : Ctx} {D : Nat} {t : TypeId} {x y : AV} {u v : Value} {r : Bool} (hD : 0 < D) (h : eqA P t x y = some r) (hx : VR C x u) (hy : VR C y v) (w : World) : (Op.equalIn D t u v).run P w = .ok r w := by
  obtain ⟨D, rfl⟩ : ∃ D', D = D' + 1 := ⟨D - 1, by omega⟩
  unfold eqA at h
  split at h
  case h_2 hu =>
    cases hx; cases hy
    split at h
    · simp only [Option.some.injEq] at h
      subst h
      rename_i hk
      simp [Op.equalIn, run_underlying hu, hk]
    · cases h
  all_goals first
    | (cases h; done)
    | (rename_i hu; cases hx; cases hy; simp only [Option.some.injEq] at h; subst h; simp [Op.equalIn, run_underlying hu])

theorem eqG_sound {P : Program} {C : Ctx} : ∀ (d D : Nat) (t : TypeId) (x y : AV) (u v : Value) (r : Bool), d ≤ D → eqG P d t x y = some r → VR C x u → VR C y v → ∀ w, (Op.equalIn D t u v).run P w = .ok r w
  | 0, _, _, _, _, _, _, _, _, h, _, _, _ => by simp [eqG] at h
  | d + 1, D, t, x, y, u, v, r, hD, h, hx, hy, w => by
    unfold eqG at h
    split at h
    · rename_i fields xs ys hu
      obtain ⟨D, rfl⟩ : ∃ D', D = D' + 1 := ⟨D - 1, by omega⟩
      split at h
      · cases h
      · rename_i hst
        obtain ⟨us, rfl, hs1, ho1, hv1⟩ := hx.agg_inv
        obtain ⟨vs, rfl, hs2, ho2, hv2⟩ := hy.agg_inv
        simp only [Op.equalIn, Sem.run_bind, run_underlying hu, Result.andThen_ok]
        have hprog : ∀ w, (program : Sem Program).run P w = .ok P w := fun w => rfl
        simp only [hprog, Result.andThen_ok, hst, Bool.false_eq_true, if_false]
        rw [← Array.forIn_toList]
        generalize fields.toList = fl at h
        have key : ∀ (fl : List Field) (r : Bool),
            (fl.foldr (fun f r => if f.name ≠ "_" then (match partA P f.type xs f.offset, partA P f.type ys f.offset with
              | some a, some b => (match eqG P d f.type a b, r with | some p, some q => some (p && q) | _, _ => none)
              | _, _ => none) else r) (some true)) = some r →
            ∀ (B : Field → Option Bool × Unit → Sem (ForInStep (Option Bool × Unit))),
              (∀ f s, B f s = (if f.name ≠ "_" then do
                  let x1 ← part f.type us f.offset
                  let x2 ← part f.type vs f.offset
                  let x3 ← Op.equalIn D f.type x1 x2
                  if (!x3) = true then pure (ForInStep.done (some false, ())) else pure (ForInStep.yield (none, ()))
                else pure (ForInStep.yield (none, ())))) →
              (forIn fl ((none, ()) : Option Bool × Unit) B).run P w = .ok (if r then none else some false, ()) w := by
          intro fl
          induction fl with
          | nil => intro r hr B _; simp only [List.foldr_nil, Option.some.injEq] at hr; subst hr; simp
          | cons f fl ih =>
            intro r hr B hB
            simp only [List.foldr_cons] at hr
            simp only [List.forIn_cons, Sem.run_bind, hB]
            by_cases hf : f.name ≠ "_"
            · rw [if_pos hf] at hr
              cases ha : partA P f.type xs f.offset with
              | none => simp [ha] at hr
              | some a =>
                cases hb : partA P f.type ys f.offset with
                | none => simp [ha, hb] at hr
                | some b =>
                  simp only [ha, hb] at hr
                  split at hr
                  · rename_i p q hp hq
                    simp only [Option.some.injEq] at hr
                    obtain ⟨u1, e1, r1⟩ := run_part hs1 ho1 hv1 ha w
                    obtain ⟨u2, e2, r2⟩ := run_part hs2 ho2 hv2 hb w
                    have he := eqG_sound d D f.type a b u1 u2 p (by omega) hp r1 r2 w
                    have ih' := ih q hq B hB
                    cases p with
                    | false =>
                      simp only [Bool.false_and] at hr
                      subst hr
                      simp [hf, e1, e2, he]
                    | true =>
                      simp only [Bool.true_and] at hr
                      subst hr
                      simp [hf, e1, e2, he, ih']
                  · cases hr
            · rw [if_neg hf] at hr
              have hf' : f.name = "_" := by simpa using hf
              have ih' := ih r hr B hB
              simp [hf', ih']
        simp only [Sem.run_bind]
        rw [key fl r h _ (fun f s => rfl)]
        cases r <;> rfl
    · exact eqA_sound (by omega) h hx hy w
end Go.Abs
