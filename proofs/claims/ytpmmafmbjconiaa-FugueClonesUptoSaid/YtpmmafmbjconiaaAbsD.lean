/-
  An abstract logic over the model's walks, part D: what operations yield that change nothing.
  Conditions: none. Lemmas only.
-/
import Derived.Test.YtpmmafmbjconiaaAbsC
import Derived.Laws.BytesString
import Derived.Laws.CopyRow
import Derived.Laws.MakeOwn
set_option linter.all false
namespace Go.Abs
open Go Go.RowKit

/-- what is asked, and what follows -/
def Req (p q : Prop) : Prop := p ∧ q
@[congr] theorem Req_congr {p p' q : Prop} (h : p = p') : Req p q = Req p' q := by rw [h]
theorem Req_of {p q : Prop} (h : p) : Req p q = q := by simp [Req, h]
theorem Req_i {p q : Prop} (h : p) (g : q) : Req p q := ⟨h, g⟩

def szOf (P : Program) (t : TypeId) : Nat := match P.info? t with | some i => i.size | none => 0
def byOf (P : Program) (t : TypeId) : Nat := match P.info? t with | some i => i.bytes | none => 0
def zeOf (P : Program) (t : TypeId) : Value := match P.info? t with | some i => i.zero.getD undef | none => undef
def hasT (P : Program) (t : TypeId) : Bool := match P.info? t with | some i => i.zero.isSome && i.zero.all (fun z => z.cells.size == i.size && z.cells.all (·.oneCell')) | none => false
def callable (P : Program) (f : FuncId) : Bool := match P.funcs[f]? with | some fn => fn.body.isSome && !(fn.name == "runtime.NumGoroutine") | none => false

theorem hasT_spec {P : Program} {t : TypeId} (h : hasT P t = true) : ∃ i, P.info? t = some i ∧ i.size = szOf P t ∧ i.bytes = byOf P t ∧ i.zero = some (zeOf P t) ∧ (zeOf P t).cells.size = szOf P t ∧ ∀ j (hj : j < (zeOf P t).cells.size), (zeOf P t).cells[j].oneCell' = true := by
  unfold hasT at h
  split at h
  · rename_i i hi
    simp only [Bool.and_eq_true, Option.all_eq_true] at h
    obtain ⟨h1, h2⟩ := h
    obtain ⟨z, hz⟩ := Option.isSome_iff_exists.1 h1
    have h3 := h2 z hz
    have hze : zeOf P t = z := by simp [zeOf, hi, hz]
    refine ⟨i, hi, by simp [szOf, hi], by simp [byOf, hi], by rw [hze]; exact hz, ?_, ?_⟩
    · rw [hze]; simpa [szOf, hi] using h3.1
    · rw [hze]; exact fun j hj => Array.all_eq_true.1 h3.2 j hj
  · cases h

theorem run_sizeOf {P : Program} {t : TypeId} (h : hasT P t = true) (w : World) : (sizeOf t).run P w = .ok (szOf P t) w := by
  obtain ⟨i, hi, h1, _⟩ := hasT_spec h
  simp [sizeOf, typeInfo, hi, h1]

/-! ### integers, strings, truth values -/
def binI (op : BinOp) (k : IntKind) (a b : Int) (K : AV → Prop) : Prop := match op with
  | .add => K (.sc (.int k (k.wrap (a + b))))
  | .sub => K (.sc (.int k (k.wrap (a - b))))
  | .mul => K (.sc (.int k (k.wrap (a * b))))
  | .quo => Req (b ≠ 0) (K (.sc (.int k (k.wrap (a.tdiv b)))))
  | .rem => Req (b ≠ 0) (K (.sc (.int k (a.tmod b))))
  | .and => K (.sc (.int k (bits .and k a b)))
  | .or => K (.sc (.int k (bits .or k a b)))
  | .xor => K (.sc (.int k (bits .xor k a b)))
  | .andNot => K (.sc (.int k (bits .andNot k a b)))
  | .eql => K (.sc (.bool (a == b)))
  | .neq => K (.sc (.bool (a != b)))
  | .lss => K (.sc (.bool (a < b)))
  | .leq => K (.sc (.bool (a ≤ b)))
  | .gtr => K (.sc (.bool (a > b)))
  | .geq => K (.sc (.bool (a ≥ b)))
  | _ => False

def shiftI (op : BinOp) (k : IntKind) (a b : Int) (K : AV → Prop) : Prop := match op with
  | .shl => Req (0 ≤ b) (K (.sc (.int k (k.wrap (a * 2 ^ min b.toNat k.bits)))))
  | .shr => Req (0 ≤ b) (K (.sc (.int k (a.fdiv (2 ^ min b.toNat k.bits)))))
  | _ => False

def binS (op : BinOp) (a b : ByteArray) (K : AV → Prop) : Prop := match op with
  | .add => Req (a.size + b.size ≤ maxLen) (K (.sc (.string (a ++ b))))
  | .eql => K (.sc (.bool (a.toList == b.toList)))
  | .neq => K (.sc (.bool !(a.toList == b.toList)))
  | .lss => K (.sc (.bool (Op.bytesLess a.toList b.toList)))
  | .gtr => K (.sc (.bool (!(Op.bytesLess a.toList b.toList || a.toList == b.toList))))
  | .leq => K (.sc (.bool ((Op.bytesLess a.toList b.toList || a.toList == b.toList))))
  | .geq => K (.sc (.bool (!Op.bytesLess a.toList b.toList)))
  | _ => False

/-- equality of values, type by type -/
def eqA (P : Program) (t : TypeId) (x y : AV) : Option Bool := match P.underlying t, x, y with
    | some (.bool), .sc (.bool a), .sc (.bool b) => some (a == b)
    | some (.int _), .sc (.int k a), .sc (.int k' b) => if k = k' then some (a == b) else none
    | some (.string), .sc (.string a), .sc (.string b) => some (a == b)
    | some (.pointer _), .sc (.pointer none), .sc (.pointer none) => some true
    | some (.pointer _), .sc (.pointer none), .ptr _ _ => some false
    | some (.pointer _), .ptr _ _, .sc (.pointer none) => some false
    | some (.map _ _), .sc (.map none), .sc (.map none) => some true
    | some (.map _ _), .sc (.map none), .mp _ => some false
    | some (.map _ _), .mp _, .sc (.map none) => some false
    | some (.func _ _ _), .sc .nilFunc, .sc .nilFunc => some true
    | some (.func _ _ _), .sc .nilFunc, .fn _ _ _ => some false
    | some (.func _ _ _), .fn _ _ _, .sc .nilFunc => some false
    | _, _, _ => none

def Out (P : Program) (H : AH) (o : Oper) (ρ : Operand → AV) (K : AV → Prop) : Prop := ∃ v, Quiet P H o ρ v ∧ K v
def OutP (P : Program) (o : Oper) (ρ : Operand → AV) (K : AV → Prop) : Prop := ∃ v, (∀ H, Quiet P H o ρ v) ∧ K v

/-- an operation that runs to a value in the very world that it got -/
theorem quiet_run {P : Program} {H : AH} {o : Oper} {ρ : Operand → AV} {v : AV}
    (h : ∀ (C : Ctx) (ρ' : Operand → Value), C.H = H → WR C → (∀ x ∈ o.op.operands, VR C (ρ x) (ρ' x)) → ∃ u, (execOp ρ' o).run P C.w = .ok (.value u) C.w ∧ VR C v u) : Quiet P H o ρ v := by
  intro n i c w ρ' g hx
  obtain ⟨u, h1, h2⟩ := h ⟨H, n, i, c, w⟩ ρ' rfl g hx
  simp only [] at h1
  rw [h1]
  exact ⟨v, H, n, i, c, ⟨rfl, rfl⟩, g, Ext.refl _, h2⟩

theorem vr_sc {C : Ctx} {v u : Value} (h : VR C (.sc v) u) : u = v := by cases h; rfl

theorem binI_sound {P : Program} {op : BinOp} {t : TypeId} {x y : Operand} {k : IntKind} {a b : Int} {K : AV → Prop} (h : binI op k a b K) :
    ∃ r : Value, r.oneCell' = true ∧ (∀ w, ((do eqGuard op t x y (.int k a) (.int k b); binOp op t (.int k a) (.int k b)) : Sem Value).run P w = .ok r w) ∧ K (.sc r) := by
  cases op <;> simp only [binI] at h <;> try exact h.elim
  case quo => exact ⟨_, rfl, fun w => by simp [eqGuard_at_int, binOp, Op.intDiv, h.1], h.2⟩
  case rem => exact ⟨_, rfl, fun w => by simp [eqGuard_at_int, binOp, Op.intDiv, h.1], h.2⟩
  case add => exact ⟨_, rfl, fun w => by simp [eqGuard_at_int, binOp, Op.intArith], h⟩
  case sub => exact ⟨_, rfl, fun w => by simp [eqGuard_at_int, binOp, Op.intArith], h⟩
  case mul => exact ⟨_, rfl, fun w => by simp [eqGuard_at_int, binOp, Op.intArith], h⟩
  case and => exact ⟨_, rfl, fun w => by simp [eqGuard_at_int, binOp, intBits_and], h⟩
  case or => exact ⟨_, rfl, fun w => by simp [eqGuard_at_int, binOp, intBits_or], h⟩
  case xor => exact ⟨_, rfl, fun w => by simp [eqGuard_at_int, binOp, intBits_xor], h⟩
  case andNot => exact ⟨_, rfl, fun w => by simp [eqGuard_at_int, binOp, intBits_andNot], h⟩
  all_goals exact ⟨_, rfl, fun w => by simp [eqGuard_at_int, binOp, Op.intCmp], h⟩

theorem shiftI_sound {P : Program} {op : BinOp} {t : TypeId} {x y : Operand} {k yk : IntKind} {a b : Int} {K : AV → Prop} (h : shiftI op k a b K) :
    ∃ r : Value, r.oneCell' = true ∧ (∀ w, ((do eqGuard op t x y (.int k a) (.int yk b); binOp op t (.int k a) (.int yk b)) : Sem Value).run P w = .ok r w) ∧ K (.sc r) := by
  cases op <;> simp only [shiftI] at h <;> try exact h.elim
  case shl => exact ⟨_, rfl, fun w => by have h1 : ¬ b < 0 := by have := h.1; omega
                                         simp [eqGuard_at_int, binOp, Op.shift, h1], h.2⟩
  case shr => exact ⟨_, rfl, fun w => by have h1 : ¬ b < 0 := by have := h.1; omega
                                         simp [eqGuard_at_int, binOp, Op.shift, h1], h.2⟩

theorem binS_sound {P : Program} {op : BinOp} {t : TypeId} {x y : Operand} {a b : ByteArray} {K : AV → Prop} (h : binS op a b K) :
    ∃ r : Value, r.oneCell' = true ∧ (∀ w, ((do eqGuard op t x y (.string a) (.string b); binOp op t (.string a) (.string b)) : Sem Value).run P w = .ok r w) ∧ K (.sc r) := by
  cases op <;> simp only [binS] at h <;> try exact h.elim
  case add => exact ⟨_, rfl, fun w => by
                have h1 : ¬ ((9223372036854775807 : Int) < (a.size : Int) + (b.size : Int)) := by have := h.1; unfold maxLen at this; omega
                simp [eqGuard_at_string, binOp, Op.stringOp, h1], h.2⟩
  all_goals exact ⟨_, rfl, fun w => by simp [eqGuard_at_string, binOp, Op.stringOp], h⟩

end Go.Abs
