/-
  An abstract logic over the model's walks, part T: where a run stands still: at calls and loops, what follows is kept shut.
  Conditions: none. Lemmas only.
-/
import Derived.Test.YtjglpngjpiflhaaAbsS
set_option linter.all false
namespace Go.Abs
open Go Go.RowKit
variable {P : Program} {c : Cfg} {Q : Exit → Sg → AH → Prop} {σ : Sg} {H : AH} {K : AV → Prop} {L : AV → AH → Prop}

universe u
/-- what simp is not to look into: an argument on which this one's type hangs -/
structure Tie {α : Sort u} (a : α) : Type where

def CallP (P : Program) (f : FuncId) (args : List AV) (K : AV → Prop) (_ : Tie K) : Prop := ∃ v, APure P f args v ∧ K v
def CallK (P : Program) (f : FuncId) (args : List AV) (H : AH) (L : AV → AH → Prop) (_ : Tie L) : Prop := ACalls P f args H L
def LoopT (c : Cfg) (a : Code) (Q : Exit → Sg → AH → Prop) (σ : Sg) (H : AH) (_ : Tie a) (_ : Tie Q) : Prop := LoopG c a Q σ H

theorem callPK_t (P : Program) (fx : AV) (args : List AV) (K : AV → Prop) : callPK P fx args K = optK (funcA fx) fun q => Req (callable P q.1 = true) (CallP P q.1 (q.2.1 ++ args ++ q.2.2) K ⟨⟩) := callPK_u P fx args K
theorem callK_t (P : Program) (fx : AV) (args : List AV) (H : AH) (K : AV → AH → Prop) : callK P fx args H K = optK (funcA fx) fun q => Req (callable P q.1 = true) (CallK P q.1 (q.2.1 ++ args ++ q.2.2) H K ⟨⟩) := callK_u P fx args H K
theorem cwp_loop_t {a : Code} : cwp c (.loop a) Q σ H = LoopT c a Q σ H ⟨⟩ ⟨⟩ := cwp_loop

theorem CallP.i {f : FuncId} {args : List AV} {v : AV} {t : Tie K} (h : APure P f args v) (k : K v) : CallP P f args K t := ⟨v, h, k⟩
theorem CallK.p {f : FuncId} {args : List AV} {v : AV} {t : Tie L} (h : APure P f args v) (k : L v H) : CallK P f args H L t := h.call k
theorem CallK.i {f : FuncId} {args : List AV} {R : AV → AH → Prop} {t : Tie L} (h : ACalls P f args H R) (k : ∀ v H', R v H' → L v H') : CallK P f args H L t := h.mono k

theorem loop_t {a : Code} {t : Tie a} {t' : Tie Q} (hm : c.P.follows .mixedOrders = true) (hok : okDraws c.T a = true) (I : Nat → Sg → AH → Prop) (m : Nat) (h0 : I m σ H)
    (round : ∀ m σ H, I m σ H → cwp c a (AThen (fun σ' H' => ∃ m', m' < m ∧ I m' σ' H') Q) σ H) : LoopT c a Q σ H t t' := loop_rule hm hok I m h0 round
theorem tok_t {a : Code} {t : Tie a} {t' : Tie Q} (x : Nat) (hs : σ x = .sc (.slice none 0 0))
    (h : ∀ k, k ≠ 0 → H k = none → LoopT c a Q (σ.put (some x) (.imm k [] 0)) (H.set k .nilt) ⟨⟩ ⟨⟩) : LoopT c a Q σ H t t' := tok_rule x hs h

/-! ### where something is not known yet the run stands still -/
def optT {α : Type} (o : Option α) (K : α → Prop) (_ : Tie K) : Prop := optK o K
theorem optK_t {α : Type} (o : Option α) (K : α → Prop) : optK o K = optT o K ⟨⟩ := veil rfl
theorem optT_some {α : Type} (v : α) (K : α → Prop) (t : Tie K) : optT (some v) K t = K v := veil rfl
def ReqT (p q : Prop) (_ : Tie q) : Prop := p ∧ q
theorem Req_t (p q : Prop) : Req p q = ReqT p q ⟨⟩ := veil rfl
theorem ReqT_true {q : Prop} {t : Tie q} : ReqT True q t = q := by simp [ReqT]
theorem ReqT_of {p q : Prop} {t : Tie q} (h : p) : ReqT p q t = q := by simp [ReqT, h]
theorem ReqT.i {p q : Prop} {t : Tie q} (h : p) (g : q) : ReqT p q t := ⟨h, g⟩
def guardT (a : AV) (w : Bool) (X Y : Prop) (_ : Tie X) (_ : Tie Y) : Prop := guardW a w X Y
theorem guardAt_t (t : Tmp) (op : Op) (ty : TypeId) (ps : String) (af : Array Edge) (g : Option (Nat × Bool)) (l : List Oper) (σ : Sg) (w : Bool) (X Y : Prop) :
    guardAt (⟨some t, op, ty, ps, af, g⟩ :: l) 0 σ w X Y = guardT (σ t) w X Y ⟨⟩ ⟨⟩ := veil rfl
theorem guardT_true (X Y : Prop) (t : Tie X) (t' : Tie Y) : guardT (.sc (.bool true)) true X Y t t' = X := guardV_true X Y
theorem guardT_false (X Y : Prop) (t : Tie X) (t' : Tie Y) : guardT (.sc (.bool false)) true X Y t t' = Y := guardV_false X Y
theorem guardT_true' (X Y : Prop) (t : Tie X) (t' : Tie Y) : guardT (.sc (.bool true)) false X Y t t' = Y := guardV_true' X Y
theorem guardT_false' (X Y : Prop) (t : Tie X) (t' : Tie Y) : guardT (.sc (.bool false)) false X Y t t' = X := guardV_false' X Y
theorem guardT_skip (w : Bool) (X Y : Prop) (t : Tie X) (t' : Tie Y) : guardT (.tup []) w X Y t t' = Y := guardV_skip w X Y
def condT (a : AV) (X Y : Prop) (_ : Tie X) (_ : Tie Y) : Prop := condK a X Y
theorem cwp_cond_t {x : Operand} {a b : Code} : cwp c (.cond x a b) Q σ H = condT (σ.ev x) (cwp c a Q σ H) (cwp c b Q σ H) ⟨⟩ ⟨⟩ := cwp_cond
theorem condT_true {X Y : Prop} {t : Tie X} {t' : Tie Y} : condT (.sc (.bool true)) X Y t t' = X := condK_true
theorem condT_false {X Y : Prop} {t : Tie X} {t' : Tie Y} : condT (.sc (.bool false)) X Y t t' = Y := condK_false
/-- both ways -/
theorem condT.both {b : Bool} {X Y : Prop} {t : Tie X} {t' : Tie Y} (h : b = true → X) (g : b = false → Y) : condT (.sc (.bool b)) X Y t t' := ⟨h, g⟩
theorem guardT.both {b : Bool} {X Y : Prop} {t : Tie X} {t' : Tie Y} (h : b = true → guardT (.sc (.bool b)) true X Y t t') (g : b = false → guardT (.sc (.bool b)) true X Y t t') : guardT (.sc (.bool b)) true X Y t t' := by
  cases b
  · exact g rfl
  · exact h rfl
def pickT (a : AV) (X Y : Prop) (_ : Tie X) (_ : Tie Y) : Prop := pickK a X Y
variable {ρ : Operand → AV} {A : List Nat} {d : Option Tmp} {ty : TypeId} {ps : String} {af : Array Edge} {gd : Option (Nat × Bool)}
theorem sP_pick_t {a b e : Operand} : stepP P ⟨d, .pick a b e, ty, ps, af, gd⟩ ρ K = pickT (ρ a) (K (ρ b)) (K (ρ e)) ⟨⟩ ⟨⟩ := sP_pick
theorem sK_pick_t {a b e : Operand} : stepK P A ⟨d, .pick a b e, ty, ps, af, gd⟩ ρ H L = pickT (ρ a) (L (ρ b) H) (L (ρ e) H) ⟨⟩ ⟨⟩ := sK_pick
theorem pickT_true {X Y : Prop} {t : Tie X} {t' : Tie Y} : pickT (.sc (.bool true)) X Y t t' = X := veil rfl
theorem pickT_false {X Y : Prop} {t : Tie X} {t' : Tie Y} : pickT (.sc (.bool false)) X Y t t' = Y := veil rfl

/-! ### strings of bytes, more numbers -/
abbrev strV (l : List UInt8) : AV := .sc (.string ⟨l.toArray⟩)
theorem size_mk (l : List UInt8) : ByteArray.size ⟨l.toArray⟩ = l.length := by simp [ByteArray.size]
theorem data_mk (l : List UInt8) : (ByteArray.mk l.toArray).data.toList = l := rfl
theorem n8mul16 (a : UInt8) : IntKind.u8.wrap ((a.toNat : Int) * 16) = ((a * 16).toNat : Int) := n8wmul a 16
theorem tmodN (a n : Nat) : ((a : Int)).tmod (no_index (OfNat.ofNat n)) = ((a % OfNat.ofNat n : Nat) : Int) := rfl
theorem tdivN (a n : Nat) : ((a : Int)).tdiv (no_index (OfNat.ofNat n)) = ((a / OfNat.ofNat n : Nat) : Int) := rfl
/-! sums that stay in range, as casts -/
theorem wadd64 {a b : Nat} (h : a + b < 9223372036854775808) : IntKind.i64.wrap ((a : Int) + (b : Int)) = ((a + b : Nat) : Int) := by rw [wrapI (by omega)]; simp
theorem wadd64n {a n : Nat} (h : a + OfNat.ofNat n < 9223372036854775808) : IntKind.i64.wrap ((a : Int) + no_index (OfNat.ofNat n)) = ((a + OfNat.ofNat n : Nat) : Int) := wadd64 h
theorem wmul64 {a b : Nat} (h : a * b < 9223372036854775808) : IntKind.i64.wrap ((a : Int) * (b : Int)) = ((a * b : Nat) : Int) := by
  rw [← Int.natCast_mul, wrapI (by omega)]
theorem wmul64n {a n : Nat} (h : OfNat.ofNat n * a < 9223372036854775808) : IntKind.i64.wrap (no_index (OfNat.ofNat n) * (a : Int)) = ((OfNat.ofNat n * a : Nat) : Int) := wmul64 h
theorem wmul64m {a n : Nat} (h : a * OfNat.ofNat n < 9223372036854775808) : IntKind.i64.wrap ((a : Int) * no_index (OfNat.ofNat n)) = ((a * OfNat.ofNat n : Nat) : Int) := wmul64 h
theorem wsub64 {a b : Nat} (h : b ≤ a) (g : a < 9223372036854775808) : IntKind.i64.wrap ((a : Int) - (b : Int)) = ((a - b : Nat) : Int) := by rw [wrapI (by omega)]; omega
theorem wsub64n {a n : Nat} (h : OfNat.ofNat n ≤ a) (g : a < 9223372036854775808) : IntKind.i64.wrap ((a : Int) - no_index (OfNat.ofNat n)) = ((a - OfNat.ofNat n : Nat) : Int) := wsub64 h g
theorem wcast64 {a : Nat} (h : a < 9223372036854775808) : IntKind.i64.wrap (a : Int) = (a : Int) := wrapI (by omega)
theorem wcastU {a : Nat} (h : a < 18446744073709551616) : IntKind.u64.wrap (a : Int) = (a : Int) := by rw [IntKind.wrap_u64]; omega
theorem uadd64 {a b : Nat} (h : a + b < 18446744073709551616) : IntKind.u64.wrap ((a : Int) + (b : Int)) = ((a + b : Nat) : Int) := by rw [← Int.natCast_add, wcastU h]
theorem umul64n {a n : Nat} (h : a * OfNat.ofNat n < 18446744073709551616) : IntKind.u64.wrap ((a : Int) * no_index (OfNat.ofNat n)) = ((a * OfNat.ofNat n : Nat) : Int) := by
  have : ((a : Int) * OfNat.ofNat n) = ((a * OfNat.ofNat n : Nat) : Int) := by rw [Int.natCast_mul]; rfl
  rw [this, wcastU h]
theorem fdivN (a n : Nat) : ((a : Int)).fdiv (no_index (OfNat.ofNat n)) = ((a / OfNat.ofNat n : Nat) : Int) := by
  show ((a : Int)).fdiv ((n : Nat) : Int) = _
  rw [Int.fdiv_eq_ediv_of_nonneg _ (Int.natCast_nonneg n)]; rfl
theorem wcast8 {a : Nat} : IntKind.u8.wrap (a : Int) = ((UInt8.ofNat a).toNat : Int) := by
  rw [IntKind.wrap_u8, UInt8.toNat_ofNat']; omega
theorem bits_orU {a b : Nat} (ha : a < 2 ^ 64) (hb : b < 2 ^ 64) : bits .or .u64 (a : Int) (b : Int) = ((a ||| b : Nat) : Int) := by
  show IntKind.u64.wrap ((BitVec.ofInt 64 (a : Int) ||| BitVec.ofInt 64 (b : Int)).toNat : Int) = _
  rw [BitVec.ofInt_natCast, BitVec.ofInt_natCast]
  simp only [BitVec.toNat_or, BitVec.toNat_ofNat, Nat.mod_eq_of_lt ha, Nat.mod_eq_of_lt hb]
  exact wcastU (Nat.or_lt_two_pow ha hb)
/-! ### equality of what is no number and no string -/
def boolE (u : Option TypeDesc) (a b : Bool) : Option Bool := match u with | some .bool => some (a == b) | _ => none
def ptrE (u : Option TypeDesc) (r : Bool) : Option Bool := match u with | some (.pointer _) => some r | _ => none
def mapE (u : Option TypeDesc) (r : Bool) : Option Bool := match u with | some (.map _ _) => some r | _ => none
def fnE (u : Option TypeDesc) (r : Bool) : Option Bool := match u with | some (.func _ _ _) => some r | _ => none
section eqs
variable {t : TypeId}
theorem eqG_bool (a b : Bool) : eqG P 6 t (.sc (.bool a)) (.sc (.bool b)) = boolE (P.underlying t) a b := by
  unfold eqG
  generalize hu : P.underlying t = u
  cases u with
  | none => simp [eqA, hu, boolE]
  | some u => cases u <;> simp [eqA, hu, boolE]
theorem eqG_nn : eqG P 6 t (.sc (.pointer none)) (.sc (.pointer none)) = ptrE (P.underlying t) true := by
  unfold eqG
  generalize hu : P.underlying t = u
  cases u with
  | none => simp [eqA, hu, ptrE]
  | some u => cases u <;> simp [eqA, hu, ptrE]
theorem eqG_np (h o : Nat) : eqG P 6 t (.sc (.pointer none)) (.ptr h o) = ptrE (P.underlying t) false := by
  unfold eqG
  generalize hu : P.underlying t = u
  cases u with
  | none => simp [eqA, hu, ptrE]
  | some u => cases u <;> simp [eqA, hu, ptrE]
theorem eqG_pn (h o : Nat) : eqG P 6 t (.ptr h o) (.sc (.pointer none)) = ptrE (P.underlying t) false := by
  unfold eqG
  generalize hu : P.underlying t = u
  cases u with
  | none => simp [eqA, hu, ptrE]
  | some u => cases u <;> simp [eqA, hu, ptrE]
theorem bin_q {op : BinOp} {x y : AV} (h : ∀ k a k' b, x = .sc (.int k a) → y = .sc (.int k' b) → False) (g : ∀ a b, x = .sc (.string a) → y = .sc (.string b) → False) :
    binK P op t x y K = (match op, eqG P 6 t x y with
    | .eql, some r => Req (eqOk P t = true) (K (.sc (.bool r)))
    | .neq, some r => Req (eqOk P t = true) (K (.sc (.bool (!r))))
    | _, _ => False) := by
  unfold binK
  split
  · exact (h _ _ _ _ rfl rfl).elim
  · exact (g _ _ rfl rfl).elim
  · rfl
theorem bin_qe {x y : AV} (h : ∀ k a k' b, x = .sc (.int k a) → y = .sc (.int k' b) → False) (g : ∀ a b, x = .sc (.string a) → y = .sc (.string b) → False) :
    binK P .eql t x y K = optK (eqG P 6 t x y) fun r => Req (eqOk P t = true) (K (.sc (.bool r))) := by
  rw [bin_q h g]; generalize eqG P 6 t x y = o; cases o <;> rfl
theorem bin_qn {x y : AV} (h : ∀ k a k' b, x = .sc (.int k a) → y = .sc (.int k' b) → False) (g : ∀ a b, x = .sc (.string a) → y = .sc (.string b) → False) :
    binK P .neq t x y K = optK (eqG P 6 t x y) fun r => Req (eqOk P t = true) (K (.sc (.bool (!r)))) := by
  rw [bin_q h g]; generalize eqG P 6 t x y = o; cases o <;> rfl
theorem bin_beql {a b : Bool} : binK P .eql t (.sc (.bool a)) (.sc (.bool b)) K = optK (boolE (P.underlying t) a b) fun r => Req (eqOk P t = true) (K (.sc (.bool r))) := by
  rw [bin_qe (by intros; simp_all) (by intros; simp_all), eqG_bool]
theorem bin_bneq {a b : Bool} : binK P .neq t (.sc (.bool a)) (.sc (.bool b)) K = optK (boolE (P.underlying t) a b) fun r => Req (eqOk P t = true) (K (.sc (.bool (!r)))) := by
  rw [bin_qn (by intros; simp_all) (by intros; simp_all), eqG_bool]
theorem bin_ageql {a b : List AV} : binK P .eql t (.agg a) (.agg b) K = optK (eqG P 6 t (.agg a) (.agg b)) fun r => Req (eqOk P t = true) (K (.sc (.bool r))) := bin_qe (by intros; simp_all) (by intros; simp_all)
theorem bin_agneq {a b : List AV} : binK P .neq t (.agg a) (.agg b) K = optK (eqG P 6 t (.agg a) (.agg b)) fun r => Req (eqOk P t = true) (K (.sc (.bool (!r)))) := bin_qn (by intros; simp_all) (by intros; simp_all)
theorem bin_pneql {h o : Nat} : binK P .eql t (.ptr h o) (.sc (.pointer none)) K = optK (ptrE (P.underlying t) false) fun r => Req (eqOk P t = true) (K (.sc (.bool r))) := by
  rw [bin_qe (by intros; simp_all) (by intros; simp_all), eqG_pn]
theorem bin_pnneq {h o : Nat} : binK P .neq t (.ptr h o) (.sc (.pointer none)) K = optK (ptrE (P.underlying t) false) fun r => Req (eqOk P t = true) (K (.sc (.bool (!r)))) := by
  rw [bin_qn (by intros; simp_all) (by intros; simp_all), eqG_pn]
theorem bin_nneql : binK P .eql t (.sc (.pointer none)) (.sc (.pointer none)) K = optK (ptrE (P.underlying t) true) fun r => Req (eqOk P t = true) (K (.sc (.bool r))) := by
  rw [bin_qe (by intros; simp_all) (by intros; simp_all), eqG_nn]
theorem bin_nnneq : binK P .neq t (.sc (.pointer none)) (.sc (.pointer none)) K = optK (ptrE (P.underlying t) true) fun r => Req (eqOk P t = true) (K (.sc (.bool (!r)))) := by
  rw [bin_qn (by intros; simp_all) (by intros; simp_all), eqG_nn]
theorem boolE_bool {a b : Bool} : boolE (some .bool) a b = some (a == b) := veil rfl
theorem ptrE_ptr {e : TypeId} {r : Bool} : ptrE (some (.pointer e)) r = some r := veil rfl
end eqs
/-! ### cells that are put into a written-out row -/
def putC (cells : List AV) (off : Nat) (vs : List AV) : List AV := putCells cells off vs
theorem putC_eq (cells : List AV) (off : Nat) (vs : List AV) : putC cells off vs = cells.take off ++ (vs ++ cells.drop (off + vs.length)) := putCells_eq cells off vs
theorem fillA_n (place : Nat → Option (Nat × Nat)) (cells : List AV) : fillA place cells [] = some cells := veil rfl
theorem fillA_c (place : Nat → Option (Nat × Nat)) (cells : List AV) (i : Nat) (v : AV) (rest : List (Nat × AV)) : fillA place cells ((i, v) :: rest) = (match place i with
    | none => none
    | some (off, size) => if v.cellsOf.length ≠ size ∨ off + size > cells.length ∨ v.fine = false then none else fillA place (putC cells off v.cellsOf) rest) := veil rfl
end Go.Abs
