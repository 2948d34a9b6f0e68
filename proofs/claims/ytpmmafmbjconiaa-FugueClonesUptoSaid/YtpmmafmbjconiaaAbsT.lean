/-
  An abstract logic over the model's walks, part T: where a run stands still: at calls and loops, what follows is kept shut.
  Conditions: none. Lemmas only.
-/
import Derived.Test.YtpmmafmbjconiaaAbsS
set_option linter.all false
namespace Go.Abs
open Go Go.RowKit
variable {P : Program} {c : Cfg} {Q : Exit → Sg → AH → Prop} {σ : Sg} {H : AH} {K : AV → Prop} {L : AV → AH → Prop}

universe u
/-- what simp is not to look into: an argument on which this one's type hangs -/
structure Tie {α : Sort u} (a : α) : Type where

def CallP (P : Program) (f : FuncId) (args : List AV) (K : AV → Prop) (_ : Tie K) : Prop := ∃ v, APure P f args v ∧ K v
def CallK (P : Program) (f : FuncId) (args : List AV) (H : AH) (L : AV → AH → Prop) (_ : Tie L) : Prop := ACalls P f args H L
def LoopT (c : Cfg) (a : Code) (Q : Exit → Sg → AH → Prop) (σ : Sg) (H : AH) (_ : Tie a) (_ : Tie Q) : Prop := LoopG c a Q σ H

theorem callPK_t (P : Program) (fx : AV) (args : List AV) (K : AV → Prop) : callPK P fx args K = optK (funcA fx) fun q => CallP P q.1 (q.2.1 ++ args ++ q.2.2) K ⟨⟩ := callPK_u P fx args K
def CallX (P : Program) (fx : AV) (args : List AV) (H : AH) (L : AV → AH → Prop) (_ : Tie L) : Prop := callK P fx args H L
theorem callK_x (P : Program) (fx : AV) (args : List AV) (H : AH) (K : AV → AH → Prop) : callK P fx args H K = CallX P fx args H K ⟨⟩ := veil rfl
theorem CallX_fn (P : Program) (f : FuncId) (fi ca args : List AV) (H : AH) (K : AV → AH → Prop) (t : Tie K) : CallX P (.fn (.func f) fi ca) args H K t = CallK P f (fi ++ args ++ ca) H K ⟨⟩ := callK_fn P f fi ca args H K
theorem CallX.v {fx : AV} {args : List AV} {R : AV → AH → Prop} {t : Tie L} (h : ACallV P fx args H R) (k : ∀ v H', R v H' → L v H') : CallX P fx args H L t := callK_of P fx args H L (h.mono k)
/-! ### a map that is gone through: the run stands -/
def RangeM (P : Program) (t : TypeId) (x : AV) (H : AH) (L : AV → AH → Prop) (_ : Tie L) : Prop := rangeK P t x H L
def NextT (s : Bool) (it : AV) (H : AH) (L : AV → AH → Prop) (_ : Tie L) : Prop := nextK s it H L
def EntryT (it : AV) (H : AH) (L : AV → AH → Prop) (_ : Tie L) : Prop := entryK it H L
theorem sK_range {t : TypeId} {x : Operand} {d : Option Tmp} {ty : TypeId} {ps : String} {af : Array Edge} {gd : Option (Nat × Bool)} {ρ : Operand → AV} {A : List Nat} {P : Program} {H : AH} {L : AV → AH → Prop} : stepK P A ⟨d, .range t x, ty, ps, af, gd⟩ ρ H L = RangeM P t (ρ x) H L ⟨⟩ := veil rfl
theorem sK_next {x : Operand} {s : Bool} {d : Option Tmp} {ty : TypeId} {ps : String} {af : Array Edge} {gd : Option (Nat × Bool)} {ρ : Operand → AV} {A : List Nat} {P : Program} {H : AH} {L : AV → AH → Prop} : stepK P A ⟨d, .next x s, ty, ps, af, gd⟩ ρ H L = NextT s (ρ x) H L ⟨⟩ := veil rfl
theorem sK_entry {x : Operand} {d : Option Tmp} {ty : TypeId} {ps : String} {af : Array Edge} {gd : Option (Nat × Bool)} {ρ : Operand → AV} {A : List Nat} {P : Program} {H : AH} {L : AV → AH → Prop} : stepK P A ⟨d, .entry x, ty, ps, af, gd⟩ ρ H L = EntryT (ρ x) H L ⟨⟩ := veil rfl
theorem range_m {P : Program} {t kt et : TypeId} {hm : Nat} {es : List (AV × AV)} {H : AH} {L : AV → AH → Prop} {q : Tie L} (hu : P.underlying t = some (.map kt et)) (hh : H hm = some (.map es))
    (k : ∀ hr, hr ≠ 0 → H hr = none → ∀ b ms clock, L (.itr hr hm b clock (es.map (·.1)) (es.map (·.2)) ms) ((H.set hm (.raw (.map ms clock))).set hr (.raw (itO b clock ms [])))) : RangeM P t (.mp hm) H L q := by
  unfold RangeM rangeK
  rw [hu]
  simp only [hh]
  exact k
theorem next_m {hr hm b clock : Nat} {ks vs : List AV} {ms : Array MapEntry} {js : List Nat} {H : AH} {L : AV → AH → Prop} {q : Tie L} (h1 : H hr = some (.raw (itO b clock ms js))) (h2 : H hm = some (.raw (.map ms clock))) (h3 : ∀ j ∈ js, j < ks.length)
    (stop : (∀ j, j < ks.length → j ∈ js) → L (.tup [.sc (.bool false)]) (H.set hm (.map (ks.zip vs))))
    (go : ∀ j (h : j < ks.length), j ∉ js → L (.tup [.sc (.bool true), ks[j], vs.getD j .any]) (H.set hr (.raw (itO b clock ms (js ++ [j]))))) : NextT false (.itr hr hm b clock ks vs ms) H L q :=
  ⟨rfl, js, h1, h2, h3, stop, go⟩
theorem entry_m {hr hm b clock j : Nat} {ks vs : List AV} {ms : Array MapEntry} {js : List Nat} {H : AH} {L : AV → AH → Prop} {q : Tie L} (hj : j < ks.length) (h1 : H hr = some (.raw (itO b clock ms (js ++ [j])))) (h2 : H hm = some (.raw (.map ms clock)))
    (k : L (.tup [ks[j], vs.getD j .any]) H) : EntryT (.itr hr hm b clock ks vs ms) H L q :=
  ⟨js, j, hj, h1, h2, k⟩
def CallQ (P : Program) (fx : AV) (args : List AV) (H : AH) (K : AV → Prop) (_ : Tie K) : Prop := callQK P fx args H K
def CallR (P : Program) (f : FuncId) (args : List AV) (H : AH) (K : AV → Prop) (_ : Tie K) : Prop := ∃ v, ACalls P f args H (fun v' H' => v' = v ∧ H' = H) ∧ K v
theorem callQK_t (P : Program) (fx : AV) (args : List AV) (H : AH) (K : AV → Prop) : callQK P fx args H K = CallQ P fx args H K ⟨⟩ := veil rfl
theorem CallQ_fn (P : Program) (f : FuncId) (fi ca args : List AV) (H : AH) (K : AV → Prop) (t : Tie K) : CallQ P (.fn (.func f) fi ca) args H K t = CallR P f (fi ++ args ++ ca) H K ⟨⟩ := veil rfl
theorem CallR.i {f : FuncId} {args : List AV} {v : AV} {t : Tie K} (h : ACalls P f args H fun v' H' => v' = v ∧ H' = H) (k : K v) : CallR P f args H K t := ⟨v, h, k⟩
theorem CallR.p {f : FuncId} {args : List AV} {v : AV} {t : Tie K} (h : APure P f args v) (k : K v) : CallR P f args H K t := ⟨v, h H, k⟩
def ScopeT (c : Cfg) (a : Code) (Q : Exit → Sg → AH → Prop) (σ : Sg) (H : AH) (_ : Tie a) (_ : Tie Q) : Prop := ScopeG c a Q σ H
theorem cwp_scope_t {a : Code} : cwp c (.scope a) Q σ H = ScopeT c a Q σ H ⟨⟩ ⟨⟩ := cwp_scope
def RangeT (c : Cfg) (g : Operand) (ps : Array Tmp) (as a : Code) (Q : Exit → Sg → AH → Prop) (σ : Sg) (H : AH) (_ : Tie as) (_ : Tie a) (_ : Tie Q) : Prop := RangeG c g ps as a Q σ H
theorem cwp_range_t {g : Operand} {ps : Array Tmp} {as a : Code} : cwp c (.rangeFunc g ps as a) Q σ H = RangeT c g ps as a Q σ H ⟨⟩ ⟨⟩ ⟨⟩ := cwp_range
theorem scope_t {a rest : Code} {t : Tie a} {t' : Tie Q} (hm : c.P.follows .mixedOrders = true) (l : Nat) (hok : okDraws c a = true) (hf : findLabel a l = some rest) (hok' : (okDraws c rest && (noRange rest || !noRange a)) = true) (I : Nat → Sg → AH → Prop)
    (first : cwp c a (AJump l (fun σ H => ∃ m, I m σ H) Q) σ H)
    (pass : ∀ m σ H, I m σ H → cwp c rest (AJump l (fun σ' H' => ∃ m', m' < m ∧ I m' σ' H') Q) σ H) : ScopeT c a Q σ H t t' := by
  simp only [Bool.and_eq_true, Bool.or_eq_true, Bool.not_eq_true'] at hok'
  exact fun Γ => awp_scope l I hf hok'.2 (cwp.sound hm a hok _ _ _ first Γ) fun m σ H hI => cwp.sound hm rest hok'.1 _ _ _ (pass m σ H hI) Γ
theorem cwp_loop_t {a : Code} : cwp c (.loop a) Q σ H = LoopT c a Q σ H ⟨⟩ ⟨⟩ := cwp_loop

theorem CallP.i {f : FuncId} {args : List AV} {v : AV} {t : Tie K} (h : APure P f args v) (k : K v) : CallP P f args K t := ⟨v, h, k⟩
theorem CallK.p {f : FuncId} {args : List AV} {v : AV} {t : Tie L} (h : APure P f args v) (k : L v H) : CallK P f args H L t := h.call k
theorem CallK.i {f : FuncId} {args : List AV} {R : AV → AH → Prop} {t : Tie L} (h : ACalls P f args H R) (k : ∀ v H', R v H' → L v H') : CallK P f args H L t := h.mono k

theorem loop_t {a : Code} {t : Tie a} {t' : Tie Q} (hm : c.P.follows .mixedOrders = true) (hok : okDraws c a = true) (I : Nat → Sg → AH → Prop) (m : Nat) (h0 : I m σ H)
    (round : ∀ m σ H, I m σ H → cwp c a (AThen (fun σ' H' => ∃ m', m' < m ∧ I m' σ' H') Q) σ H) : LoopT c a Q σ H t t' := loop_rule hm hok I m h0 round
theorem tok_t {a : Code} {t : Tie a} {t' : Tie Q} (x : Nat) (hs : σ x = .sc (.slice none 0 0))
    (h : ∀ k, k ≠ 0 → H k = none → LoopT c a Q (σ.put (some x) (.imm k [] 0)) (H.set k .nilt) ⟨⟩ ⟨⟩) : LoopT c a Q σ H t t' := tok_rule x hs h

/-! ### a region's end: boxes that nobody writes any more -/
def KeepT (l : List Nat) (acc : Sg) (K : Sg → AH → Prop) (σ : Sg) (H : AH) (_ : Tie K) : Prop := KeepK l acc K σ H
def KeepQ (l : List Nat) (K : Sg → AH → Prop) (σ : Sg) (H : AH) (_ : Tie K) : Prop := KeepO l K σ H
def evK (v : AV) (F : AV → Prop) (_ : Tie F) : Prop := F v
theorem evK_done {v : AV} {F : AV → Prop} {t : Tie F} : evK v F t = F v := veil rfl
theorem KeepT_nil {acc : Sg} {K : Sg → AH → Prop} {t : Tie K} : KeepT [] acc K σ H t = K acc H := veil rfl
theorem KeepT_cons {x : Nat} {xs : List Nat} {acc : Sg} {K : Sg → AH → Prop} {t : Tie K} : KeepT (x :: xs) acc K σ H t = evK (σ x) (fun v => KeepT xs (acc.put (some x) v) K σ H ⟨⟩) ⟨⟩ := veil rfl
theorem KeepQ_nil {K : Sg → AH → Prop} {t : Tie K} : KeepQ [] K σ H t = K σ H := veil rfl
theorem KeepQ_cons {x : Nat} {xs : List Nat} {K : Sg → AH → Prop} {t : Tie K} : KeepQ (x :: xs) K σ H t = KeepT (x :: xs) anyS K σ H ⟨⟩ := veil rfl
theorem anyS_at {t : Nat} : anyS t = .any := veil rfl
def FzT (xs : List Nat) (K : Sg → AH → Prop) (σ : Sg) (H : AH) (_ : Tie K) : Prop := FzK xs K σ H
theorem cwp_region_t {id : Nat} {l : List Oper} : cwp c (.region id l.toArray false) Q σ H = Run c l.toArray l (fun σ H => FzT (kindsOf c.T (id + 1000000)) (fun σ H => KeepQ (kindsOf c.T (id + 4000000)) (Q .normal) σ H ⟨⟩) σ H ⟨⟩) σ H := cwp_region
theorem cwp_draw_t {id : Nat} {l : List Oper} : cwp c (.region id l.toArray true) Q σ H = DrawK c (treeOf c.S id) id l (fun σ H => FzT (kindsOf c.T (id + 1000000)) (fun σ H => KeepQ (kindsOf c.T (id + 4000000)) (Q .normal) σ H ⟨⟩) σ H ⟨⟩) σ H := cwp_tree
/-- a region with a tree of orders: what holds behind it is to be said -/
def DrawT (c : Cfg) (l : List Oper) (t : STree) (K : Sg → AH → Prop) (σ : Sg) (H : AH) (_ : Tie K) (_ : Tie l) : Prop := RunJ c l t K σ H
theorem DrawK_op {K : Sg → AH → Prop} {id i k : Nat} {t : STree} {l : List Oper} : DrawK c (.op i k t) id l K σ H = DrawT c l (.op i k t) K σ H ⟨⟩ ⟨⟩ := veil rfl
theorem DrawK_or {K : Sg → AH → Prop} {id : Nat} {a b : STree} {l : List Oper} : DrawK c (.or a b) id l K σ H = DrawT c l (.or a b) K σ H ⟨⟩ ⟨⟩ := veil rfl
theorem draw_t {l : List Oper} {t : STree} {K : Sg → AH → Prop} {k : Tie K} {k' : Tie l} (I : Sg → AH → Prop) (h : RunT c l t I σ H) (g : ∀ σ' H', I σ' H' → K σ' H') : DrawT c l t K σ H k k' := ⟨I, h, g⟩
theorem FzT_nil {K : Sg → AH → Prop} {t : Tie K} : FzT [] K σ H t = K σ H := veil rfl
def ptrO (v : AV) : Option Nat := match v with | .ptr k 0 => some k | _ => none
theorem ptrO_ptr {k : Nat} : ptrO (.ptr k 0) = some k := veil rfl
theorem FzT_cons {x : Nat} {xs : List Nat} {K : Sg → AH → Prop} {t : Tie K} : FzT (x :: xs) K σ H t = optK (ptrO (σ x)) fun k => optK (liveO (H k)) fun q => FzT xs K (σ.put (some x) (.ip q.1 0)) (H.kill k) ⟨⟩ := veil (by
  unfold FzT
  simp only [FzK, ptrO]
  split
  · rename_i k hx
    rw [hx]
    simp only [optK, liveO]
    generalize H k = o
    cases o with
    | none => rfl
    | some o => cases o <;> rfl
  · rename_i hn
    simp only [optK])

/-! ### where something is not known yet the run stands still -/
def optT {α : Type} (o : Option α) (K : α → Prop) (_ : Tie K) : Prop := optK o K
theorem optK_t {α : Type} (o : Option α) (K : α → Prop) : optK o K = optT o K ⟨⟩ := veil rfl
theorem optT_some {α : Type} (v : α) (K : α → Prop) (t : Tie K) : optT (some v) K t = K v := veil rfl
def ReqT (p q : Prop) (_ : Tie q) : Prop := p ∧ q
theorem Req_t (p q : Prop) : Req p q = ReqT p q ⟨⟩ := veil rfl
theorem ReqT_true {q : Prop} {t : Tie q} : ReqT True q t = q := by simp [ReqT]
theorem ReqT_of {p q : Prop} {t : Tie q} (h : p) : ReqT p q t = q := by simp [ReqT, h]
theorem ReqT.i {p q : Prop} {t : Tie q} (h : p) (g : q) : ReqT p q t := ⟨h, g⟩
def guardT (a : AV) (w : Bool) (X Y : Prop) (_ : Tie X) (_ : Tie Y) : Prop := guardW a w X Y
theorem guardAt_t (t : Tmp) (op : Op) (ty : TypeId) (ps : String) (af : Array Edge) (g : Option (Nat × Bool)) (l : List Oper) (σ : Sg) (w : Bool) (X Y : Prop) :
    guardAt (⟨some t, op, ty, ps, af, g⟩ :: l) 0 σ w X Y = guardT (σ t) w X Y ⟨⟩ ⟨⟩ := veil rfl
theorem guardT_true (X Y : Prop) (t : Tie X) (t' : Tie Y) : guardT (.sc (.bool true)) true X Y t t' = X := guardV_true X Y
theorem guardT_false (X Y : Prop) (t : Tie X) (t' : Tie Y) : guardT (.sc (.bool false)) true X Y t t' = Y := guardV_false X Y
theorem guardT_true' (X Y : Prop) (t : Tie X) (t' : Tie Y) : guardT (.sc (.bool true)) false X Y t t' = Y := guardV_true' X Y
theorem guardT_false' (X Y : Prop) (t : Tie X) (t' : Tie Y) : guardT (.sc (.bool false)) false X Y t t' = X := guardV_false' X Y
theorem guardT_skip (w : Bool) (X Y : Prop) (t : Tie X) (t' : Tie Y) : guardT (.tup []) w X Y t t' = Y := guardV_skip w X Y
def condT (a : AV) (X Y : Prop) (_ : Tie X) (_ : Tie Y) : Prop := condK a X Y
theorem cwp_cond_t {x : Operand} {a b : Code} : cwp c (.cond x a b) Q σ H = condT (σ.ev x) (cwp c a Q σ H) (cwp c b Q σ H) ⟨⟩ ⟨⟩ := cwp_cond
theorem condT_true {X Y : Prop} {t : Tie X} {t' : Tie Y} : condT (.sc (.bool true)) X Y t t' = X := condK_true
theorem condT_false {X Y : Prop} {t : Tie X} {t' : Tie Y} : condT (.sc (.bool false)) X Y t t' = Y := condK_false
/-- both ways -/
theorem condT.both {b : Bool} {X Y : Prop} {t : Tie X} {t' : Tie Y} (h : b = true → X) (g : b = false → Y) : condT (.sc (.bool b)) X Y t t' := ⟨h, g⟩
theorem guardT.both {b : Bool} {X Y : Prop} {t : Tie X} {t' : Tie Y} (h : b = true → guardT (.sc (.bool b)) true X Y t t') (g : b = false → guardT (.sc (.bool b)) true X Y t t') : guardT (.sc (.bool b)) true X Y t t' := by
  cases b
  · exact g rfl
  · exact h rfl
def pickT (a : AV) (X Y : Prop) (_ : Tie X) (_ : Tie Y) : Prop := pickK a X Y
variable {ρ : Operand → AV} {A : List Nat} {d : Option Tmp} {ty : TypeId} {ps : String} {af : Array Edge} {gd : Option (Nat × Bool)}
theorem sP_pick_t {a b e : Operand} : stepP P ⟨d, .pick a b e, ty, ps, af, gd⟩ ρ K = pickT (ρ a) (K (ρ b)) (K (ρ e)) ⟨⟩ ⟨⟩ := sP_pick
theorem sK_pick_t {a b e : Operand} : stepK P A ⟨d, .pick a b e, ty, ps, af, gd⟩ ρ H L = pickT (ρ a) (L (ρ b) H) (L (ρ e) H) ⟨⟩ ⟨⟩ := sK_pick
theorem pickT_true {X Y : Prop} {t : Tie X} {t' : Tie Y} : pickT (.sc (.bool true)) X Y t t' = X := veil rfl
theorem pickT_false {X Y : Prop} {t : Tie X} {t' : Tie Y} : pickT (.sc (.bool false)) X Y t t' = Y := veil rfl

/-! ### strings of bytes, more numbers -/
abbrev strV (l : List UInt8) : AV := .sc (.string ⟨l.toArray⟩)
theorem size_mk (l : List UInt8) : ByteArray.size ⟨l.toArray⟩ = l.length := by simp [ByteArray.size]
theorem data_mk (l : List UInt8) : (ByteArray.mk l.toArray).data.toList = l := rfl
theorem n8mul16 (a : UInt8) : IntKind.u8.wrap ((a.toNat : Int) * 16) = ((a * 16).toNat : Int) := n8wmul a 16
theorem tmodN (a n : Nat) : ((a : Int)).tmod (no_index (OfNat.ofNat n)) = ((a % OfNat.ofNat n : Nat) : Int) := rfl
theorem tdivN (a n : Nat) : ((a : Int)).tdiv (no_index (OfNat.ofNat n)) = ((a / OfNat.ofNat n : Nat) : Int) := rfl
/-! sums that stay in range, as casts -/
theorem wadd64 {a b : Nat} (h : a + b < 9223372036854775808) : IntKind.i64.wrap ((a : Int) + (b : Int)) = ((a + b : Nat) : Int) := by rw [wrapI (by omega)]; simp
theorem wadd64n {a n : Nat} (h : a + OfNat.ofNat n < 9223372036854775808) : IntKind.i64.wrap ((a : Int) + no_index (OfNat.ofNat n)) = ((a + OfNat.ofNat n : Nat) : Int) := wadd64 h
theorem wmul64 {a b : Nat} (h : a * b < 9223372036854775808) : IntKind.i64.wrap ((a : Int) * (b : Int)) = ((a * b : Nat) : Int) := by
  rw [← Int.natCast_mul, wrapI (by omega)]
theorem wmul64n {a n : Nat} (h : OfNat.ofNat n * a < 9223372036854775808) : IntKind.i64.wrap (no_index (OfNat.ofNat n) * (a : Int)) = ((OfNat.ofNat n * a : Nat) : Int) := wmul64 h
theorem wmul64m {a n : Nat} (h : a * OfNat.ofNat n < 9223372036854775808) : IntKind.i64.wrap ((a : Int) * no_index (OfNat.ofNat n)) = ((a * OfNat.ofNat n : Nat) : Int) := wmul64 h
theorem wsub64 {a b : Nat} (h : b ≤ a) (g : a < 9223372036854775808) : IntKind.i64.wrap ((a : Int) - (b : Int)) = ((a - b : Nat) : Int) := by rw [wrapI (by omega)]; omega
theorem wsub64n {a n : Nat} (h : OfNat.ofNat n ≤ a) (g : a < 9223372036854775808) : IntKind.i64.wrap ((a : Int) - no_index (OfNat.ofNat n)) = ((a - OfNat.ofNat n : Nat) : Int) := wsub64 h g
theorem wcast64 {a : Nat} (h : a < 9223372036854775808) : IntKind.i64.wrap (a : Int) = (a : Int) := wrapI (by omega)
theorem wcastU {a : Nat} (h : a < 18446744073709551616) : IntKind.u64.wrap (a : Int) = (a : Int) := by rw [IntKind.wrap_u64]; omega
theorem uadd64 {a b : Nat} (h : a + b < 18446744073709551616) : IntKind.u64.wrap ((a : Int) + (b : Int)) = ((a + b : Nat) : Int) := by rw [← Int.natCast_add, wcastU h]
theorem umul64n {a n : Nat} (h : a * OfNat.ofNat n < 18446744073709551616) : IntKind.u64.wrap ((a : Int) * no_index (OfNat.ofNat n)) = ((a * OfNat.ofNat n : Nat) : Int) := by
  have : ((a : Int) * OfNat.ofNat n) = ((a * OfNat.ofNat n : Nat) : Int) := by rw [Int.natCast_mul]; rfl
  rw [this, wcastU h]
theorem fdivN (a n : Nat) : ((a : Int)).fdiv (no_index (OfNat.ofNat n)) = ((a / OfNat.ofNat n : Nat) : Int) := by
  show ((a : Int)).fdiv ((n : Nat) : Int) = _
  rw [Int.fdiv_eq_ediv_of_nonneg _ (Int.natCast_nonneg n)]; rfl
theorem wcast8 {a : Nat} : IntKind.u8.wrap (a : Int) = ((UInt8.ofNat a).toNat : Int) := by
  rw [IntKind.wrap_u8, UInt8.toNat_ofNat']; omega
theorem bits_orU {a b : Nat} (ha : a < 2 ^ 64) (hb : b < 2 ^ 64) : bits .or .u64 (a : Int) (b : Int) = ((a ||| b : Nat) : Int) := by
  show IntKind.u64.wrap ((BitVec.ofInt 64 (a : Int) ||| BitVec.ofInt 64 (b : Int)).toNat : Int) = _
  rw [BitVec.ofInt_natCast, BitVec.ofInt_natCast]
  simp only [BitVec.toNat_or, BitVec.toNat_ofNat, Nat.mod_eq_of_lt ha, Nat.mod_eq_of_lt hb]
  exact wcastU (Nat.or_lt_two_pow ha hb)
/-! ### equality of what is no number and no string -/
def boolE (u : Option TypeDesc) (a b : Bool) : Option Bool := match u with | some .bool => some (a == b) | _ => none
def ptrE (u : Option TypeDesc) (r : Bool) : Option Bool := match u with | some (.pointer _) => some r | _ => none
def mapE (u : Option TypeDesc) (r : Bool) : Option Bool := match u with | some (.map _ _) => some r | _ => none
def fnE (u : Option TypeDesc) (r : Bool) : Option Bool := match u with | some (.func _ _ _) => some r | _ => none
section eqs
variable {t : TypeId}
theorem eqG_bool (a b : Bool) : eqG P 6 t (.sc (.bool a)) (.sc (.bool b)) = boolE (P.underlying t) a b := by
  unfold eqG
  generalize hu : P.underlying t = u
  cases u with
  | none => simp [eqA, hu, boolE]
  | some u => cases u <;> simp [eqA, hu, boolE]
theorem eqG_nn : eqG P 6 t (.sc (.pointer none)) (.sc (.pointer none)) = ptrE (P.underlying t) true := by
  unfold eqG
  generalize hu : P.underlying t = u
  cases u with
  | none => simp [eqA, hu, ptrE]
  | some u => cases u <;> simp [eqA, hu, ptrE]
theorem eqG_np (h o : Nat) : eqG P 6 t (.sc (.pointer none)) (.ptr h o) = ptrE (P.underlying t) false := by
  unfold eqG
  generalize hu : P.underlying t = u
  cases u with
  | none => simp [eqA, hu, ptrE]
  | some u => cases u <;> simp [eqA, hu, ptrE]
theorem eqG_pn (h o : Nat) : eqG P 6 t (.ptr h o) (.sc (.pointer none)) = ptrE (P.underlying t) false := by
  unfold eqG
  generalize hu : P.underlying t = u
  cases u with
  | none => simp [eqA, hu, ptrE]
  | some u => cases u <;> simp [eqA, hu, ptrE]
theorem bin_q {op : BinOp} {x y : AV} (h : ∀ k a k' b, x = .sc (.int k a) → y = .sc (.int k' b) → False) (g : ∀ a b, x = .sc (.string a) → y = .sc (.string b) → False) :
    binK P op t x y K = (match op, eqG P 6 t x y with
    | .eql, some r => Req (eqOk P t = true) (K (.sc (.bool r)))
    | .neq, some r => Req (eqOk P t = true) (K (.sc (.bool (!r))))
    | _, _ => False) := by
  unfold binK
  split
  · exact (h _ _ _ _ rfl rfl).elim
  · exact (g _ _ rfl rfl).elim
  · rfl
theorem bin_qe {x y : AV} (h : ∀ k a k' b, x = .sc (.int k a) → y = .sc (.int k' b) → False) (g : ∀ a b, x = .sc (.string a) → y = .sc (.string b) → False) :
    binK P .eql t x y K = optK (eqG P 6 t x y) fun r => Req (eqOk P t = true) (K (.sc (.bool r))) := by
  rw [bin_q h g]; generalize eqG P 6 t x y = o; cases o <;> rfl
theorem bin_qn {x y : AV} (h : ∀ k a k' b, x = .sc (.int k a) → y = .sc (.int k' b) → False) (g : ∀ a b, x = .sc (.string a) → y = .sc (.string b) → False) :
    binK P .neq t x y K = optK (eqG P 6 t x y) fun r => Req (eqOk P t = true) (K (.sc (.bool (!r)))) := by
  rw [bin_q h g]; generalize eqG P 6 t x y = o; cases o <;> rfl
theorem bin_beql {a b : Bool} : binK P .eql t (.sc (.bool a)) (.sc (.bool b)) K = optK (boolE (P.underlying t) a b) fun r => Req (eqOk P t = true) (K (.sc (.bool r))) := by
  rw [bin_qe (by intros; simp_all) (by intros; simp_all), eqG_bool]
theorem bin_bneq {a b : Bool} : binK P .neq t (.sc (.bool a)) (.sc (.bool b)) K = optK (boolE (P.underlying t) a b) fun r => Req (eqOk P t = true) (K (.sc (.bool (!r)))) := by
  rw [bin_qn (by intros; simp_all) (by intros; simp_all), eqG_bool]
theorem bin_ageql {a b : List AV} : binK P .eql t (.agg a) (.agg b) K = optK (eqG P 6 t (.agg a) (.agg b)) fun r => Req (eqOk P t = true) (K (.sc (.bool r))) := bin_qe (by intros; simp_all) (by intros; simp_all)
theorem bin_agneq {a b : List AV} : binK P .neq t (.agg a) (.agg b) K = optK (eqG P 6 t (.agg a) (.agg b)) fun r => Req (eqOk P t = true) (K (.sc (.bool (!r)))) := bin_qn (by intros; simp_all) (by intros; simp_all)
theorem bin_pneql {h o : Nat} : binK P .eql t (.ptr h o) (.sc (.pointer none)) K = optK (ptrE (P.underlying t) false) fun r => Req (eqOk P t = true) (K (.sc (.bool r))) := by
  rw [bin_qe (by intros; simp_all) (by intros; simp_all), eqG_pn]
theorem bin_pnneq {h o : Nat} : binK P .neq t (.ptr h o) (.sc (.pointer none)) K = optK (ptrE (P.underlying t) false) fun r => Req (eqOk P t = true) (K (.sc (.bool (!r)))) := by
  rw [bin_qn (by intros; simp_all) (by intros; simp_all), eqG_pn]
theorem bin_nneql : binK P .eql t (.sc (.pointer none)) (.sc (.pointer none)) K = optK (ptrE (P.underlying t) true) fun r => Req (eqOk P t = true) (K (.sc (.bool r))) := by
  rw [bin_qe (by intros; simp_all) (by intros; simp_all), eqG_nn]
theorem bin_nnneq : binK P .neq t (.sc (.pointer none)) (.sc (.pointer none)) K = optK (ptrE (P.underlying t) true) fun r => Req (eqOk P t = true) (K (.sc (.bool (!r)))) := by
  rw [bin_qn (by intros; simp_all) (by intros; simp_all), eqG_nn]
theorem boolE_bool {a b : Bool} : boolE (some .bool) a b = some (a == b) := veil rfl
theorem ptrE_ptr {e : TypeId} {r : Bool} : ptrE (some (.pointer e)) r = some r := veil rfl
end eqs
/-! ### cells that are put into a written-out row -/
def putC (cells : List AV) (off : Nat) (vs : List AV) : List AV := putCells cells off vs
theorem putC_eq (cells : List AV) (off : Nat) (vs : List AV) : putC cells off vs = cells.take off ++ (vs ++ cells.drop (off + vs.length)) := putCells_eq cells off vs
theorem fillA_n (place : Nat → Option (Nat × Nat)) (cells : List AV) : fillA place cells [] = some cells := veil rfl
theorem fillA_c (place : Nat → Option (Nat × Nat)) (cells : List AV) (i : Nat) (v : AV) (rest : List (Nat × AV)) : fillA place cells ((i, v) :: rest) = (match place i with
    | none => none
    | some (off, size) => if v.cellsOf.length ≠ size ∨ off + size > cells.length ∨ v.fine = false then none else fillA place (putC cells off v.cellsOf) rest) := veil rfl
/-! ### rows of the call's own that grow -/
def ownAA (A : List Nat) : Option Tmp → Bool
  | some x => A.contains (x + 1000000)
  | none => false
theorem ownAt_some {A : List Nat} {x : Nat} : ownAt A (some x) = A.contains (x + 1000000) := veil rfl
theorem ownAt_none {A : List Nat} : ownAt A none = false := veil rfl
theorem app3_int {t t' : TypeId} {k : IntKind} {s x : AV} : app3K P (some (.int k)) s x t t' H L = optK (strTy P) fun st => optK (zerS P (P.underlying t) (some (.int k)) s x) fun q => Req q.1 (appendK P t st s (.sc (.string ⟨(List.replicate q.2 0).toArray⟩)) H L) := veil (by
  unfold app3K
  simp only []
  generalize strTy P = o
  generalize zerS P _ _ _ _ = o'
  cases o <;> cases o' <;> rfl)
theorem zerS_eq {e : TypeId} {k kk : IntKind} {s : AV} {m : Int} : zerS P (some (.slice e)) (some (.int k)) s (.sc (.int kk m)) = (lenS s).map fun n => (0 ≤ m ∧ m < 9223372036854775808 ∧ (hasT P e = true ∧ zeOf P e = .int .u8 0) ∧ n + m.toNat ≤ maxLen ∧ (n + m.toNat) * byOf P e ≤ 140737488355328, m.toNat) := veil (by
  unfold zerS
  generalize lenS s = o
  cases o <;> rfl)
theorem lenS_own {h o n : Nat} : lenS (.own h o n) = some n := veil rfl
theorem lenS_imm {k n : Nat} {cs : List AV} : lenS (.imm k cs n) = some n := veil rfl
theorem lenS_nil : lenS (.sc (.slice none 0 0)) = some 0 := veil rfl
theorem own2_eq {t t' : TypeId} {s x : AV} : own2K P [s, x] [t, t'] H L = own3K P (P.underlying t') s x t t' H L := veil rfl
theorem own3_slice {t t' e : TypeId} {s x : AV} : own3K P (some (.slice e)) s x t t' H L = ownK P t t' s x H L := veil rfl
theorem own3_str {t t' : TypeId} {s x : AV} : own3K P (some .string) s x t t' H L = ownK P t t' s x H L := veil rfl
theorem own3_int {t t' : TypeId} {k : IntKind} {s x : AV} : own3K P (some (.int k)) s x t t' H L = optK (strTy P) fun st => optK (zerS P (P.underlying t) (some (.int k)) s x) fun q => Req q.1 (ownK P t st s (.sc (.string ⟨(List.replicate q.2 0).toArray⟩)) H L) := veil (by
  unfold own3K
  simp only []
  generalize strTy P = o
  generalize zerS P _ _ _ _ = o'
  cases o <;> cases o' <;> rfl)
/-- what such an append answers: conditions, sizes, cells, the new length, type -/
def ownA (P : Program) (H : AH) (u : Option TypeDesc) (src : Option (List AV × Nat)) (s : AV) : Option (Prop × Prop × Prop × TypeId × Option Nat × List AV × Nat × Nat) := match u, src, s with
  | some (.slice e), some (news, m), .own k 0 n => (match H k with
    | some (.cells cs e' s') => some (news.length = m * szOf P e ∧ 0 < szOf P e ∧ hasT P e = true, e' = e ∧ s' = szOf P e ∧ n * s' ≤ cs.length, n + m ≤ maxLen ∧ (n + m) * byOf P e ≤ 140737488355328, e, some k, cs.take (n * s') ++ news, n + m, s')
    | _ => none)
  | some (.slice e), some (news, m), .sc (.slice none 0 0) => some (news.length = m * szOf P e ∧ 0 < szOf P e ∧ hasT P e = true, True, m ≤ maxLen ∧ m * byOf P e ≤ 140737488355328, e, none, news, m, szOf P e)
  | _, _, _ => none
def ownJ (H : AH) (k : Option Nat) (cs : List AV) (e s m : Nat) (K : AV → AH → Prop) : Prop := match k with
  | some k => ∀ k', (k' = k ∨ k' ≠ 0 ∧ H k' = none) → K (.own k' 0 m) ((H.kill k).set k' (.cells cs e s))
  | none => (m = 0 → K (.sc (.slice none 0 0)) H) ∧ (0 < m → ∀ k', k' ≠ 0 → H k' = none → K (.own k' 0 m) (H.set k' (.cells cs e s)))
theorem ownK_u (P : Program) (t t' : TypeId) (s x : AV) (H : AH) (K : AV → AH → Prop) : ownK P t t' s x H K = optK (ownA P H (P.underlying t) (srcA P H t' x) s) fun q => Req q.1 (Req q.2.1 (Req q.2.2.1 (ownJ H q.2.2.2.2.1 q.2.2.2.2.2.1 q.2.2.2.1 q.2.2.2.2.2.2.2 q.2.2.2.2.2.2.1 K))) := veil (by
  unfold ownK ownA
  generalize P.underlying t = u
  generalize srcA P H t' x = sr
  split
  · rename_i e news m
    split
    · rename_i k n
      generalize hk : H k = o
      cases o with
      | none => simp [Req, optK, hk]
      | some o => cases o <;> first | (simp [Req, optK, ownJ, hk]; done) | (simp only [optK, ownJ]; apply propext; constructor <;> (rintro ⟨h1, ⟨rfl, h3⟩, h4⟩; exact ⟨h1, ⟨rfl, h3⟩, h4⟩))
    · simp [optK, Req, ownJ]
    · rename_i h1 h2
      split
      · exact absurd rfl (h1 _ _)
      · exact absurd rfl h2
      · simp [Req, optK]
  · rename_i hn
    split
    · exact absurd rfl (hn _ _ _ rfl)
    · exact absurd rfl (hn _ _ _ rfl)
    · rfl)
theorem ownJ_some {k : Nat} {cs : List AV} {e s m : Nat} : ownJ H (some k) cs e s m L = (∀ k', (k' = k ∨ k' ≠ 0 ∧ H k' = none) → L (.own k' 0 m) ((H.kill k).set k' (.cells cs e s))) := veil rfl
theorem ownJ_none {cs : List AV} {e s m : Nat} : ownJ H none cs e s m L = ((m = 0 → L (.sc (.slice none 0 0)) H) ∧ (0 < m → ∀ k', k' ≠ 0 → H k' = none → L (.own k' 0 m) (H.set k' (.cells cs e s)))) := veil rfl
theorem rowK_u (P : Program) (t : TypeId) (n : Nat) (parts : List (Nat × AV)) (H : AH) (K : AV → AH → Prop) : rowK P t n parts H K = optK (rowA P (P.underlying t) n parts) fun q => Req q.1 (optK q.2.2 fun cs => ∀ k, k ≠ 0 → H k = none → K (.own k 0 n) (H.set k (.cells cs q.2.1 (szOf P q.2.1)))) := veil (by
  unfold rowK rowA
  generalize P.underlying t = u
  split <;> simp only [optK] <;> congr 1 <;> (generalize fillA _ _ _ = o; cases o <;> rfl))
/-- the handle of a row that has grown -/
theorem own_next {H : AH} {k k' : Nat} {o : AObj} (hk0 : k ≠ 0) (hk : H k = none) (h : k' = k ∨ k' ≠ 0 ∧ (H.set k o) k' = none) : k' ≠ 0 ∧ H k' = none := by
  rcases h with rfl | ⟨h1, h2⟩
  · exact ⟨hk0, hk⟩
  · exact ⟨h1, subset_set h2⟩

/-! ### a row of the call's own, lent to a call that only reads -/
theorem VRs.get {C : Ctx} {l : List AV} {vs : List Value} (h : VRs C l vs) {j : Nat} (hj : j < l.length) : VR C l[j] (vs.getD j undef) := h.2 j hj
/-- may this argument be lent so? -/
def Lend (H : AH) (a b : AV) : Prop := b = a ∨ ∃ k off n cs e s, a = .own k off n ∧ H k = some (.cells cs e s) ∧ off + n * s ≤ cs.length ∧ b = .imm 0 ((cs.drop off).take (n * s)) n
theorem Lend.same {H : AH} {a : AV} : Lend H a a := .inl rfl
theorem Lend.row {H : AH} {k n : Nat} {cs : List AV} {e s : Nat} (h : H k = some (.cells cs e s)) (hn : n * s ≤ cs.length) : Lend H (.own k 0 n) (.imm 0 (cs.take (n * s)) n) :=
  .inr ⟨k, 0, n, cs, e, s, rfl, h, by omega, by rw [List.drop_zero]⟩
def Lends (H : AH) : List AV → List AV → Prop
  | [], [] => True
  | a :: l, b :: r => Lend H a b ∧ Lends H l r
  | _, _ => False
theorem Lends.get {H : AH} : ∀ {l r : List AV}, Lends H l r → r.length = l.length ∧ ∀ j (h : j < l.length) (h' : j < r.length), Lend H l[j] r[j]
  | [], [], _ => ⟨rfl, fun j h => absurd h (by simp)⟩
  | a :: l, b :: r, h => by
    obtain ⟨h1, h2⟩ := Lends.get h.2
    refine ⟨by simp [h1], fun j hj hj' => ?_⟩
    cases j with
    | zero => exact h.1
    | succ j => exact h2 j (by simpa using hj) (by simpa using hj')
  | [], _ :: _, h => h.elim
  | _ :: _, [], h => h.elim
theorem lend {P : Program} {f : FuncId} {args args' : List AV} {H : AH} {v : Value} (hL : Lends H args args') (h : APure P f args' (.sc v)) : ACalls P f args H fun v' H' => v' = .sc v ∧ H' = H := by
  obtain ⟨hl, ha⟩ := hL.get
  intro n i c w vs g hx
  have hs : Sub (fun _ => none) H := fun x o hx => (nomatch hx)
  have gk := g.weaken (fun _ => none) hs
  have hx' : VRs ⟨fun _ => none, n, i, c, w⟩ args' vs := by
    refine ⟨by rw [hl]; exact hx.1, fun j hj => ?_⟩
    have hj' : j < args.length := by omega
    have hv := hx.2 j hj'
    rcases ha j hj' hj with he | ⟨k, off, m, cs, e, s, e1, e2, e3, e4⟩
    · rw [he]
      exact hv.ext (Ext.weaken (C := ⟨H, n, i, c, w⟩) (fun _ => none) hs)
    · have := frz_sound (H0 := fun _ => none) g hs hv (fun hh off' m' cs' e' s' ha' hH' => by
        rw [e1] at ha'
        cases ha'
        rw [show (⟨H, n, i, c, w⟩ : Ctx).H = H from rfl, e2] at hH'
        cases hH'
        exact e3)
      rw [e1] at this
      have e5 : frz H (fun _ => none) (.own k off m) = .imm 0 ((cs.drop off).take (m * s)) m := by
        simp [frz, e2]
      rw [e5] at this
      rw [e4]
      exact this
  refine (h (fun _ => none) n i c w vs gk hx').mono ?_
  rintro u w' ⟨v', H', n', i', c', ⟨rfl, rfl⟩, g', ex, hv⟩
  cases hv
  have hn : ∀ x o, H x = some o → x < n := fun x o hx => g.lt x o hx
  have hi : ∀ x, x < n → i' x = i x ∧ c' x = c x := ex.h
  have hsz : w.heap.size ≤ w'.heap.size := ex.size
  have hblk : ∀ b, b < w.heap.size → w'.heap[b]? = w.heap[b]? := fun b hb => (ex.blk b hb (by rintro ⟨x, o, hx, -⟩; cases hx)).1
  have hext : Ext ⟨H, n, i, c, w⟩ ⟨H, n', i', c', w'⟩ := by
    refine ⟨ex.n, ex.h, fun a u ⟨h1, h2, h3⟩ => ⟨?_, ?_, h3⟩, ex.size, fun b hb ho => ⟨hblk b hb, ?_⟩, ex.os, ex.tape, ex.output⟩
    · rw [← h1]
      exact World.cell?_of_block (w := w) (hblk a.block (cell_lt h1))
    · rintro ⟨x, hx⟩
      apply h2
      refine ⟨x, ?_⟩
      cases hH : H x with
      | none => simp [hH] at hx
      | some o =>
        have e1 := (hi x (hn x o hH)).1
        cases o <;> simp [hH, e1] at hx ⊢ <;> exact hx
    · rintro ⟨x, o, hx, hr, he⟩
      apply ho
      refine ⟨x, o, hx, hr, ?_⟩
      have e1 := (hi x (hn x o hx)).1
      show i x = b
      rw [← e1]
      exact he
  refine ⟨.sc v, H, n', i', c', ⟨rfl, rfl⟩, ⟨Nat.lt_of_lt_of_le g.pos ex.n, g.zero, fun x o hx => Nat.lt_of_lt_of_le (hn x o hx) ex.n, ?_, ?_, ?_⟩, hext, .sc v⟩
  · intro x o hx hr
    have e1 := (hi x (hn x o hx)).1
    show i' x < _
    rw [e1]
    exact Nat.lt_of_lt_of_le (g.blk x o hx hr) hsz
  · intro x y o o' hx hy hr hr' he
    have he' : i' x = i' y := he
    rw [(hi x (hn x o hx)).1, (hi y (hn y o' hy)).1] at he'
    exact g.inj x y o o' hx hy hr hr' he'
  · intro x o hx
    exact ObjR.ext hext (hn x o hx) (fun hr => hblk _ (g.blk x o hx hr)) (g.obj x o hx)
theorem CallK.lend {f : FuncId} {args args' : List AV} {v : Value} {t : Tie L} (h : APure P f args' (.sc v)) (hL : Lends H args args') (k : L (.sc v) H) : CallK P f args H L t :=
  (Go.Abs.lend hL h).mono fun v' H' ⟨e1, e2⟩ => by subst e1 e2; exact k
/-! ### maps -/
theorem len2_eq {t : TypeId} {x : AV} : len2E P [x] [t] H K = lenE P t x H K := veil rfl
def mapO (o : Option AObj) : Option (List (AV × AV)) := match o with | some (.map es) => some es | _ => none
theorem mapO_some (es : List (AV × AV)) : mapO (some (.map es)) = some es := veil rfl
def lenM (H : AH) (u : Option TypeDesc) (x : AV) : Option AV := match u, x with
  | some (.map _ _), .mp h => (mapO (H h)).map fun es => .sc (.int .i64 es.length)
  | some (.map _ _), .sc (.map none) => some (.sc (.int .i64 0))
  | u, x => lenA u x
theorem lenE_u (P : Program) (t : TypeId) (x : AV) (H : AH) (K : AV → Prop) : lenE P t x H K = optK (lenM H (P.underlying t) x) K := veil (by
  unfold lenE lenM
  split
  · rename_i kt et h hu
    rw [hu]
    simp only [mapO]
    generalize H h = o
    cases o with
    | none => rfl
    | some o => cases o <;> rfl
  · rename_i kt et hu
    rw [hu]
    rfl
  · rename_i h1 h2
    rw [lenK_u]
    congr 1
    generalize P.underlying t = u at *
    split
    · rename_i kt et h; exact (h1 _ _ _ rfl rfl).elim
    · rename_i kt et; exact (h2 _ _ rfl rfl).elim
    · rfl)
/-- the map that is looked into -/
def mapA (H : AH) (u : Option TypeDesc) (x : AV) : Option (TypeId × TypeId × List (AV × AV)) := match u, x with
  | some (.map kt et), .mp h => (mapO (H h)).map fun es => (kt, et, es)
  | some (.map kt et), .sc (.map none) => some (kt, et, [])
  | _, _ => none
theorem lookE_u (P : Program) (t : TypeId) (x key : AV) (ok : Bool) (H : AH) (K : AV → Prop) :
    lookE P t x key ok H K = optK (mapA H (P.underlying t) x) fun q => Req (chkA P 6 q.1 key = true ∧ hasT P q.2.1 = true) (optK (findA P q.1 key q.2.2 0) fun r => K (lookV P q.2.1 ok r)) := veil (by
  unfold lookE mapA
  generalize P.underlying t = u
  split
  · rename_i kt et h
    simp only [mapO]
    generalize H h = o
    cases o with
    | none => rfl
    | some o => cases o <;> first | rfl | (rename_i es; simp only [optK, Option.map_some]; congr 1; generalize findA P kt key es 0 = r; cases r <;> rfl)
  · rfl
  · simp [optK])
def updJ (H : AH) (h : Nat) (es : List (AV × AV)) (key v : AV) (r : Option (Nat × AV)) (K : AV → AH → Prop) : Prop := match r with
  | none => K (.tup []) (H.set h (.map (es ++ [(key.strip, v.strip)])))
  | some (i, _) => Req ((es[i]?).map (·.1) = some key ∧ plainA key = true) (K (.tup []) (H.set h (.map (es.set i (key, v.strip)))))
def mapB (H : AH) (u : Option TypeDesc) (x : AV) : Option (TypeId × Nat × List (AV × AV)) := match u, x with
  | some (.map kt _), .mp h => (mapO (H h)).map fun es => (kt, h, es)
  | _, _ => none
theorem updK_u (P : Program) (t : TypeId) (m key v : AV) (H : AH) (K : AV → AH → Prop) :
    updK P t m key v H K = optK (mapB H (P.underlying t) m) fun q => Req (chkA P 6 q.1 key = true) (optK (findA P q.1 key q.2.2 0) fun r => updJ H q.2.1 q.2.2 key v r K) := veil (by
  unfold updK mapB
  generalize P.underlying t = u
  split
  · rename_i kt et h
    simp only [mapO]
    generalize H h = o
    cases o with
    | none => rfl
    | some o => cases o <;> first | rfl | (rename_i es; simp only [optK, Option.map_some, updJ]; congr 1; generalize findA P kt key es 0 = r; rcases r with _ | _ | ⟨i, w⟩ <;> rfl)
  · rename_i hn
    split
    · exact (hn _ _ _ rfl rfl).elim
    · rfl)
theorem updJ_none {h : Nat} {es : List (AV × AV)} {key v : AV} : updJ H h es key v none L = L (.tup []) (H.set h (.map (es ++ [(key.strip, v.strip)]))) := veil rfl
theorem updJ_some {h i : Nat} {es : List (AV × AV)} {key v w : AV} : updJ H h es key v (some (i, w)) L = Req ((es[i]?).map (·.1) = some key ∧ plainA key = true) (L (.tup []) (H.set h (.map (es.set i (key, v.strip))))) := veil rfl
theorem mapK_false : mapK P false H L = (∀ k, k ≠ 0 → H k = none → L (.mp k) (H.set k (.map []))) := veil rfl
theorem lookV_ok {et : TypeId} {r : Option (Nat × AV)} : lookV P et true r = .tup [(r.map (·.2)).getD (zeroV P et), .sc (.bool r.isSome)] := veil rfl
theorem lookV_no {et : TypeId} {r : Option (Nat × AV)} : lookV P et false r = (r.map (·.2)).getD (zeroV P et) := veil rfl
theorem mapM_mp {k e : TypeId} {h : Nat} : lenM H (some (.map k e)) (.mp h) = (mapO (H h)).map fun es => .sc (.int .i64 es.length) := veil rfl
theorem mapA_mp {k e : TypeId} {h : Nat} : mapA H (some (.map k e)) (.mp h) = (mapO (H h)).map fun es => (k, e, es) := veil rfl
theorem mapA_nil {k e : TypeId} : mapA H (some (.map k e)) (.sc (.map none)) = some (k, e, []) := veil rfl
theorem mapB_mp {k e : TypeId} {h : Nat} : mapB H (some (.map k e)) (.mp h) = (mapO (H h)).map fun es => (k, h, es) := veil rfl
theorem lenM_slice {e : TypeId} {x : AV} : lenM H (some (.slice e)) x = lenA (some (.slice e)) x := veil (by unfold lenM; cases x <;> rfl)
theorem lenM_str {x : AV} : lenM H (some .string) x = lenA (some .string) x := veil (by unfold lenM; cases x <;> rfl)
theorem lenM_arr {n : Nat} {e : TypeId} {x : AV} : lenM H (some (.array n e)) x = lenA (some (.array n e)) x := veil (by unfold lenM; cases x <;> rfl)
theorem lenM_nil {k e : TypeId} : lenM H (some (.map k e)) (.sc (.map none)) = some (.sc (.int .i64 0)) := veil rfl
def intE (u : Option TypeDesc) (r : Bool) : Option Bool := match u with | some (.int _) => some r | _ => none
def strE (u : Option TypeDesc) (r : Bool) : Option Bool := match u with | some .string => some r | _ => none
theorem eqG_int {t : TypeId} {k : IntKind} (a b : Int) : eqG P 6 t (.sc (.int k a)) (.sc (.int k b)) = intE (P.underlying t) (a == b) := by
  unfold eqG
  generalize hu : P.underlying t = u
  cases u with
  | none => simp [eqA, hu, intE]
  | some u => cases u <;> simp [eqA, hu, intE]
theorem eqG_str {t : TypeId} (a b : ByteArray) : eqG P 6 t (.sc (.string a)) (.sc (.string b)) = strE (P.underlying t) (a == b) := by
  unfold eqG
  generalize hu : P.underlying t = u
  cases u with
  | none => simp [eqA, hu, strE]
  | some u => cases u <;> simp [eqA, hu, strE]
theorem intE_int {k : IntKind} {r : Bool} : intE (some (.int k)) r = some r := veil rfl
theorem strE_str {r : Bool} : strE (some .string) r = some r := veil rfl
theorem ba_beq (a b : List UInt8) : ((⟨a.toArray⟩ : ByteArray) == ⟨b.toArray⟩) = (a == b) := by
  show (a.toArray == b.toArray) = _
  simp
/-- keys of a scalar's type may be hashed -/
def chkU (u : Option TypeDesc) : Bool := match u with
  | none | some (.interface _) | some (.array _ _) | some (.struct _) => false
  | some _ => true
theorem chkA_sc {t : TypeId} {v : Value} : chkA P 6 t (.sc v) = chkU (P.underlying t) := by
  unfold chkA chkU
  generalize P.underlying t = u
  cases u with
  | none => rfl
  | some u => cases u <;> rfl
theorem chkU_int {k : IntKind} : chkU (some (.int k)) = true := veil rfl
theorem chkU_str : chkU (some .string) = true := veil rfl
theorem cst_pointer (a : Option Addr) : cst (.pointer a) = .sc (.pointer a) := veil rfl
theorem cst_map (a : Option Nat) : cst (.map a) = .sc (.map a) := veil rfl
theorem mapE_map {k e : TypeId} {r : Bool} : mapE (some (.map k e)) r = some r := veil rfl
section eqs2
variable {t : TypeId}
theorem eqG_mn (h : Nat) : eqG P 6 t (.mp h) (.sc (.map none)) = mapE (P.underlying t) false := by
  unfold eqG
  generalize hu : P.underlying t = u
  cases u with
  | none => simp [eqA, hu, mapE]
  | some u => cases u <;> simp [eqA, hu, mapE]
theorem eqG_mnn : eqG P 6 t (.sc (.map none)) (.sc (.map none)) = mapE (P.underlying t) true := by
  unfold eqG
  generalize hu : P.underlying t = u
  cases u with
  | none => simp [eqA, hu, mapE]
  | some u => cases u <;> simp [eqA, hu, mapE]
theorem bin_mneql {h : Nat} : binK P .eql t (.mp h) (.sc (.map none)) K = optK (mapE (P.underlying t) false) fun r => Req (eqOk P t = true) (K (.sc (.bool r))) := by
  rw [bin_qe (by intros; simp_all) (by intros; simp_all), eqG_mn]
theorem bin_mnneq {h : Nat} : binK P .neq t (.mp h) (.sc (.map none)) K = optK (mapE (P.underlying t) false) fun r => Req (eqOk P t = true) (K (.sc (.bool (!r)))) := by
  rw [bin_qn (by intros; simp_all) (by intros; simp_all), eqG_mn]
theorem bin_mnneql : binK P .eql t (.sc (.map none)) (.sc (.map none)) K = optK (mapE (P.underlying t) true) fun r => Req (eqOk P t = true) (K (.sc (.bool r))) := by
  rw [bin_qe (by intros; simp_all) (by intros; simp_all), eqG_mnn]
theorem bin_mnnneq : binK P .neq t (.sc (.map none)) (.sc (.map none)) K = optK (mapE (P.underlying t) true) fun r => Req (eqOk P t = true) (K (.sc (.bool (!r)))) := by
  rw [bin_qn (by intros; simp_all) (by intros; simp_all), eqG_mnn]
end eqs2
theorem findA_nil {kt : TypeId} {key : AV} {i : Nat} : findA P kt key [] i = some none := veil rfl
/-! ### conversions beside what is live -/
def CvX (P : Program) (s d : TypeId) (x : AV) (H : AH) (L : AV → AH → Prop) (_ : Tie L) : Prop := convE P s d x H L
theorem convE_x {s d : TypeId} {x : AV} : convE P s d x H L = CvX P s d x H L ⟨⟩ := veil rfl
theorem CvX_sc {s d : TypeId} {v : Value} {t : Tie L} : CvX P s d (.sc v) H L t = convK P s d (.sc v) fun v => L v H := veil rfl
theorem CvX_imm {s d : TypeId} {k n : Nat} {cs : List AV} {t : Tie L} : CvX P s d (.imm k cs n) H L t = convK P s d (.imm k cs n) fun v => L v H := veil rfl
def cvO (u u' : Option TypeDesc) (o : Option AObj) : Option (Bool × TypeId × List AV × TypeId × Nat) := match u, u', o with
  | some (.slice e), some .string, some (.cells cs e' z) => some (true, e, cs, e', z)
  | some (.slice e), some (.slice _), some (.cells cs e' z) => some (false, e, cs, e', z)
  | _, _, _ => none
theorem CvX_own {s d : TypeId} {k n : Nat} {t : Tie L} : CvX P s d (.own k 0 n) H L t = optK (cvO (P.underlying s) (P.underlying d) (H k)) fun q => bsK q.1
    (Req (P.underlying q.2.1 = some (.int .u8) ∧ q.2.2.2.1 = q.2.1 ∧ q.2.2.2.2 = 1 ∧ q.2.2.1.length = n ∧ q.2.2.1.all isU8 = true) (L (.sc (.string (strOf q.2.2.1))) H))
    (Req (s = d ∧ P.underlying q.2.1 = some (.int .u8) ∧ q.2.2.2.1 = q.2.1 ∧ q.2.2.2.2 = 1 ∧ q.2.2.1.length = n) (L (.imm 0 q.2.2.1 n) (H.kill k))) := veil (by
  unfold CvX convE
  simp only []
  generalize P.underlying s = u
  generalize P.underlying d = u'
  generalize H k = o
  cases u with
  | none => rfl
  | some u => cases u' with
    | none => cases u <;> rfl
    | some u' => cases o with
      | none => cases u <;> cases u' <;> rfl
      | some o => cases u <;> cases u' <;> cases o <;> rfl)
theorem sP_min {l : List Operand} {ts : Array TypeId} {d : Option Tmp} {ty : TypeId} {ps : String} {af : Array Edge} {gd : Option (Nat × Bool)} {ρ : Operand → AV} : stepP P ⟨d, .call ⟨.builtin .min, l.toArray, ts⟩, ty, ps, af, gd⟩ ρ K = optK (minA .min (l.map ρ)) K := veil (by simp only [stepP, minK, optK]; generalize minA .min _ = o; cases o <;> rfl)
theorem sP_max {l : List Operand} {ts : Array TypeId} {d : Option Tmp} {ty : TypeId} {ps : String} {af : Array Edge} {gd : Option (Nat × Bool)} {ρ : Operand → AV} : stepP P ⟨d, .call ⟨.builtin .max, l.toArray, ts⟩, ty, ps, af, gd⟩ ρ K = optK (minA .max (l.map ρ)) K := veil (by simp only [stepP, minK, optK]; generalize minA .max _ = o; cases o <;> rfl)
theorem sK_min {A : List Nat} {l : List Operand} {ts : Array TypeId} {d : Option Tmp} {ty : TypeId} {ps : String} {af : Array Edge} {gd : Option (Nat × Bool)} {ρ : Operand → AV} : stepK P A ⟨d, .call ⟨.builtin .min, l.toArray, ts⟩, ty, ps, af, gd⟩ ρ H L = optK (minA .min (l.map ρ)) (fun v => L v H) := veil (by simp only [stepK, stepP, minK, optK]; generalize minA .min _ = o; cases o <;> rfl)
theorem sK_max {A : List Nat} {l : List Operand} {ts : Array TypeId} {d : Option Tmp} {ty : TypeId} {ps : String} {af : Array Edge} {gd : Option (Nat × Bool)} {ρ : Operand → AV} : stepK P A ⟨d, .call ⟨.builtin .max, l.toArray, ts⟩, ty, ps, af, gd⟩ ρ H L = optK (minA .max (l.map ρ)) (fun v => L v H) := veil (by simp only [stepK, stepP, minK, optK]; generalize minA .max _ = o; cases o <;> rfl)
theorem minA_min {k k' : IntKind} {x y : Int} : minA .min [.sc (.int k x), .sc (.int k' y)] = some (.sc (.int k (if y < x then y else x))) := veil rfl
theorem minA_max {k k' : IntKind} {x y : Int} : minA .max [.sc (.int k x), .sc (.int k' y)] = some (.sc (.int k (if x < y then y else x))) := veil rfl
theorem min_nat {a b : Nat} : (if (b : Int) < (a : Int) then (b : Int) else (a : Int)) = ((min a b : Nat) : Int) := by split <;> omega
theorem max_nat {a b : Nat} : (if (a : Int) < (b : Int) then (b : Int) else (a : Int)) = ((max a b : Nat) : Int) := by split <;> omega
theorem cst_nilF : cst .nilFunc = .sc .nilFunc := veil rfl
theorem fnE_fn {a b : Array TypeId} {v : Bool} {r : Bool} : fnE (some (.func a b v)) r = some r := veil rfl
section eqs3
variable {t : TypeId}
theorem eqG_fn {f : Fn} {a b : List AV} : eqG P 6 t (.fn f a b) (.sc .nilFunc) = fnE (P.underlying t) false := by
  unfold eqG
  generalize hu : P.underlying t = u
  cases u with
  | none => simp [eqA, hu, fnE]
  | some u => cases u <;> simp [eqA, hu, fnE]
theorem bin_fneql {f : Fn} {a b : List AV} : binK P .eql t (.fn f a b) (.sc .nilFunc) K = optK (fnE (P.underlying t) false) fun r => Req (eqOk P t = true) (K (.sc (.bool r))) := by
  rw [bin_qe (by intros; simp_all) (by intros; simp_all), eqG_fn]
theorem bin_fnneq {f : Fn} {a b : List AV} : binK P .neq t (.fn f a b) (.sc .nilFunc) K = optK (fnE (P.underlying t) false) fun r => Req (eqOk P t = true) (K (.sc (.bool (!r)))) := by
  rw [bin_qn (by intros; simp_all) (by intros; simp_all), eqG_fn]
end eqs3
theorem bin_slss {x y : ByteArray} {t : TypeId} : binK P .lss t (.sc (.string x)) (.sc (.string y)) K = K (.sc (.bool (Op.bytesLess x.toList y.toList))) := veil rfl
theorem bin_sgtr {x y : ByteArray} {t : TypeId} : binK P .gtr t (.sc (.string x)) (.sc (.string y)) K = K (.sc (.bool (!(Op.bytesLess x.toList y.toList || x.toList == y.toList)))) := veil rfl
theorem strip_own {h o n : Nat} : AV.strip (.own h o n) = .own h o n := veil rfl
theorem strip_mp {h : Nat} : AV.strip (.mp h) = .mp h := veil rfl
theorem strip_fn {f : Fn} {a b : List AV} : AV.strip (.fn f a b) = .fn f a b := veil rfl
theorem strip_ip {cs : List AV} {o : Nat} : AV.strip (.ip cs o) = .ip cs o := veil rfl
theorem strip_pn : AV.strip (.sc (.pointer none)) = .sc (.pointer none) := veil rfl
theorem strip_mn : AV.strip (.sc (.map none)) = .sc (.map none) := veil rfl
end Go.Abs
