/-
  An abstract logic over the model's walks, part B: states, operations, regions (in whatever order), statements, loops, calls.
  Conditions: none. Lemmas only.
-/
import Derived.Test.YtpmmafmbjconiaaAbsA
import Derived.OrdersIn
import Derived.RangeFuncRecord
import Derived.TacticsIn
set_option linter.all false
namespace Go.Abs
open Go Go.RowKit

abbrev Sg := Nat → AV
def Sg.put (σ : Sg) (d : Option Tmp) (v : AV) : Sg := match d with
  | some t => fun x => if x = t then v else σ x
  | none => σ

/-- a value of the program's text -/
def cst : Value → AV
  | .agg cs => if cs.all (·.oneCell') then .agg (cs.toList.map fun c => match c with | .slice none 0 0 => .imm 0 [] 0 | c => .sc c) else .any
  | v => .sc v

def Sg.ev (σ : Sg) : Operand → AV
  | .tmp t => σ t
  | .const v => cst v
  | .global g => .sc (.pointer (some ⟨g, 0, none⟩))
  | .func f => .fn (.func f) [] []

/-- without its token -/
def AV.strip0 : AV → AV
  | .imm _ cells n => .imm 0 cells n
  | .sc (.slice none 0 0) => .imm 0 [] 0
  | v => v
/-- so too in a value's cells -/
def AV.strip : AV → AV
  | .agg cs => .agg (cs.map AV.strip0)
  | v => v.strip0

theorem VR.nil {C : Ctx} : VR C (.imm 0 [] 0) (.slice none 0 0) :=
  .imm 0 [] 0 none 0 (Nat.zero_le _) (Nat.zero_le _) (fun h => absurd rfl h) 0 0 (fun h => absurd rfl h) (fun _ => undef) (fun j h => absurd h (by simp)) (fun j h => absurd h (by simp))

theorem VR.strip0 {C : Ctx} {a : AV} {v : Value} (h : VR C a v) : VR C a.strip0 v := by
  cases h with
  | imm k cells n A cap hn hm hk b o ha u hc hv => exact .imm 0 cells n A cap hn hm (fun h => absurd rfl h) b o ha u hc hv
  | sc v =>
    unfold AV.strip0
    split
    · contradiction
    · rename_i h; cases h; exact .nil
    · exact .sc v
  | any v => exact .any v
  | ip cells off b o u hc hv => exact .ip cells off b o u hc hv
  | own h off n cap hh hn hm hc => exact .own h off n cap hh hn hm hc
  | ptr h off hh => exact .ptr h off hh
  | mp h hh => exact .mp h hh
  | yld h hh => exact .yld h hh
  | agg cells vs hs h1 hv => exact .agg cells vs hs h1 hv
  | tup cells vs hs hv => exact .tup cells vs hs hv
  | fn f fi ca vf vc h1 h2 g1 g2 => exact .fn f fi ca vf vc h1 h2 g1 g2
  | ifc t a v h => exact .ifc t a v h
  | itr hr hm b clock ks vs ms h1 h2 hb hk hl h3 h4 g1 g2 => exact .itr hr hm b clock ks vs ms h1 h2 hb hk hl h3 h4 g1 g2

theorem VR.strip {C : Ctx} {a : AV} {v : Value} (h : VR C a v) : VR C a.strip v := by
  unfold AV.strip
  split
  · cases h with
    | agg cs vs hs h1 hv =>
      refine .agg _ vs (by simpa using hs) h1 fun j hj => ?_
      rw [List.getElem_map]
      exact (hv j (by simpa using hj)).strip0
  · exact h.strip0

/-- the marks of ranges over functions among the deferred calls: blocks of the call's own, with no calls -/
def MarkOf (D : Nat) : Deferred := { target := .collected D, args := #[] }
def Marks (B : Nat) (C : Ctx) (ds : List Deferred) : Prop := B ≤ C.w.heap.size ∧ ∃ Ds : List Nat, ds = Ds.map MarkOf ∧ Ds.Nodup ∧ ∀ D ∈ Ds, B ≤ D ∧ C.w.heap[D]? = some (.deferred (some [])) ∧ ¬ Owned C D
theorem Marks.nil {B : Nat} {C : Ctx} (h : B ≤ C.w.heap.size) : Marks B C [] := ⟨h, [], rfl, .nil, fun _ h => by cases h⟩
theorem Marks.ext {B : Nat} {C D : Ctx} {ds : List Deferred} (e : Ext C D) (h : Marks B C ds) : Marks B D ds := by
  obtain ⟨h0, Ds, h1, h2, h3⟩ := h
  refine ⟨Nat.le_trans h0 e.size, Ds, h1, h2, fun b hb => ?_⟩
  obtain ⟨k1, k2, k3⟩ := h3 b hb
  have := e.blk b (Array.getElem?_eq_some_iff.1 k2).1 k3
  exact ⟨k1, this.1.trans k2, this.2⟩

/-- a block that is no row and nobody's is turned: all stays as it is -/
def noCells : Obj → Bool
  | .cells .. => false
  | _ => true
theorem cell_turn {w : World} {D : Nat} {o : Obj} (o' : Obj) (ho : w.heap[D]? = some o) (hc : noCells o = true) {a : Addr} {u : Value} (h : w.cell? a = some u) : a.block ≠ D ∧ (w.putObj D o').cell? a = some u := by
  have hne : a.block ≠ D := by
    rintro rfl
    unfold World.cell? at h
    rw [ho] at h
    cases o <;> simp [noCells] at hc h
  refine ⟨hne, ?_⟩
  unfold World.cell? at h ⊢
  rw [World.putObj_heap_other hne]
  exact h
section turn
/-- a world in which a block has turned, its cells have not -/
structure Turned (w w' : World) (D : Nat) : Prop where
  cell : ∀ a u, w.cell? a = some u → w'.cell? a = some u
  oth : ∀ b, b ≠ D → w'.heap[b]? = w.heap[b]?
  size : w'.heap.size = w.heap.size
  os : w'.os = w.os
  tape : w'.tape = w.tape
  output : w'.output = w.output
variable {Γ C : Ctx} {D : Nat} {w' : World}
theorem VR.turned (T : Turned C.w w' D) {a : AV} {v : Value} (h : VR C a v) : VR { C with w := w' } a v := by
  have ha : ∀ a u, C.At a u → ({ C with w := w' } : Ctx).At a u := fun a u h => ⟨T.cell _ _ h.1, h.2.1, h.2.2⟩
  induction h with
  | any v => exact .any v
  | sc v => exact .sc v
  | imm k cells n A cap hn hm hk b o ha' u hc hv ih => exact .imm k cells n A cap hn hm hk b o ha' u (fun j hj => ha _ _ (hc j hj)) ih
  | ip cells off b o u hc hv ih => exact .ip cells off b o u (fun j hj => ha _ _ (hc j hj)) ih
  | own h off n cap hh hn hm hc => exact .own (C := { C with w := w' }) h off n cap hh hn hm hc
  | ptr h off hh => exact .ptr (C := { C with w := w' }) h off hh
  | mp h hh => exact .mp (C := { C with w := w' }) h hh
  | yld h hh => exact .yld (C := { C with w := w' }) h hh
  | agg cells vs hs h1 hv ih => exact .agg cells vs hs h1 ih
  | tup cells vs hs hv ih => exact .tup cells vs hs ih
  | fn f fi ca vf vc h1 h2 g1 g2 i1 i2 => exact .fn f fi ca vf vc h1 h2 i1 i2
  | ifc t a v h ih => exact .ifc t a v ih
  | itr hr hm b clock ks vs ms h1 h2 hb hk hl h3 h4 g1 g2 i1 i2 => exact VR.itr (C := { C with w := w' }) hr hm b clock ks vs ms h1 h2 hb hk hl h3 h4 i1 i2
theorem WR.turned (g : WR C) (T : Turned C.w w' D) (hn : ¬ Owned C D) : WR { C with w := w' } where
  pos := g.pos
  zero := g.zero
  lt := g.lt
  blk h x hx hr := by rw [T.size]; exact g.blk h x hx hr
  inj := g.inj
  obj h x hx := by
    have hb : x.real = true → ({ C with w := w' } : Ctx).w.heap[C.i h]? = C.w.heap[C.i h]? := fun hr => T.oth _ fun e => hn ⟨h, x, hx, hr, e⟩
    have gx := g.obj h x hx
    cases x with
    | cells cs t s =>
      obtain ⟨vs, fz, h1, h2, h3, h4, h5⟩ := gx
      exact ⟨vs, fz, (hb rfl).trans h1, h2, h3, h4, fun j hj => ⟨(h5 j hj).1.turned T, (h5 j hj).2⟩⟩
    | tail m t s =>
      obtain ⟨vs, fz, h1, h2, h3, h4⟩ := gx
      exact ⟨vs, fz, (hb rfl).trans h1, h2, h3, h4⟩
    | nilt => exact gx
    | map es =>
      obtain ⟨ms, clock, h1, h2, h3, h4⟩ := gx
      exact ⟨ms, clock, (hb rfl).trans h1, ⟨h2.1, fun j hj => ⟨(h2.2 j hj).1.turned T, (h2.2 j hj).2.turned T⟩⟩, h3, h4⟩
    | raw o => exact (hb rfl).trans gx
    | rnd σ N f ps assign body =>
      obtain ⟨g0, tmps, d, g1, g2, g3⟩ := gx
      exact ⟨g0, tmps, d, (hb rfl).trans g1, g2, fun t => (g3 t).turned T⟩
theorem Ext.turned (e : Ext Γ C) (T : Turned C.w w' D) (hG : Γ.w.heap.size ≤ D ∨ Owned Γ D) : Ext Γ { C with w := w' } where
  n := e.n
  h := e.h
  at_ a u h := by
    have := e.at_ a u h
    exact ⟨T.cell _ _ this.1, this.2.1, this.2.2⟩
  size := by rw [T.size]; exact e.size
  blk b hb hn := by
    have := e.blk b hb hn
    refine ⟨?_, this.2⟩
    rw [T.oth _ fun e => ?_]
    · exact this.1
    · subst e
      exact hG.elim (fun h => absurd hb (by omega)) hn
  os := T.os.trans e.os
  tape := T.tape.trans e.tape
  output := T.output.trans e.output
variable {o : Obj} (o' : Obj)
theorem turned_put {w : World} (ho : w.heap[D]? = some o) (hc : noCells o = true) : Turned w (w.putObj D o') D :=
  ⟨fun a u h => (cell_turn o' ho hc h).2, fun b hb => World.putObj_heap_other hb, World.putObj_size, rfl, rfl, rfl⟩
theorem VR.turn (ho : C.w.heap[D]? = some o) (hc : noCells o = true) {a : AV} {v : Value} (h : VR C a v) : VR { C with w := C.w.putObj D o' } a v := h.turned (turned_put o' ho hc)
theorem WR.turn (g : WR C) (ho : C.w.heap[D]? = some o) (hc : noCells o = true) (hn : ¬ Owned C D) : WR { C with w := C.w.putObj D o' } := g.turned (turned_put o' ho hc) hn
theorem Ext.turn (e : Ext Γ C) (ho : C.w.heap[D]? = some o) (hc : noCells o = true) (hG : Γ.w.heap.size ≤ D ∨ Owned Γ D) : Ext Γ { C with w := C.w.putObj D o' } := e.turned (turned_put o' ho hc) hG
end turn

/-- the relation of a state: Γ is how it stood when the call began -/
def G (N : Nat) (Γ : Ctx) (B : Nat) (σ : Sg) (H : AH) (a : Act) (w : World) : Prop :=
  ∃ n i c, WR ⟨H, n, i, c, w⟩ ∧ Ext Γ ⟨H, n, i, c, w⟩ ∧ a.tmps.size = N ∧ Marks B ⟨H, n, i, c, w⟩ a.defers ∧ ∀ t, VR ⟨H, n, i, c, w⟩ (σ t) (a.tmps.getD t undef)

/-- the fence of a walk: as wide as may be, in a round of a range over a function or not -/
def FW (ro : Option Nat) : Fence := { Fence.wide with round := ro }
theorem callsIn_FW {ro : Option Nat} {n : Nat} {P : Program} {f : FuncId} {args : Array Value} {w : World} {R : Ending → World → Prop} : CallsIn (FW ro) n P f args w R ↔ Calls P f args w R :=
  callsIn_wide (n := n)
theorem roundIn_FW {ro : Option Nat} {n : Nat} {P : Program} {l : Nat} {f : FuncId} {tmps : Array Value} {assign body : Code} {w : World} {R : Ending → World → Prop} :
    RoundIn (FW ro) n P l f tmps assign body w R ↔ RoundIn Fence.wide 0 P l f tmps assign body w R :=
  ⟨fun h => ⟨h.1, fun c cs _ => h.2 c cs (room_wide _)⟩, fun h => ⟨h.1, fun c cs _ => h.2 c cs (room_wide _)⟩⟩

def Upon (P : Program) (r : Result Next) (Post : Value → World → Prop) : Prop := match r with
  | .ok (.value u) w' => Post u w'
  | .ok .skip w' => Post undef w'
  | .ok (.enter f args) w' => Calls P f args w' fun e w'' => ∃ u, e = .returned u ∧ Post u w''
  | .ok (.round l f tmps assign body) w' => RoundIn Fence.wide 0 P l f tmps assign body w' fun e w'' => ∃ u, e = .returned u ∧ Post u w''
  | _ => False

/-- what an operation does: R of what it yields, and of what is live then -/
def Eff (P : Program) (H : AH) (o : Oper) (ρ : Operand → AV) (R : AV → AH → Prop) : Prop :=
  ∀ (n : Nat) (i c : Nat → Nat) (w : World) (ρ' : Operand → Value), WR ⟨H, n, i, c, w⟩ → (∀ x ∈ o.op.operands, VR ⟨H, n, i, c, w⟩ (ρ x) (ρ' x)) →
    Upon P ((execOp ρ' o).run P w) fun u w' => ∃ v H' n' i' c', R v H' ∧ WR ⟨H', n', i', c', w'⟩ ∧ Ext ⟨H, n, i, c, w⟩ ⟨H', n', i', c', w'⟩ ∧ VR ⟨H', n', i', c', w'⟩ v u

theorem Upon.mono {P : Program} {r : Result Next} {Post Post' : Value → World → Prop} (h : Upon P r Post) (hp : ∀ u w, Post u w → Post' u w) : Upon P r Post' := by
  cases r with
  | ok n w =>
    cases n <;> simp only [Upon] at h ⊢
    case value u => exact hp _ _ h
    case skip => exact hp _ _ h
    case enter f args => exact h.mono fun e w'' ⟨u, he, hu⟩ => ⟨u, he, hp _ _ hu⟩
    case round l f tmps assign body => exact h.mono fun e w'' ⟨u, he, hu⟩ => ⟨u, he, hp _ _ hu⟩
  | halt x w => exact h
/-- a 'defer' is none of these -/
theorem Upon.no_defer {P : Program} {o : Oper} {ρ : Operand → Value} {w : World} {Post : Value → World → Prop} (h : Upon P ((execOp ρ o).run P w) Post) : ∀ c, o.op ≠ .defer c := by
  intro c hc
  unfold execOp at h
  rw [hc] at h
  simp only [Sem.run_bind] at h
  cases hr : (resolve ρ c o.type).run P w with
  | ok d w' => rw [hr] at h; simp [Result.andThen, Sem.run_pure, Upon] at h
  | halt x w' => rw [hr] at h; simp [Result.andThen, Upon] at h

theorem Eff.mono {P : Program} {H : AH} {o : Oper} {ρ : Operand → AV} {R R' : AV → AH → Prop} (h : Eff P H o ρ R) (hr : ∀ v H', R v H' → R' v H') : Eff P H o ρ R' :=
  fun n i c w ρ' g hx => (h n i c w ρ' g hx).mono fun u w' ⟨v, H', n', i', c', h1, h2⟩ => ⟨v, H', n', i', c', hr _ _ h1, h2⟩

theorem Eff.congr {P : Program} {H : AH} {o : Oper} {ρ ρ' : Operand → AV} {R : AV → AH → Prop} (h : Eff P H o ρ R) (he : ∀ x ∈ o.op.operands, ρ' x = ρ x) : Eff P H o ρ' R :=
  fun n i c w r g hx => h n i c w r g fun x hm => by rw [← he x hm]; exact hx x hm

/-- one value, and nothing else -/
def Quiet (P : Program) (H : AH) (o : Oper) (ρ : Operand → AV) (v : AV) : Prop := Eff P H o ρ fun v' H' => v' = v ∧ H' = H

theorem ev_rel {C : Ctx} {σ : Sg} {a : Act} (h : ∀ t, VR C (σ t) (a.tmps.getD t undef)) (x : Operand) : VR C (σ.ev x) (a.eval x) := by
  cases x with
  | tmp t => exact h t
  | const v =>
    show VR C (cst v) v
    unfold cst
    split
    · rename_i cs
      split
      case isFalse => exact .any _
      rename_i hall
      refine .agg _ _ (by simp) (fun j hj => ?_) fun j hj => ?_
      · have := Array.all_eq_true.1 hall j hj
        simpa [hj] using this
      simp only [List.getElem_map, Array.getElem_toList]
      have hj' : j < cs.size := by simpa using hj
      have e1 : cs.getD j undef = cs[j] := by simp [hj']
      rw [e1]
      generalize cs[j] = x
      split
      · exact .nil
      · exact .sc _
    · exact .sc _
  | global g => exact .sc _
  | func f => exact .fn _ _ _ _ _ rfl rfl (fun j h => absurd h (by simp)) (fun j h => absurd h (by simp))

theorem getD_put {a : Act} {d : Tmp} {u : Value} (hd : d < a.tmps.size) (t : Tmp) : (a.put (some d) u).tmps.getD t undef = if t = d then u else a.tmps.getD t undef := by
  show (a.tmps.setIfInBounds d u).getD t undef = _
  by_cases h : t = d
  · subst h; simp [hd]
  · simp [Array.getElem?_setIfInBounds_ne (Ne.symm h), h]

theorem put_size (a : Act) (d : Option Tmp) (u : Value) : (a.put d u).tmps.size = a.tmps.size := by
  cases d <;> simp [Act.put]
theorem put_defers (a : Act) (d : Option Tmp) (u : Value) : (a.put d u).defers = a.defers := by
  cases d <;> rfl

theorem rel_put {C : Ctx} {σ : Sg} {a : Act} {N : Nat} (hs : a.tmps.size = N) (h : ∀ t, VR C (σ t) (a.tmps.getD t undef)) {d : Option Tmp} (hd : ∀ x, d = some x → x < N) {v : AV} {u : Value} (hv : VR C v u) :
    ∀ t, VR C (σ.put d v t) ((a.put d u).tmps.getD t undef) := by
  intro t
  cases d with
  | none => exact h t
  | some x =>
    rw [getD_put (by rw [hs]; exact hd x rfl)]
    show VR C (if t = x then v else σ t) _
    split
    · exact hv
    · exact h t

theorem VR.skipped {C : Ctx} : VR C (.tup []) undef := .tup [] #[] rfl (fun j h => absurd h (by simp))

theorem G.put {N : Nat} {Γ : Ctx} {B : Nat} {σ : Sg} {H : AH} {a : Act} {w : World} (g : G N Γ B σ H a w) {d : Option Tmp} (hd : ∀ x, d = some x → x < N) : G N Γ B (σ.put d (.tup [])) H (a.put d undef) w := by
  obtain ⟨n, i, c, h1, h2, h3, h4, h5⟩ := g
  exact ⟨n, i, c, h1, h2, (put_size ..).trans h3, by rw [put_defers]; exact h4, rel_put h3 h5 hd VR.skipped⟩

theorem Eff.wp {P : Program} {N : Nat} {Γ : Ctx} {B : Nat} {σ : Sg} {H : AH} {a : Act} {w : World} {o : Oper} {R : AV → AH → Prop} (hG : G N Γ B σ H a w) (hd : ∀ x, o.dst = some x → x < N) (h : Eff P H o σ.ev R)
    {K : Act → World → Prop} {Q : Exit → Act → World → Prop} {ro : Option Nat} (hK : ∀ v H' a' w', R v H' → G N Γ B (σ.put o.dst v) H' a' w' → K a' w') : o.wpIn (FW ro) 0 P a w K Q := by
  obtain ⟨n, i, c, h1, h2, h3, h4, h5⟩ := hG
  have := h n i c w a.eval h1 fun x _ => ev_rel h5 x
  have fin : ∀ u w', (∃ v H' n' i' c', R v H' ∧ WR ⟨H', n', i', c', w'⟩ ∧ Ext ⟨H, n, i, c, w⟩ ⟨H', n', i', c', w'⟩ ∧ VR ⟨H', n', i', c', w'⟩ v u) → K (a.put o.dst u) w' := by
    rintro u w' ⟨v, H', n', i', c', g1, g2, g3, g4⟩
    exact hK v H' _ _ g1 ⟨n', i', c', g2, h2.trans g3, (put_size ..).trans h3, by rw [put_defers]; exact h4.ext g3, rel_put h3 (fun t => (h5 t).ext g3) hd g4⟩
  refine ⟨fun _ _ => trivial, ?_⟩
  rw [Oper.semAt_eq _ _ _ this.no_defer]
  generalize (execOp a.eval o).run P w = r at this
  cases r with
  | ok nx w' =>
    cases nx <;> simp only [Upon] at this <;> simp only [Oper.uponIn]
    case value u => exact fin u w' this
    case skip => exact fin undef w' this
    case enter f args =>
      refine ⟨(fun h => by cases h), callsIn_FW.2 (this.mono fun e w'' ⟨u, he, hu⟩ => ?_)⟩
      subst he
      exact fin u w'' hu
    case round l f tmps assign body =>
      refine ⟨(fun h => by cases h), roundIn_FW.2 (this.mono fun e w'' ⟨u, he, hu⟩ => ?_)⟩
      subst he
      exact fin u w'' hu
  | halt x w' => simp only [Upon] at this

def wantB (ops : Array Oper) (σ : Sg) (o : Oper) : Option Bool := match o.guard with
  | none => some true
  | some (j, want) => match (ops[j]?).bind (·.dst) with
    | some d => match σ d with
      | .sc (.bool b) => some (b == want)
      | .tup [] => some false
      | _ => none
    | none => none

def boolOf : Option Value → Option Bool
  | some (.bool b) => some b
  | _ => none
theorem yielded_eq (ops : Array Oper) (tmps : Array Value) (j : Nat) : yielded ops tmps j = boolOf (((ops[j]?).bind (·.dst)).bind (tmps[·]?)) := by
  unfold yielded boolOf
  split <;> simp_all

theorem wantB_spec {C : Ctx} {σ : Sg} {a : Act} (h : ∀ t, VR C (σ t) (a.tmps.getD t undef)) {ops : Array Oper} {o : Oper} {b : Bool} (hw : wantB ops σ o = some b) : Region.wanted o (yielded ops a.tmps) = b := by
  unfold wantB at hw
  unfold Region.wanted
  cases hg : o.guard with
  | none => simp only [hg] at hw; injection hw
  | some p =>
    obtain ⟨j, want⟩ := p
    simp only [hg] at hw ⊢
    rw [yielded_eq]
    cases hj : (ops[j]?).bind (·.dst) with
    | none => simp [hj] at hw
    | some d =>
      simp only [hj] at hw
      have hd := h d
      simp only [Option.bind_some]
      split at hw
      · rename_i x hx
        rw [hx] at hd
        have hh : Value.bool x = a.tmps.getD d undef := by
          generalize a.tmps.getD d undef = z at hd
          cases hd
          rfl
        have : a.tmps[d]? = some (.bool x) := by
          rcases Nat.lt_or_ge d a.tmps.size with h1 | h1
          · simp [h1] at hh ⊢; exact hh.symm
          · simp [Array.getElem?_eq_none h1, undef] at hh
        rw [this]
        simp only [Option.some.injEq, boolOf] at hw ⊢
        rw [← hw]
        cases x <;> cases want <;> rfl
      · rename_i hx
        rw [hx] at hd
        have hh : Value.tuple #[] = a.tmps.getD d undef := by
          generalize a.tmps.getD d undef = z at hd
          cases hd
          rename_i vs hs _
          rw [Array.eq_empty_of_size_eq_zero hs]
        have hne : boolOf a.tmps[d]? = none := by
          rcases Nat.lt_or_ge d a.tmps.size with h1 | h1
          · simp [h1] at hh ⊢; rw [← hh]; rfl
          · simp [Array.getElem?_eq_none h1, boolOf]
        rw [hne]
        injection hw with hw
      · cases hw

/-- a region in the order of the text -/
def ARun (P : Program) (N : Nat) (ops : Array Oper) : List Oper → (Sg → AH → Prop) → Sg → AH → Prop
  | [], K, σ, H => K σ H
  | o :: rest, K, σ, H => (∀ x, o.dst = some x → x < N) ∧ ∃ b, wantB ops σ o = some b ∧
      (b = true → ∃ R, Eff P H o σ.ev R ∧ ∀ v H', R v H' → ARun P N ops rest K (σ.put o.dst v) H') ∧
      (b = false → ARun P N ops rest K (σ.put o.dst (.tup [])) H)

theorem ARun.sound {P : Program} {N : Nat} {Γ : Ctx} {B : Nat} {ops : Array Oper} {K : Sg → AH → Prop} {Q : Exit → Act → World → Prop} {ro : Option Nat} (hK : ∀ σ H a w, K σ H → G N Γ B σ H a w → Q .normal a w) :
    ∀ (l : List Oper) (σ : Sg) (H : AH) (a : Act) (w : World), ARun P N ops l K σ H → G N Γ B σ H a w → wpListIn (FW ro) 0 P ops Q l a w
  | [], σ, H, a, w, h, g => hK σ H a w h g
  | o :: rest, σ, H, a, w, ⟨hd, b, hb, h1, h2⟩, g => by
    obtain ⟨n, i, c, g1, g2, g3, g4, g5⟩ := id g
    have hw := wantB_spec g5 hb
    simp only [wpListIn]
    rw [hw]
    cases b with
    | true =>
      obtain ⟨R, hE, hR⟩ := h1 rfl
      simp only [if_true]
      exact hE.wp g hd fun v H' a' w' hr g' => ARun.sound hK rest _ _ _ _ (hR v H' hr) g'
    | false =>
      simp only [Bool.false_eq_true, if_false]
      exact ⟨fun _ _ => trivial, ARun.sound hK rest _ _ _ _ (h2 rfl) (g.put hd)⟩

/-! ### statements -/
/-- has it no range over a function? -/
def noRange : Code → Bool
  | .seq a b => noRange a && noRange b
  | .block _ a => noRange a
  | .cond _ a b => noRange a && noRange b
  | .loop a => noRange a
  | .scope a => noRange a
  | .rangeFunc _ _ _ _ => false
  | _ => true
/-- in a round of a range over a function there is no other one -/
def RoOk (ro : Option Nat) (c : Code) : Prop := ro = none ∨ noRange c = true
theorem RoOk.l {ro : Option Nat} {x y : Code} (h : RoOk ro (.seq x y)) : RoOk ro x := h.imp (fun h => h) fun h => by simp only [noRange, Bool.and_eq_true] at h; exact h.1
theorem RoOk.r {ro : Option Nat} {x y : Code} (h : RoOk ro (.seq x y)) : RoOk ro y := h.imp (fun h => h) fun h => by simp only [noRange, Bool.and_eq_true] at h; exact h.2
theorem RoOk.b {ro : Option Nat} {id : Nat} {x : Code} (h : RoOk ro (.block id x)) : RoOk ro x := h.imp (fun h => h) fun h => by simpa [noRange] using h
theorem RoOk.lp {ro : Option Nat} {x : Code} (h : RoOk ro (.loop x)) : RoOk ro x := h.imp (fun h => h) fun h => by simpa [noRange] using h
theorem RoOk.sc {ro : Option Nat} {x : Code} (h : RoOk ro (.scope x)) : RoOk ro x := h.imp (fun h => h) fun h => by simpa [noRange] using h
theorem RoOk.t {ro : Option Nat} {c : Operand} {x y : Code} (h : RoOk ro (.cond c x y)) : RoOk ro x := h.imp (fun h => h) fun h => by simp only [noRange, Bool.and_eq_true] at h; exact h.1
theorem RoOk.f {ro : Option Nat} {c : Operand} {x y : Code} (h : RoOk ro (.cond c x y)) : RoOk ro y := h.imp (fun h => h) fun h => by simp only [noRange, Bool.and_eq_true] at h; exact h.2
def AWp (P : Program) (N : Nat) (Γ : Ctx) (c : Code) (Q : Exit → Sg → AH → Prop) (σ : Sg) (H : AH) : Prop :=
  ∀ ro, RoOk ro c → ∀ B a w, G N Γ B σ H a w → c.wpIn (FW ro) 0 P (fun e a' w' => ∃ σ' H', G N Γ B σ' H' a' w' ∧ Q e σ' H') a w

def AThen (next : Sg → AH → Prop) (Q : Exit → Sg → AH → Prop) : Exit → Sg → AH → Prop
  | .normal, σ, H => next σ H
  | e, σ, H => Q e σ H
def ABlock (id : Nat) (Q : Exit → Sg → AH → Prop) : Exit → Sg → AH → Prop
  | .exit id', σ, H => if id' = id then Q .normal σ H else Q (.exit id') σ H
  | e, σ, H => Q e σ H

section rules
variable {P : Program} {N : Nat} {Γ : Ctx} {Q : Exit → Sg → AH → Prop} {σ : Sg} {H : AH}

theorem AWp.mono {c : Code} {Q' : Exit → Sg → AH → Prop} (h : AWp P N Γ c Q σ H) (hq : ∀ e σ H, Q e σ H → Q' e σ H) : AWp P N Γ c Q' σ H :=
  fun ro ok B a w g => wpIn_mono (h ro ok B a w g) fun e a w ⟨σ', H', g', q⟩ => ⟨σ', H', g', hq _ _ _ q⟩
theorem awp_skip (h : Q .normal σ H) : AWp P N Γ .skip Q σ H := fun _ _ _ a w g => wpIn_skip ⟨σ, H, g, h⟩
theorem awp_ret (h : Q .ret σ H) : AWp P N Γ .ret Q σ H := fun _ _ _ a w g => wpIn_ret ⟨σ, H, g, h⟩
theorem awp_exit {id : Nat} (h : Q (.exit id) σ H) : AWp P N Γ (.exit id) Q σ H := fun _ _ _ a w g => wpIn_exit ⟨σ, H, g, h⟩
theorem awp_label {l : Nat} (h : Q .normal σ H) : AWp P N Γ (.label l) Q σ H := fun _ _ _ a w g => wpIn_label ⟨σ, H, g, h⟩
theorem awp_goto {l : Nat} (h : Q (.goto l) σ H) : AWp P N Γ (.goto l) Q σ H := fun _ _ _ a w g => wpIn_goto ⟨σ, H, g, h⟩
theorem awp_seq {x y : Code} (h : AWp P N Γ x (AThen (AWp P N Γ y Q) Q) σ H) : AWp P N Γ (.seq x y) Q σ H := by
  intro ro ok B a w g
  refine wpIn_seq (wpIn_mono (h ro ok.l B a w g) ?_)
  rintro e a' w' ⟨σ', H', g', q⟩
  cases e with
  | normal => exact q ro ok.r B a' w' g'
  | _ => exact ⟨σ', H', g', q⟩
theorem awp_block {id : Nat} {c : Code} (h : AWp P N Γ c (ABlock id Q) σ H) : AWp P N Γ (.block id c) Q σ H := by
  intro ro ok B a w g
  refine wpIn_block (wpIn_mono (h ro ok.b B a w g) ?_)
  rintro e a' w' ⟨σ', H', g', q⟩
  cases e with
  | exit id' =>
    simp only [Exit.inBlock, ABlock] at q ⊢
    split
    · rename_i he; simp only [he, if_true] at q; exact ⟨σ', H', g', q⟩
    · rename_i he; simp only [he, if_false] at q; exact ⟨σ', H', g', q⟩
  | _ => exact ⟨σ', H', g', q⟩
theorem awp_cond {c : Operand} {x y : Code} {b : Bool} (hc : σ.ev c = .sc (.bool b)) (ht : b = true → AWp P N Γ x Q σ H) (hf : b = false → AWp P N Γ y Q σ H) : AWp P N Γ (.cond c x y) Q σ H := by
  intro ro ok B a w g
  obtain ⟨n, i, cc, g1, g2, g3, g4, g5⟩ := id g
  have h := ev_rel g5 c
  rw [hc] at h
  have h' : a.eval c = .bool b := by
    generalize a.eval c = z at h
    cases h
    rfl
  refine wpIn_cond_split h' (fun hb => ht hb ro ok.t B a w g) (fun hb => hf hb ro ok.f B a w g)
theorem awp_region {id : Nat} {l : List Oper} (h : ARun P N l.toArray l (Q .normal) σ H) : AWp P N Γ (.region id l.toArray false) Q σ H := by
  intro ro _ B a w g
  refine wpIn_region_lit (ARun.sound (K := Q .normal) ?_ l σ H a w h g)
  intro σ H a w q g
  exact ⟨σ, H, g, q⟩

/-- a loop: a relation with a number that every round lowers -/
theorem awp_loop {c : Code} (I : Nat → Sg → AH → Prop) (m : Nat) (h0 : I m σ H) (round : ∀ m σ H, I m σ H → AWp P N Γ c (AThen (fun σ' H' => ∃ m', m' < m ∧ I m' σ' H') Q) σ H) : AWp P N Γ (.loop c) Q σ H := by
  intro ro ok B a w g b k cs hro hb hr
  have key : ∀ m σ H a w, I m σ H → G N Γ B σ H a w →
      ∃ e a' w', (∃ σ' H', G N Γ B σ' H' a' w' ∧ Q e σ' H') ∧ ArrivesIn (Machine.fenced P (FW ro)) P (lone (b.atR a (.code c :: .inLoop c :: k)) cs w) b k cs e a' w' := by
    intro m
    induction m using Nat.strongRecOn with
    | _ m ih =>
      intro σ H a w hI g
      obtain ⟨e, a₁, w₁, hq, harr⟩ := round m σ H hI ro ok.lp B a w g b (.inLoop c :: k) cs hro hb hr
      cases e with
      | normal =>
        obtain ⟨σ', H', g', m', hlt, hI'⟩ := hq
        obtain ⟨e₂, a₂, w₂, hq₂, harr₂⟩ := ih m' hlt σ' H' a₁ w₁ hI' g'
        exact ⟨e₂, a₂, w₂, hq₂, .of_steps (StepsIn.trans harr (.one (fenced_calm hb hr rfl) stepR_inLoop)) harr₂⟩
      | exit id => exact ⟨_, a₁, w₁, hq, .pass (x := .inLoop c) rfl (fun _ _ => .inl (by simp)) harr⟩
      | goto l => exact ⟨_, a₁, w₁, hq, .pass (x := .inLoop c) rfl (fun _ _ => .inl (by simp)) harr⟩
      | ret => exact ⟨_, a₁, w₁, hq, .pass (x := .inLoop c) rfl (fun _ _ => .inl (by simp)) harr⟩
      | panic ch => exact ⟨_, a₁, w₁, hq, .pass (x := .inLoop c) rfl (fun _ _ => .inl (by simp)) harr⟩
      | outgrown => exact ⟨_, a₁, w₁, hq, .pass (x := .inLoop c) rfl (fun _ _ => .inl (by simp)) harr⟩
  obtain ⟨e, a', w', hq, harr⟩ := key m σ H a w h0 g
  exact ⟨e, a', w', hq, .of_steps (.one (fenced_calm hb hr rfl) stepR_loop) harr⟩

/-- a scope in which the run jumps back to one label: a relation with a number that every pass lowers -/
def AJump (l : Nat) (J : Sg → AH → Prop) (Q : Exit → Sg → AH → Prop) : Exit → Sg → AH → Prop
  | .goto l', σ, H => l' = l ∧ J σ H
  | e, σ, H => Q e σ H
theorem awp_scope {c rest : Code} (l : Nat) (I : Nat → Sg → AH → Prop) (hf : findLabel c l = some rest) (hn : noRange rest = true ∨ noRange c = false)
    (first : AWp P N Γ c (AJump l (fun σ H => ∃ m, I m σ H) Q) σ H)
    (pass : ∀ m σ H, I m σ H → AWp P N Γ rest (AJump l (fun σ' H' => ∃ m', m' < m ∧ I m' σ' H') Q) σ H) : AWp P N Γ (.scope c) Q σ H := by
  intro ro ok B a w g b k cs hro hb hr
  have okr : RoOk ro rest := ok.sc.elim .inl fun h => hn.elim .inr fun h' => by rw [h] at h'; cases h'
  have hg : gotoIn l (.inScope c :: k) = some (.code rest :: .inScope c :: k) := by simp [gotoIn, hf]
  have hsc : (lone (b.atR a (.code (.scope c) :: k)) cs w).fenced P (FW ro) := fenced_calm hb hr rfl
  have s1 : ∀ a w, step P (lone (b.atR a (.code (.scope c) :: k)) cs w) = .next (lone (b.atR a (.code c :: .inScope c :: k)) cs w) := fun a w => step_lone_go rfl
  have s2 : ∀ a w, step P (lone (b.atR a (.inScope c :: k)) cs w) = .next (lone (b.atR a k) cs w) := fun a w => step_lone_go rfl
  have key : ∀ m σ H a w, I m σ H → G N Γ B σ H a w →
      ∃ e a' w', (∃ σ' H', G N Γ B σ' H' a' w' ∧ Q e σ' H') ∧ ArrivesIn (Machine.fenced P (FW ro)) P (lone (b.atR a (.code rest :: .inScope c :: k)) cs w) b k cs e a' w' := by
    intro m
    induction m using Nat.strongRecOn with
    | _ m ih =>
      intro σ H a w hI g
      obtain ⟨e, a₁, w₁, ⟨σ', H', g', hq⟩, harr⟩ := pass m σ H hI ro okr B a w g b (.inScope c :: k) cs hro hb hr
      cases e with
      | normal => exact ⟨.normal, a₁, w₁, ⟨σ', H', g', hq⟩, StepsIn.trans harr (.one (fenced_calm hb hr rfl) (s2 _ _))⟩
      | exit id => exact ⟨.exit id, a₁, w₁, ⟨σ', H', g', hq⟩, fun k' hk => harr.1 k' (by simp [exitTo, hk]), fun hr' hk => harr.2 hr' (by simp [exitTo, hk])⟩
      | goto l' =>
        obtain ⟨rfl, m', hlt, hI'⟩ := hq
        obtain ⟨e₂, a₂, w₂, hq₂, harr₂⟩ := ih m' hlt σ' H' a₁ w₁ hI' g'
        exact ⟨e₂, a₂, w₂, hq₂, .of_steps (harr.1 _ hg) harr₂⟩
      | ret => exact ⟨_, a₁, w₁, ⟨σ', H', g', hq⟩, harr⟩
      | panic ch => exact ⟨_, a₁, w₁, ⟨σ', H', g', hq⟩, harr⟩
      | outgrown => exact ⟨_, a₁, w₁, ⟨σ', H', g', hq⟩, harr⟩
  obtain ⟨e, a₁, w₁, ⟨σ', H', g', hq⟩, harr⟩ := first ro ok.sc B a w g b (.inScope c :: k) cs hro hb hr
  cases e with
  | normal => exact ⟨.normal, a₁, w₁, ⟨σ', H', g', hq⟩, .head hsc (s1 _ _) (StepsIn.trans harr (.one (fenced_calm hb hr rfl) (s2 _ _)))⟩
  | exit id => exact ⟨.exit id, a₁, w₁, ⟨σ', H', g', hq⟩, fun k' hk => .head hsc (s1 _ _) (harr.1 k' (by simp [exitTo, hk])), fun hr' hk => let ⟨k₁, h1, h2⟩ := harr.2 hr' (by simp [exitTo, hk]); ⟨k₁, h1, .head hsc (s1 _ _) h2⟩⟩
  | goto l' =>
    obtain ⟨rfl, m, hI⟩ := hq
    obtain ⟨e₂, a₂, w₂, hq₂, harr₂⟩ := key m σ' H' a₁ w₁ hI g'
    exact ⟨e₂, a₂, w₂, hq₂, .of_steps (.head hsc (s1 _ _) (harr.1 _ hg)) harr₂⟩
  | ret => exact ⟨_, a₁, w₁, ⟨σ', H', g', hq⟩, .of_steps (.one hsc (s1 _ _)) harr⟩
  | panic ch => exact ⟨_, a₁, w₁, ⟨σ', H', g', hq⟩, .of_steps (.one hsc (s1 _ _)) harr⟩
  | outgrown => exact ⟨_, a₁, w₁, ⟨σ', H', g', hq⟩, .of_steps (.one hsc (s1 _ _)) harr⟩

/-- a ghost step: the state read otherwise -/
theorem awp_ghost {c : Code} {σ' : Sg} {H' : AH} (hg : ∀ B a w, G N Γ B σ H a w → G N Γ B σ' H' a w) (h : AWp P N Γ c Q σ' H') : AWp P N Γ c Q σ H := fun ro ok B a w g => h ro ok B a w (hg B a w g)
theorem awp_ghost_ex {c : Code} {T : Type} {σ' : T → Sg} {H' : T → AH} {p : T → Prop} (hg : ∀ B a w, G N Γ B σ H a w → ∃ x, p x ∧ G N Γ B (σ' x) (H' x) a w) (h : ∀ x, p x → AWp P N Γ c Q (σ' x) (H' x)) : AWp P N Γ c Q σ H :=
  fun ro ok B a w g => let ⟨x, hp, g'⟩ := hg B a w g; h x hp ro ok B a w g'
end rules
end Go.Abs
