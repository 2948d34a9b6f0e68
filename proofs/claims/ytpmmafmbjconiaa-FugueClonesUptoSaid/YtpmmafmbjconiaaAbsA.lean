/-
  An abstract logic over the model's walks, part A: abstract values, how they read in a world, how they stay.
  Conditions: none. Lemmas only.
-/
import Derived.Calls
import Derived.Orders
import Derived.Still
import Derived.Tactics
import Derived.Below
import Derived.WalkKit
set_option linter.all false
namespace Go.Abs
open Go Go.RowKit

/-- abstract values: 'sc' is itself; 'imm' a slice of cells that nobody writes any more (a token k that is live may append); 'ip' a pointer into such cells; 'own', 'ptr', 'mp' by a live handle -/
inductive AV where
  | any
  | sc (v : Value)
  | imm (k : Nat) (cells : List AV) (n : Nat)
  | ip (cells : List AV) (off : Nat)
  | own (h off n : Nat)
  | ptr (h off : Nat)
  | mp (h : Nat)
  | yld (h : Nat)
  | agg (cells : List AV)
  | tup (vs : List AV)
  | fn (f : Fn) (first captured : List AV)
  | ifc (t : TypeId) (v : AV)
  | itr (hr hm b clock : Nat) (ks vs : List AV) (ms : Array MapEntry)

/-- what a live handle stands for -/
inductive AObj where
  | cells (cs : List AV) (e : TypeId) (s : Nat)
  | tail (m : Nat) (e : TypeId) (s : Nat)
  | nilt
  | map (es : List (AV × AV))
  | raw (o : Obj)
  | rnd (σ : Nat → AV) (N : Nat) (f : FuncId) (ps : Array Tmp) (assign body : Code)

abbrev AH := Nat → Option AObj

structure Ctx where
  H : AH
  n : Nat
  i : Nat → Nat
  c : Nat → Nat
  w : World

/-- may this address be written by a live handle? -/
def Wr (C : Ctx) (a : Addr) : Prop := ∃ h, match C.H h with
  | some (.tail m _ _) => a.block = C.i h ∧ m ≤ a.off
  | some .nilt => False
  | some _ => a.block = C.i h
  | none => False

/-- a cell that is there for good -/
def Ctx.At (C : Ctx) (a : Addr) (u : Value) : Prop := C.w.cell? a = some u ∧ ¬ Wr C a ∧ u.oneCell' = true

inductive VR (C : Ctx) : AV → Value → Prop where
  | any (v : Value) : VR C .any v
  | sc (v : Value) : VR C (.sc v) v
  | imm (k : Nat) (cells : List AV) (n : Nat) (A : Option Addr) (cap : Nat) (hn : n ≤ cap) (hm : cap ≤ maxLen)
      (hk : k ≠ 0 → k < C.n ∧ cap = C.c k ∧ (A = some ⟨C.i k, 0, none⟩ ∨ (A = none ∧ cap = 0)))
      (b o : Nat) (ha : cells ≠ [] → A = some ⟨b, o, none⟩) (u : Nat → Value)
      (hc : ∀ j, j < cells.length → C.At ⟨b, o + j, none⟩ (u j))
      (hv : ∀ j (h : j < cells.length), VR C cells[j] (u j)) : VR C (.imm k cells n) (.slice A n cap)
  | ip (cells : List AV) (off : Nat) (b o : Nat) (u : Nat → Value)
      (hc : ∀ j, j < cells.length → C.At ⟨b, o + j, none⟩ (u j))
      (hv : ∀ j (h : j < cells.length), VR C cells[j] (u j)) : VR C (.ip cells off) (.pointer (some ⟨b, o + off, none⟩))
  | own (h off n cap : Nat) (hh : h < C.n) (hn : n ≤ cap) (hm : cap ≤ maxLen) (hc : off = 0 → cap = C.c h) : VR C (.own h off n) (.slice (some ⟨C.i h, off, none⟩) n cap)
  | ptr (h off : Nat) (hh : h < C.n) : VR C (.ptr h off) (.pointer (some ⟨C.i h, off, none⟩))
  | mp (h : Nat) (hh : h < C.n) : VR C (.mp h) (.map (some (C.i h)))
  | yld (h : Nat) (hh : h < C.n) : VR C (.yld h) (.func (.yield (C.i h)) #[] #[])
  | agg (cells : List AV) (vs : Array Value) (hs : vs.size = cells.length) (h1 : ∀ j, j < vs.size → (vs.getD j undef).oneCell' = true) (hv : ∀ j (h : j < cells.length), VR C cells[j] (vs.getD j undef)) : VR C (.agg cells) (.agg vs)
  | tup (cells : List AV) (vs : Array Value) (hs : vs.size = cells.length) (hv : ∀ j (h : j < cells.length), VR C cells[j] (vs.getD j undef)) : VR C (.tup cells) (.tuple vs)
  | fn (f : Fn) (fi ca : List AV) (vf vc : Array Value) (h1 : vf.size = fi.length) (h2 : vc.size = ca.length)
      (g1 : ∀ j (h : j < fi.length), VR C fi[j] (vf.getD j undef)) (g2 : ∀ j (h : j < ca.length), VR C ca[j] (vc.getD j undef)) : VR C (.fn f fi ca) (.func f vf vc)
  | ifc (t : TypeId) (a : AV) (v : Value) (h : VR C a v) : VR C (.ifc t a) (.iface t v)
  | itr (hr hm b clock : Nat) (ks vs : List AV) (ms : Array MapEntry) (h1 : hr < C.n) (h2 : hm < C.n) (hb : C.i hm = b) (hk : ms.size = ks.length) (hl : ms.size = vs.length)
      (h3 : ∀ j (hj : j < ms.size), ms[j].born < clock) (h4 : (ms.toList.map (·.born)).Nodup)
      (g1 : ∀ j (h : j < ks.length), VR C ks[j] (ms.toList.getD j default).key) (g2 : ∀ j (h : j < vs.length), VR C vs[j] (ms.toList.getD j default).val) : VR C (.itr hr hm b clock ks vs ms) (.pointer (some ⟨C.i hr, 0, none⟩))

/-- a list of values, one by one -/
def VRs (C : Ctx) (l : List AV) (vs : List Value) : Prop := vs.length = l.length ∧ ∀ j (h : j < l.length), VR C l[j] (vs.getD j undef)

def Free (fz : Nat × Nat) (n : Nat) : Prop := ∀ off, off < n → (decide (fz.1 ≤ off) && decide (off < fz.2)) = false

/-- a map's entries, in the order in which they were put -/
def MapR (C : Ctx) (es : List (AV × AV)) (ms : List MapEntry) : Prop :=
  ms.length = es.length ∧ ∀ j (h : j < es.length), VR C es[j].1 ((ms.getD j default).key) ∧ VR C es[j].2 ((ms.getD j default).val)

def ObjR (C : Ctx) (h : Nat) : AObj → Prop
  | .cells cs e s => ∃ vs fz, C.w.heap[C.i h]? = some (.cells vs e fz) ∧ Free fz vs.size ∧ vs.size = C.c h * s ∧ cs.length ≤ vs.size ∧ ∀ j (hj : j < cs.length), VR C cs[j] (vs.getD j undef) ∧ (vs.getD j undef).oneCell' = true
  | .nilt => C.c h = 0
  | .tail m e s => ∃ vs fz, C.w.heap[C.i h]? = some (.cells vs e fz) ∧ Free fz vs.size ∧ vs.size = C.c h * s ∧ m ≤ vs.size
  | .map es => ∃ ms clock, C.w.heap[C.i h]? = some (.map ms clock) ∧ MapR C es ms.toList ∧ (∀ j (hj : j < ms.size), ms[j].born < clock) ∧ (ms.toList.map (·.born)).Nodup
  | .raw o => C.w.heap[C.i h]? = some o
  | .rnd σ N f ps assign body => C.c h = 1 ∧ ∃ tmps D, C.w.heap[C.i h]? = some (.loop { state := .ready, pending := none, fn := f, tmps := tmps, params := ps, assign := assign, body := body, defers := D }) ∧ tmps.size = N ∧ ∀ t, VR C (σ t) (tmps.getD t undef)

/-- has it a block? -/
def AObj.real : AObj → Bool
  | .nilt => false
  | _ => true

structure WR (C : Ctx) : Prop where
  pos : 0 < C.n
  zero : C.H 0 = none
  lt : ∀ h o, C.H h = some o → h < C.n
  blk : ∀ h o, C.H h = some o → o.real = true → C.i h < C.w.heap.size
  inj : ∀ h h' o o', C.H h = some o → C.H h' = some o' → o.real = true → o'.real = true → C.i h = C.i h' → h = h'
  obj : ∀ h o, C.H h = some o → ObjR C h o

def Owned (C : Ctx) (b : Nat) : Prop := ∃ h o, C.H h = some o ∧ o.real = true ∧ C.i h = b

structure Ext (C D : Ctx) : Prop where
  n : C.n ≤ D.n
  h : ∀ k, k < C.n → D.i k = C.i k ∧ D.c k = C.c k
  at_ : ∀ a u, C.At a u → D.At a u
  size : C.w.heap.size ≤ D.w.heap.size
  blk : ∀ b, b < C.w.heap.size → ¬ Owned C b → D.w.heap[b]? = C.w.heap[b]? ∧ ¬ Owned D b
  os : D.w.os = C.w.os
  tape : D.w.tape = C.w.tape
  output : D.w.output = C.w.output

theorem Ext.refl (C : Ctx) : Ext C C := ⟨Nat.le_refl _, fun _ _ => ⟨rfl, rfl⟩, fun _ _ h => h, Nat.le_refl _, fun _ _ h => ⟨rfl, h⟩, rfl, rfl, rfl⟩

theorem Ext.trans {A B C : Ctx} (h : Ext A B) (k : Ext B C) : Ext A C where
  n := Nat.le_trans h.n k.n
  h := fun x hx => by
    have h1 := h.h x hx
    have h2 := k.h x (Nat.lt_of_lt_of_le hx h.n)
    exact ⟨h2.1.trans h1.1, h2.2.trans h1.2⟩
  at_ := fun a u ha => k.at_ a u (h.at_ a u ha)
  size := Nat.le_trans h.size k.size
  blk := fun b hb ho => by
    have h1 := h.blk b hb ho
    have h2 := k.blk b (Nat.lt_of_lt_of_le hb h.size) h1.2
    exact ⟨h2.1.trans h1.1, h2.2⟩
  os := k.os.trans h.os
  tape := k.tape.trans h.tape
  output := k.output.trans h.output

theorem VR.ext {C D : Ctx} (e : Ext C D) {a : AV} {v : Value} (h : VR C a v) : VR D a v := by
  induction h with
  | any v => exact .any v
  | sc v => exact .sc v
  | imm k cells n A cap hn hm hk b o ha u hc hv ih =>
    refine .imm k cells n A cap hn hm (fun h0 => ?_) b o ha u (fun j hj => e.at_ _ _ (hc j hj)) ih
    obtain ⟨h1, h2, h3⟩ := hk h0
    obtain ⟨e1, e2⟩ := e.h k h1
    exact ⟨Nat.lt_of_lt_of_le h1 e.n, by rw [e2]; exact h2, by rw [e1]; exact h3⟩
  | ip cells off b o u hc hv ih => exact .ip cells off b o u (fun j hj => e.at_ _ _ (hc j hj)) ih
  | own h off n cap hh hn hm hc =>
    obtain ⟨e1, e2⟩ := e.h h hh
    have := VR.own (C := D) h off n cap (Nat.lt_of_lt_of_le hh e.n) hn hm (by rw [e2]; exact hc)
    rwa [e1] at this
  | ptr h off hh =>
    obtain ⟨e1, e2⟩ := e.h h hh
    have := VR.ptr (C := D) h off (Nat.lt_of_lt_of_le hh e.n)
    rwa [e1] at this
  | mp h hh =>
    obtain ⟨e1, e2⟩ := e.h h hh
    have := VR.mp (C := D) h (Nat.lt_of_lt_of_le hh e.n)
    rwa [e1] at this
  | yld h hh =>
    obtain ⟨e1, e2⟩ := e.h h hh
    have := VR.yld (C := D) h (Nat.lt_of_lt_of_le hh e.n)
    rwa [e1] at this
  | agg cells vs hs h1 hv ih => exact .agg cells vs hs h1 ih
  | tup cells vs hs hv ih => exact .tup cells vs hs ih
  | fn f fi ca vf vc h1 h2 g1 g2 i1 i2 => exact .fn f fi ca vf vc h1 h2 i1 i2
  | ifc t a v h ih => exact .ifc t a v ih
  | itr hr hm b clock ks vs ms h1 h2 hb hk hl h3 h4 g1 g2 i1 i2 =>
    obtain ⟨e1, e2⟩ := e.h hr h1
    obtain ⟨e3, e4⟩ := e.h hm h2
    have := VR.itr (C := D) hr hm b clock ks vs ms (Nat.lt_of_lt_of_le h1 e.n) (Nat.lt_of_lt_of_le h2 e.n) (by rw [e3]; exact hb) hk hl h3 h4 i1 i2
    rwa [e1] at this

theorem VRs.ext {C D : Ctx} (e : Ext C D) {l : List AV} {vs : List Value} (h : VRs C l vs) : VRs D l vs := ⟨h.1, fun j hj => (h.2 j hj).ext e⟩
theorem MapR.ext {C D : Ctx} (e : Ext C D) {l : List (AV × AV)} {vs : List MapEntry} (h : MapR C l vs) : MapR D l vs := ⟨h.1, fun j hj => ⟨(h.2 j hj).1.ext e, (h.2 j hj).2.ext e⟩⟩

theorem ObjR.ext {C D : Ctx} (e : Ext C D) {h : Nat} {o : AObj} (hh : h < C.n) (hb : o.real = true → D.w.heap[C.i h]? = C.w.heap[C.i h]?) (g : ObjR C h o) : ObjR D h o := by
  obtain ⟨e1, e2⟩ := e.h h hh
  cases o with
  | cells cs t s =>
    obtain ⟨vs, fz, h1, h2, h3, h4, h5⟩ := g
    exact ⟨vs, fz, by rw [e1, hb rfl]; exact h1, h2, by rw [e2]; exact h3, h4, fun j hj => ⟨(h5 j hj).1.ext e, (h5 j hj).2⟩⟩
  | tail m t s =>
    obtain ⟨vs, fz, h1, h2, h3, h4⟩ := g
    exact ⟨vs, fz, by rw [e1, hb rfl]; exact h1, h2, by rw [e2]; exact h3, h4⟩
  | nilt => exact e2.trans g
  | map es =>
    obtain ⟨ms, clock, h1, h2, h3, h4⟩ := g
    exact ⟨ms, clock, by rw [e1, hb rfl]; exact h1, h2.ext e, h3, h4⟩
  | raw o => exact (by rw [e1, hb rfl]; exact g : D.w.heap[D.i h]? = some o)
  | rnd σ N f ps assign body =>
    obtain ⟨g0, tmps, d, g1, g2, g3⟩ := g
    exact ⟨e2.trans g0, tmps, d, by rw [e1, hb rfl]; exact g1, g2, fun t => (g3 t).ext e⟩

theorem WR.step {C D : Ctx} (g : WR C) (e : Ext C D) (zero : D.H 0 = none) (lt : ∀ h o, D.H h = some o → h < D.n)
    (blk : ∀ h o, D.H h = some o → o.real = true → D.i h < D.w.heap.size)
    (inj : ∀ h h' o o', D.H h = some o → D.H h' = some o' → o.real = true → o'.real = true → D.i h = D.i h' → h = h')
    (obj : ∀ h o, D.H h = some o → (C.H h = some o ∧ (o.real = true → D.w.heap[C.i h]? = C.w.heap[C.i h]?)) ∨ ObjR D h o) : WR D where
  pos := Nat.lt_of_lt_of_le g.pos e.n
  zero := zero
  lt := lt
  blk := blk
  inj := inj
  obj := fun h o ho => by
    rcases obj h o ho with ⟨h1, h2⟩ | h1
    · exact ObjR.ext e (g.lt h o h1) h2 (g.obj h o h1)
    · exact h1

/-! ### handles -/
def AH.set (H : AH) (h : Nat) (o : AObj) : AH := fun x => if x = h then some o else H x
def AH.kill (H : AH) (h : Nat) : AH := fun x => if x = h then none else H x

theorem Owned.lt {C : Ctx} (g : WR C) {b : Nat} (h : Owned C b) : b < C.w.heap.size := by
  obtain ⟨x, o, ho, hr, rfl⟩ := h
  exact g.blk x o ho hr

theorem Wr.owned {C : Ctx} {a : Addr} (h : Wr C a) : Owned C a.block := by
  obtain ⟨x, hx⟩ := h
  cases ho : C.H x with
  | none => simp [ho] at hx
  | some o => cases o <;> simp [ho] at hx <;> first | exact ⟨x, _, ho, rfl, hx.symm⟩ | exact ⟨x, _, ho, rfl, hx.1.symm⟩

theorem cell_lt {w : World} {a : Addr} {u : Value} (h : w.cell? a = some u) : a.block < w.heap.size := by
  rcases Nat.lt_or_ge a.block w.heap.size with h1 | h1
  · exact h1
  · simp [World.cell?, Array.getElem?_eq_none h1] at h

/-- a draw, or anything else that leaves the heap as it is -/
theorem Ext.heap {C : Ctx} (w : World) (h : w.heap = C.w.heap) (os : w.os = C.w.os) (tape : w.tape = C.w.tape) (output : w.output = C.w.output) : Ext C { C with w := w } where
  n := Nat.le_refl _
  h := fun _ _ => ⟨rfl, rfl⟩
  at_ := fun a u ⟨h1, h2, h3⟩ => ⟨by rw [← h1]; exact World.cell?_of_block (by rw [h]), h2, h3⟩
  size := by rw [h]; exact Nat.le_refl _
  blk := fun b _ ho => ⟨by rw [h], ho⟩
  os := os
  tape := tape
  output := output

theorem WR.heap {C : Ctx} (g : WR C) (w : World) (h : w.heap = C.w.heap) (os : w.os = C.w.os) (tape : w.tape = C.w.tape) (output : w.output = C.w.output) : WR { C with w := w } :=
  g.step (Ext.heap w h os tape output) g.zero g.lt (by rw [h]; exact g.blk) g.inj fun x o ho => .inl ⟨ho, fun _ => by rw [h]⟩

/-- a new block that belongs to nobody: it stays as it is -/
theorem Ext.alloc {C : Ctx} (o : Obj) : Ext C { C with w := C.w.alloc o } where
  n := Nat.le_refl _
  h := fun _ _ => ⟨rfl, rfl⟩
  at_ := fun a u ⟨h1, h2, h3⟩ => ⟨(World.cell?_alloc_lt C.w o a (cell_lt h1)).trans h1, h2, h3⟩
  size := by simp
  blk := fun b hb ho => ⟨Below.heap_alloc _ _ _ hb, ho⟩
  os := rfl
  tape := rfl
  output := rfl

theorem WR.alloc {C : Ctx} (g : WR C) (o : Obj) : WR { C with w := C.w.alloc o } :=
  g.step (Ext.alloc o) g.zero g.lt (fun h o' ho hr => by have := g.blk h o' ho hr; simp; omega) g.inj
    fun x o' ho => .inl ⟨ho, fun hr => Below.heap_alloc _ _ _ (g.blk x o' ho hr)⟩

theorem at_alloc {C : Ctx} (g : WR C) (vs : Array Value) (e : TypeId) (j : Nat) (hj : j < vs.size) (h1 : (vs.getD j undef).oneCell' = true) : ({ C with w := C.w.alloc (.cells vs e) } : Ctx).At ⟨C.w.heap.size, j, none⟩ (vs.getD j undef) := by
  refine ⟨?_, fun h => ?_, h1⟩
  · show (C.w.alloc (.cells vs e)).cell? ⟨C.w.heap.size, j, none⟩ = _
    rw [World.cell?_alloc_new]
    simp [hj]
  · have := Owned.lt g (Wr.owned h)
    simp at this
/-- less is owned: always right -/
theorem Ext.weaken {C : Ctx} (H : AH) (h : ∀ x o, H x = some o → C.H x = some o) : Ext C { C with H := H } where
  n := Nat.le_refl _
  h := fun _ _ => ⟨rfl, rfl⟩
  at_ := fun a u ⟨h1, h2, h3⟩ => ⟨h1, fun ⟨x, hx⟩ => h2 ⟨x, by
    show match C.H x with | some (.tail m _ _) => _ | some .nilt => _ | some _ => _ | none => _
    cases ho : H x with
    | none => simp [ho] at hx
    | some o => rw [h x o ho]; simpa [ho] using hx⟩, h3⟩
  size := Nat.le_refl _
  blk := fun b _ ho => ⟨rfl, fun ⟨x, o, h1, h2⟩ => ho ⟨x, o, h x o h1, h2⟩⟩
  os := rfl
  tape := rfl
  output := rfl

theorem WR.weaken {C : Ctx} (g : WR C) (H : AH) (h : ∀ x o, H x = some o → C.H x = some o) : WR { C with H := H } :=
  g.step (Ext.weaken H h) (by
      cases ho : H 0 with
      | none => exact ho
      | some o => have := h 0 o ho; rw [g.zero] at this; cases this)
    (fun x o ho => g.lt x o (h x o ho)) (fun x o ho => g.blk x o (h x o ho)) (fun x y o o' h1 h2 => g.inj x y o o' (h x o h1) (h y o' h2))
    fun x o ho => .inl ⟨h x o ho, fun _ => rfl⟩

def upd (f : Nat → Nat) (k v : Nat) : Nat → Nat := fun x => if x = k then v else f x
theorem upd_lt {f : Nat → Nat} {k v x : Nat} (h : x < k) : upd f k v x = f x := by unfold upd; rw [if_neg (by omega)]
theorem upd_same {f : Nat → Nat} {k v : Nat} : upd f k v k = v := by simp [upd]

/-- what a new handle makes writable -/
theorem Wr.of_add {C : Ctx} {o : AObj} {b c : Nat} {w : World} {a : Addr} (h : Wr ⟨C.H.set C.n o, C.n + 1, upd C.i C.n b, upd C.c C.n c, w⟩ a) :
    Wr C a ∨ (o.real = true ∧ a.block = b ∧ ∀ m e s, o = .tail m e s → m ≤ a.off) := by
  obtain ⟨x, hx⟩ := h
  simp only [AH.set] at hx
  by_cases hxn : x = C.n
  · right
    subst hxn
    simp only [if_true] at hx
    cases o <;> simp [upd] at hx <;> first | exact ⟨rfl, hx, fun _ _ _ h => by cases h⟩ | exact ⟨rfl, hx.1, fun _ _ _ h => by cases h; exact hx.2⟩
  · left
    simp only [if_neg hxn] at hx
    refine ⟨x, ?_⟩
    simpa [upd, hxn] using hx

theorem Ext.add {C : Ctx} (g : WR C) (o : AObj) (ob : Obj) (c : Nat) : Ext C ⟨C.H.set C.n o, C.n + 1, upd C.i C.n C.w.heap.size, upd C.c C.n c, C.w.alloc ob⟩ where
  n := Nat.le_succ _
  h := fun k hk => ⟨upd_lt hk, upd_lt hk⟩
  at_ := fun a u ⟨h1, h2, h3⟩ => ⟨(World.cell?_alloc_lt C.w ob a (cell_lt h1)).trans h1, (fun h => by
    rcases Wr.of_add h with h | ⟨_, h, _⟩
    · exact h2 h
    · have := cell_lt h1; omega), h3⟩
  size := by simp
  blk := fun b hb ho => ⟨Below.heap_alloc _ _ _ hb, fun ⟨x, o', h1, h2, h3⟩ => by
    simp only [AH.set] at h1
    by_cases hx : x = C.n
    · subst hx
      simp only [upd_same] at h3
      omega
    · simp only [if_neg hx] at h1
      have hlt := g.lt x o' h1
      exact ho ⟨x, o', h1, h2, (upd_lt hlt).symm.trans h3⟩⟩
  os := rfl
  tape := rfl
  output := rfl

theorem WR.add {C : Ctx} (g : WR C) (o : AObj) (ob : Obj) (c : Nat) (h : ObjR ⟨C.H.set C.n o, C.n + 1, upd C.i C.n C.w.heap.size, upd C.c C.n c, C.w.alloc ob⟩ C.n o) :
    WR ⟨C.H.set C.n o, C.n + 1, upd C.i C.n C.w.heap.size, upd C.c C.n c, C.w.alloc ob⟩ := by
  refine g.step (Ext.add g o ob c) ?_ ?_ ?_ ?_ ?_
  · have := g.pos
    show (if 0 = C.n then _ else _) = _
    rw [if_neg (by omega)]
    exact g.zero
  · intro x o' ho
    simp only [AH.set] at ho ⊢
    by_cases hx : x = C.n
    · omega
    · simp only [if_neg hx] at ho
      have := g.lt x o' ho
      omega
  · intro x o' ho hr
    simp only [AH.set] at ho
    by_cases hx : x = C.n
    · subst hx; simp [upd_same]
    · simp only [if_neg hx] at ho
      have := g.blk x o' ho hr
      show upd C.i C.n C.w.heap.size x < (C.w.alloc ob).heap.size
      rw [upd_lt (g.lt x o' ho)]
      simp; omega
  · intro x y o' o'' h1 h2 r1 r2 he
    simp only [AH.set] at h1 h2
    by_cases hx : x = C.n <;> by_cases hy : y = C.n
    · omega
    · simp only [if_neg hy] at h2
      have e1 := g.blk y o'' h2 r2
      subst hx
      simp only [upd_same, upd_lt (g.lt y o'' h2)] at he
      omega
    · simp only [if_neg hx] at h1
      have e1 := g.blk x o' h1 r1
      subst hy
      simp only [upd_same, upd_lt (g.lt x o' h1)] at he
      omega
    · simp only [if_neg hx] at h1
      simp only [if_neg hy] at h2
      simp only [upd_lt (g.lt x o' h1), upd_lt (g.lt y o'' h2)] at he
      exact g.inj x y o' o'' h1 h2 r1 r2 he
  · intro x o' ho
    simp only [AH.set] at ho
    by_cases hx : x = C.n
    · subst hx
      simp only [if_true, Option.some.injEq] at ho
      subst ho
      exact .inr h
    · simp only [if_neg hx] at ho
      exact .inl ⟨ho, fun hr => Below.heap_alloc _ _ _ (g.blk x o' ho hr)⟩

/-- nil that may be appended to: a handle without a block -/
theorem Ext.nilt {C : Ctx} (g : WR C) (b : Nat) : Ext C ⟨C.H.set C.n .nilt, C.n + 1, upd C.i C.n b, upd C.c C.n 0, C.w⟩ where
  n := Nat.le_succ _
  h := fun k hk => ⟨upd_lt hk, upd_lt hk⟩
  at_ := fun a u ⟨h1, h2, h3⟩ => ⟨h1, (fun h => by
    rcases Wr.of_add h with h | ⟨h, _⟩
    · exact h2 h
    · cases h), h3⟩
  size := Nat.le_refl _
  blk := fun b' hb ho => ⟨rfl, fun ⟨x, o', h1, h2, h3⟩ => by
    simp only [AH.set] at h1
    by_cases hx : x = C.n
    · subst hx
      simp only [if_true, Option.some.injEq] at h1
      subst h1
      cases h2
    · simp only [if_neg hx] at h1
      exact ho ⟨x, o', h1, h2, (upd_lt (g.lt x o' h1)).symm.trans h3⟩⟩
  os := rfl
  tape := rfl
  output := rfl

theorem WR.nilt {C : Ctx} (g : WR C) (b : Nat) : WR ⟨C.H.set C.n .nilt, C.n + 1, upd C.i C.n b, upd C.c C.n 0, C.w⟩ := by
  refine g.step (Ext.nilt g b) ?_ ?_ ?_ ?_ ?_
  · have := g.pos
    show (if 0 = C.n then _ else _) = _
    rw [if_neg (by omega)]
    exact g.zero
  · intro x o' ho
    simp only [AH.set] at ho ⊢
    by_cases hx : x = C.n
    · omega
    · simp only [if_neg hx] at ho
      have := g.lt x o' ho
      omega
  · intro x o' ho hr
    simp only [AH.set] at ho
    by_cases hx : x = C.n
    · subst hx
      simp only [if_true, Option.some.injEq] at ho
      subst ho
      cases hr
    · simp only [if_neg hx] at ho
      have := g.blk x o' ho hr
      show upd C.i C.n b x < C.w.heap.size
      rw [upd_lt (g.lt x o' ho)]
      exact this
  · intro x y o' o'' h1 h2 r1 r2 he
    simp only [AH.set] at h1 h2
    have hx : x ≠ C.n := fun hx => by subst hx; simp at h1; subst h1; cases r1
    have hy : y ≠ C.n := fun hy => by subst hy; simp at h2; subst h2; cases r2
    simp only [if_neg hx] at h1
    simp only [if_neg hy] at h2
    simp only [upd_lt (g.lt x o' h1), upd_lt (g.lt y o'' h2)] at he
    exact g.inj x y o' o'' h1 h2 r1 r2 he
  · intro x o' ho
    simp only [AH.set] at ho
    by_cases hx : x = C.n
    · subst hx
      simp only [if_true, Option.some.injEq] at ho
      subst ho
      exact .inr upd_same
    · simp only [if_neg hx] at ho
      exact .inl ⟨ho, fun hr => rfl⟩

/-- a live handle's block is written, and its object with it -/
theorem Ext.put {C : Ctx} (g : WR C) {h : Nat} {o o' : AObj} (ho : C.H h = some o) (hr : o.real = true) (w : World) (hs : w.heap.size = C.w.heap.size)
    (hb : ∀ b, b ≠ C.i h → w.heap[b]? = C.w.heap[b]?) (os : w.os = C.w.os) (tape : w.tape = C.w.tape) (output : w.output = C.w.output)
    (hnt : ∀ m e s, o ≠ .tail m e s) : Ext C ⟨C.H.set h o', C.n, C.i, C.c, w⟩ where
  n := Nat.le_refl _
  h := fun _ _ => ⟨rfl, rfl⟩
  at_ := fun a u ⟨h1, h2, h3⟩ => by
    have hne : a.block ≠ C.i h := fun he => h2 ⟨h, by
      rw [ho]
      cases o <;> first | exact he | (exact absurd rfl (hnt _ _ _)) | (cases hr)⟩
    refine ⟨(World.cell?_of_block (hb _ hne)).trans h1, fun ⟨x, hx⟩ => ?_, h3⟩
    simp only [AH.set] at hx
    by_cases hxh : x = h
    · subst hxh
      simp only [if_true] at hx
      cases o' <;> simp at hx <;> first | exact hne hx | exact hne hx.1
    · simp only [if_neg hxh] at hx
      exact h2 ⟨x, hx⟩
  size := by rw [hs]; exact Nat.le_refl _
  blk := fun b _ hn => ⟨hb b (fun e => hn ⟨h, o, ho, hr, e.symm⟩), fun ⟨x, o2, h1, h2, h3⟩ => by
    simp only [AH.set] at h1
    by_cases hxh : x = h
    · subst hxh; exact hn ⟨x, o, ho, hr, h3⟩
    · simp only [if_neg hxh] at h1
      exact hn ⟨x, o2, h1, h2, h3⟩⟩
  os := os
  tape := tape
  output := output

theorem WR.put {C : Ctx} (g : WR C) {h : Nat} {o o' : AObj} (ho : C.H h = some o) (hr : o.real = true) (w : World) (hs : w.heap.size = C.w.heap.size)
    (hb : ∀ b, b ≠ C.i h → w.heap[b]? = C.w.heap[b]?) (os : w.os = C.w.os) (tape : w.tape = C.w.tape) (output : w.output = C.w.output)
    (hnt : ∀ m e s, o ≠ .tail m e s) (h' : ObjR ⟨C.H.set h o', C.n, C.i, C.c, w⟩ h o') : WR ⟨C.H.set h o', C.n, C.i, C.c, w⟩ := by
  refine g.step (Ext.put g ho hr w hs hb os tape output hnt) ?_ ?_ ?_ ?_ ?_
  · have h0 : h ≠ 0 := fun e => by subst e; rw [g.zero] at ho; cases ho
    show (if 0 = h then _ else _) = _
    rw [if_neg (Ne.symm h0)]
    exact g.zero
  · intro x o2 h2
    simp only [AH.set] at h2 ⊢
    by_cases hx : x = h
    · subst hx; exact g.lt x o ho
    · simp only [if_neg hx] at h2; exact g.lt x o2 h2
  · intro x o2 h2 r2
    simp only [AH.set] at h2
    show C.i x < w.heap.size
    rw [hs]
    by_cases hx : x = h
    · subst hx; exact g.blk x o ho hr
    · simp only [if_neg hx] at h2; exact g.blk x o2 h2 r2
  · intro x y o2 o3 h2 h3 r2 r3 he
    simp only [AH.set] at h2 h3
    have := g.inj x y
    by_cases hx : x = h <;> by_cases hy : y = h
    · omega
    · simp only [if_neg hy] at h3; subst hx; exact this o o3 ho h3 hr r3 he
    · simp only [if_neg hx] at h2; subst hy; exact this o2 o h2 ho r2 hr he
    · simp only [if_neg hx] at h2; simp only [if_neg hy] at h3; exact this o2 o3 h2 h3 r2 r3 he
  · intro x o2 h2
    simp only [AH.set] at h2
    by_cases hx : x = h
    · subst hx
      simp only [if_true, Option.some.injEq] at h2
      subst h2
      exact .inr h'
    · simp only [if_neg hx] at h2
      exact .inl ⟨h2, fun r2 => hb _ fun e => hx (g.inj x h o2 o h2 ho r2 hr e)⟩

/-- a token is spent: its row's room is written, and a new token stands for the same row -/
theorem Ext.grow {C : Ctx} (g : WR C) {k m m' : Nat} {e : TypeId} {s : Nat} (ho : C.H k = some (.tail m e s)) (w : World) (hs : w.heap.size = C.w.heap.size)
    (hb : ∀ b, b ≠ C.i k → w.heap[b]? = C.w.heap[b]?) (os : w.os = C.w.os) (tape : w.tape = C.w.tape) (output : w.output = C.w.output) (hm : m ≤ m')
    (hc : ∀ off, off < m → w.cell? ⟨C.i k, off, none⟩ = C.w.cell? ⟨C.i k, off, none⟩) (hn : ∀ a, a.block = C.i k → a.spot ≠ none → w.cell? a = C.w.cell? a) :
    Ext C ⟨(C.H.kill k).set C.n (.tail m' e s), C.n + 1, upd C.i C.n (C.i k), upd C.c C.n (C.c k), w⟩ where
  n := Nat.le_succ _
  h := fun x hx => ⟨upd_lt hx, upd_lt hx⟩
  at_ := fun a u ⟨h1, h2, h3⟩ => by
    have hlt : a.block = C.i k → a.off < m := fun he => by
      rcases Nat.lt_or_ge a.off m with h | h
      · exact h
      · exact absurd ⟨k, by rw [ho]; exact ⟨he, h⟩⟩ h2
    refine ⟨?_, ?_, h3⟩
    · by_cases he : a.block = C.i k
      · cases hsp : a.spot with
        | none =>
          have := hc a.off (hlt he)
          obtain ⟨b, off, sp⟩ := a
          simp only at he hsp
          subst he hsp
          exact this.trans h1
        | some y => exact (hn a he (by simp [hsp])).trans h1
      · exact (World.cell?_of_block (hb _ he)).trans h1
    · rintro ⟨x, hx⟩
      simp only [AH.set, AH.kill] at hx
      by_cases hxn : x = C.n
      · subst hxn
        simp only [if_true, upd_same] at hx
        have := hlt hx.1
        have := hx.2
        omega
      · simp only [hxn, if_false] at hx
        by_cases hxk : x = k
        · simp [hxk] at hx
        · simp only [hxk, if_false] at hx
          refine h2 ⟨x, ?_⟩
          simpa [upd, hxn] using hx
  size := by rw [hs]; exact Nat.le_refl _
  blk := fun b _ hno => ⟨hb b (fun e' => hno ⟨k, _, ho, rfl, e'.symm⟩), fun ⟨x, o2, h1, h2, h3⟩ => by
    simp only [AH.set, AH.kill] at h1
    by_cases hxn : x = C.n
    · subst hxn
      simp only [upd_same] at h3
      exact hno ⟨k, _, ho, rfl, h3⟩
    · simp only [hxn, if_false] at h1
      by_cases hxk : x = k
      · simp [hxk] at h1
      · simp only [hxk, if_false] at h1
        exact hno ⟨x, o2, h1, h2, (upd_lt (g.lt x o2 h1)).symm.trans h3⟩⟩
  os := os
  tape := tape
  output := output

theorem WR.grow {C : Ctx} (g : WR C) {k m m' : Nat} {e : TypeId} {s : Nat} (ho : C.H k = some (.tail m e s)) (w : World) (hs : w.heap.size = C.w.heap.size)
    (hb : ∀ b, b ≠ C.i k → w.heap[b]? = C.w.heap[b]?) (os : w.os = C.w.os) (tape : w.tape = C.w.tape) (output : w.output = C.w.output) (hm : m ≤ m')
    (hc : ∀ off, off < m → w.cell? ⟨C.i k, off, none⟩ = C.w.cell? ⟨C.i k, off, none⟩) (hn : ∀ a, a.block = C.i k → a.spot ≠ none → w.cell? a = C.w.cell? a)
    (h' : ∃ vs fz, w.heap[C.i k]? = some (.cells vs e fz) ∧ Free fz vs.size ∧ vs.size = C.c k * s ∧ m' ≤ vs.size) :
    WR ⟨(C.H.kill k).set C.n (.tail m' e s), C.n + 1, upd C.i C.n (C.i k), upd C.c C.n (C.c k), w⟩ := by
  have hk := g.lt k _ ho
  have ob : ∀ {x o2}, ((C.H.kill k).set C.n (.tail m' e s)) x = some o2 → (x = C.n ∧ o2 = .tail m' e s) ∨ (x ≠ k ∧ x < C.n ∧ C.H x = some o2) := by
    intro x o2 h2
    simp only [AH.set, AH.kill] at h2
    by_cases hxn : x = C.n
    · left
      subst hxn
      simp only [if_true, Option.some.injEq] at h2
      exact ⟨rfl, h2.symm⟩
    · right
      simp only [hxn, if_false] at h2
      by_cases hxk : x = k
      · simp [hxk] at h2
      · simp only [hxk, if_false] at h2
        exact ⟨hxk, g.lt x o2 h2, h2⟩
  refine g.step (Ext.grow g ho w hs hb os tape output hm hc hn) ?_ ?_ ?_ ?_ ?_
  · have := g.pos
    show (if 0 = C.n then _ else if 0 = k then _ else _) = _
    rw [if_neg (by omega)]
    split
    · rfl
    · exact g.zero
  · intro x o2 h2
    show x < C.n + 1
    rcases ob h2 with ⟨h, _⟩ | ⟨_, h, _⟩ <;> omega
  · intro x o2 h2 r2
    show upd C.i C.n (C.i k) x < w.heap.size
    rw [hs]
    rcases ob h2 with ⟨rfl, _⟩ | ⟨_, h, h3⟩
    · rw [upd_same]; exact g.blk k _ ho rfl
    · rw [upd_lt h]; exact g.blk x o2 h3 r2
  · intro x y o2 o3 h2 h3 r2 r3 he
    change upd C.i C.n (C.i k) x = upd C.i C.n (C.i k) y at he
    rcases ob h2 with ⟨rfl, _⟩ | ⟨a1, a2, a3⟩ <;> rcases ob h3 with ⟨rfl, _⟩ | ⟨b1, b2, b3⟩
    · rfl
    · rw [upd_same, upd_lt b2] at he
      exact absurd (g.inj k y _ o3 ho b3 rfl r3 he).symm b1
    · rw [upd_same, upd_lt a2] at he
      exact absurd (g.inj x k o2 _ a3 ho r2 rfl he) a1
    · rw [upd_lt a2, upd_lt b2] at he
      exact g.inj x y o2 o3 a3 b3 r2 r3 he
  · intro x o2 h2
    rcases ob h2 with ⟨rfl, rfl⟩ | ⟨a1, a2, a3⟩
    · refine .inr ?_
      show ∃ vs fz, w.heap[upd C.i C.n (C.i k) C.n]? = _ ∧ _ ∧ _ = upd C.c C.n (C.c k) C.n * s ∧ _
      rw [upd_same, upd_same]
      exact h'
    · exact .inl ⟨a3, fun r2 => hb _ fun e' => a1 (g.inj x k o2 _ a3 ho r2 rfl e')⟩
end Go.Abs
