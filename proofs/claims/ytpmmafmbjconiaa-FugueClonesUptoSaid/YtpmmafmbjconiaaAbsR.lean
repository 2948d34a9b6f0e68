/-
  An abstract logic over the model's walks, part R: the rules of a run, each as an equation with a proof of its own.
  Conditions: none. Lemmas only.
-/
import Derived.Test.YtpmmafmbjconiaaAbsN
set_option linter.all false
namespace Go.Abs
open Go Go.RowKit
variable {P : Program} {c : Cfg} {Q : Exit → Sg → AH → Prop} {σ : Sg} {H : AH} {K : AV → Prop} {L : AV → AH → Prop} {ρ : Operand → AV} {A : List Nat} {d : Option Tmp} {ty : TypeId} {ps : String} {af : Array Edge} {gd : Option (Nat × Bool)}

/-- an equation that simp is not to see through -/
theorem veil {α : Sort _} {a b : α} (h : a = b) : a = b := h ▸ rfl

def optK {α : Type} (o : Option α) (K : α → Prop) : Prop := match o with | some v => K v | none => False
@[congr] theorem optK_congr {α : Type} {o o' : Option α} {K : α → Prop} (h : o = o') : optK o K = optK o' K := by rw [h]
theorem optK_some {α : Type} {v : α} {K : α → Prop} : optK (some v) K = K v := veil rfl
theorem cwp_skip : cwp c .skip Q σ H = Q .normal σ H := veil rfl
theorem cwp_ret : cwp c .ret Q σ H = Q .ret σ H := veil rfl
theorem cwp_exit {id : Nat} : cwp c (.exit id) Q σ H = Q (.exit id) σ H := veil rfl
theorem cwp_label {l : Nat} : cwp c (.label l) Q σ H = Q .normal σ H := veil rfl
theorem cwp_goto {l : Nat} : cwp c (.goto l) Q σ H = Q (.goto l) σ H := veil rfl
theorem cwp_seq {a b : Code} : cwp c (.seq a b) Q σ H = cwp c a (AThen (cwp c b Q) Q) σ H := veil rfl
theorem cwp_block {id : Nat} {a : Code} : cwp c (.block id a) Q σ H = cwp c a (ABlock id Q) σ H := veil rfl
theorem cwp_cond {x : Operand} {a b : Code} : cwp c (.cond x a b) Q σ H = condK (σ.ev x) (cwp c a Q σ H) (cwp c b Q σ H) := veil rfl
theorem cwp_region {id : Nat} {l : List Oper} : cwp c (.region id l.toArray false) Q σ H = Run c l.toArray l (FzK (kindsOf c.T (id + 1000000)) (KeepO (kindsOf c.T (id + 4000000)) (Q .normal))) σ H := veil rfl
theorem cwp_tree {id : Nat} {l : List Oper} : cwp c (.region id l.toArray true) Q σ H = DrawK c (treeOf c.S id) id l (FzK (kindsOf c.T (id + 1000000)) (KeepO (kindsOf c.T (id + 4000000)) (Q .normal))) σ H := veil rfl
theorem treeOf_nil {k : Nat} : treeOf [] k = .nil := veil rfl
theorem treeOf_cons {i k : Nat} {t : STree} {r : List (Nat × STree)} : treeOf ((i, t) :: r) k = bif i == k then t else treeOf r k := veil rfl
theorem DrawK_nil {K : Sg → AH → Prop} {id : Nat} {l : List Oper} : DrawK c .nil id l K σ H = RunD c l.toArray (ordL l (kindsOf c.T (id + 2000000))) (kindsOf c.T id) K σ H := veil rfl
theorem cwp_loop {a : Code} : cwp c (.loop a) Q σ H = LoopG c a Q σ H := veil rfl
theorem AThen_normal {n : Sg → AH → Prop} : AThen n Q .normal σ H = n σ H := veil rfl
theorem AThen_exit {n : Sg → AH → Prop} {id : Nat} : AThen n Q (.exit id) σ H = Q (.exit id) σ H := veil rfl
theorem AThen_goto {n : Sg → AH → Prop} {id : Nat} : AThen n Q (.goto id) σ H = Q (.goto id) σ H := veil rfl
theorem AThen_ret {n : Sg → AH → Prop} : AThen n Q .ret σ H = Q .ret σ H := veil rfl
theorem ABlock_normal {id : Nat} : ABlock id Q .normal σ H = Q .normal σ H := veil rfl
theorem ABlock_ret {id : Nat} : ABlock id Q .ret σ H = Q .ret σ H := veil rfl
theorem ABlock_goto {id l : Nat} : ABlock id Q (.goto l) σ H = Q (.goto l) σ H := veil rfl
theorem ABlock_exit {id id' : Nat} : ABlock id Q (.exit id') σ H = if id' = id then Q .normal σ H else Q (.exit id') σ H := veil rfl
theorem Run_nil {ops : Array Oper} {K : Sg → AH → Prop} : Run c ops [] K σ H = K σ H := veil rfl
theorem Run_cons {ops : Array Oper} {K : Sg → AH → Prop} {o : Oper} {rest : List Oper} : Run c ops (o :: rest) K σ H =
  (dstOk c.N o.dst ∧ guardK ops σ o (stepK c.P c.A o σ.ev H fun v H' => Run c ops rest K (σ.put o.dst v) H') (Run c ops rest K (σ.put o.dst (.tup [])) H)) := veil rfl
theorem RunD_nil {ops : Array Oper} {ks : List Nat} {K : Sg → AH → Prop} : RunD c ops [] ks K σ H = K σ H := veil rfl
theorem RunD_0 {ops : Array Oper} {K : Sg → AH → Prop} {o : Oper} {rest : List Oper} {ks : List Nat} : RunD c ops (o :: rest) (0 :: ks) K σ H =
  (dstOk c.N o.dst ∧ guardK ops σ o (stepP c.P o σ.ev fun v => RunD c ops rest ks K (σ.put o.dst v) H) (RunD c ops rest ks K (σ.put o.dst (.tup [])) H)) := veil rfl
theorem RunD_1 {ops : Array Oper} {K : Sg → AH → Prop} {o : Oper} {rest : List Oper} {ks : List Nat} : RunD c ops (o :: rest) (1 :: ks) K σ H =
  (dstOk c.N o.dst ∧ guardK ops σ o (stepQ c.P o σ.ev H fun v => RunD c ops rest ks K (σ.put o.dst v) H) (RunD c ops rest ks K (σ.put o.dst (.tup [])) H)) := veil rfl
theorem RunD_2 {ops : Array Oper} {K : Sg → AH → Prop} {o : Oper} {rest : List Oper} {ks : List Nat} : RunD c ops (o :: rest) (2 :: ks) K σ H =
  (dstOk c.N o.dst ∧ guardK ops σ o (stepK c.P c.A o σ.ev H fun v H' => RunD c ops rest ks K (σ.put o.dst v) H') (RunD c ops rest ks K (σ.put o.dst (.tup [])) H)) := veil rfl
theorem RunT_nil {l : List Oper} {K : Sg → AH → Prop} : RunT c l .nil K σ H = K σ H := veil rfl
theorem RunT_or {l : List Oper} {a b : STree} {K : Sg → AH → Prop} : RunT c l (.or a b) K σ H = (RunT c l a K σ H ∧ RunT c l b K σ H) := veil rfl
theorem RunT_0 {l : List Oper} {K : Sg → AH → Prop} {i : Nat} {t : STree} : RunT c l (.op i 0 t) K σ H = optK l[i]? fun o =>
  (dstOk c.N o.dst ∧ guardK l.toArray σ o (stepP c.P o σ.ev fun v => RunT c l t K (σ.put o.dst v) H) (RunT c l t K (σ.put o.dst (.tup [])) H)) := veil (by simp only [RunT, optK, kindK]; cases l[i]? <;> rfl)
theorem RunT_1 {l : List Oper} {K : Sg → AH → Prop} {i : Nat} {t : STree} : RunT c l (.op i 1 t) K σ H = optK l[i]? fun o =>
  (dstOk c.N o.dst ∧ guardK l.toArray σ o (stepQ c.P o σ.ev H fun v => RunT c l t K (σ.put o.dst v) H) (RunT c l t K (σ.put o.dst (.tup [])) H)) := veil (by simp only [RunT, optK, kindK]; cases l[i]? <;> rfl)
theorem RunT_2 {l : List Oper} {K : Sg → AH → Prop} {i : Nat} {t : STree} : RunT c l (.op i 2 t) K σ H = optK l[i]? fun o =>
  (dstOk c.N o.dst ∧ guardK l.toArray σ o (stepK c.P c.A o σ.ev H fun v H' => RunT c l t K (σ.put o.dst v) H') (RunT c l t K (σ.put o.dst (.tup [])) H)) := veil (by simp only [RunT, optK, kindK]; cases l[i]? <;> rfl)
theorem ordL_nil {l : List Oper} : ordL l [] = l := veil rfl
theorem ordL_cons {l : List Oper} {i : Nat} {is : List Nat} : ordL l (i :: is) = selL l (i :: is) := veil rfl
theorem selL_nil {l : List Oper} : selL l [] = [] := veil rfl
def selO (o : Option Oper) (r : List Oper) : List Oper := match o with
  | some o => o :: r
  | none => r
theorem selL_cons {l : List Oper} {i : Nat} {is : List Nat} : selL l (i :: is) = selO l[i]? (selL l is) := veil rfl
theorem selO_some {o : Oper} {r : List Oper} : selO (some o) r = o :: r := veil rfl
theorem kindsOf_nil {k : Nat} : kindsOf [] k = [] := veil rfl
theorem kindsOf_cons {i k : Nat} {l : List Nat} {r : List (Nat × List Nat)} : kindsOf ((i, l) :: r) k = bif i == k then l else kindsOf r k := veil rfl
theorem dstOk_some {N t : Nat} (h : t < N) : dstOk N (some t) = True := by simp [dstOk, h]
theorem dstOk_none {N : Nat} : dstOk N none = True := by simp [dstOk]

/-! ### operations -/
def optK' (o : Option AV) (K : AV → Prop) : Prop := match o with | some v => K v | none => False
theorem sP_move {x : Operand} : stepP P ⟨d, .move x, ty, ps, af, gd⟩ ρ K = K (ρ x) := veil rfl
theorem sP_assign {x : Operand} : stepP P ⟨d, .assign x, ty, ps, af, gd⟩ ρ K = K (ρ x) := veil rfl
theorem sP_pick {a b e : Operand} : stepP P ⟨d, .pick a b e, ty, ps, af, gd⟩ ρ K = pickK (ρ a) (K (ρ b)) (K (ρ e)) := veil rfl
theorem sP_binOp {op : BinOp} {t t' : TypeId} {x y : Operand} : stepP P ⟨d, .binOp op t x y t', ty, ps, af, gd⟩ ρ K = binK P op t (ρ x) (ρ y) K := veil rfl
theorem sP_unOp {op : UnOp} {t : TypeId} {x : Operand} : stepP P ⟨d, .unOp op t x, ty, ps, af, gd⟩ ρ K = unK op (ρ x) K := veil rfl
theorem sP_convert {s t : TypeId} {x : Operand} : stepP P ⟨d, .convert s t x, ty, ps, af, gd⟩ ρ K = convK P s t (ρ x) K := veil rfl
theorem sP_extract {x : Operand} {i : Nat} : stepP P ⟨d, .extract x i, ty, ps, af, gd⟩ ρ K = extrK (ρ x) i K := veil rfl
theorem sP_field {t : TypeId} {x : Operand} {i : Nat} : stepP P ⟨d, .field t x i, ty, ps, af, gd⟩ ρ K = fieldK P t (ρ x) i K := veil rfl
theorem sP_index {t : TypeId} {x y : Operand} : stepP P ⟨d, .index t x y, ty, ps, af, gd⟩ ρ K = indexK P t (ρ x) (ρ y) K := veil rfl
theorem sP_indexAddr {t : TypeId} {x y : Operand} : stepP P ⟨d, .indexAddr t x y, ty, ps, af, gd⟩ ρ K = indexAddrK P t (ρ x) (ρ y) K := veil rfl
theorem sP_fieldAddr {t : TypeId} {x : Operand} {i : Nat} : stepP P ⟨d, .fieldAddr t x i, ty, ps, af, gd⟩ ρ K = fieldAddrK P t (ρ x) i K := veil rfl
theorem sP_load {t : TypeId} {x : Operand} : stepP P ⟨d, .load t x, ty, ps, af, gd⟩ ρ K = loadK P t (ρ x) K := veil rfl
theorem sP_slice {t : TypeId} {x : Operand} {lo hi mx : Option Operand} : stepP P ⟨d, .slice t x lo hi mx, ty, ps, af, gd⟩ ρ K = sliceK P t (ρ x) (lo.map ρ) (hi.map ρ) (mx.map ρ) K := veil rfl
theorem sP_build {t : TypeId} {parts : List (Nat × Operand)} : stepP P ⟨d, .build t parts.toArray, ty, ps, af, gd⟩ ρ K = buildK P t (parts.map fun p => (p.1, ρ p.2)) K := veil rfl
theorem sP_buildSlice {t : TypeId} {n : Nat} {parts : List (Nat × Operand)} : stepP P ⟨d, .buildSlice t n parts.toArray, ty, ps, af, gd⟩ ρ K = buildSliceK P t n (parts.map fun p => (p.1, (ρ p.2).strip)) K := veil rfl
theorem sP_makeFunc {f : Fn} {l l' : List Operand} : stepP P ⟨d, .makeFunc f l.toArray l'.toArray, ty, ps, af, gd⟩ ρ K = K (.fn f (l.map fun y => (ρ y).strip) (l'.map fun y => (ρ y).strip)) := veil rfl
theorem sP_makeInterface {t : TypeId} {x : Operand} : stepP P ⟨d, .makeInterface t x, ty, ps, af, gd⟩ ρ K = Req (P.concrete t = true) (K (.ifc t (ρ x).strip)) := veil rfl
theorem sP_len {l : List Operand} {ts : List TypeId} : stepP P ⟨d, .call ⟨.builtin .len, l.toArray, ts.toArray⟩, ty, ps, af, gd⟩ ρ K = len1K P (l.map ρ) ts K := veil rfl
theorem sP_call {f : Operand} {l : List Operand} {ts : Array TypeId} : stepP P ⟨d, .call ⟨.value f, l.toArray, ts⟩, ty, ps, af, gd⟩ ρ K = callPK P (ρ f) (l.map fun y => (ρ y).strip) K := veil rfl

theorem sQ_move {x : Operand} : stepQ P ⟨d, .move x, ty, ps, af, gd⟩ ρ H K = K (ρ x) := veil rfl
theorem sQ_load {t : TypeId} {x : Operand} : stepQ P ⟨d, .load t x, ty, ps, af, gd⟩ ρ H K = loadE P t (ρ x) H K := veil rfl

theorem sK_load {t : TypeId} {x : Operand} : stepK P A ⟨d, .load t x, ty, ps, af, gd⟩ ρ H L = loadE P t (ρ x) H (fun v => L v H) := veil rfl
theorem sK_store {t : TypeId} {a x : Operand} : stepK P A ⟨d, .store t a x, ty, ps, af, gd⟩ ρ H L = storeK P t (ρ a) (ρ x) H L := veil rfl
theorem sK_box {t : TypeId} {x : Operand} : stepK P A ⟨d, .box t x, ty, ps, af, gd⟩ ρ H L = Req ((ρ x).fine = true) (∀ k, k ≠ 0 → H k = none → L (.ptr k 0) (H.set k (.cells (ρ x).cellsOf t (ρ x).cellsOf.length))) := veil rfl
theorem sK_alloc {t : TypeId} : stepK P A ⟨d, .alloc t, ty, ps, af, gd⟩ ρ H L = Req (hasT P t = true) (∀ k, k ≠ 0 → H k = none → L (.ptr k 0) (H.set k (.cells (zeroN P t) t (zeroN P t).length))) := veil rfl
theorem sK_make {t : TypeId} {l e : Operand} : stepK P A ⟨d, .makeSlice t l e, ty, ps, af, gd⟩ ρ H L = makeK P t (sameOp l e) (ρ l) (ρ e) H L := veil rfl
theorem sK_append {l : List Operand} {ts : List TypeId} : stepK P A ⟨d, .call ⟨.builtin .append, l.toArray, ts.toArray⟩, ty, ps, af, gd⟩ ρ H L = bsK (ownAt A d) (own2K P (l.map ρ) ts H L) (append2K P (l.map ρ) ts H L) := veil rfl
theorem sK_call {f : Operand} {l : List Operand} {ts : Array TypeId} : stepK P A ⟨d, .call ⟨.value f, l.toArray, ts⟩, ty, ps, af, gd⟩ ρ H L = callK P (ρ f) (l.map fun y => (ρ y).strip) H L := veil rfl
theorem sK_buildSlice {t : TypeId} {n x : Nat} {parts : List (Nat × Operand)} : stepK P A ⟨some x, .buildSlice t n parts.toArray, ty, ps, af, gd⟩ ρ H L =
  bsK (ownAt A (some x)) (rowK P t n (parts.map fun p => (p.1, (ρ p.2).strip)) H L) (bsK (A.contains x) (baseK P t n (parts.map fun p => (p.1, (ρ p.2).strip)) H L) (buildSliceK P t n (parts.map fun p => (p.1, (ρ p.2).strip)) fun v => L v H)) := veil rfl
theorem sK_move {x : Operand} : stepK P A ⟨d, .move x, ty, ps, af, gd⟩ ρ H L = L (ρ x) H := veil rfl
theorem sK_assign {x : Operand} : stepK P A ⟨d, .assign x, ty, ps, af, gd⟩ ρ H L = L (ρ x) H := veil rfl
theorem sK_pick {a b e : Operand} : stepK P A ⟨d, .pick a b e, ty, ps, af, gd⟩ ρ H L = pickK (ρ a) (L (ρ b) H) (L (ρ e) H) := veil rfl
theorem sK_binOp {op : BinOp} {t t' : TypeId} {x y : Operand} : stepK P A ⟨d, .binOp op t x y t', ty, ps, af, gd⟩ ρ H L = binK P op t (ρ x) (ρ y) (fun v => L v H) := veil rfl
theorem sK_unOp {op : UnOp} {t : TypeId} {x : Operand} : stepK P A ⟨d, .unOp op t x, ty, ps, af, gd⟩ ρ H L = unK op (ρ x) (fun v => L v H) := veil rfl
theorem sK_convert {s t : TypeId} {x : Operand} : stepK P A ⟨d, .convert s t x, ty, ps, af, gd⟩ ρ H L = convE P s t (ρ x) H L := veil rfl
theorem sK_extract {x : Operand} {i : Nat} : stepK P A ⟨d, .extract x i, ty, ps, af, gd⟩ ρ H L = extrK (ρ x) i (fun v => L v H) := veil rfl
theorem sK_field {t : TypeId} {x : Operand} {i : Nat} : stepK P A ⟨d, .field t x i, ty, ps, af, gd⟩ ρ H L = fieldK P t (ρ x) i (fun v => L v H) := veil rfl
theorem sK_index {t : TypeId} {x y : Operand} : stepK P A ⟨d, .index t x y, ty, ps, af, gd⟩ ρ H L = indexK P t (ρ x) (ρ y) (fun v => L v H) := veil rfl
theorem sK_indexAddr {t : TypeId} {x y : Operand} : stepK P A ⟨d, .indexAddr t x y, ty, ps, af, gd⟩ ρ H L = indexAddrK P t (ρ x) (ρ y) (fun v => L v H) := veil rfl
theorem sK_fieldAddr {t : TypeId} {x : Operand} {i : Nat} : stepK P A ⟨d, .fieldAddr t x i, ty, ps, af, gd⟩ ρ H L = fieldAddrK P t (ρ x) i (fun v => L v H) := veil rfl
theorem sK_slice {t : TypeId} {x : Operand} {lo hi mx : Option Operand} : stepK P A ⟨d, .slice t x lo hi mx, ty, ps, af, gd⟩ ρ H L = sliceK P t (ρ x) (lo.map ρ) (hi.map ρ) (mx.map ρ) (fun v => L v H) := veil rfl
theorem sK_build {t : TypeId} {parts : List (Nat × Operand)} : stepK P A ⟨d, .build t parts.toArray, ty, ps, af, gd⟩ ρ H L = buildK P t (parts.map fun p => (p.1, ρ p.2)) (fun v => L v H) := veil rfl
theorem sK_makeFunc {f : Fn} {l l' : List Operand} : stepK P A ⟨d, .makeFunc f l.toArray l'.toArray, ty, ps, af, gd⟩ ρ H L = L (.fn f (l.map fun y => (ρ y).strip) (l'.map fun y => (ρ y).strip)) H := veil rfl
theorem sK_makeInterface {t : TypeId} {x : Operand} : stepK P A ⟨d, .makeInterface t x, ty, ps, af, gd⟩ ρ H L = Req (P.concrete t = true) (L (.ifc t (ρ x).strip) H) := veil rfl
theorem sK_len {l : List Operand} {ts : List TypeId} : stepK P A ⟨d, .call ⟨.builtin .len, l.toArray, ts.toArray⟩, ty, ps, af, gd⟩ ρ H L = len2E P (l.map ρ) ts H (fun v => L v H) := veil rfl
theorem sQ_len {l : List Operand} {ts : List TypeId} : stepQ P ⟨d, .call ⟨.builtin .len, l.toArray, ts.toArray⟩, ty, ps, af, gd⟩ ρ H K = len2E P (l.map ρ) ts H K := veil rfl
theorem sQ_call {f : Operand} {l : List Operand} {ts : Array TypeId} : stepQ P ⟨d, .call ⟨.value f, l.toArray, ts⟩, ty, ps, af, gd⟩ ρ H K = callQK P (ρ f) (l.map fun y => (ρ y).strip) H K := veil rfl
theorem sQ_lookup {t : TypeId} {x y : Operand} {ok : Bool} : stepQ P ⟨d, .lookup t x y ok, ty, ps, af, gd⟩ ρ H K = lookE P t (ρ x) (ρ y) ok H K := veil rfl
theorem sK_lookup {t : TypeId} {x y : Operand} {ok : Bool} : stepK P A ⟨d, .lookup t x y ok, ty, ps, af, gd⟩ ρ H L = lookE P t (ρ x) (ρ y) ok H (fun v => L v H) := veil rfl
theorem sK_upd {t : TypeId} {m x y : Operand} : stepK P A ⟨d, .mapUpdate t m x y, ty, ps, af, gd⟩ ρ H L = updK P t (ρ m) (ρ x) (ρ y) H L := veil rfl
theorem sK_ins {t : TypeId} {m x y : Operand} : stepK P A ⟨d, .insert t m x y, ty, ps, af, gd⟩ ρ H L = updK P t (ρ m) (ρ x) (ρ y) H L := veil rfl
theorem sP_nil {x : Operand} : stepP P ⟨d, .nilCheck x, ty, ps, af, gd⟩ ρ K = optK' (nilA (ρ x)) K := veil (by show nilK _ _ = _; unfold nilK optK'; cases nilA (ρ x) <;> rfl)
theorem sQ_nil {x : Operand} : stepQ P ⟨d, .nilCheck x, ty, ps, af, gd⟩ ρ H K = optK' (nilA (ρ x)) K := sP_nil (P := P) (d := d) (ty := ty) (ps := ps) (af := af) (gd := gd)
theorem sK_nil {x : Operand} : stepK P A ⟨d, .nilCheck x, ty, ps, af, gd⟩ ρ H L = optK' (nilA (ρ x)) (fun v => L v H) := sP_nil (P := P) (d := d) (ty := ty) (ps := ps) (af := af) (gd := gd)
theorem sK_mkmap {t : TypeId} {r : Option Operand} : stepK P A ⟨d, .makeMap t r, ty, ps, af, gd⟩ ρ H L = mapK P r.isSome H L := veil rfl

/-! ### values -/
theorem len1_eq {t : TypeId} {x : AV} : len1K P [x] [t] K = lenK P t x K := veil rfl
theorem app2_eq {t t' : TypeId} {s x : AV} : append2K P [s, x] [t, t'] H L = app3K P (P.underlying t') s x t t' H L := veil rfl
theorem app3_slice {t t' e : TypeId} {s x : AV} : app3K P (some (.slice e)) s x t t' H L = appendK P t t' s x H L := veil rfl
theorem app3_str {t t' : TypeId} {s x : AV} : app3K P (some .string) s x t t' H L = appendK P t t' s x H L := veil rfl
section ints
variable {k : IntKind} {a b : Int} {t : TypeId}
theorem bin_add : binK P .add t (.sc (.int k a)) (.sc (.int k b)) K = K (.sc (.int k (k.wrap (a + b)))) := by simp [binK, binI, Req]
theorem bin_sub : binK P .sub t (.sc (.int k a)) (.sc (.int k b)) K = K (.sc (.int k (k.wrap (a - b)))) := by simp [binK, binI, Req]
theorem bin_mul : binK P .mul t (.sc (.int k a)) (.sc (.int k b)) K = K (.sc (.int k (k.wrap (a * b)))) := by simp [binK, binI, Req]
theorem bin_quo : binK P .quo t (.sc (.int k a)) (.sc (.int k b)) K = Req (b ≠ 0) (K (.sc (.int k (k.wrap (a.tdiv b))))) := by simp [binK, binI, Req]
theorem bin_rem : binK P .rem t (.sc (.int k a)) (.sc (.int k b)) K = Req (b ≠ 0) (K (.sc (.int k (a.tmod b)))) := by simp [binK, binI, Req]
theorem bin_and : binK P .and t (.sc (.int k a)) (.sc (.int k b)) K = K (.sc (.int k (bits .and k a b))) := by simp [binK, binI, Req]
theorem bin_or : binK P .or t (.sc (.int k a)) (.sc (.int k b)) K = K (.sc (.int k (bits .or k a b))) := by simp [binK, binI, Req]
theorem bin_xor : binK P .xor t (.sc (.int k a)) (.sc (.int k b)) K = K (.sc (.int k (bits .xor k a b))) := by simp [binK, binI, Req]
theorem bin_eql : binK P .eql t (.sc (.int k a)) (.sc (.int k b)) K = K (.sc (.bool (a == b))) := by simp [binK, binI, Req]
theorem bin_neq : binK P .neq t (.sc (.int k a)) (.sc (.int k b)) K = K (.sc (.bool (a != b))) := by simp [binK, binI, Req]
theorem bin_lss : binK P .lss t (.sc (.int k a)) (.sc (.int k b)) K = K (.sc (.bool (decide (a < b)))) := by simp [binK, binI, Req]
theorem bin_leq : binK P .leq t (.sc (.int k a)) (.sc (.int k b)) K = K (.sc (.bool (decide (a ≤ b)))) := by simp [binK, binI, Req]
theorem bin_gtr : binK P .gtr t (.sc (.int k a)) (.sc (.int k b)) K = K (.sc (.bool (decide (b < a)))) := by simp [binK, binI, Req]
theorem bin_geq : binK P .geq t (.sc (.int k a)) (.sc (.int k b)) K = K (.sc (.bool (decide (b ≤ a)))) := by simp [binK, binI, Req]
theorem bin_shl {k' : IntKind} : binK P .shl t (.sc (.int k a)) (.sc (.int k' b)) K = Req (0 ≤ b) (K (.sc (.int k (k.wrap (a * 2 ^ min b.toNat k.bits))))) := by simp [binK, shiftI]
theorem bin_shr {k' : IntKind} : binK P .shr t (.sc (.int k a)) (.sc (.int k' b)) K = Req (0 ≤ b) (K (.sc (.int k (a.fdiv (2 ^ min b.toNat k.bits))))) := by simp [binK, shiftI]
theorem bin_seql {x y : ByteArray} : binK P .eql t (.sc (.string x)) (.sc (.string y)) K = K (.sc (.bool (x.toList == y.toList))) := by simp [binK, binS]
theorem bin_sneq {x y : ByteArray} : binK P .neq t (.sc (.string x)) (.sc (.string y)) K = K (.sc (.bool (!(x.toList == y.toList)))) := by simp [binK, binS]
theorem bin_sadd {x y : ByteArray} : binK P .add t (.sc (.string x)) (.sc (.string y)) K = Req (x.size + y.size ≤ maxLen) (K (.sc (.string (x ++ y)))) := by simp [binK, binS]
end ints
/-- by what a type is -/
def convU (P : Program) (us ud : Option TypeDesc) (x : AV) (K : AV → Prop) : Prop := match us, ud, x with
  | some _, some (.int k), .sc (.int _ n) => K (.sc (.int k (k.wrap n)))
  | some .string, some .string, .sc (.string b) => K (.sc (.string b))
  | some (.int _), some .string, .sc (.int _ n) => K (.sc (.string ⟨(runeB n).toArray⟩))
  | some (.slice e), some .string, .imm _ cells n => convB (P.underlying e) cells n K
  | some .string, some (.slice e), .sc (.string b) => Req (P.underlying e = some (.int .u8) ∧ b.size ≤ maxLen) (K (.imm 0 (encB b.data.toList) b.size))
  | _, _, _ => False
theorem conv_eq {s t : TypeId} {x : AV} : convK P s t x K = convU P (P.underlying s) (P.underlying t) x K := veil rfl
@[congr] theorem convU_congr {us us' ud ud' : Option TypeDesc} {x x' : AV} (h : us = us') (g : ud = ud') (e : x = x') : convU P us ud x K = convU P us' ud' x' K := by rw [h, g, e]
theorem conv_int {u : TypeDesc} {k k' : IntKind} {n : Int} : convU P (some u) (some (.int k)) (.sc (.int k' n)) K = K (.sc (.int k (k.wrap n))) := by cases u <;> exact veil rfl
theorem conv_bs {e : TypeId} {k n : Nat} {cells : List AV} : convU P (some (.slice e)) (some .string) (.imm k cells n) K = convB (P.underlying e) cells n K := veil rfl
@[congr] theorem convB_congr {u u' : Option TypeDesc} {cells : List AV} {n : Nat} (h : u = u') : convB u cells n K = convB u' cells n K := by rw [h]
theorem convB_u8 {n : Nat} {cells : List AV} : convB (some (.int .u8)) cells n K = Req (cells.all isU8 = true ∧ cells.length = n) (K (.sc (.string (strOf cells)))) := veil rfl
theorem convB_i32 {n : Nat} {cells : List AV} : convB (some (.int .i32)) cells n K = Req (cells.all isI32 = true ∧ cells.length = n) (K (.sc (.string ⟨((cells.map runeA).flatMap runeB).toArray⟩))) := veil rfl
theorem conv_is {k k' : IntKind} {n : Int} : convU P (some (.int k)) (some .string) (.sc (.int k' n)) K = K (.sc (.string ⟨(runeB n).toArray⟩)) := veil rfl
theorem conv_sb {e : TypeId} {b : ByteArray} : convU P (some .string) (some (.slice e)) (.sc (.string b)) K = Req (P.underlying e = some (.int .u8) ∧ b.size ≤ maxLen) (K (.imm 0 (encB b.data.toList) b.size)) := veil rfl
theorem conv_ss {b : ByteArray} : convU P (some .string) (some .string) (.sc (.string b)) K = K (.sc (.string b)) := veil rfl

/-! ### the rest: the answer's data first, then what follows -/
theorem optK'_eq {o : Option AV} {K : AV → Prop} : optK' o K = optK o K := veil (by cases o <;> rfl)
def extrA (x : AV) (i : Nat) : Option AV := match x with
  | .tup vs => vs[i]?
  | _ => none
theorem extrK_u (x : AV) (i : Nat) (K : AV → Prop) : extrK x i K = optK (extrA x i) K := veil (by
  unfold extrK extrA
  cases x <;> first | rfl | (rename_i vs; simp only []; cases vs[i]? <;> rfl))
def fieldO (u : Option TypeDesc) (f : Nat) : Option Field := match u with
  | some (.struct fields) => fields[f]?
  | _ => none
def aggO (x : AV) : Option (List AV) := match x with | .agg cells => some cells | _ => none
theorem fieldK_u (P : Program) (t : TypeId) (x : AV) (f : Nat) (K : AV → Prop) : fieldK P t x f K = optK (fieldO (P.underlying t) f) fun fd => optK (aggO x) fun cells => optK (partA P fd.type cells fd.offset) K := veil (by
  unfold fieldK fieldO
  cases hu : P.underlying t with
  | none => rfl
  | some u =>
    cases u <;> try rfl
    rename_i fields
    simp only []
    cases x <;> simp only [] <;> generalize fields[f]? = fo <;> cases fo <;> first | rfl | (rename_i cells fd; simp only [optK, aggO]; generalize partA P fd.type cells fd.offset = o; cases o <;> rfl) | skip)
def ixA (P : Program) (u : Option TypeDesc) (x i : AV) : Option (Prop × Prop × AV) := match u, x, i with
  | some (.slice e), .imm _ cells n, .sc (.int _ i) => some (0 ≤ i ∧ i < n ∧ i.toNat * szOf P e < cells.length, hasT P e = true, .ip cells (i.toNat * szOf P e))
  | some (.slice e), .own h off n, .sc (.int _ i) => some (0 ≤ i ∧ i < n, hasT P e = true, .ptr h (off + i.toNat * szOf P e))
  | some (.array n e), .ip cells off, .sc (.int _ i) => some (0 ≤ i ∧ i < n, hasT P e = true, .ip cells (off + i.toNat * szOf P e))
  | some (.array n e), .ptr h off, .sc (.int _ i) => some (0 ≤ i ∧ i < n, hasT P e = true, .ptr h (off + i.toNat * szOf P e))
  | _, _, _ => none
theorem indexAddrK_u (P : Program) (t : TypeId) (x i : AV) (K : AV → Prop) : indexAddrK P t x i K = optK (ixA P (P.underlying t) x i) fun q => Req q.1 (Req q.2.1 (K q.2.2)) := veil (by
  unfold indexAddrK ixA
  generalize P.underlying t = u
  split <;> simp [optK])
def fpA (x : AV) (o : Nat) : Option AV := match x with
  | .ip cells off => some (.ip cells (off + o))
  | .ptr h off => some (.ptr h (off + o))
  | _ => none
theorem fieldAddrK_u (P : Program) (t : TypeId) (x : AV) (f : Nat) (K : AV → Prop) : fieldAddrK P t x f K = optK (fieldO (P.underlying t) f) fun fd => Req (hasT P fd.type = true ∧ szOf P fd.type ≠ 0) (optK (fpA x fd.offset) K) := veil (by
  unfold fieldAddrK fieldO
  cases hu : P.underlying t with
  | none => rfl
  | some u =>
    cases u <;> try rfl
    simp only []
    split <;> rename_i hf <;> simp only [hf, optK]
    cases x <;> rfl)
def liveO (o : Option AObj) : Option (List AV × TypeId × Nat) := match o with
  | some (.cells cs e s) => some (cs, e, s)
  | _ => none
theorem loadK_ip {t : TypeId} {cells : List AV} {off : Nat} : loadK P t (.ip cells off) K = optK (partA P t cells off) K := veil (by
  unfold loadK; simp only []; generalize partA P t cells off = o; cases o <;> rfl)
theorem loadE_ip {t : TypeId} {cells : List AV} {off : Nat} : loadE P t (.ip cells off) H K = optK (partA P t cells off) K := loadK_ip
theorem loadE_ptr {t : TypeId} {h off : Nat} : loadE P t (.ptr h off) H K = optK (liveO (H h)) fun q => optK (partA P t q.1 off) K := veil (by
  unfold loadE
  simp only []
  cases H h with
  | none => rfl
  | some o => cases o <;> first | rfl | (rename_i cs e s; simp only [liveO, optK]; generalize partA P t cs off = o; cases o <;> rfl))
theorem storeK_ptr {t : TypeId} {h off : Nat} {x : AV} : storeK P t (.ptr h off) x H L = optK (liveO (H h)) fun q => Req (hasT P t = true ∧ x.cellsOf.length = szOf P t ∧ off + szOf P t ≤ q.1.length ∧ x.fine = true) (L (.tup []) (H.set h (.cells (putCells q.1 off x.cellsOf) q.2.1 q.2.2))) := veil (by
  unfold storeK
  simp only []
  cases H h with
  | none => rfl
  | some o => cases o <;> rfl)
def cutA (P : Program) (u : Option TypeDesc) (x : AV) (lo hi mx : Option AV) : Option (Prop × Prop × AV) := match u, x, mx with
  | some (.slice e), .imm _ cells n, none => (match bnd lo 0, bnd hi n with
    | some l, some h => some (0 ≤ l ∧ l ≤ h ∧ h ≤ n, hasT P e = true ∧ cells.length = n * szOf P e, .imm 0 ((cells.drop (l.toNat * szOf P e)).take ((h.toNat - l.toNat) * szOf P e)) (h.toNat - l.toNat))
    | _, _ => none)
  | some .string, .sc (.string s), none => (match bnd lo 0, bnd hi s.size with
    | some l, some h => some (0 ≤ l ∧ l ≤ h ∧ h ≤ s.size, True, .sc (.string (s.extract l.toNat h.toNat)))
    | _, _ => none)
  | some (.slice e), .own k off n, none => (match bnd lo 0, bnd hi n with
    | some l, some h => some (l = 0 ∧ 0 ≤ h ∧ h ≤ n, hasT P e = true, .own k off h.toNat)
    | _, _ => none)
  | some (.slice e), .imm _ cells n, some m => (match bnd lo 0, bnd hi n, bnd (some m) n with
    | some l, some h, some m => some (0 ≤ l ∧ l ≤ h ∧ h ≤ m ∧ m ≤ n, hasT P e = true ∧ cells.length = n * szOf P e ∧ hi.isSome = true, .imm 0 ((cells.drop (l.toNat * szOf P e)).take ((h.toNat - l.toNat) * szOf P e)) (h.toNat - l.toNat))
    | _, _, _ => none)
  | some (.array n e), .ip cells off, none => (match bnd lo 0, bnd hi n with
    | some l, some h => some (0 ≤ l ∧ l ≤ h ∧ h ≤ n ∧ n ≤ maxLen, hasT P e = true ∧ off + n * szOf P e ≤ cells.length, .imm 0 ((cells.drop (off + l.toNat * szOf P e)).take ((h.toNat - l.toNat) * szOf P e)) (h.toNat - l.toNat))
    | _, _ => none)
  | _, _, _ => none
theorem sliceK_u (P : Program) (t : TypeId) (x : AV) (lo hi mx : Option AV) (K : AV → Prop) : sliceK P t x lo hi mx K = optK (cutA P (P.underlying t) x lo hi mx) fun q => Req q.1 (Req q.2.1 (K q.2.2)) := veil (by
  unfold sliceK cutA
  generalize P.underlying t = u
  split
  · rename_i e k cells n
    simp only []
    generalize bnd lo 0 = b1
    generalize bnd hi n = b2
    cases b1 <;> cases b2 <;> rfl
  · rename_i s
    simp only []
    generalize bnd lo 0 = b1
    generalize bnd hi s.size = b2
    cases b1 <;> cases b2 <;> simp [optK, Req]
  · rename_i e k off n
    simp only []
    generalize bnd lo 0 = b1
    generalize bnd hi n = b2
    cases b1 <;> cases b2 <;> rfl
  · rename_i e k cells n m
    simp only []
    generalize bnd lo 0 = b1
    generalize bnd hi n = b2
    generalize bnd (some m) n = b3
    cases b1 <;> cases b2 <;> cases b3 <;> rfl
  · rename_i n e cells off
    simp only []
    generalize bnd lo 0 = b1
    generalize bnd hi n = b2
    cases b1 <;> cases b2 <;> rfl
  · simp [optK])
def lenA (u : Option TypeDesc) (x : AV) : Option AV := match u, x with
  | some (.slice _), .imm _ _ n => some (.sc (.int .i64 n))
  | some (.slice _), .own _ _ n => some (.sc (.int .i64 n))
  | some (.slice _), .sc (.slice none 0 0) => some (.sc (.int .i64 0))
  | some .string, .sc (.string s) => some (.sc (.int .i64 s.size))
  | some (.array n _), _ => some (.sc (.int .i64 n))
  | _, _ => none
theorem lenK_u (P : Program) (t : TypeId) (x : AV) (K : AV → Prop) : lenK P t x K = optK (lenA (P.underlying t) x) K := veil (by
  unfold lenK lenA
  generalize P.underlying t = u
  split <;> simp [optK])
def aggA (P : Program) (u : Option TypeDesc) (t : TypeId) (parts : List (Nat × AV)) : Option (Prop × Option (List AV)) := match u with
  | some (.struct fields) => some (hasT P t = true ∧ fields.all (fun f => hasT P f.type) = true, fillA (fun i => (fields[i]?).map fun f => (f.offset, szOf P f.type)) (zeroN P t) parts)
  | some (.array _ e) => some (hasT P t = true ∧ hasT P e = true, fillA (fun i => some (i * szOf P e, szOf P e)) (zeroN P t) parts)
  | _ => none
theorem buildK_u (P : Program) (t : TypeId) (parts : List (Nat × AV)) (K : AV → Prop) : buildK P t parts K = optK (aggA P (P.underlying t) t parts) fun q => Req q.1 (optK q.2 fun cs => K (.agg cs)) := veil (by
  unfold buildK aggA
  generalize P.underlying t = u
  split <;> simp only [optK] <;> congr 1 <;> (generalize fillA _ _ _ = o; cases o <;> rfl))
def rowA (P : Program) (u : Option TypeDesc) (n : Nat) (parts : List (Nat × AV)) : Option (Prop × TypeId × Option (List AV)) := match u with
  | some (.slice e) => some (hasT P e = true ∧ n * szOf P e ≤ 16777216 ∧ 0 < szOf P e, e, fillA (fun i => some (i * szOf P e, szOf P e)) (repA (zeroA P e) n) parts)
  | _ => none
theorem buildSliceK_u (P : Program) (t : TypeId) (n : Nat) (parts : List (Nat × AV)) (K : AV → Prop) : buildSliceK P t n parts K = optK (rowA P (P.underlying t) n parts) fun q => Req q.1 (optK q.2.2 fun cs => K (.imm 0 cs n)) := veil (by
  unfold buildSliceK rowA
  generalize P.underlying t = u
  split <;> simp only [optK] <;> congr 1 <;> (generalize fillA _ _ _ = o; cases o <;> rfl))
theorem baseK_u (P : Program) (t : TypeId) (n : Nat) (parts : List (Nat × AV)) (H : AH) (K : AV → AH → Prop) : baseK P t n parts H K = optK (rowA P (P.underlying t) n parts) fun q => Req q.1 (optK q.2.2 fun cs => ∀ k, k ≠ 0 → H k = none → K (.imm k cs n) (H.set k (.tail cs.length q.2.1 (szOf P q.2.1)))) := veil (by
  unfold baseK rowA
  generalize P.underlying t = u
  split <;> simp only [optK] <;> congr 1 <;> (generalize fillA _ _ _ = o; cases o <;> rfl))
def killO (H : AH) (k : Option Nat) : AH := match k with | some k => H.kill k | none => H
theorem killO_some {H : AH} {k : Nat} : killO H (some k) = H.kill k := veil rfl
theorem killO_none {H : AH} : killO H none = H := veil rfl
/-- what an append answers: conditions, the element's type, the token that falls, cells, length -/
def appA (P : Program) (H : AH) (u : Option TypeDesc) (src : Option (List AV × Nat)) (s : AV) : Option (Prop × Prop × Prop × TypeId × Option Nat × List AV × Nat) := match u, src, s with
  | some (.slice e), some (news, m), .imm k cells n => (match H k with
    | some o => some (TokO e (szOf P e) o cells.length, k ≠ 0 ∧ cells.length = n * szOf P e ∧ news.length = m * szOf P e ∧ 0 < szOf P e ∧ hasT P e = true, n + m ≤ maxLen ∧ (n + m) * byOf P e ≤ 140737488355328, e, some k, cells ++ news, n + m)
    | none => none)
  | some (.slice e), some (news, m), .sc (.slice none 0 0) => some (True, news.length = m * szOf P e ∧ 0 < szOf P e ∧ hasT P e = true, m ≤ maxLen ∧ m * byOf P e ≤ 140737488355328, e, none, news, m)
  | _, _, _ => none
theorem appendK_u (P : Program) (t t' : TypeId) (s x : AV) (H : AH) (K : AV → AH → Prop) : appendK P t t' s x H K = optK (appA P H (P.underlying t) (srcA P H t' x) s) fun q => Req q.1 (Req q.2.1 (Req q.2.2.1
    (∀ k' o', k' ≠ 0 → H k' = none → TokO q.2.2.2.1 (szOf P q.2.2.2.1) o' q.2.2.2.2.2.1.length → K (.imm k' q.2.2.2.2.2.1 q.2.2.2.2.2.2) ((killO H q.2.2.2.2.1).set k' o')))) := veil (by
  unfold appendK appA
  generalize P.underlying t = u
  generalize srcA P H t' x = sr
  split
  · rename_i e news m
    split
    · rename_i k cells n
      generalize hk : H k = o
      cases o <;> simp only [hk, optK, killO]
    · simp [optK, killO, Req]
    · rename_i h1 h2
      split
      · rename_i e' n' m' k' c' l' _ hx _; exact absurd rfl (h1 _ _ _)
      · exact absurd rfl h2
      · rfl
  · rename_i hn
    split
    · exact absurd rfl (hn _ _ _ rfl)
    · exact absurd rfl (hn _ _ _ rfl)
    · rfl)
def mkA (u : Option TypeDesc) (l c : AV) : Option (TypeId × Int × Int) := match u, l, c with
  | some (.slice e), .sc (.int _ l), .sc (.int _ c) => some (e, l, c)
  | _, _, _ => none
theorem makeK_u (P : Program) (t : TypeId) (same : Bool) (l c : AV) (H : AH) (K : AV → AH → Prop) : makeK P t same l c H K = optK (mkA (P.underlying t) l c) fun q => Req (hasT P q.1 = true) (Req (0 ≤ q.2.2 ∧ byOf P q.1 * q.2.2 ≤ 281474976710656 ∧ q.2.2 ≤ maxLen)
      (bsK same (Req (q.2.1 = q.2.2) (∀ k, k ≠ 0 → H k = none → K (.own k 0 q.2.2.toNat) (H.set k (.cells (repA (zeroA P q.1) q.2.2.toNat) q.1 (szOf P q.1)))))
       (Req (q.2.1 = 0) (∀ k, k ≠ 0 → H k = none → K (.imm k [] 0) (H.set k (.tail 0 q.1 (szOf P q.1))))))) := veil (by
  unfold makeK mkA
  generalize P.underlying t = u
  split
  · simp only [optK]; cases same <;> rfl
  · simp [optK])
theorem callK_fn (P : Program) (f : FuncId) (fi ca args : List AV) (H : AH) (K : AV → AH → Prop) : callK P (.fn (.func f) fi ca) args H K = ACalls P f (fi ++ args ++ ca) H K := veil rfl
theorem callK_of (P : Program) (fx : AV) (args : List AV) (H : AH) (K : AV → AH → Prop) (h : ACallV P fx args H K) : callK P fx args H K := by
  unfold callK
  cases fx with
  | fn f a b => cases f <;> first | exact ACallV.calls h | exact h
  | _ => exact h
theorem callPK_u (P : Program) (fx : AV) (args : List AV) (K : AV → Prop) : callPK P fx args K = optK (funcA fx) fun q => ∃ v, APure P q.1 (q.2.1 ++ args ++ q.2.2) v ∧ K v := veil (by
  unfold callPK; cases funcA fx <;> rfl)
theorem cwp_scope {a : Code} : cwp c (.scope a) Q σ H = ScopeG c a Q σ H := veil rfl
theorem cwp_range {g : Operand} {ps : Array Tmp} {as a : Code} : cwp c (.rangeFunc g ps as a) Q σ H = RangeG c g ps as a Q σ H := veil rfl
theorem AJump_normal {l : Nat} {J : Sg → AH → Prop} : AJump l J Q .normal σ H = Q .normal σ H := veil rfl
theorem AJump_ret {l : Nat} {J : Sg → AH → Prop} : AJump l J Q .ret σ H = Q .ret σ H := veil rfl
theorem AJump_exit {l id : Nat} {J : Sg → AH → Prop} : AJump l J Q (.exit id) σ H = Q (.exit id) σ H := veil rfl
theorem AJump_goto {l l' : Nat} {J : Sg → AH → Prop} : AJump l J Q (.goto l') σ H = (l' = l ∧ J σ H) := veil rfl
def unA (op : UnOp) (x : AV) : Option AV := match op, x with
  | .not, .sc (.bool b) => some (.sc (.bool (!b)))
  | .neg, .sc (.int k n) => some (.sc (.int k (k.wrap (0 - n))))
  | _, _ => none
theorem unK_u (op : UnOp) (x : AV) (K : AV → Prop) : unK op x K = optK (unA op x) K := veil (by unfold unK unA; split <;> simp [optK])
def indA (P : Program) (u : Option TypeDesc) (x i : AV) : Option (Prop × AV) := match u, x, i with
  | some .string, .sc (.string s), .sc (.int _ i) => some (0 ≤ i ∧ i < s.size, .sc (.int .u8 (s.data.toList.getD i.toNat 0).toNat))
  | some (.array n e), .agg cells, .sc (.int _ i) => some (0 ≤ i ∧ i < n ∧ hasT P e = true ∧ indexK.aggOf P e = false ∧ i.toNat * szOf P e < cells.length, cells.getD (i.toNat * szOf P e) .any)
  | _, _, _ => none
theorem index_u (P : Program) (t : TypeId) (x i : AV) (K : AV → Prop) : indexK P t x i K = optK (indA P (P.underlying t) x i) fun q => Req q.1 (K q.2) := veil (by
  unfold indexK indA
  generalize P.underlying t = u
  split <;> simp [optK])
end Go.Abs
