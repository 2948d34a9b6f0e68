/-
  SuiteBoxes: the call returns true for every input of bulk at most 1048576, and its arguments read as they did.
  Conditions: the statement's own.
-/
import Derived.Test.YtibipjdngpjndaaRows
import Derived.Test.YtibipjdngpjndaaByBoxes
import Derived.JoinedCond
set_option linter.all false
namespace Go.Proofs.Ytibipjdngpjndaa.suiteBoxes
open Go Go.Abs Go.RowKit Go.ChangeShapes Go.WideShapes Go.ChangeAt
set_option linter.unusedVariables false
set_option maxRecDepth 20000

theorem own : ownKnob Try.prog.godebug = none := by kernel_rfl
theorem laidOut : laidOutB Try.prog = true := by kernel_rfl
mutual
theorem bulk_le {H : Type} : (d : DataW H) → cN d ≤ Rows.uptoBulk d
  | .lit (.string _) => by simp only [Rows.uptoBulk,cN]; omega
  | .lit (.bool _) => by simp only [Rows.uptoBulk,cN]; omega
  | .lit (.int _ _) => by simp only [Rows.uptoBulk,cN]; omega
  | .lit (.float _ _) => by simp only [Rows.uptoBulk,cN]; omega
  | .lit .nil => by simp only [Rows.uptoBulk,cN]; omega
  | .nil => by simp only [Rows.uptoBulk,cN]; omega
  | .ptr d => by simp only [Rows.uptoBulk,cN]; omega
  | .slice e s => by have h1 := dl0 e; have h2 := dl0 s; simp only [Rows.uptoBulk,cN]; omega
  | .agg l => by have h1 := dl0 l; simp only [Rows.uptoBulk,cN]; omega
  | .iface _ d => by simp only [Rows.uptoBulk,cN]; omega
  | .map l => by simp only [Rows.uptoBulk,cN]; omega
  | .held _ => by simp only [Rows.uptoBulk,cN]; omega
theorem dl0 {H : Type} : (l : List (DataW H)) → cd l ≤ Rows.uptoBulkAll l
  | [] => by simp only [Rows.uptoBulkAll,cd]; omega
  | d :: r => by have h1 := bulk_le d; have h2 := dl0 r; simp only [Rows.uptoBulkAll,cd]; omega
end

theorem walk (x0 : (List UInt8)) (x1 : Int) (x2 : (List UInt8)) (x3 : (List UInt8)) (o0 : Try.ty22.ok x0) (o1 : Try.ty3.ok x1) (o2 : Try.ty22.ok x2) (o3 : Try.ty22.ok x3) (hb : Try.ty22.size x0 + Try.ty3.size x1 + Try.ty22.size x2 + Try.ty22.size x3 ≤ 1048576) :
    APure Try.prog 3 [((Try.ty22.enc x0).getD 0 .any),((Try.ty3.enc x1).getD 0 .any),((Try.ty22.enc x2).getD 0 .any),((Try.ty22.enc x3).getD 0 .any)] (.sc (.bool true)) := suite_boxes x0 x1 x2 x3 o1 hb

theorem contract (H : Type) (enc : TypeId × Value → H) (W : World) (base : Nat) (args : Array Value) (ds gs : List (DataW H)) (before : List MemPlace)
    (hval0 : ∀ (j : Nat) t v,Try.f3.params[j]? = some t → args[j]? = some v → Value.okWide Try.prog W .any base t v)
    (hW : DataW.Whole enc Try.prog Try.f3.params.toList Rows.suiteBoxesSpec.vars false W args.toList ds gs before) (hk : Rows.uptoSmall H (ds ++ gs) = true) :
    Calls Try.prog 3 args W fun e W' => ∃ v,e = .returned v ∧ Rows.suiteBoxesSpec.post enc Try.prog Try.f3 false true false false W args v W' := by
  have hval := hval0
  have hW' := hW
  obtain ⟨p,q,hA0,hV,rfl,hfz,hnd⟩ := hW
  have hA : DataW.TrodAll enc Try.prog W 0 (fun _ => true) true Try.f3.params.toList args.toList ds p := hA0
  rw [Try.params3] at hA hval
  obtain ⟨v0,vs0,d0,ds0,p0,q0,hargs,rfl,rfl,h0,r0⟩ := trodAll_cons hA
  obtain ⟨v1,vs1,d1,ds1,p1,q1,rfl,rfl,rfl,h1,r1⟩ := trodAll_cons r0
  obtain ⟨v2,vs2,d2,ds2,p2,q2,rfl,rfl,rfl,h2,r2⟩ := trodAll_cons r1
  obtain ⟨v3,vs3,d3,ds3,p3,q3,rfl,rfl,rfl,h3,r3⟩ := trodAll_cons r2
  obtain ⟨rfl,rfl,rfl⟩ := trodAll_nil r3
  obtain rfl : args = #[v0,v1,v2,v3] := by cases args; simp_all
  obtain ⟨rfl,rfl⟩ := trodVars_none hV
  have hsum : cd [d0,d1,d2,d3] ≤ 1048576 := Nat.le_trans (dl0 _) (by rw [List.append_nil] at hk; exact of_decide_eq_true hk)
  simp only [cd] at hsum
  obtain ⟨a0,l0,c0,rfl⟩ := okWide_slice Try.underlying22 (hval 0 22 v0 rfl rfl)
  have k0 := h0
  have lt0 : ∀ x ∈ p0,x.block < W.heap.size := by obtain ⟨m,hm⟩ := k0; exact DataW.trod_lt m _ _ _ hm
  obtain ⟨fuel0,hf0⟩ := h0
  obtain ⟨x0,o0,s0,t0⟩ := Try.ty22.rd hf0
  obtain ⟨a1,rfl⟩ := okWide_int Try.underlying3 (hval 1 3 v1 rfl rfl)
  have k1 := h1
  have lt1 : ∀ x ∈ p1,x.block < W.heap.size := by obtain ⟨m,hm⟩ := k1; exact DataW.trod_lt m _ _ _ hm
  obtain ⟨fuel1,hf1⟩ := h1
  obtain ⟨x1,o1,s1,t1⟩ := Try.ty3.rd hf1
  obtain ⟨a2,l2,c2,rfl⟩ := okWide_slice Try.underlying22 (hval 2 22 v2 rfl rfl)
  have k2 := h2
  have lt2 : ∀ x ∈ p2,x.block < W.heap.size := by obtain ⟨m,hm⟩ := k2; exact DataW.trod_lt m _ _ _ hm
  obtain ⟨fuel2,hf2⟩ := h2
  obtain ⟨x2,o2,s2,t2⟩ := Try.ty22.rd hf2
  obtain ⟨a3,l3,c3,rfl⟩ := okWide_slice Try.underlying22 (hval 3 22 v3 rfl rfl)
  have k3 := h3
  have lt3 : ∀ x ∈ p3,x.block < W.heap.size := by obtain ⟨m,hm⟩ := k3; exact DataW.trod_lt m _ _ _ hm
  obtain ⟨fuel3,hf3⟩ := h3
  obtain ⟨x3,o3,s3,t3⟩ := Try.ty22.rd hf3
  refine (calls_true (by kernel_rfl) (fun _ _ h => absurd (show none = some _ from h) (by simp)) (walk x0 x1 x2 x3 o0 o1 o2 o3 (by omega)) (vrs_cons (arg_one rfl t0) (vrs_cons (arg_one rfl t1) (vrs_cons (arg_one rfl t2) (vrs_cons (arg_one rfl t3) vrs_nil))))).mono fun e W' ⟨he,bel⟩ => ?_
  subst he
  exact ⟨_,rfl,_,_,_,[],_,[],hW',trodAll_mk1 (shut_bool Try.underlying4 _),(trodAll_cons_mk (Below.trod laidOut (by kernel_rfl) (of_decide_eq_true (by kernel_rfl)) k0 bel lt0) (trodAll_cons_mk (Below.trod laidOut (by kernel_rfl) (of_decide_eq_true (by kernel_rfl)) k1 bel lt1) (trodAll_cons_mk (Below.trod laidOut (by kernel_rfl) (of_decide_eq_true (by kernel_rfl)) k2 bel lt2) (trodAll_cons_mk (Below.trod laidOut (by kernel_rfl) (of_decide_eq_true (by kernel_rfl)) k3 bel lt3) trodAll_mk0)))),rfl,bel.frame _,fun h => by cases h⟩

set_option maxRecDepth 100000 in
theorem lifted (os : Os) (started : os.Started) (H : Type) (enc : TypeId × Value → H) (F : Stop.Interp) :
    ReturnsInHanded {} Try.checked os 3 .any ((Rows.OpenSpec.upto Rows.suiteBoxesSpec).pre6 enc Try.prog Try.f3 Rows.suiteBoxesUptoRow.domain false) (((Rows.OpenSpec.upto Rows.suiteBoxesSpec).at F).post enc Try.prog Try.f3 false true false false) := by
  refine returnsInHanded_of_cond (C := Try.checked) (s := Rows.OpenSpec.upto Rows.suiteBoxesSpec) (k := Rows.uptoSmall) rfl own started (by kernel_rfl) Try.func3
    (OpenSpec.witness (enc := enc) (C := Try.checked) (s := Rows.OpenSpec.upto Rows.suiteBoxesSpec) (k := Rows.uptoSmall) rfl false ⟨#[],#[.slice none 0 0,.int .i64 0,.slice none 0 0,.slice none 0 0],[]⟩ 8 (by kernel_rfl) (by kernel_rfl) (by kernel_rfl)
      (x := ([.nil,.lit (.int .i64 0),.nil,.nil],[],[])) (by kernel_rfl) rfl (by kernel_rfl)) ?_
  intro W base args ds gs before hval hW _ hk _
  exact contract H enc W base args ds gs before hval hW hk

theorem over : Rows.suiteBoxesUptoRow.holds Try.pinned (Rows.OpenSpec.upto Rows.suiteBoxesSpec) :=
  OpenClaim.holds_of_cond 3 Try.f3 rfl rfl rfl rfl rfl rfl rfl ⟨rfl,rfl,rfl,rfl,rfl⟩ rfl rfl rfl rfl rfl (by kernel_rfl) Try.func3 (by kernel_rfl)
    (of_decide_eq_true (by kernel_rfl)) (by unfold Func.isWrapper; first | (rw [if_pos (by decide +kernel)]; kernel_rfl) | (rw [if_neg (by decide +kernel)]; exact ⟨rfl,rfl⟩))
    (fun os started H enc _ F => lifted os started H enc F)

theorem proved : Rows.SuiteBoxesUptoSaid := over
#print axioms proved
end Go.Proofs.Ytibipjdngpjndaa.suiteBoxes
