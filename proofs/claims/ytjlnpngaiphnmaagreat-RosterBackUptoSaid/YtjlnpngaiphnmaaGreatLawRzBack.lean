/-
  RosterBack: the call returns true for every input of bulk at most 1048576, and its arguments read as they did.
  Conditions: the statement's own.
-/
import Derived.Test.YtjlnpngaiphnmaaGreatRows
import Derived.Test.YtjlnpngaiphnmaaGreatRzBack
import Derived.JoinedCond
set_option linter.all false
namespace Go.Proofs.YtjlnpngaiphnmaaGreat.rosterBack
open Go Go.Abs Go.RowKit Go.ChangeShapes Go.WideShapes Go.ChangeAt
set_option linter.unusedVariables false
set_option maxRecDepth 20000

theorem own : ownKnob Tryz.prog.godebug = none := by kernel_rfl
theorem laidOut : laidOutB Tryz.prog = true := by kernel_rfl
mutual
theorem bulk_le {H : Type} : (d : DataW H) → cN d ≤ Rows.uptoBulk d
  | .lit (.string _) => by simp only [Rows.uptoBulk,cN]; omega
  | .lit (.bool _) => by simp only [Rows.uptoBulk,cN]; omega
  | .lit (.int _ _) => by simp only [Rows.uptoBulk,cN]; omega
  | .lit (.float _ _) => by simp only [Rows.uptoBulk,cN]; omega
  | .lit .nil => by simp only [Rows.uptoBulk,cN]; omega
  | .nil => by simp only [Rows.uptoBulk,cN]; omega
  | .ptr d => by simp only [Rows.uptoBulk,cN]; omega
  | .slice e s => by have h1 := dl e; have h2 := dl s; simp only [Rows.uptoBulk,cN]; omega
  | .agg l => by have h1 := dl l; simp only [Rows.uptoBulk,cN]; omega
  | .iface _ d => by simp only [Rows.uptoBulk,cN]; omega
  | .map l => by simp only [Rows.uptoBulk,cN]; omega
  | .held _ => by simp only [Rows.uptoBulk,cN]; omega
theorem dl {H : Type} : (l : List (DataW H)) → cd l ≤ Rows.uptoBulkAll l
  | [] => by simp only [Rows.uptoBulkAll,cd]; omega
  | d :: r => by have h1 := bulk_le d; have h2 := dl r; simp only [Rows.uptoBulkAll,cd]; omega
end

theorem walk (x0 : (List (UInt8 × Bool × Bool × (List (Int × Int × Unit)) × UInt8 × Bool × Int × UInt8 × Unit))) (x1 : UInt8) (o0 : Tryz.ty45.ok x0) (o1 : Tryz.ty5.ok x1) (hb : Tryz.ty45.size x0 + Tryz.ty5.size x1 ≤ 1048576) :
    APure Tryz.prog 4 [((Tryz.ty45.enc x0).getD 0 .any),((Tryz.ty5.enc x1).getD 0 .any)] (.sc (.bool true)) := roster_back x0 x1 hb

theorem contract (H : Type) (enc : TypeId × Value → H) (W : World) (base : Nat) (args : Array Value) (ds gs : List (DataW H)) (before : List MemPlace)
    (hval0 : ∀ (j : Nat) t v,Tryz.f4.params[j]? = some t → args[j]? = some v → Value.okWide Tryz.prog W .any base t v)
    (hW : DataW.Whole enc Tryz.prog Tryz.f4.params.toList Rows.rosterBackSpec.vars false W args.toList ds gs before) (hk : Rows.uptoSmall H (ds ++ gs) = true) :
    Calls Tryz.prog 4 args W fun e W' => ∃ v,e = .returned v ∧ Rows.rosterBackSpec.post enc Tryz.prog Tryz.f4 false true false false W args v W' := by
  have hval := hval0
  have hW' := hW
  obtain ⟨p,q,hA0,hV,rfl,hfz,hnd⟩ := hW
  have hA : DataW.TrodAll enc Tryz.prog W 0 (fun _ => true) true Tryz.f4.params.toList args.toList ds p := hA0
  rw [Tryz.params4] at hA hval
  obtain ⟨v0,vs0,d0,ds0,p0,q0,hargs,rfl,rfl,h0,r0⟩ := trodAll_cons hA
  obtain ⟨v1,vs1,d1,ds1,p1,q1,rfl,rfl,rfl,h1,r1⟩ := trodAll_cons r0
  obtain ⟨rfl,rfl,rfl⟩ := trodAll_nil r1
  obtain rfl : args = #[v0,v1] := by cases args; simp_all
  obtain ⟨rfl,rfl⟩ := trodVars_none hV
  have hsum : cd [d0,d1] ≤ 1048576 := Nat.le_trans (dl _) (by rw [List.append_nil] at hk; exact of_decide_eq_true hk)
  simp only [cd] at hsum
  obtain ⟨a0,l0,c0,rfl⟩ := okWide_slice Tryz.underlying45 (hval 0 45 v0 rfl rfl)
  have k0 := h0
  have lt0 : ∀ x ∈ p0,x.block < W.heap.size := by obtain ⟨m,hm⟩ := k0; exact DataW.trod_lt m _ _ _ hm
  obtain ⟨fuel0,hf0⟩ := h0
  obtain ⟨x0,o0,s0,t0⟩ := Tryz.ty45.rd hf0
  obtain ⟨a1,rfl⟩ := okWide_int Tryz.underlying5 (hval 1 5 v1 rfl rfl)
  have k1 := h1
  have lt1 : ∀ x ∈ p1,x.block < W.heap.size := by obtain ⟨m,hm⟩ := k1; exact DataW.trod_lt m _ _ _ hm
  obtain ⟨fuel1,hf1⟩ := h1
  obtain ⟨x1,o1,s1,t1⟩ := Tryz.ty5.rd hf1
  refine (calls_true (by kernel_rfl) (walk x0 x1 o0 o1 (by omega)) (vrs_cons (arg_one rfl t0) (vrs_cons (arg_one rfl t1) vrs_nil))).mono fun e W' ⟨he,bel⟩ => ?_
  subst he
  exact ⟨_,rfl,_,_,_,[],_,[],hW',trodAll_mk1 (shut_bool Tryz.underlying4 _),(trodAll_cons_mk (Below.trod laidOut (by kernel_rfl) (of_decide_eq_true (by kernel_rfl)) k0 bel lt0) (trodAll_cons_mk (Below.trod laidOut (by kernel_rfl) (of_decide_eq_true (by kernel_rfl)) k1 bel lt1) trodAll_mk0)),rfl,bel.frame _,fun h => by cases h⟩

set_option maxRecDepth 100000 in
theorem lifted (os : Os) (started : os.Started) (H : Type) (enc : TypeId × Value → H) (F : Stop.Interp) :
    ReturnsInHanded {} Tryz.checked os 4 .any ((Rows.OpenSpec.upto Rows.rosterBackSpec).pre6 enc Tryz.prog Tryz.f4 Rows.rosterBackUptoRow.domain false) (((Rows.OpenSpec.upto Rows.rosterBackSpec).at F).post enc Tryz.prog Tryz.f4 false true false false) := by
  refine returnsInHanded_of_cond (C := Tryz.checked) (s := Rows.OpenSpec.upto Rows.rosterBackSpec) (k := Rows.uptoSmall) rfl own started (by kernel_rfl) Tryz.func4
    (OpenSpec.witness (enc := enc) (C := Tryz.checked) (s := Rows.OpenSpec.upto Rows.rosterBackSpec) (k := Rows.uptoSmall) rfl false ⟨#[],#[.slice none 0 0,.int .u8 0],[]⟩ 8 (by kernel_rfl) (by kernel_rfl) (by kernel_rfl)
      (x := ([.nil,.lit (.int .u8 0)],[],[])) (by kernel_rfl) rfl (by kernel_rfl)) ?_
  intro W base args ds gs before hval hW _ hk _
  exact contract H enc W base args ds gs before hval hW hk

theorem over : Rows.rosterBackUptoRow.holds Tryz.pinned (Rows.OpenSpec.upto Rows.rosterBackSpec) :=
  OpenClaim.holds_of_cond 4 Tryz.f4 rfl rfl rfl rfl rfl rfl rfl ⟨rfl,rfl,rfl,rfl,rfl⟩ rfl rfl rfl rfl rfl (by kernel_rfl) Tryz.func4 (by kernel_rfl)
    (of_decide_eq_true (by kernel_rfl)) (by unfold Func.isWrapper; first | (rw [if_pos (by decide +kernel)]; kernel_rfl) | (rw [if_neg (by decide +kernel)]; exact ⟨rfl,rfl⟩))
    (fun os started H enc _ F => lifted os started H enc F)

theorem proved : Rows.RosterBackUptoSaid := over
#print axioms proved
end Go.Proofs.YtjlnpngaiphnmaaGreat.rosterBack
