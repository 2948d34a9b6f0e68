/-
  RosterGrows: the call returns true for every input of bulk at most 1048576, and its arguments read as they did.
  Conditions: the statement's own.
-/
import Derived.Test.YtjlnpngaiphnmaaRows
import Derived.Test.YtjlnpngaiphnmaaRGrows
import Derived.JoinedCond
set_option linter.all false
namespace Go.Proofs.Ytjlnpngaiphnmaa.rosterGrows
open Go Go.Abs Go.RowKit Go.ChangeShapes Go.WideShapes Go.ChangeAt
set_option linter.unusedVariables false
set_option maxRecDepth 20000

theorem own : ownKnob Try.prog.godebug = none := by kernel_rfl
theorem laidOut : laidOutB Try.prog = true := by kernel_rfl
mutual
theorem bulk_le {H : Type} : (d : DataW H) → cN d ≤ Rows.uptoBulk d
  | .lit (.string _) => by simp only [Rows.uptoBulk,cN]; omega
  | .lit (.bool _) => by simp only [Rows.uptoBulk,cN]; omega
  | .lit (.int _ _) => by simp only [Rows.uptoBulk,cN]; omega
  | .lit (.float _ _) => by simp only [Rows.uptoBulk,cN]; omega
  | .lit .nil => by simp only [Rows.uptoBulk,cN]; omega
  | .nil => by simp only [Rows.uptoBulk,cN]; omega
  | .ptr d => by simp only [Rows.uptoBulk,cN]; omega
  | .slice e s => by have h1 := dl e; have h2 := dl s; simp only [Rows.uptoBulk,cN]; omega
  | .agg l => by have h1 := dl l; simp only [Rows.uptoBulk,cN]; omega
  | .iface _ d => by simp only [Rows.uptoBulk,cN]; omega
  | .map l => by simp only [Rows.uptoBulk,cN]; omega
  | .held _ => by simp only [Rows.uptoBulk,cN]; omega
theorem dl {H : Type} : (l : List (DataW H)) → cd l ≤ Rows.uptoBulkAll l
  | [] => by simp only [Rows.uptoBulkAll,cd]; omega
  | d :: r => by have h1 := bulk_le d; have h2 := dl r; simp only [Rows.uptoBulkAll,cd]; omega
end

theorem walk (x0 : (List (UInt8 × Bool × Bool × (List (Int × Int × Unit)) × UInt8 × Bool × Int × UInt8 × Unit))) (o0 : Try.ty22.ok x0) (hb : Try.ty22.size x0 ≤ 1048576) :
    APure Try.prog 4 [((Try.ty22.enc x0).getD 0 .any)] (.sc (.bool true)) := roster_grows x0 hb

theorem contract (H : Type) (enc : TypeId × Value → H) (W : World) (base : Nat) (args : Array Value) (ds gs : List (DataW H)) (before : List MemPlace)
    (hval0 : ∀ (j : Nat) t v,Try.f4.params[j]? = some t → args[j]? = some v → Value.okWide Try.prog W .any base t v)
    (hW : DataW.Whole enc Try.prog Try.f4.params.toList Rows.rosterGrowsSpec.vars false W args.toList ds gs before) (hk : Rows.uptoSmall H (ds ++ gs) = true) :
    Calls Try.prog 4 args W fun e W' => ∃ v,e = .returned v ∧ Rows.rosterGrowsSpec.post enc Try.prog Try.f4 false true false false W args v W' := by
  have hval := hval0
  have hW' := hW
  obtain ⟨p,q,hA0,hV,rfl,hfz,hnd⟩ := hW
  have hA : DataW.TrodAll enc Try.prog W 0 (fun _ => true) true Try.f4.params.toList args.toList ds p := hA0
  rw [Try.params4] at hA hval
  obtain ⟨v0,vs0,d0,ds0,p0,q0,hargs,rfl,rfl,h0,r0⟩ := trodAll_cons hA
  obtain ⟨rfl,rfl,rfl⟩ := trodAll_nil r0
  obtain rfl : args = #[v0] := by cases args; simp_all
  obtain ⟨rfl,rfl⟩ := trodVars_none hV
  have hsum : cd [d0] ≤ 1048576 := Nat.le_trans (dl _) (by rw [List.append_nil] at hk; exact of_decide_eq_true hk)
  simp only [cd] at hsum
  obtain ⟨a0,l0,c0,rfl⟩ := okWide_slice Try.underlying22 (hval 0 22 v0 rfl rfl)
  have k0 := h0
  have lt0 : ∀ x ∈ p0,x.block < W.heap.size := by obtain ⟨m,hm⟩ := k0; exact DataW.trod_lt m _ _ _ hm
  obtain ⟨fuel0,hf0⟩ := h0
  obtain ⟨x0,o0,s0,t0⟩ := Try.ty22.rd hf0
  refine (calls_true (by kernel_rfl) (walk x0 o0 (by omega)) (vrs_cons (arg_one rfl t0) vrs_nil)).mono fun e W' ⟨he,bel⟩ => ?_
  subst he
  exact ⟨_,rfl,_,_,_,[],_,[],hW',trodAll_mk1 (shut_bool Try.underlying4 _),(trodAll_cons_mk (Below.trod laidOut (by kernel_rfl) (of_decide_eq_true (by kernel_rfl)) k0 bel lt0) trodAll_mk0),rfl,bel.frame _,fun h => by cases h⟩

set_option maxRecDepth 100000 in
theorem lifted (os : Os) (started : os.Started) (H : Type) (enc : TypeId × Value → H) (F : Stop.Interp) :
    ReturnsInHanded {} Try.checked os 4 .any ((Rows.OpenSpec.upto Rows.rosterGrowsSpec).pre6 enc Try.prog Try.f4 Rows.rosterGrowsUptoRow.domain false) (((Rows.OpenSpec.upto Rows.rosterGrowsSpec).at F).post enc Try.prog Try.f4 false true false false) := by
  refine returnsInHanded_of_cond (C := Try.checked) (s := Rows.OpenSpec.upto Rows.rosterGrowsSpec) (k := Rows.uptoSmall) rfl own started (by kernel_rfl) Try.func4
    (OpenSpec.witness (enc := enc) (C := Try.checked) (s := Rows.OpenSpec.upto Rows.rosterGrowsSpec) (k := Rows.uptoSmall) rfl false ⟨#[],#[.slice none 0 0],[]⟩ 8 (by kernel_rfl) (by kernel_rfl) (by kernel_rfl)
      (x := ([.nil],[],[])) (by kernel_rfl) rfl (by kernel_rfl)) ?_
  intro W base args ds gs before hval hW _ hk _
  exact contract H enc W base args ds gs before hval hW hk

theorem over : Rows.rosterGrowsUptoRow.holds Try.pinned (Rows.OpenSpec.upto Rows.rosterGrowsSpec) :=
  OpenClaim.holds_of_cond 4 Try.f4 rfl rfl rfl rfl rfl rfl rfl ⟨rfl,rfl,rfl,rfl,rfl⟩ rfl rfl rfl rfl rfl (by kernel_rfl) Try.func4 (by kernel_rfl)
    (of_decide_eq_true (by kernel_rfl)) (by unfold Func.isWrapper; first | (rw [if_pos (by decide +kernel)]; kernel_rfl) | (rw [if_neg (by decide +kernel)]; exact ⟨rfl,rfl⟩))
    (fun os started H enc _ F => lifted os started H enc F)

theorem proved : Rows.RosterGrowsUptoSaid := over
#print axioms proved
end Go.Proofs.Ytjlnpngaiphnmaa.rosterGrows
