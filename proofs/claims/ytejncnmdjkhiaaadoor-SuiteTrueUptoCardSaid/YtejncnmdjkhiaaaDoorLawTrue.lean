/-
  SuiteTrue: the call returns true for every input of bulk at most 1048576, and its arguments read as they did.
  Conditions: the statement's own.
-/
import Derived.Test.YtejncnmdjkhiaaaDoorCards
import Derived.Test.YtejncnmdjkhiaaaDoorTie
import Derived.WalkKit
import Derived.ProofKit
import Derived.OpenShut
import Derived.Deep.DeepHandedRow
import Derived.Lib.LaidTab
import Derived.Test.YtejncnmdjkhiaaaDoorShbGl
import Derived.Test.YtejncnmdjkhiaaaDoorShbTrue
import Derived.JoinedCond
set_option linter.all false
namespace Go.Proofs.YtejncnmdjkhiaaaDoor.suiteTrue
open Go Go.Abs Go.RowKit Go.ChangeShapes Go.WideShapes Go.ChangeAt
set_option linter.unusedVariables false
set_option maxRecDepth 20000

theorem own : ownKnob Tryd.prog.godebug = none := by kernel_rfl
theorem laidOut : laidOutB Tryd.prog = true := by kernel_rfl
mutual
theorem bulk_le {H : Type} : (d : DataW H) → cN d ≤ Rows.uptoBulk d
  | .lit (.string _) => by simp only [Rows.uptoBulk,cN]; omega
  | .lit (.bool _) => by simp only [Rows.uptoBulk,cN]; omega
  | .lit (.int _ _) => by simp only [Rows.uptoBulk,cN]; omega
  | .lit (.float _ _) => by simp only [Rows.uptoBulk,cN]; omega
  | .lit .nil => by simp only [Rows.uptoBulk,cN]; omega
  | .nil => by simp only [Rows.uptoBulk,cN]; omega
  | .ptr d => by simp only [Rows.uptoBulk,cN]; omega
  | .slice e s => by have h1 := dl e; have h2 := dl s; simp only [Rows.uptoBulk,cN]; omega
  | .agg l => by have h1 := dl l; simp only [Rows.uptoBulk,cN]; omega
  | .iface _ d => by simp only [Rows.uptoBulk,cN]; omega
  | .map l => by simp only [Rows.uptoBulk,cN]; omega
  | .held _ => by simp only [Rows.uptoBulk,cN]; omega
theorem dl {H : Type} : (l : List (DataW H)) → cd l ≤ Rows.uptoBulkAll l
  | [] => by simp only [Rows.uptoBulkAll,cd]; omega
  | d :: r => by have h1 := bulk_le d; have h2 := dl r; simp only [Rows.uptoBulkAll,cd]; omega
end

theorem walk (x0 : (List UInt8)) (x1 : (List UInt8)) (x2 : (List UInt8)) (x3 : UInt8) (o0 : Tryd.ty22.ok x0) (o1 : Tryd.ty22.ok x1) (o2 : Tryd.ty22.ok x2) (o3 : Tryd.ty5.ok x3) (hb : Tryd.ty22.size x0 + Tryd.ty22.size x1 + Tryd.ty22.size x2 + Tryd.ty5.size x3 ≤ 1048576) :
    APure Tryd.prog 3 [((Tryd.ty22.enc x0).getD 0 .any),((Tryd.ty22.enc x1).getD 0 .any),((Tryd.ty22.enc x2).getD 0 .any),((Tryd.ty5.enc x3).getD 0 .any)] (.sc (.bool true)) := suite_true x0 x1 x2 x3 hb

theorem contract (H : Type) (enc : TypeId × Value → H) (W : World) (base : Nat) (args : Array Value) (ds gs : List (DataW H)) (before : List MemPlace)
    (hval0 : ∀ (j : Nat) t v,Tryd.f3.params[j]? = some t → args[j]? = some v → Value.okWide Tryd.prog W .any base t v)
    (hW : DataW.Whole enc Tryd.prog Tryd.f3.params.toList Rows.suiteTrueSpec.vars false W args.toList ds gs before) (hk : Rows.uptoSmall H (ds ++ gs) = true) (hL : laidMetH Tryd.prog Rows.suiteTrueUptoRow.laid W) :
    Calls Tryd.prog 3 args W fun e W' => ∃ v,e = .returned v ∧ Rows.suiteTrueSpec.post enc Tryd.prog Tryd.f3 false true false false W args v W' := by
  have hval := hval0
  have hW' := hW
  obtain ⟨p,q,hA0,hV,rfl,hfz,hnd⟩ := hW
  have hA : DataW.TrodAll enc Tryd.prog W 0 (fun _ => true) true Tryd.f3.params.toList args.toList ds p := hA0
  rw [Tryd.params3] at hA hval
  obtain ⟨v0,vs0,d0,ds0,p0,q0,hargs,rfl,rfl,h0,r0⟩ := trodAll_cons hA
  obtain ⟨v1,vs1,d1,ds1,p1,q1,rfl,rfl,rfl,h1,r1⟩ := trodAll_cons r0
  obtain ⟨v2,vs2,d2,ds2,p2,q2,rfl,rfl,rfl,h2,r2⟩ := trodAll_cons r1
  obtain ⟨v3,vs3,d3,ds3,p3,q3,rfl,rfl,rfl,h3,r3⟩ := trodAll_cons r2
  obtain ⟨rfl,rfl,rfl⟩ := trodAll_nil r3
  obtain rfl : args = #[v0,v1,v2,v3] := by cases args; simp_all
  obtain ⟨rfl,rfl⟩ := trodVars_none hV
  have hsum : cd [d0,d1,d2,d3] ≤ 1048576 := Nat.le_trans (dl _) (by rw [List.append_nil] at hk; exact of_decide_eq_true hk)
  simp only [cd] at hsum
  obtain ⟨a0,l0,c0,rfl⟩ := okWide_slice Tryd.underlying22 (hval 0 22 v0 rfl rfl)
  have k0 := h0
  have lt0 : ∀ x ∈ p0,x.block < W.heap.size := by obtain ⟨m,hm⟩ := k0; exact DataW.trod_lt m _ _ _ hm
  obtain ⟨fuel0,hf0⟩ := h0
  obtain ⟨x0,o0,s0,t0⟩ := Tryd.ty22.rd hf0
  obtain ⟨a1,l1,c1,rfl⟩ := okWide_slice Tryd.underlying22 (hval 1 22 v1 rfl rfl)
  have k1 := h1
  have lt1 : ∀ x ∈ p1,x.block < W.heap.size := by obtain ⟨m,hm⟩ := k1; exact DataW.trod_lt m _ _ _ hm
  obtain ⟨fuel1,hf1⟩ := h1
  obtain ⟨x1,o1,s1,t1⟩ := Tryd.ty22.rd hf1
  obtain ⟨a2,l2,c2,rfl⟩ := okWide_slice Tryd.underlying22 (hval 2 22 v2 rfl rfl)
  have k2 := h2
  have lt2 : ∀ x ∈ p2,x.block < W.heap.size := by obtain ⟨m,hm⟩ := k2; exact DataW.trod_lt m _ _ _ hm
  obtain ⟨fuel2,hf2⟩ := h2
  obtain ⟨x2,o2,s2,t2⟩ := Tryd.ty22.rd hf2
  obtain ⟨a3,rfl⟩ := okWide_int Tryd.underlying5 (hval 3 5 v3 rfl rfl)
  have k3 := h3
  have lt3 : ∀ x ∈ p3,x.block < W.heap.size := by obtain ⟨m,hm⟩ := k3; exact DataW.trod_lt m _ _ _ hm
  obtain ⟨fuel3,hf3⟩ := h3
  obtain ⟨x3,o3,s3,t3⟩ := Tryd.ty5.rd hf3
  refine (calls_true (by kernel_rfl) (glob_of hL) (walk x0 x1 x2 x3 o0 o1 o2 o3 (by omega)) (vrs_cons (arg_one rfl t0) (vrs_cons (arg_one rfl t1) (vrs_cons (arg_one rfl t2) (vrs_cons (arg_one rfl t3) vrs_nil))))).mono fun e W' ⟨he,bel⟩ => ?_
  subst he
  exact ⟨_,rfl,_,_,_,[],_,[],hW',trodAll_mk1 (shut_bool Tryd.underlying4 _),(trodAll_cons_mk (Below.trod laidOut (by kernel_rfl) (of_decide_eq_true (by kernel_rfl)) k0 bel lt0) (trodAll_cons_mk (Below.trod laidOut (by kernel_rfl) (of_decide_eq_true (by kernel_rfl)) k1 bel lt1) (trodAll_cons_mk (Below.trod laidOut (by kernel_rfl) (of_decide_eq_true (by kernel_rfl)) k2 bel lt2) (trodAll_cons_mk (Below.trod laidOut (by kernel_rfl) (of_decide_eq_true (by kernel_rfl)) k3 bel lt3) trodAll_mk0)))),rfl,bel.frame _,fun h => by cases h⟩

noncomputable def laidWorld (os : Os) : World := { World.holding Tryd.prog os ⟨#[],#[],[]⟩ with heap := (((World.holding Tryd.prog os ⟨#[],#[],[]⟩).heap.modify 0 fun | .cells _ t frozen => .cells #[.int .i64 32,.int .i64 64,.int .i64 2,.int .i64 13,.int .i64 22,.int .i64 6,.int .i64 11,.int .i64 25,.int .i64 7,.int .i64 18,.int .i64 3,.int .i64 17,.int .i64 19,.int .i64 10] t frozen | o => o).modify 1 fun | .cells _ t frozen => .cells #[.int .u32 1116352408,.int .u32 1899447441,.int .u32 3049323471,.int .u32 3921009573,.int .u32 961987163,.int .u32 1508970993,.int .u32 2453635748,.int .u32 2870763221,.int .u32 3624381080,.int .u32 310598401,.int .u32 607225278,.int .u32 1426881987,.int .u32 1925078388,.int .u32 2162078206,.int .u32 2614888103,.int .u32 3248222580,.int .u32 3835390401,.int .u32 4022224774,.int .u32 264347078,.int .u32 604807628,.int .u32 770255983,.int .u32 1249150122,.int .u32 1555081692,.int .u32 1996064986,.int .u32 2554220882,.int .u32 2821834349,.int .u32 2952996808,.int .u32 3210313671,.int .u32 3336571891,.int .u32 3584528711,.int .u32 113926993,.int .u32 338241895,.int .u32 666307205,.int .u32 773529912,.int .u32 1294757372,.int .u32 1396182291,.int .u32 1695183700,.int .u32 1986661051,.int .u32 2177026350,.int .u32 2456956037,.int .u32 2730485921,.int .u32 2820302411,.int .u32 3259730800,.int .u32 3345764771,.int .u32 3516065817,.int .u32 3600352804,.int .u32 4094571909,.int .u32 275423344,.int .u32 430227734,.int .u32 506948616,.int .u32 659060556,.int .u32 883997877,.int .u32 958139571,.int .u32 1322822218,.int .u32 1537002063,.int .u32 1747873779,.int .u32 1955562222,.int .u32 2024104815,.int .u32 2227730452,.int .u32 2361852424,.int .u32 2428436474,.int .u32 2756734187,.int .u32 3204031479,.int .u32 3329325298] t frozen | o => o) }
theorem laid_met (os : Os) : laidMet Tryd.prog Rows.suiteTrueUptoRow.laid ((laidWorld os).forCall (fun _ _ => 0) ⟨#[],#[.slice none 0 0,.slice none 0 0,.slice none 0 0,.int .u8 0],[]⟩).memory :=
  laidMet_of_run' 8 (by kernel_rfl) (by kernel_rfl)
theorem reads (os : Os) {H : Type} (enc : TypeId × Value → H) : ∃ places,DataW.whole enc Tryd.prog ((laidWorld os).forCall (fun _ _ => 0) ⟨#[],#[.slice none 0 0,.slice none 0 0,.slice none 0 0,.int .u8 0],[]⟩).memory Tryd.f3.params.toList Rows.suiteTrueSpec.vars false #[Value.slice none 0 0,Value.slice none 0 0,Value.slice none 0 0,Value.int .u8 0].toList 8 = some ([.nil,.nil,.nil,.lit (.int .u8 0)],[],places) :=
  ⟨[],by kernel_rfl⟩
set_option maxRecDepth 100000 in
theorem lifted (os : Os) (started : os.Started) (H : Type) (enc : TypeId × Value → H) (F : Stop.Interp) :
    ReturnsInHanded {} Tryd.checked os 3 .any ((Rows.OpenSpec.upto Rows.suiteTrueSpec).preRow enc Tryd.prog Tryd.f3 Rows.suiteTrueUptoRow.domain false Rows.suiteTrueUptoRow.laid) (((Rows.OpenSpec.upto Rows.suiteTrueSpec).at F).post enc Tryd.prog Tryd.f3 false true false false) := by
  obtain ⟨places,hx⟩ := reads os enc
  refine returnsInHanded_of_row (C := Tryd.checked) (s := Rows.OpenSpec.upto Rows.suiteTrueSpec) own started (by kernel_rfl) Tryd.func3
    (witness_row_at (enc := enc) (C := Tryd.checked) false (laidWorld os) #[Value.slice none 0 0,Value.slice none 0 0,Value.slice none 0 0,Value.int .u8 0] rfl (by kernel_rfl) (by kernel_rfl) (by kernel_rfl)
      (OpenSpec.preRow_of_cond 8 hx (by kernel_rfl) (fun k hk => by cases hk; kernel_rfl) (by kernel_rfl) (laid_met os))) ?_
  intro W base args ds gs before hval hW _ hcond _ hL _ _
  exact contract H enc W base args ds gs before hval hW (hcond _ rfl) hL
theorem saidUpto : Rows.SuiteTrueUptoSaid :=
  OpenClaim.holds_of_cond 3 Tryd.f3 rfl rfl rfl rfl rfl rfl rfl ⟨rfl,rfl,rfl,rfl,rfl⟩ rfl rfl rfl rfl rfl (by kernel_rfl) Tryd.func3 (by kernel_rfl)
    (of_decide_eq_true (by kernel_rfl)) (by unfold Func.isWrapper; first | (rw [if_pos (by decide +kernel)]; kernel_rfl) | (rw [if_neg (by decide +kernel)]; exact ⟨rfl,rfl⟩))
    (fun os started H enc _ F => by rw [OpenClaim.pre_eq_preRow]; exact lifted os started H enc F)
theorem plain (f : FuncId) (fn : Func) (hf : Tryd.pinned.checked.prog.funcNamed "sealwax/sealwaxlaw19.SuiteTrue" = some f) (hfn : Tryd.pinned.checked.prog.funcs[f]? = some fn) :
    false = Tryd.pinned.checked.prog.looks [] ∧ ∀ (j : Nat) t,fn.params[j]? = some t → Tryd.pinned.checked.prog.wantsStandIn t = false := by
  obtain rfl : f = 3 := Option.some.inj ((show Tryd.prog.funcNamed "sealwax/sealwaxlaw19.SuiteTrue" = some 3 by kernel_rfl).symm.trans hf) |>.symm
  obtain rfl : fn = Tryd.f3 := (Option.some.inj (Tryd.func3.symm.trans hfn)).symm
  refine ⟨by kernel_rfl,fun j t ht => ?_⟩
  rw [Tryd.params3] at ht
  have hm := Array.mem_of_getElem? ht
  simp only [List.mem_toArray,List.mem_cons,List.not_mem_nil,or_false] at hm
  obtain rfl | rfl | rfl | rfl := hm
  · exact (show Tryd.prog.wantsStandIn 22 = false by kernel_rfl)
  · exact (show Tryd.prog.wantsStandIn 22 = false by kernel_rfl)
  · exact (show Tryd.prog.wantsStandIn 22 = false by kernel_rfl)
  · exact (show Tryd.prog.wantsStandIn 5 = false by kernel_rfl)
theorem proved : Rows.SuiteTrueUptoCardSaid :=
  Claim7.holds_tied_plain_at .later [] _ _ _ _ saidUpto (fun _ h => by cases h) (by kernel_rfl) (fun _ h => by cases h) suiteTrueUpto_row_tie rfl ⟨rfl,rfl⟩ (by kernel_rfl) rfl plain (by kernel_rfl)
#print axioms proved
end Go.Proofs.YtejncnmdjkhiaaaDoor.suiteTrue
