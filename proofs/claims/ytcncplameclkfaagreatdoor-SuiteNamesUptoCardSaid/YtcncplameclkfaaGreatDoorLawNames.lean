/-
  SuiteNames: the call returns true for every input of bulk at most 1048576, and its arguments read as they did.
  Conditions: the statement's own.
-/
import Derived.Test.YtcncplameclkfaaGreatDoorCards
import Derived.Test.YtcncplameclkfaaGreatDoorTie
import Derived.WalkKit
import Derived.ProofKit
import Derived.OpenShut
import Derived.Deep.DeepHandedRow
import Derived.Lib.LaidTab
import Derived.Test.YtcncplameclkfaaGreatDoorNxGl
import Derived.Test.YtcncplameclkfaaGreatDoorNxG4
import Derived.JoinedCond
set_option linter.all false
namespace Go.Proofs.YtcncplameclkfaaGreatDoor.suiteNames
open Go Go.Abs Go.RowKit Go.ChangeShapes Go.WideShapes Go.ChangeAt
set_option maxRecDepth 20000
theorem own:ownKnob Tryz.prog.godebug=none:=by kernel_rfl
theorem laidOut:laidOutB Tryz.prog=true:=by kernel_rfl
mutual
theorem bulk_le{H:Type}:(d:DataW H)→cN0 d≤Rows.uptoBulk d
 |.lit (.string _)=>by simp only[Rows.uptoBulk,cN0];omega
 |.lit (.bool _)=>by simp only[Rows.uptoBulk,cN0];omega
 |.lit (.int _ _)=>by simp only[Rows.uptoBulk,cN0];omega
 |.lit (.float _ _)=>by simp only[Rows.uptoBulk,cN0];omega
 |.lit .nil=>by simp only[Rows.uptoBulk,cN0];omega
 |.nil=>by simp only[Rows.uptoBulk,cN0];omega
 |.ptr d=>by simp only[Rows.uptoBulk,cN0];omega
 |.slice e s=>by have h1:=dl e;have h2:=dl s;simp only[Rows.uptoBulk,cN0];omega
 |.agg l=>by have h1:=dl l;simp only[Rows.uptoBulk,cN0];omega
 |.iface _ d=>by simp only[Rows.uptoBulk,cN0];omega
 |.map l=>by simp only[Rows.uptoBulk,cN0];omega
 |.held _=>by simp only[Rows.uptoBulk,cN0];omega
theorem dl{H:Type}:(l:List (DataW H))→cd l≤Rows.uptoBulkAll l
 |[]=>by simp only[Rows.uptoBulkAll,cd];omega
 |d::r=>by have h1:=bulk_le d;have h2:=dl r;simp only[Rows.uptoBulkAll,cd];omega
end
theorem walk(x0:(List UInt8))(x1:(List UInt8))(x2:(List UInt8))(x3:(List UInt8))(o0:Tryz.ty22.ok x0)(o1:Tryz.ty22.ok x1)(o2:Tryz.ty22.ok x2)(o3:Tryz.ty22.ok x3)(hb:Tryz.ty22.size x0+Tryz.ty22.size x1+Tryz.ty22.size x2+Tryz.ty22.size x3≤1048576):
    APure Tryz.prog 3 [((Tryz.ty22.enc x0).getD 0 .any),((Tryz.ty22.enc x1).getD 0 .any),((Tryz.ty22.enc x2).getD 0 .any),((Tryz.ty22.enc x3).getD 0 .any)] (.sc (.bool true)):=suite_names x0 x1 x2 x3 hb
theorem contract(H:Type)(enc:TypeId × Value→H)(W:World)(base:Nat)(args:Array Value)(ds gs:List (DataW H))(before:List MemPlace)
    (hval0:∀(j:Nat) t v,Tryz.f3.params[j]? = some t→args[j]? = some v→Value.okWide Tryz.prog W .any base t v)
    (hW:DataW.Whole enc Tryz.prog Tryz.f3.params.toList Rows.suiteNamesSpec.vars false W args.toList ds gs before) (hk:Rows.uptoSmall H (ds++gs)=true) (hL:laidMetH Tryz.prog Rows.suiteNamesUptoRow.laid W):
    Calls Tryz.prog 3 args W fun e W'=>∃v,e=.returned v∧Rows.suiteNamesSpec.post enc Tryz.prog Tryz.f3 false true false false W args v W':=by
 have hval:=hval0
 have hW':=hW
 obtain⟨p,q,hA0,hV,rfl,hfz,hnd⟩:=hW
 have hA:DataW.TrodAll enc Tryz.prog W 0 (fun _=>true) true Tryz.f3.params.toList args.toList ds p:=hA0
 rw[Tryz.params3]at hA hval
 obtain⟨v0,vs0,d0,ds0,p0,q0,hargs,rfl,rfl,h0,r0⟩:=trodAll_cons hA
 obtain⟨v1,vs1,d1,ds1,p1,q1,rfl,rfl,rfl,h1,r1⟩:=trodAll_cons r0
 obtain⟨v2,vs2,d2,ds2,p2,q2,rfl,rfl,rfl,h2,r2⟩:=trodAll_cons r1
 obtain⟨v3,vs3,d3,ds3,p3,q3,rfl,rfl,rfl,h3,r3⟩:=trodAll_cons r2
 obtain⟨rfl,rfl,rfl⟩:=trodAll_nil r3
 obtain rfl:args = #[v0,v1,v2,v3]:=by cases args;simp_all
 obtain⟨rfl,rfl⟩:=trodVars_none hV
 have hsum:cd [d0,d1,d2,d3]≤1048576:=Nat.le_trans (dl _) (by rw[List.append_nil]at hk;exact of_decide_eq_true hk)
 simp only[cd]at hsum
 obtain⟨a0,l0,c0,rfl⟩:=okWide_slice Tryz.underlying22 (hval 0 22 v0 rfl rfl)
 have k0:=h0
 have lt0:∀x∈p0,x.block<W.heap.size:=by obtain⟨m,hm⟩:=k0;exact DataW.trod_lt m _ _ _ hm
 obtain⟨fuel0,hf0⟩:=h0
 obtain⟨x0,o0,s0,t0⟩:=Tryz.ty22.rd hf0
 obtain⟨a1,l1,c1,rfl⟩:=okWide_slice Tryz.underlying22 (hval 1 22 v1 rfl rfl)
 have k1:=h1
 have lt1:∀x∈p1,x.block<W.heap.size:=by obtain⟨m,hm⟩:=k1;exact DataW.trod_lt m _ _ _ hm
 obtain⟨fuel1,hf1⟩:=h1
 obtain⟨x1,o1,s1,t1⟩:=Tryz.ty22.rd hf1
 obtain⟨a2,l2,c2,rfl⟩:=okWide_slice Tryz.underlying22 (hval 2 22 v2 rfl rfl)
 have k2:=h2
 have lt2:∀x∈p2,x.block<W.heap.size:=by obtain⟨m,hm⟩:=k2;exact DataW.trod_lt m _ _ _ hm
 obtain⟨fuel2,hf2⟩:=h2
 obtain⟨x2,o2,s2,t2⟩:=Tryz.ty22.rd hf2
 obtain⟨a3,l3,c3,rfl⟩:=okWide_slice Tryz.underlying22 (hval 3 22 v3 rfl rfl)
 have k3:=h3
 have lt3:∀x∈p3,x.block<W.heap.size:=by obtain⟨m,hm⟩:=k3;exact DataW.trod_lt m _ _ _ hm
 obtain⟨fuel3,hf3⟩:=h3
 obtain⟨x3,o3,s3,t3⟩:=Tryz.ty22.rd hf3
 refine(calls_true (by kernel_rfl) (glob_of hL) (walk x0 x1 x2 x3 o0 o1 o2 o3 (by omega)) (vrs_cons (arg_one rfl t0) (vrs_cons (arg_one rfl t1) (vrs_cons (arg_one rfl t2) (vrs_cons (arg_one rfl t3) vrs_nil))))).mono fun e W' ⟨he,bel⟩=>?_
 subst he
 exact⟨_,rfl,_,_,_,[],_,[],hW',trodAll_mk1 (shut_bool Tryz.underlying4 _),(trodAll_cons_mk (Below.trod laidOut (by kernel_rfl) (of_decide_eq_true (by kernel_rfl)) k0 bel lt0) (trodAll_cons_mk (Below.trod laidOut (by kernel_rfl) (of_decide_eq_true (by kernel_rfl)) k1 bel lt1) (trodAll_cons_mk (Below.trod laidOut (by kernel_rfl) (of_decide_eq_true (by kernel_rfl)) k2 bel lt2) (trodAll_cons_mk (Below.trod laidOut (by kernel_rfl) (of_decide_eq_true (by kernel_rfl)) k3 bel lt3) trodAll_mk0)))),rfl,bel.frame _,fun h=>by cases h⟩
noncomputable def laidWorld(os:Os):World:={ World.holding Tryz.prog os ⟨#[],#[],[]⟩ with heap:=(((World.holding Tryz.prog os ⟨#[],#[],[]⟩).heap.modify 0 fun | .cells _ t frozen=>.cells #[.int .i64 64,.int .i64 80,.int .i64 28,.int .i64 34,.int .i64 39,.int .i64 14,.int .i64 18,.int .i64 41,.int .i64 1,.int .i64 8,.int .i64 7,.int .i64 19,.int .i64 61,.int .i64 6] t frozen|o=>o).modify 1 fun | .cells _ t frozen=>.cells #[.int .u64 4794697086780616226,.int .u64 8158064640168781261,.int .u64 13096744586834688815,.int .u64 16840607885511220156,.int .u64 4131703408338449720,.int .u64 6480981068601479193,.int .u64 10538285296894168987,.int .u64 12329834152419229976,.int .u64 15566598209576043074,.int .u64 1334009975649890238,.int .u64 2608012711638119052,.int .u64 6128411473006802146,.int .u64 8268148722764581231,.int .u64 9286055187155687089,.int .u64 11230858885718282805,.int .u64 13951009754708518548,.int .u64 16472876342353939154,.int .u64 17275323862435702243,.int .u64 1135362057144423861,.int .u64 2597628984639134821,.int .u64 3308224258029322869,.int .u64 5365058923640841347,.int .u64 6679025012923562964,.int .u64 8573033837759648693,.int .u64 10970295158949994411,.int .u64 12119686244451234320,.int .u64 12683024718118986047,.int .u64 13788192230050041572,.int .u64 14330467153632333762,.int .u64 15395433587784984357,.int .u64 489312712824947311,.int .u64 1452737877330783856,.int .u64 2861767655752347644,.int .u64 3322285676063803686,.int .u64 5560940570517711597,.int .u64 5996557281743188959,.int .u64 7280758554555802590,.int .u64 8532644243296465576,.int .u64 9350256976987008742,.int .u64 10552545826968843579,.int .u64 11727347734174303076,.int .u64 12113106623233404929,.int .u64 14000437183269869457,.int .u64 14369950271660146224,.int .u64 15101387698204529176,.int .u64 15463397548674623760,.int .u64 17586052441742319658,.int .u64 1182934255886127544,.int .u64 1847814050463011016,.int .u64 2177327727835720531,.int .u64 2830643537854262169,.int .u64 3796741975233480872,.int .u64 4115178125766777443,.int .u64 5681478168544905931,.int .u64 6601373596472566643,.int .u64 7507060721942968483,.int .u64 8399075790359081724,.int .u64 8693463985226723168,.int .u64 9568029438360202098,.int .u64 10144078919501101548,.int .u64 10430055236837252648,.int .u64 11840083180663258601,.int .u64 13761210420658862357,.int .u64 14299343276471374635,.int .u64 14566680578165727644,.int .u64 15097957966210449927,.int .u64 16922976911328602910,.int .u64 17689382322260857208,.int .u64 500013540394364858,.int .u64 748580250866718886,.int .u64 1242879168328830382,.int .u64 1977374033974150939,.int .u64 2944078676154940804,.int .u64 3659926193048069267,.int .u64 4368137639120453308,.int .u64 4836135668995329356,.int .u64 5532061633213252278,.int .u64 6448918945643986474,.int .u64 6902733635092675308,.int .u64 7801388544844847127] t frozen|o=>o) }
theorem laid_met(os:Os):laidMet Tryz.prog Rows.suiteNamesUptoRow.laid ((laidWorld os).forCall (fun _ _=>0) ⟨#[],#[.slice none 0 0,.slice none 0 0,.slice none 0 0,.slice none 0 0],[]⟩).memory:=
 laidMet_of_run' 8 (by kernel_rfl) (by kernel_rfl)
theorem reads(os:Os){H:Type}(enc:TypeId × Value→H):∃places,DataW.whole enc Tryz.prog ((laidWorld os).forCall (fun _ _=>0) ⟨#[],#[.slice none 0 0,.slice none 0 0,.slice none 0 0,.slice none 0 0],[]⟩).memory Tryz.f3.params.toList Rows.suiteNamesSpec.vars false #[Value.slice none 0 0,Value.slice none 0 0,Value.slice none 0 0,Value.slice none 0 0].toList 8=some ([.nil,.nil,.nil,.nil],[],places):=
 ⟨[],by kernel_rfl⟩
set_option maxRecDepth 100000 in
theorem lifted(os:Os)(started:os.Started)(H:Type)(enc:TypeId × Value→H)(F:Stop.Interp):
    ReturnsInHanded {} Tryz.checked os 3 .any ((Rows.OpenSpec.upto Rows.suiteNamesSpec).preRow enc Tryz.prog Tryz.f3 Rows.suiteNamesUptoRow.domain false Rows.suiteNamesUptoRow.laid) (((Rows.OpenSpec.upto Rows.suiteNamesSpec).at F).post enc Tryz.prog Tryz.f3 false true false false):=by
 obtain⟨places,hx⟩:=reads os enc
 refine returnsInHanded_of_row (C:=Tryz.checked) (s:=Rows.OpenSpec.upto Rows.suiteNamesSpec) own started (by kernel_rfl) Tryz.func3
  (witness_row_at (enc:=enc) (C:=Tryz.checked) false (laidWorld os) #[Value.slice none 0 0,Value.slice none 0 0,Value.slice none 0 0,Value.slice none 0 0] rfl (by kernel_rfl) (by kernel_rfl) (by kernel_rfl)
   (OpenSpec.preRow_of_cond 8 hx (by kernel_rfl) (fun k hk=>by cases hk;kernel_rfl) (by kernel_rfl) (laid_met os))) ?_
 intro W base args ds gs before hval hW _ hcond _ hL _ _
 exact contract H enc W base args ds gs before hval hW (hcond _ rfl) hL
theorem saidUpto:Rows.SuiteNamesUptoSaid:=
 OpenClaim.holds_of_cond 3 Tryz.f3 rfl rfl rfl rfl rfl rfl rfl ⟨rfl,rfl,rfl,rfl,rfl⟩ rfl rfl rfl rfl rfl (by kernel_rfl) Tryz.func3 (by kernel_rfl)
  (of_decide_eq_true (by kernel_rfl)) (by unfold Func.isWrapper;first|(rw[if_pos (by decide +kernel)];kernel_rfl)|(rw[if_neg (by decide +kernel)];exact⟨rfl,rfl⟩))
  (fun os started H enc _ F=>by rw[OpenClaim.pre_eq_preRow];exact lifted os started H enc F)
theorem plain (f:FuncId) (fn:Func) (hf:Tryz.pinned.checked.prog.funcNamed "sealwax/sealwaxlaw19.SuiteNames" = some f) (hfn:Tryz.pinned.checked.prog.funcs[f]? = some fn):
    false=Tryz.pinned.checked.prog.looks []∧∀(j:Nat) t,fn.params[j]? = some t→Tryz.pinned.checked.prog.wantsStandIn t=false:=by
 obtain rfl:f=3:=Option.some.inj ((show Tryz.prog.funcNamed "sealwax/sealwaxlaw19.SuiteNames" = some 3 by kernel_rfl).symm.trans hf) |>.symm
 obtain rfl:fn=Tryz.f3:=(Option.some.inj (Tryz.func3.symm.trans hfn)).symm
 refine⟨by kernel_rfl,fun j t ht=>?_⟩
 rw[Tryz.params3]at ht
 have hm:=Array.mem_of_getElem? ht
 simp only[List.mem_toArray,List.mem_cons,List.not_mem_nil,or_false]at hm
 obtain rfl|rfl|rfl|rfl:=hm
 ·exact(show Tryz.prog.wantsStandIn 22=false by kernel_rfl)
 ·exact(show Tryz.prog.wantsStandIn 22=false by kernel_rfl)
 ·exact(show Tryz.prog.wantsStandIn 22=false by kernel_rfl)
 ·exact(show Tryz.prog.wantsStandIn 22=false by kernel_rfl)
theorem proved:Rows.SuiteNamesUptoCardSaid:=
 Claim7.holds_tied_plain_at .later [] _ _ _ _ saidUpto (fun _ h=>by cases h) (by kernel_rfl) (fun _ h=>by cases h) suiteNamesUpto_row_tie rfl ⟨rfl,rfl⟩ (by kernel_rfl) rfl plain (by kernel_rfl)
#print axioms proved
end Go.Proofs.YtcncplameclkfaaGreatDoor.suiteNames
