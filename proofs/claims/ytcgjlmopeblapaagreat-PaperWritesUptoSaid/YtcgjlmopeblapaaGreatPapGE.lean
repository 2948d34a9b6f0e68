/-
  Several texts in one: each says what it proves.
  Conditions: none. Lemmas only.
-/
import Derived.Test.YtcgjlmopeblapaaGreatPapG1
import Derived.WalkKit
import Derived.Sort.Grow
import Derived.Deep.Draws
import Derived.Test.YtcgjlmopeblapaaGreatFugFacts
import Derived.Shelf.SlSortCmp.WholeK
import Derived.Test.YtcgjlmopeblapaaGreatPapGD
import Derived.Test.YtcgjlmopeblapaaGreatAbsSo
import Derived.Test.YtcgjlmopeblapaaGreatPapG3
set_option linter.all false
section
set_option linter.unusedVariables false
namespace Go.Proofs.YtcgjlmopeblapaaGreat
open Go Go.RowKit Go.Sort Go.Proofs Go.Fug
def lessZ (a b : EId) : Int := if a.1 ≠ b.1 then wrap64 (a.1 - b.1) else wrap64 (a.2 - b.2)
set_option maxHeartbeats 1000000 in
theorem less_calls (x y : EId) (W : World) : Calls Tryz.prog 41 #[.agg #[.int .i64 x.1,.int .i64 x.2],.agg #[.int .i64 y.1,.int .i64 y.2]] W fun e w' => e = .returned (.int .i64 (lessZ x y)) ∧ ∃ q os',w' = Go.Sort.grow (W.drewN q) os' := by
  obtain ⟨a,b⟩ := x
  obtain ⟨c,d⟩ := y
  unfold lessZ
  simp only
  by_cases h : a ≠ c
  · rw [if_pos h]
    go_enter Tryz.func41,Tryz.ntmps41
    go_wp2
    · go_ret
      exact ⟨rfl,0,_,by rw [alloc_eq_grow,alloc_eq_grow,grow_grow]; rfl⟩
  · rw [if_neg h]
    go_enter Tryz.func41,Tryz.ntmps41
    go_wp2
    go_ret
    exact ⟨rfl,0,_,by rw [alloc_eq_grow,alloc_eq_grow,grow_grow]; rfl⟩
def opZ (o : Opn) : List Value := [.int .i64 o.kind,.int .i64 o.ins.id.1,.int .i64 o.ins.id.2,.int .i64 o.ins.par.1,.int .i64 o.ins.par.2,.bool o.ins.right,.int .i32 o.ins.rune,.int .i64 o.drop.1,.int .i64 o.drop.2,
  .int .i64 o.mar.clock,.int .i64 o.mar.author,.int .i64 o.mar.fid.1,.int .i64 o.mar.fid.2,.bool o.mar.fb,.int .i64 o.mar.tid.1,.int .i64 o.mar.tid.2,.bool o.mar.tb,.int .i64 o.mar.name,.int .i64 o.mar.value]
theorem opZ_cells (o : Opn) : (opZ o).map Go.Abs.AV.sc = opC o := rfl
theorem opZ_one (o : Opn) : ∀ v ∈ opZ o,v.oneCell' = true := fun v hv => by
  unfold opZ at hv
  simp only [List.mem_cons,List.not_mem_nil,or_false] at hv
  rcases hv with rfl | rfl | rfl | rfl | rfl | rfl | rfl | rfl | rfl | rfl | rfl | rfl | rfl | rfl | rfl | rfl | rfl | rfl | rfl <;> rfl
set_option maxHeartbeats 4000000 in
theorem cmp1_calls (x y : Opn) (W : World) : Calls Tryz.prog 40 #[.agg (opZ x).toArray,.agg (opZ y).toArray] W fun e w' => e = .returned (.int .i64 (lessZ x.ins.id y.ins.id)) ∧ ∃ q os',w' = Go.Sort.grow (W.drewN q) os' := by
  obtain ⟨kd,⟨⟨a1,c1⟩,⟨pa,pc⟩,ri,ru⟩,⟨xd,yd⟩,⟨mc,ma,⟨f1,f2⟩,fb,⟨t1,t2⟩,tb,nm,vl⟩⟩ := x
  obtain ⟨kd',⟨⟨a1',c1'⟩,⟨pa',pc'⟩,ri',ru'⟩,⟨x',y'⟩,⟨mc',ma',⟨f1',f2'⟩,fb',⟨t1',t2'⟩,tb',nm',vl'⟩⟩ := y
  have hl := fun W => less_calls (a1,c1) (a1',c1') W
  simp only [opZ] at hl ⊢
  generalize lessZ (a1,c1) (a1',c1') = r at hl ⊢
  go_enter Tryz.func40,Tryz.ntmps40
  go_wp2_with (go_at_call 41; refine (hl _).mono ?_; rintro e w' ⟨rfl,q,os',rfl⟩)
  go_ret
  exact ⟨rfl,q,_,by rw [alloc_eq_grow,alloc_eq_grow,grow_grow]; exact grow_grow (W.drewN q) _ os'⟩
set_option maxHeartbeats 4000000 in
theorem cmp2_calls (x y : Opn) (W : World) : Calls Tryz.prog 42 #[.agg (opZ x).toArray,.agg (opZ y).toArray] W fun e w' => e = .returned (.int .i64 (lessZ x.drop y.drop)) ∧ ∃ q os',w' = Go.Sort.grow (W.drewN q) os' := by
  obtain ⟨kd,⟨⟨a1,c1⟩,⟨pa,pc⟩,ri,ru⟩,⟨xd,yd⟩,⟨mc,ma,⟨f1,f2⟩,fb,⟨t1,t2⟩,tb,nm,vl⟩⟩ := x
  obtain ⟨kd',⟨⟨a1',c1'⟩,⟨pa',pc'⟩,ri',ru'⟩,⟨x',y'⟩,⟨mc',ma',⟨f1',f2'⟩,fb',⟨t1',t2'⟩,tb',nm',vl'⟩⟩ := y
  have hl := fun W => less_calls (xd,yd) (x',y') W
  simp only [opZ] at hl ⊢
  generalize lessZ (xd,yd) (x',y') = r at hl ⊢
  go_enter Tryz.func42,Tryz.ntmps42
  go_wp2_with (go_at_call 41; refine (hl _).mono ?_; rintro e w' ⟨rfl,q,os',rfl⟩)
  go_ret
  exact ⟨rfl,q,_,by rw [alloc_eq_grow,alloc_eq_grow,grow_grow]; exact grow_grow (W.drewN q) _ os'⟩
end Go.Proofs.YtcgjlmopeblapaaGreat
end
section
set_option linter.unusedVariables false
namespace Go.Proofs
open Go Go.Shelf
def Tryz.renS : Ren := ⟨fun n => match n with | 6 => 39 | 14 => 67 | 15 => 68 | 20 => 88 | 21 => 89 | 22 => 90 | 23 => 91 | 24 => 92 | 25 => 93 | 26 => 94 | 27 => 95 | 28 => 96 | 29 => 97 | 46 => 105 | 47 => 106 | 48 => 107 | 49 => 108 | 50 => 109 | 57 => 117 | n => n,fun n => match n with | 0 => 0 | 3 => 3 | 4 => 4 | 5 => 5 | 9 => 9 | 22 => 28 | 24 => 58 | 25 => 88 | 39 => 124 | 45 => 144 | 46 => 145 | 50 => 92 | 53 => 151 | 55 => 153 | 66 => 160 | 70 => 164 | 76 => 172 | 77 => 173 | n => n,fun n => n⟩
set_option maxRecDepth 100000 in
theorem Tryz.sortL : SlLaysF0.n6 Tryz.prog Tryz.renS where
  mixed := Tryz.mixed
  f6 := ⟨Tryz.f39.name,by kernel_rfl,Tryz.func39.trans (by kernel_rfl)⟩
  f14 := ⟨Tryz.f67.name,by kernel_rfl,Tryz.func67.trans (by kernel_rfl)⟩
  f15 := Tryz.func68.trans (by kernel_rfl)
  f20 := ⟨Tryz.f88.name,by kernel_rfl,Tryz.func88.trans (by kernel_rfl)⟩
  f21 := ⟨Tryz.f89.name,by kernel_rfl,Tryz.func89.trans (by kernel_rfl)⟩
  f22 := ⟨Tryz.f90.name,by kernel_rfl,Tryz.func90.trans (by kernel_rfl)⟩
  f23 := ⟨Tryz.f91.name,by kernel_rfl,Tryz.func91.trans (by kernel_rfl)⟩
  f24 := ⟨Tryz.f92.name,by kernel_rfl,Tryz.func92.trans (by kernel_rfl)⟩
  f25 := ⟨Tryz.f93.name,by kernel_rfl,Tryz.func93.trans (by kernel_rfl)⟩
  f26 := ⟨Tryz.f94.name,by kernel_rfl,Tryz.func94.trans (by kernel_rfl)⟩
  f27 := ⟨Tryz.f95.name,by kernel_rfl,Tryz.func95.trans (by kernel_rfl)⟩
  f28 := Tryz.func96.trans (by kernel_rfl)
  f29 := Tryz.func97.trans (by kernel_rfl)
  f46 := ⟨Tryz.f105.name,by kernel_rfl,Tryz.func105.trans (by kernel_rfl)⟩
  f47 := Tryz.func106.trans (by kernel_rfl)
  f48 := Tryz.func107.trans (by kernel_rfl)
  f49 := ⟨Tryz.f108.name,by kernel_rfl,Tryz.func108.trans (by kernel_rfl)⟩
  f50 := ⟨Tryz.f109.name,by kernel_rfl,Tryz.func109.trans (by kernel_rfl)⟩
  f57 := ⟨Tryz.f117.name,by kernel_rfl,Tryz.func117.trans (by kernel_rfl)⟩
  t0 := by kernel_rfl
  a0 := fun w => rfl
  z0 := fun w => rfl
  v0 := fun w => rfl
  t3 := by kernel_rfl
  a3 := fun w => rfl
  z3 := fun w => rfl
  v3 := fun w => rfl
  t4 := by kernel_rfl
  a4 := fun w => rfl
  z4 := fun w => rfl
  v4 := fun w => rfl
  t5 := by kernel_rfl
  a5 := fun w => rfl
  z5 := fun w => rfl
  v5 := fun w => rfl
  t9 := by kernel_rfl
  a9 := fun w => rfl
  z9 := fun w => rfl
  v9 := fun w => rfl
  t22 := by kernel_rfl
  a22 := fun w => rfl
  z22 := fun w => rfl
  v22 := fun w => rfl
  t25 := by kernel_rfl
  a25 := fun w => rfl
  z25 := fun w => rfl
  v25 := fun w => rfl
  t39 := by kernel_rfl
  a39 := fun w => rfl
  z39 := fun w => rfl
  v39 := fun w => rfl
  t45 := by kernel_rfl
  a45 := fun w => rfl
  z45 := fun w => rfl
  v45 := fun w => rfl
  t46 := by kernel_rfl
  a46 := fun w => rfl
  z46 := fun w => rfl
  v46 := fun w => rfl
  t50 := by kernel_rfl
  a50 := fun w => rfl
  z50 := fun w => rfl
  v50 := fun w => rfl
  t53 := by kernel_rfl
  a53 := fun w => rfl
  z53 := fun w => rfl
  v53 := fun w => rfl
  t55 := by kernel_rfl
  a55 := fun w => rfl
  z55 := fun w => rfl
  v55 := fun w => rfl
  t66 := by kernel_rfl
  a66 := fun w => rfl
  z66 := fun w => rfl
  v66 := fun w => rfl
  t70 := by kernel_rfl
  a70 := fun w => rfl
  z70 := fun w => rfl
  v70 := fun w => rfl
  t76 := by kernel_rfl
  a76 := fun w => rfl
  z76 := fun w => rfl
  v76 := fun w => rfl
  t77 := by kernel_rfl
  a77 := fun w => rfl
  z77 := fun w => rfl
  v77 := fun w => rfl
end Go.Proofs
end
section
set_option linter.unusedVariables false
set_option maxRecDepth 8000
set_option maxHeartbeats 4000000
namespace Go.Proofs.YtcgjlmopeblapaaGreat
open Go Go.Abs Go.Proofs Go.Fug Go.Sort Go.Shelf Go.RowKit
theorem lessZ_lt {a b : EId} (ha : elO a = true) (hb : elO b = true) : lessZ a b < 0 ↔ lessP a b := by
  unfold lessZ lessP wrap64
  unfold elO at ha hb
  simp only [Bool.and_eq_true,decide_eq_true_eq] at ha hb
  by_cases h : a.1 ≠ b.1
  · rw [if_pos h]; omega
  · rw [if_neg h]; omega
theorem lessP_swo {α : Type} (f : α → EId) (hf : ∀ x,elO (f x) = true) : SWO (ltOf fun x y => lessZ (f x) (f y)) where
  irrefl x := by
    unfold ltOf
    rw [decide_eq_false_iff_not,lessZ_lt (hf _) (hf _)]
    unfold lessP
    omega
  trans x y z h1 h2 := by
    unfold ltOf at *
    rw [decide_eq_true_eq,lessZ_lt (hf _) (hf _)] at *
    unfold lessP at *
    omega
  ntrans x y z h1 h2 := by
    unfold ltOf at *
    rw [decide_eq_false_iff_not,lessZ_lt (hf _) (hf _)] at *
    unfold lessP at *
    omega
theorem ops_flat {α : Type} (f : α → Opn) (l : List α) : (l.flatMap fun x => opZ (f x)).map AV.sc = dL (l.map f) := by
  induction l with
  | nil => rfl
  | cons x l ih => simp only [dL,List.flatMap_cons,List.map_append,List.map_cons,opZ_cells] at *; rw [ih]
theorem strict_of {α : Type} (f : α → EId) (hf : ∀ x,elO (f x) = true) {l : List α} (h : l.Pairwise fun a b => ltOf (fun x y => lessZ (f x) (f y)) b a = false) (hn : (l.map f).Nodup) : l.Pairwise fun a b => lessP (f a) (f b) := by
  rw [List.Nodup,List.pairwise_map] at hn
  refine (h.and hn).imp ?_
  rintro a b ⟨h1,h2⟩
  unfold ltOf at h1
  rw [decide_eq_false_iff_not,lessZ_lt (hf _) (hf _)] at h1
  have h3 : ¬ ((f a).1 = (f b).1 ∧ (f a).2 = (f b).2) := fun h => h2 (Prod.ext h.1 h.2)
  unfold lessP at *
  omega
abbrev InsT := {i : Ins // elO i.id = true}
instance : Inhabited InsT := ⟨⟨⟨(0,1),(0,0),false,0⟩,rfl⟩⟩
abbrev DrpT := {x : EId // elO x = true}
instance : Inhabited DrpT := ⟨⟨(0,1),rfl⟩⟩
theorem sort_gen {α : Type} [Inhabited α] (g : FuncId) (f : α → Opn) (key : α → EId) (hf : ∀ x, elO (key x) = true) (eg : ∀ args w, (callFunc g args).run Tryz.prog w = .ok (.enter g args) w)
    (hc : ∀ (x y : α) (W : World),Calls Tryz.prog g #[.agg (opZ (f x)).toArray,.agg (opZ (f y)).toArray] W fun e w' => e = .returned (.int .i64 (lessZ (key x) (key y))) ∧ ∃ q os',w' = Go.Sort.grow (W.drewN q) os')
    (H : AH) (k : Nat) (l : List α) (hk : H k = some (.cells (dL (l.map f)) 58 19)) (hl : l.length ≤ 1000000) (hn : (l.map key).Nodup) :
    ACalls Tryz.prog 39 [.own k 0 l.length,.fn (.func g) [] []] H fun v H' => v = .tup [] ∧ ∃ l' : List α,l'.Perm l ∧ l'.Pairwise (fun a b => lessP (key a) (key b)) ∧ H' = H.set k (.cells (dL (l'.map f)) 58 19) := by
  have h := acalls_sort (P := Tryz.prog) (f := 39) (g := g) (fun x => opZ (f x)) 19 (fun _ => rfl) (fun x => opZ_one _) (ltOf fun x y => lessZ (key x) (key y)) (by kernel_rfl)
    (fun blk cap d w hH hblk hsz => AnyQ.slices_SortFunc Tryz.sortL 19 (fun _ => rfl) (fun _ => rfl) (fun x => opZ (f x)) (fun _ => rfl) (fun x => opZ_one _) (fun x y => lessZ (key x) (key y)) (lessP_swo key hf) g #[] blk 0 cap d w eg (fun _ _ _ _ x y => hc _ _ _) hH hblk hsz)
    H k l 58 (by rw [ops_flat]; exact hk) hl
  refine h.mono ?_
  rintro v H' ⟨hv,l',hp,hs,hH⟩
  exact ⟨hv,l',hp,strict_of key hf hs ((hp.map key).nodup_iff.2 hn),by rw [hH,ops_flat]⟩
theorem sort_ins (H : AH) (k : Nat) (I : List Ins) (ok : ∀ i ∈ I, elO i.id = true) (hn : (I.map (·.id)).Nodup) (hk : H k = some (.cells (dL (I.map opI')) 58 19)) (hl : I.length ≤ 1000000) :
    ACalls Tryz.prog 39 [.own k 0 I.length,.fn (.func 40) [] []] H fun v H' => v = .tup [] ∧ ∃ sI : List Ins,sI.Perm I ∧ sI.Pairwise (fun a b => lessP a.id b.id) ∧ H' = H.set k (.cells (dL (sI.map opI')) 58 19) := by
  obtain ⟨l,rfl⟩ : ∃ l : List InsT,I = l.map (·.1) := ⟨I.attach.map fun x => ⟨x.1,ok x.1 x.2⟩,by rw [List.map_map]; exact (List.attach_map_subtype_val I).symm⟩
  rw [List.map_map] at hk hn
  rw [List.length_map] at hl ⊢
  refine (sort_gen 40 (fun x : InsT => opI' x.1) (fun x => x.1.id) (fun x => x.2) (enters_of Tryz.func40 (by kernel_rfl) rfl) (fun x y W => cmp1_calls _ _ _) H k l hk hl hn).mono ?_
  rintro v H' ⟨hv,l',hp,hs,hH⟩
  exact ⟨hv,l'.map (·.1),hp.map _,by rw [List.pairwise_map]; exact hs,by rw [hH,List.map_map]; rfl⟩
theorem sort_drp (H : AH) (k : Nat) (D : List EId) (ok : ∀ x ∈ D, elO x = true) (hn : D.Nodup) (hk : H k = some (.cells (dL (D.map opD')) 58 19)) (hl : D.length ≤ 1000000) :
    ACalls Tryz.prog 39 [.own k 0 D.length,.fn (.func 42) [] []] H fun v H' => v = .tup [] ∧ ∃ sD : List EId,sD.Perm D ∧ sD.Pairwise lessP ∧ H' = H.set k (.cells (dL (sD.map opD')) 58 19) := by
  obtain ⟨l,rfl⟩ : ∃ l : List DrpT,D = l.map (·.1) := ⟨D.attach.map fun x => ⟨x.1,ok x.1 x.2⟩,by rw [List.map_map]; exact (List.attach_map_subtype_val D).symm⟩
  rw [List.map_map] at hk
  rw [List.length_map] at hl ⊢
  refine (sort_gen 42 (fun x : DrpT => opD' x.1) (fun x => x.1) (fun x => x.2) (enters_of Tryz.func42 (by kernel_rfl) rfl) (fun x y W => cmp2_calls _ _ _) H k l hk hl hn).mono ?_
  rintro v H' ⟨hv,l',hp,hs,hH⟩
  exact ⟨hv,l'.map (·.1),hp.map _,by rw [List.pairwise_map]; exact hs,by rw [hH,List.map_map]; rfl⟩
end Go.Proofs.YtcgjlmopeblapaaGreat
end
section
set_option linter.unusedSimpArgs false
set_option linter.unusedVariables false
set_option maxRecDepth 8000
set_option maxHeartbeats 4000000
namespace Go.Proofs.YtcgjlmopeblapaaGreat
open Go Go.Abs Go.Proofs Go.Fug
theorem len64_z : APure Tryz.prog 97 [.sc (.int .u64 0)] (.sc (.int .i64 0)) := by
  refine az (c := ⟨Tryz.prog,25,[],[],[]⟩) (rs := [ResultVar.tmp 2]) Tryz.mixed Tryz.func97 rfl rfl rfl (Nat.le_of_ble_eq_true rfl) (by kernel_rfl) fun H => ?_
  simp (disch := omega) only [↓aI,↓zP,aD,zD,aS,simprocAttr,Tryz.facts,zA]
  have hw : 0 ≤ IntKind.u8.wrap 0 ∧ IntKind.u8.wrap 0 < 256 := by decide
  simp (disch := omega) only [↓aI,↓zP,aD,zD,aS,simprocAttr,Tryz.facts,zA,hw]
  exact ⟨by kernel_rfl,Abs.Sub.refl _⟩
theorem len_z : APure Tryz.prog 68 [.sc (.int .u64 0)] (.sc (.int .i64 0)) := by
  have h := len64_z
  refine az (c := ⟨Tryz.prog,8,[],[],[]⟩) (rs := [ResultVar.tmp 2]) Tryz.mixed Tryz.func68 rfl rfl rfl (Nat.le_of_ble_eq_true rfl) (by kernel_rfl) fun H => ?_
  simp (disch := omega) only [↓aI,↓zP,aD,zD,aS,simprocAttr,Tryz.facts,zA]
  first | refine CallK.p (h) ?_ | refine CallP.i (h) ?_
  simp (disch := omega) only [↓aI,↓zP,aD,zD,aS,simprocAttr,Tryz.facts,zA]
  exact Abs.Sub.refl _
theorem ins_z (g : FuncId) (H : AH) : ACalls Tryz.prog 88 [.imm 0 [] 0,.sc (.int .i64 0),.sc (.int .i64 0),.fn (.func g) [] []] H fun v H' => v = .tup [] ∧ H' = H := by
  refine ao (c := ⟨Tryz.prog,53,[(4,[0,0,0,0,0,0,0,0,1,0,0,0,0,1,2,0,0]),(6,[0,0,0,0,0,0,0,0,0,1,0,0,0,1,0,2,0,2])],[],[]⟩) (rs := []) Tryz.mixed Tryz.func88 rfl rfl rfl (Nat.le_of_ble_eq_true rfl) (by kernel_rfl) ?_
  simp (disch := omega) only [↓aI,↓zP,aD,zD,aS,simprocAttr,Tryz.facts,zA]
  refine br (c := ⟨Tryz.prog,53,[(4,[0,0,0,0,0,0,0,0,1,0,0,0,0,1,2,0,0]),(6,[0,0,0,0,0,0,0,0,0,1,0,0,0,1,0,2,0,2])],[],[]⟩) Tryz.mixed (by kernel_rfl) (fun mm σ H' => H' = H ∧ σ 2 = .sc (.int .i64 0) ∧ σ 8 = .sc (.int .i64 1)) 0 ?_ ?_
  · refine ⟨rfl,?_⟩
    simp (disch := omega) only [↓aI,↓zP,aD,zD,aS,simprocAttr,Tryz.facts]
    try rfl
  · rintro mm σ H' ⟨rfl,s2,s8⟩
    simp (disch := omega) only [↓aI,↓zP,aD,zD,aS,simprocAttr,Tryz.facts,s2,s8,zA]
    exact ⟨_,rfl,_,Abs.Sub.refl _,rfl,rfl⟩
theorem pdq_z (g : FuncId) (H : AH) : ACalls Tryz.prog 67 [.imm 0 [] 0,.sc (.int .i64 0),.sc (.int .i64 0),.sc (.int .i64 0),.fn (.func g) [] []] H fun v H' => v = .tup [] ∧ H' = H := by
  have hi := ins_z g H
  refine ao (c := ⟨Tryz.prog,148,[(17,[0,0,0,0,0,0,0,0,1,0,0,0,1,2,0,0,0]),(4000026,[0,2,3,4,10,11,16]),(4000029,[0,1,3,4,10,11,16]),(4000022,[0,1,2,3,4,11,12,16,18,19]),(4000020,[0,1,2,3,4,12,16,17]),(4000018,[0,2,3,4,10,11,15]),(4000017,[0,1,2,3,4,10,11,12,13,97]),(4000016,[0,1,2,3,4,10,11,12,13,80]),(4000015,[0,1,2,3,4,10,11,12,13,75]),(4000013,[0,1,2,3,4,10,11,12,13]),(4000012,[0,1,2,3,4,10,11,12,13]),(4000010,[0,1,2,3,4,10,11,12,13,14]),(4000008,[0,1,2,3,4,10,11,12])],[],[]⟩) (rs := []) Tryz.mixed Tryz.func67 rfl rfl rfl (Nat.le_of_ble_eq_true rfl) (by kernel_rfl) ?_
  simp (disch := omega) only [↓aI,↓zP,aD,zD,aS,simprocAttr,Tryz.facts,zA]
  refine br (c := ⟨Tryz.prog,148,[(17,[0,0,0,0,0,0,0,0,1,0,0,0,1,2,0,0,0]),(4000026,[0,2,3,4,10,11,16]),(4000029,[0,1,3,4,10,11,16]),(4000022,[0,1,2,3,4,11,12,16,18,19]),(4000020,[0,1,2,3,4,12,16,17]),(4000018,[0,2,3,4,10,11,15]),(4000017,[0,1,2,3,4,10,11,12,13,97]),(4000016,[0,1,2,3,4,10,11,12,13,80]),(4000015,[0,1,2,3,4,10,11,12,13,75]),(4000013,[0,1,2,3,4,10,11,12,13]),(4000012,[0,1,2,3,4,10,11,12,13]),(4000010,[0,1,2,3,4,10,11,12,13,14]),(4000008,[0,1,2,3,4,10,11,12])],[],[]⟩) Tryz.mixed (by kernel_rfl) (fun mm σ H' => H' = H ∧ σ 0 = .imm 0 [] 0 ∧ σ 1 = .sc (.int .i64 0) ∧ σ 2 = .sc (.int .i64 0) ∧ σ 3 = .sc (.int .i64 0) ∧ σ 4 = .fn (.func g) [] []) 0 ?_ ?_
  · refine ⟨rfl,?_⟩
    simp (disch := omega) only [↓aI,↓zP,aD,zD,aS,simprocAttr,Tryz.facts]
    try rfl
  · rintro mm σ H' ⟨rfl,s0,s1,s2,s3,s4⟩
    simp (disch := omega) only [↓aI,↓zP,aD,zD,aS,simprocAttr,Tryz.facts,s0,s1,s2,s3,s4,zA]
    refine CallK.i hi ?_
    rintro v E ⟨rfl,rfl⟩
    simp (disch := omega) only [↓aI,↓zP,aD,zD,aS,simprocAttr,Tryz.facts,s0,s1,s2,s3,s4,zA]
    exact ⟨_,rfl,_,Abs.Sub.refl _,rfl,rfl⟩
theorem sort_nil (g : FuncId) (H : AH) : ACalls Tryz.prog 39 [.imm 0 [] 0,.fn (.func g) [] []] H fun v H' => v = .tup [] ∧ H' = H := by
  have hp := pdq_z g H
  have hl := len_z
  refine ao (c := ⟨Tryz.prog,14,[],[],[]⟩) (rs := []) Tryz.mixed Tryz.func39 rfl rfl rfl (Nat.le_of_ble_eq_true rfl) (by kernel_rfl) ?_
  simp (disch := omega) only [↓aI,↓zP,aD,zD,aS,simprocAttr,Tryz.facts,zA]
  first | refine CallK.p (hl) ?_ | refine CallP.i (hl) ?_
  simp (disch := omega) only [↓aI,↓zP,aD,zD,aS,simprocAttr,Tryz.facts,zA]
  refine CallK.i hp ?_
  rintro v E ⟨rfl,rfl⟩
  simp (disch := omega) only [↓aI,↓zP,aD,zD,aS,simprocAttr,Tryz.facts,zA]
  exact ⟨_,rfl,_,Abs.Sub.refl _,rfl,rfl⟩
end Go.Proofs.YtcgjlmopeblapaaGreat
end
section
set_option linter.unusedSimpArgs false
set_option linter.unusedVariables false
set_option maxRecDepth 8000
set_option maxHeartbeats 4000000
namespace Go.Proofs.YtcgjlmopeblapaaGreat
open Go Go.Abs Go.Proofs Go.Fug
def RowIs (F E : AH) (v : AV) (O : List Opn) : Prop :=
  (O = [] ∧ v = .sc (.slice none 0 0)) ∨ (O ≠ [] ∧ ∃ k,v = .own k 0 O.length ∧ k ≠ 0 ∧ F k = none ∧ E k = some (.cells (dL O) 58 19))
theorem RowIs.mono {F E E' : AH} {v : AV} {O : List Opn} (h : RowIs F E v O) (hs : ∀ y o,F y = none → E y = some o → E' y = some o) : RowIs F E' v O := by
  rcases h with h | ⟨h1,k,h2,h3,h4,h5⟩
  · exact .inl h
  · exact .inr ⟨h1,k,h2,h3,h4,hs _ _ h4 h5⟩
theorem sort_rowI {F E : AH} {v : AV} (I : List Ins) (ok : ∀ i ∈ I, elO i.id = true) (hn : (I.map (·.id)).Nodup) (hl : I.length ≤ 1000000) (h : RowIs F E v (I.map opI')) :
    ACalls Tryz.prog 39 [v.strip,.fn (.func 40) [] []] E fun u E' => u = .tup [] ∧ ∃ sI : List Ins,sI.Perm I ∧ sI.Pairwise (fun a b => lessP a.id b.id) ∧ RowIs F E' v (sI.map opI') ∧ (∀ y o,F y = some o → E y = some o → E' y = some o) := by
  rcases h with ⟨h1,rfl⟩ | ⟨h1,k,rfl,h3,h4,h5⟩
  · obtain rfl : I = [] := by simpa using h1
    refine (sort_nil _ E).mono ?_
    rintro u E' ⟨rfl,rfl⟩
    exact ⟨rfl,[],List.Perm.refl _,List.Pairwise.nil,.inl ⟨rfl,rfl⟩,fun y o _ h => h⟩
  · rw [List.length_map]
    refine (sort_ins E k I ok hn h5 hl).mono ?_
    rintro u E' ⟨rfl,sI,hp,hs,rfl⟩
    refine ⟨rfl,sI,hp,hs,.inr ⟨?_,k,?_,h3,h4,set_get⟩,fun y o hy he => ?_⟩
    · intro e
      have := hp.length_eq
      simp only [List.map_eq_nil_iff] at e
      subst e
      exact h1 (by rw [List.length_eq_zero_iff.1 this.symm]; rfl)
    · rw [List.length_map,hp.length_eq]
    · have : ¬ y = k := by rintro rfl; rw [h4] at hy; cases hy
      rw [aP this]
      exact he
theorem sort_rowD {F E : AH} {v : AV} (D : List EId) (ok : ∀ x ∈ D, elO x = true) (hn : D.Nodup) (hl : D.length ≤ 1000000) (h : RowIs F E v (D.map opD')) :
    ACalls Tryz.prog 39 [v.strip,.fn (.func 42) [] []] E fun u E' => u = .tup [] ∧ ∃ sD : List EId,sD.Perm D ∧ sD.Pairwise lessP ∧ RowIs F E' v (sD.map opD') ∧ (∀ y o,F y = some o → E y = some o → E' y = some o) := by
  rcases h with ⟨h1,rfl⟩ | ⟨h1,k,rfl,h3,h4,h5⟩
  · obtain rfl : D = [] := by simpa using h1
    refine (sort_nil _ E).mono ?_
    rintro u E' ⟨rfl,rfl⟩
    exact ⟨rfl,[],List.Perm.refl _,List.Pairwise.nil,.inl ⟨rfl,rfl⟩,fun y o _ h => h⟩
  · rw [List.length_map]
    refine (sort_drp E k D ok hn h5 hl).mono ?_
    rintro u E' ⟨rfl,sD,hp,hs,rfl⟩
    refine ⟨rfl,sD,hp,hs,.inr ⟨?_,k,?_,h3,h4,set_get⟩,fun y o hy he => ?_⟩
    · intro e
      have := hp.length_eq
      simp only [List.map_eq_nil_iff] at e
      subst e
      exact h1 (by rw [List.length_eq_zero_iff.1 this.symm]; rfl)
    · rw [List.length_map,hp.length_eq]
    · have : ¬ y = k := by rintro rfl; rw [h4] at hy; cases hy
      rw [aP this]
      exact he
theorem js_perm {α : Type} (d : α) {js : List Nat} {I : List α} (h : js.Perm (List.range I.length)) : (js.map fun j => I.getD j d).Perm I := by
  refine (h.map _).trans ?_
  refine List.Perm.of_eq ?_
  apply List.ext_getElem
  · simp
  · intro n h1 h2
    simp [h2]
theorem zip_oneE (D : List EId) : ((oneE D).map (·.1)).zip ((oneE D).map (·.2)) = oneE D := by
  unfold oneE bP
  induction D with
  | nil => rfl
  | cons y D ih => simp only [List.map_cons,List.zip_cons_cons] at *; rw [ih]
theorem row_first {F E : AH} {k' : Nat} {O : List Opn} (hE : ∀ y,E y = none → F y = none) (hO : O ≠ []) (h0 : k' ≠ 0) (hk' : E k' = none) : RowIs F (E.set k' (.cells (dL O) 58 19)) (.own k' 0 O.length) O ∧ ∀ y o,E y = some o → (E.set k' (.cells (dL O) 58 19)) y = some o := by
  refine ⟨.inr ⟨hO,k',rfl,h0,hE _ hk',set_get⟩,fun y o ho => ?_⟩
  rw [aP (bA ho hk')]
  exact ho
theorem row_more {F E : AH} {k k' : Nat} {O R : List Opn} (hf : F k = none) (hk0 : k ≠ 0) (hE : ∀ y, E y = none → F y = none) (hO : O ≠ []) (hk' : k' = k ∨ k' ≠ 0 ∧ E k' = none) :
    RowIs F ((E.kill k).set k' (.cells (dL (O ++ R)) 58 19)) (.own k' 0 (O.length + R.length)) (O ++ R) ∧ ∀ y o,¬ y = k → E y = some o → ((E.kill k).set k' (.cells (dL (O ++ R)) 58 19)) y = some o := by
  refine ⟨.inr ⟨by simp [hO],k',by rw [List.length_append],?_,?_,set_get⟩,fun y o hy ho => ?_⟩
  · rcases hk' with rfl | h
    · exact hk0
    · exact h.1
  · rcases hk' with rfl | h
    · exact hf
    · exact hE _ h.2
  · have : ¬ y = k' := by
      rcases hk' with rfl | h
      · exact hy
      · exact bA ho h.2
    rw [aP this]
    simp only [AH.kill,hy,if_false]
    exact ho
theorem ops_live (B H : AH) (h : PH) (s : PS) (p : IsP B H h s) (okI : ∀ i ∈ s.I, elO i.id = true) (okD : ∀ x ∈ s.D, elO x = true) :
    ACalls Tryz.prog 15 [.ptr h.p 0] H fun v H' => H' = H ∧ ∃ O,OpsS s O ∧ v = opsV O := by
  obtain ⟨wv,vp,-⟩ := p.pw
  have vmi := p.mi
  have vmd := p.md
  have vb := p.b
  have hmm := p.ne.1
  have big := p.big
  have gsm := p.g.small
  have nd := p.nd
  have dd := p.dd
  clear p
  unfold OpsS
  obtain ⟨I,D,W,L,G,l⟩ := s
  simp only [] at *
  refine ACalls.freeze (R := fun v H' => Abs.Sub H H' ∧ ∃ O,(∃ (sI : List Ins) (sD : List EId),sI.Perm I ∧ sI.Pairwise (fun a b => lessP a.id b.id) ∧ sD.Perm D ∧ sD.Pairwise lessP ∧ O = sI.map opI' ++ sD.map opD' ++ l.map opM') ∧ ((O = [] ∧ v = .imm 0 [] 0) ∨ (O ≠ [] ∧ ∃ k,v = .own k 0 O.length ∧ H k = none ∧ H' k = some (.cells (dL O) 58 19)))) ?_ ?_
  · generalize hKS : (eQ I).map (·.1) = KS at *
    generalize hVS : (eQ I).map (·.2) = VS at *
    have hKl : KS.length = I.length := by rw [← hKS,List.length_map,insE_length]
    have hVg : ∀ j (hj : j < I.length),VS.getD j .any = .agg (cA I[j]) := fun j hj => by
      subst hVS
      simp [eQ,hj]
    have hzip : KS.zip VS = eQ I := by rw [← hKS,← hVS]; exact zip_insE _
    refine ao (c := ⟨Tryz.prog,64,[(1000006,[6]),(1000011,[7]),(1000017,[9]),(4000018,[3,51,52,53]),(4000015,[3,51,52,53]),(4000012,[0,3,4,32]),(4000009,[0,3,4,32]),(4000007,[0,3,4,16]),(4000004,[0,3,4,16])],[1000025,1000041,1000046,1000061],[]⟩) (rs := [ResultVar.tmp 2]) Tryz.mixed Tryz.func15 rfl rfl rfl (Nat.le_of_ble_eq_true rfl) (by kernel_rfl) ?_
    simp (disch := omega) only [↓aI,↓zP,aD,zD,aS,simprocAttr,Tryz.facts,vp]
    refine range_m (kt := 50) (et := 52) (by kernel_rfl) vmi fun hr hr0 hrf b ms clock => ?_
    rw [hKS,hVS]
    have r1 := bA vmi hrf
    simp (disch := omega) only [↓aI,↓zP,aD,zD,aS,simprocAttr,Tryz.facts]
    refine br (c := ⟨Tryz.prog,64,[(1000006,[6]),(1000011,[7]),(1000017,[9]),(4000018,[3,51,52,53]),(4000015,[3,51,52,53]),(4000012,[0,3,4,32]),(4000009,[0,3,4,32]),(4000007,[0,3,4,16]),(4000004,[0,3,4,16])],[1000025,1000041,1000046,1000061],[]⟩) Tryz.mixed (by kernel_rfl) (fun mm σ H' => ∃ js : List Nat,js.Nodup ∧ (∀ j ∈ js,j < I.length) ∧ js.length + mm = I.length ∧ H' h.mi = some (.raw (.map ms clock)) ∧ H' hr = some (.raw (itO b clock ms js)) ∧ (∀ y o,¬ y = h.mi → H y = some o → H' y = some o) ∧
      RowIs H H' (σ 3) (js.map fun j => opI' (I.getD j cj)) ∧ σ 0 = .ptr h.p 0 ∧ σ 4 = .sc (.slice none 0 0) ∧ σ 16 = .itr hr h.mi b clock KS VS ms) I.length ?_ ?_
    · refine ⟨[],List.nodup_nil,by simp,by simp,by rw [aP r1,set_get],set_get,fun y o hy ho => by rw [aP (bA ho hrf),aP hy]; exact ho,.inl ⟨rfl,?_⟩,?_⟩
      · simp (disch := omega) only [↓aI,↓zP,aD,zD,aS,simprocAttr,Tryz.facts]
        try rfl
      · simp (disch := omega) only [↓aI,↓zP,aD,zD,aS,simprocAttr,Tryz.facts]
        try rfl
    · rintro mm σ H' ⟨js,hjn,hjl,hjm,vm,vr,fr,ho,s0,s4,s16⟩
      have fn : ∀ y,H' y = none → H y = none := fun y hy => by
        cases e : H y with
        | none => rfl
        | some o =>
          by_cases em : y = h.mi
          · rw [em,vm] at hy; cases hy
          · rw [fr y o em e] at hy; cases hy
      have hjm' : js.length ≤ I.length := by omega
      generalize hO : (js.map fun j => opI' (I.getD j cj)) = O at *
      have hOl : O.length = js.length := by rw [← hO,List.length_map]
      simp (disch := omega) only [↓aI,↓zP,aD,zD,aS,simprocAttr,Tryz.facts,s0,s4,s16]
      refine next_m vr vm (fun j hj => by rw [hKl]; exact hjl j hj) (fun hall => ?_) (fun j hj hjx => ?_)
      · have hp := js_perm cj (js_all hjn hjl (fun j hj => hall j (by rw [hKl]; exact hj)))
        rw [hzip]
        obtain ⟨I',hI',hO'⟩ : ∃ I' : List Ins,I'.Perm I ∧ O = I'.map opI' := ⟨_,hp,by rw [← hO,List.map_map]; rfl⟩
        have hs1 : Abs.Sub H (H'.set h.mi (.map (eQ I))) := fun y o hy => by
          by_cases e : y = h.mi
          · rw [e,set_get,← vmi,← e,hy]
          · rw [aP e]; exact fr y o e hy
        have ho1 : RowIs H (H'.set h.mi (.map (eQ I))) (σ 3) O := ho.mono fun y o hy he => by
          have e : ¬ y = h.mi := by rintro rfl; rw [vmi] at hy; cases hy
          rw [aP e]; exact he
        clear fr fn ho vr vm hp hall hO hjl hjn hOl hjm hjm'
        generalize H'.set h.mi (.map (eQ I)) = E1 at *
        subst hO'
        have hsr := sort_rowI I' (fun i hi => okI i (hI'.mem_iff.1 hi)) ((hI'.map (·.id)).nodup_iff.2 nd) (by have := hI'.length_eq; omega) ho1
        simp (disch := omega) only [↓aI,↓zP,aD,zD,aS,simprocAttr,Tryz.facts,s0,s4,s16]
        refine CallK.i hsr ?_
        rintro u E2 ⟨rfl,sI,hpI,hsI,ho2,hf2⟩
        have hs2 : Abs.Sub H E2 := fun y o hy => hf2 y o hy (hs1 y o hy)
        clear hsr hf2 ho1 hs1
        have vp2 := hs2 _ _ vp
        have vmd2 := hs2 _ _ vmd
        have hpI2 := hpI.trans hI'
        clear hpI hI'
        generalize hKD : (oneE D).map (·.1) = KD at *
        generalize hVD : (oneE D).map (·.2) = VD at *
        have hKDl : KD.length = D.length := by rw [← hKD,List.length_map,oneE_length]
        have hKDg : ∀ j (hj : j < D.length) (hk : j < KD.length),KD[j] = idV D[j] := fun j hj hk => by
          subst hKD
          simp [oneE,bP]
        have hzipD : KD.zip VD = oneE D := by
          rw [← hKD,← hVD]
          exact zip_oneE D
        simp (disch := omega) only [↓aI,↓zP,aD,zD,aS,simprocAttr,Tryz.facts,s0,s4,s16,vp2]
        refine range_m (kt := 50) (et := 3) (by kernel_rfl) vmd2 fun hq hq0 hqf b' ms' clock' => ?_
        rw [hKD,hVD]
        have r2 := bA vmd2 hqf
        simp (disch := omega) only [↓aI,↓zP,aD,zD,aS,simprocAttr,Tryz.facts,s0,s4,s16,vp2]
        generalize σ 3 = v3 at *
        clear s0 s4 s16
        refine br (c := ⟨Tryz.prog,64,[(1000006,[6]),(1000011,[7]),(1000017,[9]),(4000018,[3,51,52,53]),(4000015,[3,51,52,53]),(4000012,[0,3,4,32]),(4000009,[0,3,4,32]),(4000007,[0,3,4,16]),(4000004,[0,3,4,16])],[1000025,1000041,1000046,1000061],[]⟩) Tryz.mixed (by kernel_rfl) (fun mm σ H' => ∃ js : List Nat,js.Nodup ∧ (∀ j ∈ js,j < D.length) ∧ js.length + mm = D.length ∧ H' h.md = some (.raw (.map ms' clock')) ∧ H' hq = some (.raw (itO b' clock' ms' js)) ∧ (∀ y o,¬ y = h.md → E2 y = some o → H' y = some o) ∧
          RowIs E2 H' (σ 4) (js.map fun j => opD' (D.getD j (0,0))) ∧ σ 0 = .ptr h.p 0 ∧ σ 3 = v3 ∧ σ 32 = .itr hq h.md b' clock' KD VD ms') D.length ?_ ?_
        · refine ⟨[],List.nodup_nil,by simp,by simp,by rw [aP r2,set_get],set_get,fun y o hy ho => by rw [aP (bA ho hqf),aP hy]; exact ho,.inl ⟨rfl,?_⟩,?_⟩
          · simp (disch := omega) only [↓aI,↓zP,aD,zD,aS,simprocAttr,Tryz.facts]
            try rfl
          · simp (disch := omega) only [↓aI,↓zP,aD,zD,aS,simprocAttr,Tryz.facts]
            try rfl
        · rintro mm σ H' ⟨js,hjn,hjl,hjm,vm,vr,fr,ho,s0,s3,s32⟩
          have fn : ∀ y,H' y = none → E2 y = none := fun y hy => by
            cases e : E2 y with
            | none => rfl
            | some o =>
              by_cases em : y = h.md
              · rw [em,vm] at hy; cases hy
              · rw [fr y o em e] at hy; cases hy
          have hjm' : js.length ≤ D.length := by omega
          generalize hO : (js.map fun j => opD' (D.getD j (0,0))) = O at *
          have hOl : O.length = js.length := by rw [← hO,List.length_map]
          simp (disch := omega) only [↓aI,↓zP,aD,zD,aS,simprocAttr,Tryz.facts,s0,s3,s32]
          refine next_m vr vm (fun j hj => by rw [hKDl]; exact hjl j hj) (fun hall => ?_) (fun j hj hjx => ?_)
          · have hp := js_perm (0,0) (js_all hjn hjl (fun j hj => hall j (by rw [hKDl]; exact hj)))
            rw [hzipD]
            obtain ⟨D',hD',hO'⟩ : ∃ D' : List EId,D'.Perm D ∧ O = D'.map opD' := ⟨_,hp,by rw [← hO,List.map_map]; rfl⟩
            have hs3 : Abs.Sub E2 (H'.set h.md (.map (oneE D))) := fun y o hy => by
              by_cases e : y = h.md
              · rw [e,set_get,← vmd2,← e,hy]
              · rw [aP e]; exact fr y o e hy
            have ho3 : RowIs E2 (H'.set h.md (.map (oneE D))) (σ 4) O := ho.mono fun y o hy he => by
              have e : ¬ y = h.md := by rintro rfl; rw [vmd2] at hy; cases hy
              rw [aP e]; exact he
            clear fr fn ho vr vm hp hall hO hjl hjn hOl hjm hjm'
            generalize H'.set h.md (.map (oneE D)) = E3 at *
            subst hO'
            have hsr := sort_rowD D' (fun i hi => okD i (hD'.mem_iff.1 hi)) (hD'.nodup_iff.2 dd) (by have := hD'.length_eq; omega) ho3
            simp (disch := omega) only [↓aI,↓zP,aD,zD,aS,simprocAttr,Tryz.facts,s0,s3,s32]
            refine CallK.i hsr ?_
            rintro u E4 ⟨rfl,sD,hpD,hsD,ho4,hf4⟩
            have hs4 : Abs.Sub E2 E4 := fun y o hy => hf4 y o hy (hs3 y o hy)
            clear hsr hf4 ho3 hs3
            have hpD2 := hpD.trans hD'
            clear hpD hD'
            have vp4 := hs4 _ _ vp2
            have hfin : ∃ (tI : List Ins) (tD : List EId),tI.Perm I ∧ tI.Pairwise (fun a b => lessP a.id b.id) ∧ tD.Perm D ∧ tD.Pairwise lessP ∧ sI.map opI' ++ sD.map opD' ++ l.map opM' = tI.map opI' ++ tD.map opD' ++ l.map opM' := ⟨sI,sD,hpI2,hsI,hpD2,hsD,rfl⟩
            have l1 : (sI.map opI').length ≤ 8192 := by rw [List.length_map,hpI2.length_eq]; exact big.1
            have l2 : (sD.map opD').length ≤ 8192 := by rw [List.length_map,hpD2.length_eq]; exact big.2.1
            have hs24 : Abs.Sub H E4 := fun y o hy => hs4 _ _ (hs2 _ _ hy)
            have fn4 : ∀ y,E4 y = none → H y = none := fun y hy => by
              cases e : H y with
              | none => rfl
              | some o => rw [hs24 _ _ e] at hy; cases hy
            replace ho2 : RowIs H E4 v3 (sI.map opI') := ho2.mono fun y o _ hy => hs4 _ _ hy
            clear hsD hsI hpI2 hpD2
            generalize sI.map opI' = O1 at *
            generalize sD.map opD' = O2 at *
            have hc1 := cq O1
            have hc2 := cq O2
            rcases ho2 with ⟨rfl,rfl⟩ | ⟨n1,k1,rfl,z1,f1,c1⟩ <;> rcases ho4 with ⟨rfl,s4⟩ | ⟨n2,k2,s4,z2,f2,c2⟩
            case' inl.inl =>
              have hR5 : RowIs H E4 (.sc (.slice none 0 0)) ([] ++ []) := .inl ⟨rfl,rfl⟩
              have hE5 : Abs.Sub H E4 := hs24
              have hOl : (([] : List Opn) ++ []).length ≤ 16384 := by simp
              generalize hOO : ([] : List Opn) ++ [] = OO at hR5 hfin hOl
              simp (disch := omega) only [↓aI,↓zP,aD,zD,aS,simprocAttr,Tryz.facts,s0,s3,s4,vp4]
            case' inl.inr =>
              have hn2 : ¬ O2.length = 0 := fun e => n2 (List.length_eq_zero_iff.1 e)
              have hp2 : 0 < O2.length := by omega
              have hle2 : O2.length * 19 ≤ O2.length * 19 := Nat.le_refl _
              have htk2 : (dL O2).take (O2.length * 19) = dL O2 := List.take_of_length_le (by omega)
              have hb2 : O2.length ≤ 9223372036854775807 ∧ O2.length * 144 ≤ 140737488355328 := ⟨by omega,by omega⟩
              simp (disch := omega) only [↓aI,↓zP,aD,zD,aS,simprocAttr,Tryz.facts,s0,s3,s4,vp4,c2,hc2,hn2,hp2,hle2,htk2,hb2]
              intro k' hk'0 hk'
              obtain ⟨g1,g2⟩ := row_first (F := H) (O := O2) fn4 n2 hk'0 hk'
              have hR5 : RowIs H _ (.own k' 0 O2.length) ([] ++ O2) := g1
              have hE5 : Abs.Sub H _ := fun y o hy => g2 y o (hs24 y o hy)
              have hOl : (([] : List Opn) ++ O2).length ≤ 16384 := by simp; omega
              generalize hOO : ([] : List Opn) ++ O2 = OO at hR5 hfin hOl
              have vp5 := hE5 _ _ vp
              simp (disch := omega) only [↓aI,↓zP,aD,zD,aS,simprocAttr,Tryz.facts,s0,s3,s4,vp5]
            case' inr.inl =>
              have hn1 : ¬ O1.length = 0 := fun e => n1 (List.length_eq_zero_iff.1 e)
              have hle1 : O1.length * 19 ≤ O1.length * 19 := Nat.le_refl _
              have htk1 : (dL O1).take (O1.length * 19) = dL O1 := List.take_of_length_le (by omega)
              have hb1 : O1.length ≤ 9223372036854775807 ∧ O1.length * 144 ≤ 140737488355328 := ⟨by omega,by omega⟩
              simp (disch := omega) only [↓aI,↓zP,aD,zD,aS,simprocAttr,Tryz.facts,s0,s3,s4,vp4,c1,hc1,hn1,hle1,htk1,hb1]
              intro k' hk'
              obtain ⟨g1,g2⟩ := row_more (F := H) (O := O1) (R := []) f1 z1 fn4 n1 hk'
              simp only [List.append_nil,List.length_nil,Nat.add_zero] at g1 g2
              have hR5 := (congrArg (RowIs H _ _) (List.append_nil O1)).mpr g1
              have hE5 : Abs.Sub H _ := fun y o hy => g2 y o (bA hy f1) (hs24 y o hy)
              have hOl : (O1 ++ ([] : List Opn)).length ≤ 16384 := by simp; omega
              generalize hOO : O1 ++ ([] : List Opn) = OO at hR5 hfin hOl
              have vp5 := hE5 _ _ vp
              simp (disch := omega) only [↓aI,↓zP,aD,zD,aS,simprocAttr,Tryz.facts,s0,s3,s4,vp5]
            case' inr.inr =>
              have hn1 : ¬ O1.length = 0 := fun e => n1 (List.length_eq_zero_iff.1 e)
              have hle1 : O1.length * 19 ≤ O1.length * 19 := Nat.le_refl _
              have htk1 : (dL O1).take (O1.length * 19) = dL O1 := List.take_of_length_le (by omega)
              have hle2 : O2.length * 19 ≤ O2.length * 19 := Nat.le_refl _
              have htk2 : (dL O2).take (O2.length * 19) = dL O2 := List.take_of_length_le (by omega)
              have hb3 : O1.length + O2.length ≤ 9223372036854775807 ∧ (O1.length + O2.length) * 144 ≤ 140737488355328 := ⟨by omega,by omega⟩
              simp (disch := omega) only [↓aI,↓zP,aD,zD,aS,simprocAttr,Tryz.facts,s0,s3,s4,vp4,c1,c2,hc1,hc2,hn1,hle1,htk1,hle2,htk2,hb3]
              intro k' hk'
              obtain ⟨g1,g2⟩ := row_more (F := H) (O := O1) (R := O2) f1 z1 fn4 n1 hk'
              rw [opsC_append] at g1 g2
              have hR5 : RowIs H _ (.own k' 0 (O1.length + O2.length)) (O1 ++ O2) := g1
              have hE5 : Abs.Sub H _ := fun y o hy => g2 y o (bA hy f1) (hs24 y o hy)
              have hOl : (O1 ++ O2).length ≤ 16384 := by simp; omega
              generalize hOO : O1 ++ O2 = OO at hR5 hfin hOl
              have vp5 := hE5 _ _ vp
              simp (disch := omega) only [↓aI,↓zP,aD,zD,aS,simprocAttr,Tryz.facts,s0,s3,s4,vp5]
            all_goals
              refine CallK.i (list_live _ h.b l (hE5 _ _ vb) gsm) ?_
              rintro u E ⟨rfl,rfl⟩
              simp (disch := omega) only [↓aI,↓zP,aD,zD,aS,simprocAttr,Tryz.facts,s0,s3,s4]
              have e0 : OO ++ (l.take 0).map opM' = OO := by simp
              have hml := bM l
              refine br (c := ⟨Tryz.prog,64,[(1000006,[6]),(1000011,[7]),(1000017,[9]),(4000018,[3,51,52,53]),(4000015,[3,51,52,53]),(4000012,[0,3,4,32]),(4000009,[0,3,4,32]),(4000007,[0,3,4,16]),(4000004,[0,3,4,16])],[1000025,1000041,1000046,1000061],[]⟩) Tryz.mixed (by kernel_rfl) (fun mm σ H' => ∃ i : Nat,i + mm = l.length ∧ RowIs H H' (σ 3) (OO ++ (l.take i).map opM') ∧ Abs.Sub H H' ∧ σ 51 = eM l ∧ σ 52 = .sc (.int .i64 (l.length : Nat)) ∧ σ 53 = .sc (.int .i64 (i : Nat))) l.length ?_ ?_
              · refine ⟨0,by omega,?_⟩
                rw [e0]
                simp (disch := omega) only [↓aI,↓zP,aD,zD,aS,simprocAttr,Tryz.facts]
                exact ⟨hR5,hE5⟩
              · clear hR5 hE5 hs24 fn4 s0 s3 s4
                rintro mm σ H' ⟨i,him,hr,hs,s51,s52,s53⟩
                have fn6 : ∀ y,H' y = none → H y = none := fun y hy => by
                  cases e : H y with
                  | none => rfl
                  | some o => rw [hs _ _ e] at hy; cases hy
                by_cases hlt : i < l.length
                · have hst : OO ++ (l.take (i + 1)).map opM' = OO ++ (l.take i).map opM' ++ [opM' l[i]] := by
                    rw [List.take_succ_eq_append_getElem hlt,List.map_append,List.append_assoc]
                    rfl
                  have hRl : (OO ++ (l.take i).map opM').length ≤ 20000 := by
                    rw [List.length_append,List.length_map,List.length_take]
                    omega
                  have hld := mksC_load hlt
                  have hle : i * 10 + 10 ≤ l.length * 10 := by omega
                  generalize OO ++ (l.take i).map opM' = R at *
                  generalize l[i] = x at *
                  obtain ⟨mc,ma,⟨f1',f2'⟩,fb,⟨t1,t2⟩,tb,nm,vl⟩ := x
                  simp only [mkC] at hld
                  rcases hr with ⟨rfl,s3⟩ | ⟨hne,k,s3,hk0,hk,hc⟩
                  · simp (disch := omega) only [↓aI,↓zP,aD,zD,aS,simprocAttr,Tryz.facts,s3,s51,s52,s53,zA,hml,hld,hle]
                    intro b9 hb90 hb9
                    simp (disch := omega) only [↓aI,↓zP,aD,zD,aS,simprocAttr,Tryz.facts,s3,s51,s52,s53,zA,hml,hld,hle,aj hb9,ah]
                    intro k' hk'0 hk'
                    obtain ⟨g1,g2⟩ := row_first (O := [opM' ⟨mc,ma,(f1',f2'),fb,(t1,t2),tb,nm,vl⟩]) fn6 (by simp) hk'0 hk'
                    exact ⟨mm - 1,by omega,i + 1,by omega,by rw [hst]; exact g1,fun y o hy => g2 _ _ (hs _ _ hy),rfl⟩
                  · have hoq := cq R
                    have htk : (dL R).take (R.length * 19) = dL R := List.take_of_length_le (by omega)
                    have hle2 : R.length * 19 ≤ R.length * 19 := Nat.le_refl _
                    have hbg : R.length ≤ 9223372036854775806 ∧ (R.length + 1) * 144 ≤ 140737488355328 := ⟨by omega,by omega⟩
                    simp (disch := omega) only [↓aI,↓zP,aD,zD,aS,simprocAttr,Tryz.facts,s3,s51,s52,s53,zA,hml,hld,hle]
                    intro b9 hb90 hb9
                    simp (disch := omega) only [↓aI,↓zP,aD,zD,aS,simprocAttr,Tryz.facts,s3,s51,s52,s53,zA,hml,hld,hle,aj hb9,ah,hc,hoq,htk,hle2,hbg]
                    intro k' hk'
                    obtain ⟨g1,g2⟩ := row_more (O := R) (R := [opM' ⟨mc,ma,(f1',f2'),fb,(t1,t2),tb,nm,vl⟩]) hk hk0 fn6 hne hk'
                    rw [← opsC_snoc] at g1 g2
                    exact ⟨mm - 1,by omega,i + 1,by omega,by rw [hst]; exact g1,fun y o hy => g2 _ _ (bA hy hk) (hs _ _ hy),rfl⟩
                · obtain rfl : i = l.length := by omega
                  rw [List.take_length] at hr
                  obtain ⟨tI,tD,ht⟩ := hfin
                  rcases hr with ⟨he,s3⟩ | ⟨hne,k,s3,hk0,hk,hc⟩
                  · simp (disch := omega) only [↓aI,↓zP,aD,zD,aS,simprocAttr,Tryz.facts,s3,s51,s52,s53,zA]
                    exact ⟨_,rfl,_,Abs.Sub.refl _,hs,_,⟨tI,tD,ht⟩,.inl ⟨he,rfl⟩⟩
                  · simp (disch := omega) only [↓aI,↓zP,aD,zD,aS,simprocAttr,Tryz.facts,s3,s51,s52,s53,zA]
                    exact ⟨_,rfl,_,Abs.Sub.refl _,hs,_,⟨tI,tD,ht⟩,.inr ⟨hne,k,by rw [List.length_append,List.length_map],hk,hc⟩⟩
          · have hjD : j < D.length := by rw [← hKDl]; exact hj
            obtain ⟨q1,q2,q3,q4⟩ := js_snoc hjn hjl hjm hjD hjx
            have hv2 : (H'.set hq (.raw (itO b' clock' ms' (js ++ [j])))) hq = some (.raw (itO b' clock' ms' (js ++ [j]))) := set_get
            have hm2 : (H'.set hq (.raw (itO b' clock' ms' (js ++ [j])))) h.md = some (.raw (.map ms' clock')) := by rw [aP r2]; exact vm
            have fr2 : ∀ y o,¬ y = h.md → E2 y = some o → (H'.set hq (.raw (itO b' clock' ms' (js ++ [j])))) y = some o := fun y o hy ho => by rw [aP (bA ho hqf)]; exact fr y o hy ho
            have fn2 : ∀ y,(H'.set hq (.raw (itO b' clock' ms' (js ++ [j])))) y = none → E2 y = none := fun y hy => by
              by_cases e : y = hq
              · rw [e]; exact hqf
              · rw [aP e] at hy; exact fn y hy
            have ho2 : RowIs E2 (H'.set hq (.raw (itO b' clock' ms' (js ++ [j])))) (σ 4) O := by
              rcases ho with h | ⟨h1,k,h2,h3,h4,h5⟩
              · exact .inl h
              · refine .inr ⟨h1,k,h2,h3,h4,?_⟩
                have : ¬ k = hq := by rintro rfl; rw [h5] at vr; cases vr
                rw [aP this]
                exact h5
            clear vr vm ho fr fn
            generalize H'.set hq (.raw (itO b' clock' ms' (js ++ [j]))) = H2 at *
            have hO2 : (js ++ [j]).map (fun j => opD' (D.getD j (0,0))) = O ++ [opD' D[j]] := by
              rw [List.map_append,hO]
              simp [List.getD,hjD]
            have hK := hKDg j hjD hj
            have hb8 := big.2.1
            rcases ho2 with ⟨rfl,s4⟩ | ⟨hne,k,s4,hk0,hk,hc⟩
            · simp (disch := omega) only [↓aI,↓zP,aD,zD,aS,simprocAttr,Tryz.facts,s0,s3,s4,s32]
              refine entry_m hj hv2 hm2 ?_
              rw [hK]
              generalize D[j] = x at *
              obtain ⟨x1,x2⟩ := x
              simp (disch := omega) only [↓aI,↓zP,aD,zD,aS,simprocAttr,Tryz.facts,s0,s3,s4,s32]
              intro b6 hb60 hb6
              simp (disch := omega) only [↓aI,↓zP,aD,zD,aS,simprocAttr,Tryz.facts,s0,s3,s4,s32,aj hb6,ah,zA]
              intro k' hk'0 hk'
              obtain ⟨g1,g2⟩ := row_first (O := [opD' (x1,x2)]) fn2 (by simp) hk'0 hk'
              exact ⟨mm - 1,by omega,js ++ [j],q1,q2,q3,g2 _ _ hm2,g2 _ _ hv2,fun y o hy ho => g2 _ _ (fr2 y o hy ho),by rw [hO2]; exact g1⟩
            · have hoq := cq O
              have htk : (dL O).take (O.length * 19) = dL O := List.take_of_length_le (by omega)
              have hle : O.length * 19 ≤ O.length * 19 := Nat.le_refl _
              have hbg : O.length ≤ 9223372036854775806 ∧ (O.length + 1) * 144 ≤ 140737488355328 := ⟨by omega,by omega⟩
              simp (disch := omega) only [↓aI,↓zP,aD,zD,aS,simprocAttr,Tryz.facts,s0,s3,s4,s32]
              refine entry_m hj hv2 hm2 ?_
              rw [hK]
              generalize D[j] = x at *
              obtain ⟨x1,x2⟩ := x
              simp (disch := omega) only [↓aI,↓zP,aD,zD,aS,simprocAttr,Tryz.facts,s0,s3,s4,s32]
              intro b6 hb60 hb6
              simp (disch := omega) only [↓aI,↓zP,aD,zD,aS,simprocAttr,Tryz.facts,s0,s3,s4,s32,aj hb6,ah,zA,hc,hoq,htk,hle,hbg]
              intro k' hk'
              obtain ⟨g1,g2⟩ := row_more (O := O) (R := [opD' (x1,x2)]) hk hk0 fn2 hne hk'
              rw [← opsC_snoc] at g1 g2
              have r3 : ¬ hq = k := by rintro rfl; rw [hc] at hv2; cases hv2
              exact ⟨mm - 1,by omega,js ++ [j],q1,q2,q3,g2 _ _ (bA vmd2 hk) hm2,g2 _ _ r3 hv2,fun y o hy ho => g2 _ _ (bA ho hk) (fr2 y o hy ho),by rw [hO2]; exact g1⟩
      · have hjD : j < I.length := by rw [← hKl]; exact hj
        obtain ⟨q1,q2,q3,q4⟩ := js_snoc hjn hjl hjm hjD hjx
        have hv2 : (H'.set hr (.raw (itO b clock ms (js ++ [j])))) hr = some (.raw (itO b clock ms (js ++ [j]))) := set_get
        have hm2 : (H'.set hr (.raw (itO b clock ms (js ++ [j])))) h.mi = some (.raw (.map ms clock)) := by rw [aP r1]; exact vm
        have fr2 : ∀ y o,¬ y = h.mi → H y = some o → (H'.set hr (.raw (itO b clock ms (js ++ [j])))) y = some o := fun y o hy ho => by rw [aP (bA ho hrf)]; exact fr y o hy ho
        have fn2 : ∀ y,(H'.set hr (.raw (itO b clock ms (js ++ [j])))) y = none → H y = none := fun y hy => by
          by_cases e : y = hr
          · rw [e]; exact hrf
          · rw [aP e] at hy; exact fn y hy
        have ho2 : RowIs H (H'.set hr (.raw (itO b clock ms (js ++ [j])))) (σ 3) O := by
          rcases ho with h | ⟨h1,k,h2,h3,h4,h5⟩
          · exact .inl h
          · refine .inr ⟨h1,k,h2,h3,h4,?_⟩
            have : ¬ k = hr := by rintro rfl; rw [h5] at vr; cases vr
            rw [aP this]
            exact h5
        clear vr vm ho fr fn
        generalize H'.set hr (.raw (itO b clock ms (js ++ [j]))) = H2 at *
        have hO2 : (js ++ [j]).map (fun j => opI' (I.getD j cj)) = O ++ [opI' I[j]] := by
          rw [List.map_append,hO]
          simp [List.getD,hjD]
        have hV := hVg j hjD
        have hb8 := big.1
        rcases ho2 with ⟨rfl,s3⟩ | ⟨hne,k,s3,hk0,hk,hc⟩
        · simp (disch := omega) only [↓aI,↓zP,aD,zD,aS,simprocAttr,Tryz.facts,s0,s3,s4,s16]
          refine entry_m hj hv2 hm2 ?_
          rw [hV]
          generalize I[j] = x at *
          obtain ⟨⟨x1,x2⟩,⟨y1,y2⟩,xr,xu⟩ := x
          simp only [cA]
          simp (disch := omega) only [↓aI,↓zP,aD,zD,aS,simprocAttr,Tryz.facts,s0,s3,s4,s16]
          intro b6 hb60 hb6
          simp (disch := omega) only [↓aI,↓zP,aD,zD,aS,simprocAttr,Tryz.facts,s0,s3,s4,s16,aj hb6,ah,zA]
          intro k' hk'0 hk'
          obtain ⟨g1,g2⟩ := row_first (O := [opI' ⟨(x1,x2),(y1,y2),xr,xu⟩]) fn2 (by simp) hk'0 hk'
          exact ⟨mm - 1,by omega,js ++ [j],q1,q2,q3,g2 _ _ hm2,g2 _ _ hv2,fun y o hy ho => g2 _ _ (fr2 y o hy ho),by rw [hO2]; exact g1⟩
        · have hoq := cq O
          have htk : (dL O).take (O.length * 19) = dL O := List.take_of_length_le (by omega)
          have hle : O.length * 19 ≤ O.length * 19 := Nat.le_refl _
          have hbg : O.length ≤ 9223372036854775806 ∧ (O.length + 1) * 144 ≤ 140737488355328 := ⟨by omega,by omega⟩
          simp (disch := omega) only [↓aI,↓zP,aD,zD,aS,simprocAttr,Tryz.facts,s0,s3,s4,s16]
          refine entry_m hj hv2 hm2 ?_
          rw [hV]
          generalize I[j] = x at *
          obtain ⟨⟨x1,x2⟩,⟨y1,y2⟩,xr,xu⟩ := x
          simp only [cA]
          simp (disch := omega) only [↓aI,↓zP,aD,zD,aS,simprocAttr,Tryz.facts,s0,s3,s4,s16]
          intro b6 hb60 hb6
          simp (disch := omega) only [↓aI,↓zP,aD,zD,aS,simprocAttr,Tryz.facts,s0,s3,s4,s16,aj hb6,ah,zA,hc,hoq,htk,hle,hbg]
          intro k' hk'
          obtain ⟨g1,g2⟩ := row_more (O := O) (R := [opI' ⟨(x1,x2),(y1,y2),xr,xu⟩]) hk hk0 fn2 hne hk'
          rw [← opsC_snoc] at g1 g2
          have r3 : ¬ hr = k := by rintro rfl; rw [hc] at hv2; cases hv2
          exact ⟨mm - 1,by omega,js ++ [j],q1,q2,q3,g2 _ _ (bA vmi hk) hm2,g2 _ _ r3 hv2,fun y o hy ho => g2 _ _ (bA ho hk) (fr2 y o hy ho),by rw [hO2]; exact g1⟩
  · rintro v H' ⟨hs,O,hO,ho⟩
    rcases ho with ⟨rfl,rfl⟩ | ⟨hne,k,rfl,hk,hc⟩
    · exact ⟨_,H,hs,Frz.same,rfl,[],hO,rfl⟩
    · have hoq := cq O
      refine ⟨_,H,hs,Frz.own hc hk (by rw [hoq]; exact Nat.le_refl _),rfl,O,hO,?_⟩
      rw [List.take_of_length_le (by rw [hoq]; exact Nat.le_refl _)]
theorem ops_rel (B H : AH) (h : PH) (s : PS) (P : List Opn) (p : IsP B H h s) (r : Rel P s) (t : InvP s) :
    ACalls Tryz.prog 15 [.ptr h.p 0] H fun v H' => v = opsV (rOps P) ∧ H' = H := by
  refine (ops_live B H h s p (fun i hi => ?_) t.dok).mono ?_
  · have := t.ok i hi
    unfold insO at this
    simp only [Bool.and_eq_true] at this
    exact this.1.1
  · rintro v H' ⟨rfl,O,hO,rfl⟩
    rw [ops_eq r p.g hO]
    exact ⟨rfl,rfl⟩
end Go.Proofs.YtcgjlmopeblapaaGreat
end
