/-
  Several texts in one: each says what it proves.
  Conditions: none. Lemmas only.
-/
import Derived.Test.YtcgjlmopeblapaaGreatMarG2
set_option linter.all false
section
set_option linter.unusedSimpArgs false
set_option linter.unusedVariables false
set_option maxRecDepth 8000
set_option maxHeartbeats 4000000
namespace Go.Proofs.YtcgjlmopeblapaaGreat
open Go Go.Abs Go.Proofs Go.Fug
def cj : Ins := ⟨(0,0),(0,0),false,0⟩
def cF : Mk := ⟨0,0,(0,0),false,(0,0),false,0,0⟩
structure Opn where
  kind : Int
  ins : Ins
  drop : EId
  mar : Mk
deriving DecidableEq
def opC (o : Opn) : List AV := [.sc (.int .i64 o.kind),.sc (.int .i64 o.ins.id.1),.sc (.int .i64 o.ins.id.2),.sc (.int .i64 o.ins.par.1),.sc (.int .i64 o.ins.par.2),.sc (.bool o.ins.right),.sc (.int .i32 o.ins.rune),.sc (.int .i64 o.drop.1),.sc (.int .i64 o.drop.2),
  .sc (.int .i64 o.mar.clock),.sc (.int .i64 o.mar.author),.sc (.int .i64 o.mar.fid.1),.sc (.int .i64 o.mar.fid.2),.sc (.bool o.mar.fb),.sc (.int .i64 o.mar.tid.1),.sc (.int .i64 o.mar.tid.2),.sc (.bool o.mar.tb),.sc (.int .i64 o.mar.name),.sc (.int .i64 o.mar.value)]
def dL (l : List Opn) : List AV := l.flatMap opC
abbrev opsV (l : List Opn) : AV := .imm 0 (dL l) l.length
theorem opC_len (o : Opn) : (opC o).length = 19 := rfl
theorem cq (l : List Opn) : (dL l).length = l.length * 19 := by
  induction l with
  | nil => rfl
  | cons t r ih => simp only [dL,List.flatMap_cons,List.length_append,List.length_cons] at *; rw [ih,opC_len]; omega
theorem opsC_append (l r : List Opn) : dL (l ++ r) = dL l ++ dL r := by simp [dL]
theorem opsC_snoc (l : List Opn) (o : Opn) : dL l ++ opC o = dL (l ++ [o]) := by simp [dL]
theorem opsC_cut (l : List Opn) (i : Nat) (h : i ≤ l.length) : (dL l).take (i * 19) = dL (l.take i) ∧ (dL l).drop (i * 19) = dL (l.drop i) := by
  have e : dL l = dL (l.take i) ++ dL (l.drop i) := by rw [← opsC_append,List.take_append_drop]
  have e2 : (dL (l.take i)).length = i * 19 := by rw [cq,List.length_take]; congr 1; omega
  rw [e]
  exact ⟨List.take_left' e2,List.drop_left' e2⟩
theorem opsC_load {l : List Opn} {i : Nat} (h : i < l.length) : ((dL l).drop (i * 19)).take 19 = opC l[i] := by
  rw [(opsC_cut l i (by omega)).2,List.drop_eq_getElem_cons h]
  show (opC l[i] ++ dL _).take 19 = _
  exact List.take_left' rfl
theorem eq_op (a1 b1 a2 b2 a3 b3 a4 b4 a5 b5 : Int) (a6 b6 : Bool) (a7 b7 a8 b8 a9 b9 a10 b10 a11 b11 a12 b12 a13 b13 : Int) (a14 b14 : Bool) (a15 b15 a16 b16 : Int) (a17 b17 : Bool) (a18 b18 a19 b19 : Int) :
    eqG Tryz.prog 6 58 (.agg [.sc (.int .i64 a1),.sc (.int .i64 a2),.sc (.int .i64 a3),.sc (.int .i64 a4),.sc (.int .i64 a5),.sc (.bool a6),.sc (.int .i32 a7),.sc (.int .i64 a8),.sc (.int .i64 a9),.sc (.int .i64 a10),.sc (.int .i64 a11),.sc (.int .i64 a12),.sc (.int .i64 a13),.sc (.bool a14),.sc (.int .i64 a15),.sc (.int .i64 a16),.sc (.bool a17),.sc (.int .i64 a18),.sc (.int .i64 a19)])
      (.agg [.sc (.int .i64 b1),.sc (.int .i64 b2),.sc (.int .i64 b3),.sc (.int .i64 b4),.sc (.int .i64 b5),.sc (.bool b6),.sc (.int .i32 b7),.sc (.int .i64 b8),.sc (.int .i64 b9),.sc (.int .i64 b10),.sc (.int .i64 b11),.sc (.int .i64 b12),.sc (.int .i64 b13),.sc (.bool b14),.sc (.int .i64 b15),.sc (.int .i64 b16),.sc (.bool b17),.sc (.int .i64 b18),.sc (.int .i64 b19)]) =
    some (decide ((⟨a1,⟨(a2,a3),(a4,a5),a6,a7⟩,(a8,a9),⟨a10,a11,(a12,a13),a14,(a15,a16),a17,a18,a19⟩⟩ : Opn) = ⟨b1,⟨(b2,b3),(b4,b5),b6,b7⟩,(b8,b9),⟨b10,b11,(b12,b13),b14,(b15,b16),b17,b18,b19⟩⟩)) := by
  have h : eqG Tryz.prog 6 58 (.agg [.sc (.int .i64 a1), .sc (.int .i64 a2), .sc (.int .i64 a3), .sc (.int .i64 a4), .sc (.int .i64 a5), .sc (.bool a6), .sc (.int .i32 a7), .sc (.int .i64 a8), .sc (.int .i64 a9), .sc (.int .i64 a10), .sc (.int .i64 a11), .sc (.int .i64 a12), .sc (.int .i64 a13), .sc (.bool a14), .sc (.int .i64 a15), .sc (.int .i64 a16), .sc (.bool a17), .sc (.int .i64 a18), .sc (.int .i64 a19)])
      (.agg [.sc (.int .i64 b1),.sc (.int .i64 b2),.sc (.int .i64 b3),.sc (.int .i64 b4),.sc (.int .i64 b5),.sc (.bool b6),.sc (.int .i32 b7),.sc (.int .i64 b8),.sc (.int .i64 b9),.sc (.int .i64 b10),.sc (.int .i64 b11),.sc (.int .i64 b12),.sc (.int .i64 b13),.sc (.bool b14),.sc (.int .i64 b15),.sc (.int .i64 b16),.sc (.bool b17),.sc (.int .i64 b18),.sc (.int .i64 b19)]) =
    some ((a1 == b1) && ((((a2 == b2) && ((a3 == b3) && true)) && (((a4 == b4) && ((a5 == b5) && true)) && ((a6 == b6) && ((a7 == b7) && true)))) && (((a8 == b8) && ((a9 == b9) && true)) && (((a10 == b10) && ((a11 == b11) && ((((a12 == b12) && ((a13 == b13) && true)) && ((a14 == b14) && true)) && ((((a15 == b15) && ((a16 == b16) && true)) && ((a17 == b17) && true)) && ((a18 == b18) && ((a19 == b19) && true)))))) && true)))) := by kernel_rfl
  rw [h,Option.some.injEq,Bool.eq_iff_iff]
  simp only [Bool.and_eq_true,beq_iff_eq,and_true,decide_eq_true_eq,Opn.mk.injEq,Ins.mk.injEq,Mk.mk.injEq,Prod.mk.injEq,and_assoc]
def elO (x : EId) : Bool := decide (0 ≤ x.1) && decide (x.1 < 5) && decide (1 ≤ x.2) && decide (x.2 ≤ 1099511627776)
theorem elem_p (x : EId) : APure Tryz.prog 73 [idV x] (.sc (.bool (elO x))) := by
  obtain ⟨a,c⟩ := x
  have hB : elO (a,c) = (decide (0 ≤ a) && decide (a < 5) && decide (1 ≤ c) && decide (c ≤ 1099511627776)) := rfl
  generalize elO (a,c) = B at *
  refine az (c := ⟨Tryz.prog,21,[(1000000,[1])],[],[]⟩) (rs := [ResultVar.tmp 2]) Tryz.mixed Tryz.func73 rfl rfl rfl (Nat.le_of_ble_eq_true rfl) (by kernel_rfl) fun H => ?_
  simp (disch := omega) only [↓aI,↓zP,aD,zD,aS,simprocAttr,Tryz.facts]
  intro k hk0 hk
  by_cases h1 : 0 ≤ a
  · by_cases h2 : a < 5
    · by_cases h3 : 1 ≤ c
      · by_cases h4 : c ≤ 1099511627776
        all_goals
          simp only [h1,h2,h3,h4,decide_true,decide_false,Bool.and_true,Bool.and_false] at hB
          subst hB
          simp (disch := omega) only [↓aI,↓zP,aD,zD,aS,simprocAttr,Tryz.facts,aj hk,zA,ah]
          exact Abs.Sub.refl _
      · simp only [h1,h2,h3,decide_true,decide_false,Bool.and_true,Bool.and_false,Bool.false_and] at hB
        subst hB
        simp (disch := omega) only [↓aI,↓zP,aD,zD,aS,simprocAttr,Tryz.facts,aj hk,zA,ah]
        exact Abs.Sub.refl _
    · simp only [h1,h2,decide_true,decide_false,Bool.and_true,Bool.and_false,Bool.false_and] at hB
      subst hB
      simp (disch := omega) only [↓aI,↓zP,aD,zD,aS,simprocAttr,Tryz.facts,aj hk,zA,ah]
      exact Abs.Sub.refl _
  · simp only [h1,decide_true,decide_false,Bool.and_true,Bool.and_false,Bool.false_and] at hB
    subst hB
    simp (disch := omega) only [↓aI,↓zP,aD,zD,aS,simprocAttr,Tryz.facts,aj hk,zA,ah]
    exact Abs.Sub.refl _
theorem relem_p (x : EId) : APure Tryz.prog 79 [idV x] (.sc (.bool (elO x))) := by
  obtain ⟨a,c⟩ := x
  have hB : elO (a,c) = (decide (0 ≤ a) && decide (a < 5) && decide (1 ≤ c) && decide (c ≤ 1099511627776)) := rfl
  generalize elO (a,c) = B at *
  refine az (c := ⟨Tryz.prog,21,[(1000000,[1])],[],[]⟩) (rs := [ResultVar.tmp 2]) Tryz.mixed Tryz.func79 rfl rfl rfl (Nat.le_of_ble_eq_true rfl) (by kernel_rfl) fun H => ?_
  simp (disch := omega) only [↓aI,↓zP,aD,zD,aS,simprocAttr,Tryz.facts]
  intro k hk0 hk
  by_cases h1 : 0 ≤ a
  · by_cases h2 : a < 5
    · by_cases h3 : 1 ≤ c
      · by_cases h4 : c ≤ 1099511627776
        all_goals
          simp only [h1,h2,h3,h4,decide_true,decide_false,Bool.and_true,Bool.and_false] at hB
          subst hB
          simp (disch := omega) only [↓aI,↓zP,aD,zD,aS,simprocAttr,Tryz.facts,aj hk,zA,ah]
          exact Abs.Sub.refl _
      · simp only [h1,h2,h3,decide_true,decide_false,Bool.and_true,Bool.and_false,Bool.false_and] at hB
        subst hB
        simp (disch := omega) only [↓aI,↓zP,aD,zD,aS,simprocAttr,Tryz.facts,aj hk,zA,ah]
        exact Abs.Sub.refl _
    · simp only [h1,h2,decide_true,decide_false,Bool.and_true,Bool.and_false,Bool.false_and] at hB
      subst hB
      simp (disch := omega) only [↓aI,↓zP,aD,zD,aS,simprocAttr,Tryz.facts,aj hk,zA,ah]
      exact Abs.Sub.refl _
  · simp only [h1,decide_true,decide_false,Bool.and_true,Bool.and_false,Bool.false_and] at hB
    subst hB
    simp (disch := omega) only [↓aI,↓zP,aD,zD,aS,simprocAttr,Tryz.facts,aj hk,zA,ah]
    exact Abs.Sub.refl _
def letO (r : Int) : Bool := decide (0 ≤ r) && decide (r ≤ 1114111) && (decide (r < 55296) || decide (57343 < r))
def insO (i : Ins) : Bool := elO i.id && letO i.rune && ((decide (i.par = bL) && i.right) || elO i.par)
end Go.Proofs.YtcgjlmopeblapaaGreat
end
section
set_option linter.unusedSimpArgs false
set_option linter.unusedVariables false
set_option maxRecDepth 8000
set_option maxHeartbeats 4000000
namespace Go.Proofs.YtcgjlmopeblapaaGreat
open Go Go.Abs Go.Proofs Go.Fug
theorem letO_iff {r : Int} : letO r = true ↔ 0 ≤ r ∧ r ≤ 1114111 ∧ (r < 55296 ∨ 57343 < r) := by
  unfold letO
  simp only [Bool.and_eq_true,Bool.or_eq_true,decide_eq_true_eq,and_assoc]
theorem bool_of {b : Bool} {p : Prop} (h : b = true ↔ p) : (p → b = true) ∧ (¬ p → b = false) := ⟨h.2,fun hn => by
  cases hb : b with
  | false => rfl
  | true => exact absurd (h.1 hb) hn⟩
theorem insert_pure (i : Ins) : APure Tryz.prog 72 [.agg (cA i)] (.sc (.bool (insO i))) := by
  have he1 := elem_p i.id
  have he2 := elem_p i.par
  have hB : insO i = (elO i.id && letO i.rune && ((decide (i.par = bL) && i.right) || elO i.par)) := rfl
  generalize insO i = B at *
  generalize elO i.id = e1 at *
  generalize elO i.par = e2 at *
  have hl := @letO_iff i.rune
  generalize letO i.rune = lt at *
  obtain ⟨⟨a,c⟩,⟨pa,pc⟩,ri,ru⟩ := i
  simp only [] at hl he1 he2
  simp only [cA]
  have hroot : ((pa == 0) && (pc == 0)) = decide (((pa,pc) : EId) = bL) := by
    rw [Bool.eq_iff_iff]; simp [bL]
  generalize hr : decide (((pa,pc) : EId) = bL) = rt at *
  obtain ⟨ht,hf⟩ := bool_of hl
  refine az (c := ⟨Tryz.prog,43,[(1000000,[1])],[],[]⟩) (rs := [ResultVar.tmp 2]) Tryz.mixed Tryz.func72 rfl rfl rfl (Nat.le_of_ble_eq_true rfl) (by kernel_rfl) fun H => ?_
  simp (disch := omega) only [↓aI,↓zP,aD,zD,aS,simprocAttr,Tryz.facts]
  intro k hk0 hk
  have hcase : (0 ≤ ru ∧ ru ≤ 1114111 ∧ ru < 55296 ∧ lt = true) ∨ (0 ≤ ru ∧ ru ≤ 1114111 ∧ ¬ ru < 55296 ∧ 57343 < ru ∧ lt = true) ∨ (0 ≤ ru ∧ ru ≤ 1114111 ∧ ¬ ru < 55296 ∧ ¬ 57343 < ru ∧ lt = false) ∨ (0 ≤ ru ∧ ¬ ru ≤ 1114111 ∧ lt = false) ∨ (¬ 0 ≤ ru ∧ lt = false) := by
    by_cases h1 : 0 ≤ ru
    · by_cases h2 : ru ≤ 1114111
      · by_cases h3 : ru < 55296
        · exact .inl ⟨h1,h2,h3,ht ⟨h1,h2,.inl h3⟩⟩
        · by_cases h4 : 57343 < ru
          · exact .inr (.inl ⟨h1,h2,h3,h4,ht ⟨h1,h2,.inr h4⟩⟩)
          · exact .inr (.inr (.inl ⟨h1,h2,h3,h4,hf (by omega)⟩))
      · exact .inr (.inr (.inr (.inl ⟨h1,h2,hf (by omega)⟩)))
    · exact .inr (.inr (.inr (.inr ⟨h1,hf (by omega)⟩)))
  rcases hcase with ⟨h1,h2,h3,rfl⟩ | ⟨h1,h2,h3,h4,rfl⟩ | ⟨h1,h2,h3,h4,rfl⟩ | ⟨h1,h2,rfl⟩ | ⟨h1,rfl⟩
  all_goals
    cases e1
    all_goals
      cases rt
      all_goals
        cases ri
        all_goals
          simp (disch := omega) only [↓aI,↓zP,aD,zD,aS,simprocAttr,Tryz.facts,aj hk,dT,dF,ah]
          first | refine CallK.p (he1) ?_ | refine CallP.i (he1) ?_
          simp (disch := omega) only [↓aI,↓zP,aD,zD,aS,simprocAttr,Tryz.facts,dT,dF,hroot]
          first
            | (refine CallK.p he2 ?_
               simp (disch := omega) only [↓aI,↓zP,aD,zD,aS,simprocAttr,Tryz.facts,dT,dF,hroot]
               exact ⟨by rw [hB]; cases e2 <;> rfl,Abs.Sub.refl _⟩)
            | exact ⟨by rw [hB]; cases e2 <;> rfl,Abs.Sub.refl _⟩
def opR (o : Opn) : Bool :=
  if o.kind = 1 then insO o.ins && decide (o.drop = bL ∧ o.mar = cF)
  else if o.kind = 2 then elO o.drop && decide (o.ins = cj ∧ o.mar = cF)
  else if o.kind = 3 then cQ o.mar && decide (o.ins = cj ∧ o.drop = bL)
  else false
theorem pright_pure (o : Opn) : APure Tryz.prog 45 [.agg (opC o)] (.sc (.bool (opR o))) := by
  have h1 := insert_pure o.ins
  have h2 := elem_p o.drop
  have h3 := mright_pure o.mar
  have hq := eq_op
  have hB : opR o = if o.kind = 1 then insO o.ins && decide (o.drop = bL ∧ o.mar = cF) else if o.kind = 2 then elO o.drop && decide (o.ins = cj ∧ o.mar = cF) else if o.kind = 3 then cQ o.mar && decide (o.ins = cj ∧ o.drop = bL) else false := rfl
  generalize opR o = B at *
  have d1 : decide ((⟨o.kind,o.ins,o.drop,o.mar⟩ : Opn) = ⟨o.kind,o.ins,(0,0),⟨0,0,(0,0),false,(0,0),false,0,0⟩⟩) = decide (o.drop = bL ∧ o.mar = cF) := decide_eq_decide.2 (by simp [bL,cF])
  have d2 : decide ((⟨o.kind,o.ins,o.drop,o.mar⟩ : Opn) = ⟨o.kind,⟨(0,0),(0,0),false,0⟩,o.drop,⟨0,0,(0,0),false,(0,0),false,0,0⟩⟩) = decide (o.ins = cj ∧ o.mar = cF) := decide_eq_decide.2 (by simp [cj,cF])
  have d3 : decide ((⟨o.kind,o.ins,o.drop,o.mar⟩ : Opn) = ⟨o.kind,⟨(0,0),(0,0),false,0⟩,(0,0),o.mar⟩) = decide (o.ins = cj ∧ o.drop = bL) := decide_eq_decide.2 (by simp [cj,bL])
  generalize decide (o.drop = bL ∧ o.mar = cF) = z1 at *
  generalize decide (o.ins = cj ∧ o.mar = cF) = z2 at *
  generalize decide (o.ins = cj ∧ o.drop = bL) = z3 at *
  generalize insO o.ins = r1 at *
  generalize elO o.drop = r2 at *
  generalize cQ o.mar = r3 at *
  obtain ⟨kd,⟨⟨a,c⟩,⟨pa,pc⟩,ri,ru⟩,⟨x,y⟩,⟨mc,ma,⟨f1,f2⟩,fb,⟨t1,t2⟩,tb,nm,vl⟩⟩ := o
  simp only [cA,mkC] at h1 h2 h3 hB d1 d2 d3
  simp only [opC]
  refine az (c := ⟨Tryz.prog,47,[(1000000,[1])],[],[]⟩) (rs := [ResultVar.tmp 2]) Tryz.mixed Tryz.func45 rfl rfl rfl (Nat.le_of_ble_eq_true rfl) (by kernel_rfl) fun H => ?_
  simp (disch := omega) only [↓aI,↓zP,aD,zD,aS,simprocAttr,Tryz.facts]
  intro k hk0 hk
  by_cases k1 : kd = 1
  · rw [if_pos k1] at hB
    subst k1 hB
    simp (disch := omega) only [↓aI,↓zP,aD,zD,aS,simprocAttr,Tryz.facts,aj hk,ah,zA]
    cases r1
    · skip
      first | refine CallK.p (h1) ?_ | refine CallP.i (h1) ?_
      simp (disch := omega) only [↓aI,↓zP,aD,zD,aS,simprocAttr,Tryz.facts,hq]
      exact ⟨rfl,Abs.Sub.refl _⟩
    · skip
      first | refine CallK.p (h1) ?_ | refine CallP.i (h1) ?_
      simp (disch := omega) only [↓aI,↓zP,aD,zD,aS,simprocAttr,Tryz.facts,hq,d1]
      exact Abs.Sub.refl _
  · rw [if_neg k1] at hB
    by_cases k2 : kd = 2
    · rw [if_pos k2] at hB
      subst k2 hB
      simp (disch := omega) only [↓aI,↓zP,aD,zD,aS,simprocAttr,Tryz.facts,aj hk,ah,zA]
      cases r2
      · skip
        first | refine CallK.p (h2) ?_ | refine CallP.i (h2) ?_
        simp (disch := omega) only [↓aI,↓zP,aD,zD,aS,simprocAttr,Tryz.facts,hq]
        exact ⟨rfl,Abs.Sub.refl _⟩
      · skip
        first | refine CallK.p (h2) ?_ | refine CallP.i (h2) ?_
        simp (disch := omega) only [↓aI,↓zP,aD,zD,aS,simprocAttr,Tryz.facts,hq,d2]
        exact Abs.Sub.refl _
    · rw [if_neg k2] at hB
      by_cases k3 : kd = 3
      · rw [if_pos k3] at hB
        subst k3 hB
        simp (disch := omega) only [↓aI,↓zP,aD,zD,aS,simprocAttr,Tryz.facts,aj hk,ah,zA]
        cases r3
        · skip
          first | refine CallK.p (h3) ?_ | refine CallP.i (h3) ?_
          simp (disch := omega) only [↓aI,↓zP,aD,zD,aS,simprocAttr,Tryz.facts,hq]
          exact ⟨rfl,Abs.Sub.refl _⟩
        · skip
          first | refine CallK.p (h3) ?_ | refine CallP.i (h3) ?_
          simp (disch := omega) only [↓aI,↓zP,aD,zD,aS,simprocAttr,Tryz.facts,hq,d3]
          exact Abs.Sub.refl _
      · rw [if_neg k3] at hB
        subst hB
        simp (disch := omega) only [↓aI,↓zP,aD,zD,aS,simprocAttr,Tryz.facts,aj hk,ah,zA]
        exact Abs.Sub.refl _
theorem insO_okI (i : Ins) : insO i = (okI i && (decide (i.par = bL) || elO i.par)) := by
  have h0 : elO bL = false := rfl
  unfold insO okI letO
  by_cases h : i.par = bL
  · rw [h,h0]
    cases i.right <;> simp [elO,Bool.and_assoc]
  · cases elO i.par <;> simp [elO,h,Bool.and_assoc]
theorem rright18_pure (o : Opn) : APure Tryz.prog 50 [.agg (opC o)] (.sc (.bool (opR o))) := by
  have h1 := rright_pure o.ins
  have h1b := relem_p o.ins.par
  have h2 := relem_p o.drop
  have h3 := rmright_pure o.mar
  have hq := eq_op
  have hB : opR o = if o.kind = 1 then insO o.ins && decide (o.drop = bL ∧ o.mar = cF) else if o.kind = 2 then elO o.drop && decide (o.ins = cj ∧ o.mar = cF) else if o.kind = 3 then cQ o.mar && decide (o.ins = cj ∧ o.drop = bL) else false := rfl
  rw [insO_okI] at hB
  generalize opR o = B at *
  have d1 : decide ((⟨0,⟨(0,0),(0,0),false,0⟩,o.drop,o.mar⟩ : Opn) = ⟨0,⟨(0,0),(0,0),false,0⟩,(0,0),⟨0,0,(0,0),false,(0,0),false,0,0⟩⟩) = decide (o.drop = bL ∧ o.mar = cF) := decide_eq_decide.2 (by simp [bL,cF])
  have d2 : decide ((⟨0,o.ins,(0,0),o.mar⟩ : Opn) = ⟨0,⟨(0,0),(0,0),false,0⟩,(0,0),⟨0,0,(0,0),false,(0,0),false,0,0⟩⟩) = decide (o.ins = cj ∧ o.mar = cF) := decide_eq_decide.2 (by simp [cj,cF])
  have d3 : decide ((⟨0,o.ins,o.drop,⟨0,0,(0,0),false,(0,0),false,0,0⟩⟩ : Opn) = ⟨0,⟨(0,0),(0,0),false,0⟩,(0,0),⟨0,0,(0,0),false,(0,0),false,0,0⟩⟩) = decide (o.ins = cj ∧ o.drop = bL) := decide_eq_decide.2 (by simp [cj,bL])
  have hroot : ((o.ins.par.1 == 0) && (o.ins.par.2 == 0)) = decide (o.ins.par = bL) := by
    rw [Bool.eq_iff_iff]
    simp only [Bool.and_eq_true,beq_iff_eq,decide_eq_true_eq,bL,Prod.ext_iff]
  generalize decide (o.drop = bL ∧ o.mar = cF) = z1 at *
  generalize decide (o.ins = cj ∧ o.mar = cF) = z2 at *
  generalize decide (o.ins = cj ∧ o.drop = bL) = z3 at *
  generalize decide (o.ins.par = bL) = rt at *
  generalize elO o.ins.par = r1b at *
  generalize okI o.ins = r1 at *
  generalize elO o.drop = r2 at *
  generalize cQ o.mar = r3 at *
  obtain ⟨kd,⟨⟨a,c⟩,⟨pa,pc⟩,ri,ru⟩,⟨x,y⟩,⟨mc,ma,⟨f1,f2⟩,fb,⟨t1,t2⟩,tb,nm,vl⟩⟩ := o
  simp only [cA,mkC] at h1 h1b h2 h3 hB d1 d2 d3 hroot
  simp only [opC]
  refine az (c := ⟨Tryz.prog,60,[(1000000,[1]),(4000012,[2]),(4000009,[2]),(4000006,[2]),(4000005,[1,3,4])],[],[]⟩) (rs := [ResultVar.tmp 2]) Tryz.mixed Tryz.func50 rfl rfl rfl (Nat.le_of_ble_eq_true rfl) (by kernel_rfl) fun H => ?_
  simp (disch := omega) only [↓aI,↓zP,aD,zD,aS,simprocAttr,Tryz.facts]
  intro k hk0 hk
  simp (disch := omega) only [↓aI,↓zP,aD,zD,aS,simprocAttr,Tryz.facts,aj hk,ah]
  intro k3 hk30 hk3
  try simp (disch := omega) only [↓aI,↓zP,aD,zD,aS,simprocAttr,Tryz.facts,ah]
  by_cases k1 : kd = 1
  · rw [if_pos k1] at hB
    subst k1 hB
    simp (disch := omega) only [↓aI,↓zP,aD,zD,aS,simprocAttr,Tryz.facts,ah,zA,hroot,hq,d1]
    cases z1
    · simp (disch := omega) only [↓aI,↓zP,aD,zD,aS,simprocAttr,Tryz.facts]
      exact ⟨by cases r1 <;> cases rt <;> cases r1b <;> rfl,Sub.set_new hk3⟩
    · simp (disch := omega) only [↓aI,↓zP,aD,zD,aS,simprocAttr,Tryz.facts]
      refine CallK.p h1 ?_
      cases r1
      · simp (disch := omega) only [↓aI,↓zP,aD,zD,aS,simprocAttr,Tryz.facts]
        exact ⟨by cases rt <;> cases r1b <;> rfl,Sub.set_new hk3⟩
      · cases rt
        · simp (disch := omega) only [↓aI,↓zP,aD,zD,aS,simprocAttr,Tryz.facts]
          refine CallK.p h1b ?_
          simp (disch := omega) only [↓aI,↓zP,aD,zD,aS,simprocAttr,Tryz.facts]
          exact Sub.set_new hk3
        · simp (disch := omega) only [↓aI,↓zP,aD,zD,aS,simprocAttr,Tryz.facts]
          exact Sub.set_new hk3
  · rw [if_neg k1] at hB
    by_cases k2 : kd = 2
    · rw [if_pos k2] at hB
      subst k2 hB
      simp (disch := omega) only [↓aI,↓zP,aD,zD,aS,simprocAttr,Tryz.facts,ah,zA,hq,d2]
      cases z2
      · simp (disch := omega) only [↓aI,↓zP,aD,zD,aS,simprocAttr,Tryz.facts]
        exact ⟨by cases r2 <;> rfl,Sub.set_new hk3⟩
      · simp (disch := omega) only [↓aI,↓zP,aD,zD,aS,simprocAttr,Tryz.facts]
        refine CallK.p h2 ?_
        simp (disch := omega) only [↓aI,↓zP,aD,zD,aS,simprocAttr,Tryz.facts]
        first
          | exact Sub.set_new hk3
          | exact ⟨by cases r2 <;> rfl,Sub.set_new hk3⟩
    · rw [if_neg k2] at hB
      by_cases k3 : kd = 3
      · rw [if_pos k3] at hB
        subst k3 hB
        simp (disch := omega) only [↓aI,↓zP,aD,zD,aS,simprocAttr,Tryz.facts,ah,zA,hq,d3]
        cases z3
        · simp (disch := omega) only [↓aI,↓zP,aD,zD,aS,simprocAttr,Tryz.facts]
          exact ⟨by cases r3 <;> rfl,Sub.set_new hk3⟩
        · simp (disch := omega) only [↓aI,↓zP,aD,zD,aS,simprocAttr,Tryz.facts]
          refine CallK.p h3 ?_
          simp (disch := omega) only [↓aI,↓zP,aD,zD,aS,simprocAttr,Tryz.facts]
          first
            | exact Sub.set_new hk3
            | exact ⟨by cases r3 <;> rfl,Sub.set_new hk3⟩
      · rw [if_neg k3] at hB
        subst hB
        simp (disch := omega) only [↓aI,↓zP,aD,zD,aS,simprocAttr,Tryz.facts,ah,zA]
        exact Sub.set_new hk3
def oneO (a b : Opn) : Bool :=
  if a.kind ≠ b.kind then false else if a.kind = 1 then decide (a.ins.id = b.ins.id) else if a.kind = 2 then decide (a.drop = b.drop) else decide (a.mar.clock = b.mar.clock ∧ a.mar.author = b.mar.author)
theorem id_dec (a b c d : Int) : (a == c && b == d) = decide (((a,b) : EId) = (c,d)) := by
  rw [Bool.eq_iff_iff]
  simp only [Bool.and_eq_true,beq_iff_eq,decide_eq_true_eq,Prod.mk.injEq]
theorem one_pure (a b : Opn) : APure Tryz.prog 80 [.agg (opC a),.agg (opC b)] (.sc (.bool (oneO a b))) := by
  have hB : oneO a b = if a.kind ≠ b.kind then false else if a.kind = 1 then decide (a.ins.id = b.ins.id) else if a.kind = 2 then decide (a.drop = b.drop) else decide (a.mar.clock = b.mar.clock ∧ a.mar.author = b.mar.author) := rfl
  generalize oneO a b = B at *
  have hid := id_dec
  obtain ⟨kd,⟨⟨a1,c1⟩,⟨pa,pc⟩,ri,ru⟩,⟨x,y⟩,⟨mc,ma,⟨f1,f2⟩,fb,⟨t1,t2⟩,tb,nm,vl⟩⟩ := a
  obtain ⟨kd',⟨⟨a1',c1'⟩,⟨pa',pc'⟩,ri',ru'⟩,⟨x',y'⟩,⟨mc',ma',⟨f1',f2'⟩,fb',⟨t1',t2'⟩,tb',nm',vl'⟩⟩ := b
  simp only [] at hB
  simp only [opC]
  refine az (c := ⟨Tryz.prog,44,[(1000000,[3,2])],[],[]⟩) (rs := [ResultVar.tmp 4]) Tryz.mixed Tryz.func80 rfl rfl rfl (Nat.le_of_ble_eq_true rfl) (by kernel_rfl) fun H => ?_
  simp (disch := omega) only [↓aI,↓zP,aD,zD,aS,simprocAttr,Tryz.facts]
  intro k2 hk20 hk2 k3 hk30 hk3
  have hk3H := am hk3
  by_cases k1 : kd = kd'
  · rw [if_neg (fun h => h k1)] at hB
    subst k1
    by_cases k1 : kd = 1
    · rw [if_pos k1] at hB
      subst k1 hB
      simp (disch := omega) only [↓aI,↓zP,aD,zD,aS,simprocAttr,Tryz.facts,aj hk2,aj hk3,ah,zA,hid]
      exact Abs.Sub.refl _
    · rw [if_neg k1] at hB
      by_cases k2 : kd = 2
      · rw [if_pos k2] at hB
        subst k2 hB
        simp (disch := omega) only [↓aI,↓zP,aD,zD,aS,simprocAttr,Tryz.facts,aj hk2,aj hk3,ah,zA,hid]
        exact Abs.Sub.refl _
      · rw [if_neg k2] at hB
        by_cases h1 : mc = mc'
        · by_cases h2 : ma = ma'
          · rw [decide_eq_true ⟨h1,h2⟩] at hB
            subst hB
            simp (disch := omega) only [↓aI,↓zP,aD,zD,aS,simprocAttr,Tryz.facts,aj hk2,aj hk3,ah,zA]
            exact Abs.Sub.refl _
          · rw [decide_eq_false (fun h => h2 h.2)] at hB
            subst hB
            simp (disch := omega) only [↓aI,↓zP,aD,zD,aS,simprocAttr,Tryz.facts,aj hk2,aj hk3,ah,zA]
            exact Abs.Sub.refl _
        · rw [decide_eq_false (fun h => h1 h.1)] at hB
          subst hB
          simp (disch := omega) only [↓aI,↓zP,aD,zD,aS,simprocAttr,Tryz.facts,aj hk2,aj hk3,ah,zA]
          exact Abs.Sub.refl _
  · rw [if_pos k1] at hB
    subst hB
    simp (disch := omega) only [↓aI,↓zP,aD,zD,aS,simprocAttr,Tryz.facts,aj hk2,aj hk3,ah,zA]
    exact Abs.Sub.refl _
theorem bH {H : AH} {a b : Nat} {o o' : AObj} (ha : H a = none) (hab : ¬ a = b) : ((H.set a o).set b o').kill a = H.set b o' := by
  funext x
  simp only [AH.set,AH.kill]
  by_cases e : x = a
  · subst e; simp [hab,ha]
  · simp [e]
def cM (o : Opn) : Int × Int × Int := if o.kind = 1 then (o.kind,o.ins.id.1,o.ins.id.2) else if o.kind = 2 then (o.kind,o.drop.1,o.drop.2) else (o.kind,o.mar.author,o.mar.clock)
abbrev nameV (n : Int × Int × Int) : AV := .agg [.sc (.int .i64 n.1),.sc (.int .i64 n.2.1),.sc (.int .i64 n.2.2)]
theorem name_pure (o : Opn) : APure Tryz.prog 46 [.agg (opC o)] (nameV (cM o)) := by
  have hB : cM o = if o.kind = 1 then (o.kind,o.ins.id.1,o.ins.id.2) else if o.kind = 2 then (o.kind,o.drop.1,o.drop.2) else (o.kind,o.mar.author,o.mar.clock) := rfl
  generalize cM o = B at *
  obtain ⟨kd,⟨⟨a1,c1⟩,⟨pa,pc⟩,ri,ru⟩,⟨x,y⟩,⟨mc,ma,⟨f1,f2⟩,fb,⟨t1,t2⟩,tb,nm,vl⟩⟩ := o
  simp only [] at hB
  simp only [opC]
  refine az (c := ⟨Tryz.prog,38,[(1000000,[1])],[],[]⟩) (rs := [ResultVar.cell 2 93]) Tryz.mixed Tryz.func46 rfl rfl rfl (Nat.le_of_ble_eq_true rfl) (by kernel_rfl) fun H => ?_
  simp (disch := omega) only [↓aI,↓zP,aD,zD,aS,simprocAttr,Tryz.facts]
  intro k1' hk10 hk1 k2' hk20 hk2
  have hk2H := am hk2
  have n12 := bK hk2
  simp (disch := omega) only [↓aI,↓zP,aD,zD,aS,simprocAttr,Tryz.facts,aP,n12,bH hk1 n12,ah]
  by_cases k1 : kd = 1
  · rw [if_pos k1] at hB
    subst k1 hB
    simp (disch := omega) only [↓aI,↓zP,aD,zD,aS,simprocAttr,Tryz.facts,ah,zA]
    exact Sub.set_new hk2H
  · rw [if_neg k1] at hB
    by_cases k2 : kd = 2
    · rw [if_pos k2] at hB
      subst k2 hB
      simp (disch := omega) only [↓aI,↓zP,aD,zD,aS,simprocAttr,Tryz.facts,ah,zA]
      exact Sub.set_new hk2H
    · rw [if_neg k2] at hB
      subst hB
      simp (disch := omega) only [↓aI,↓zP,aD,zD,aS,simprocAttr,Tryz.facts,ah,zA]
      exact Sub.set_new hk2H
end Go.Proofs.YtcgjlmopeblapaaGreat
end
section
set_option linter.unusedSimpArgs false
set_option linter.unusedVariables false
set_option maxRecDepth 8000
set_option maxHeartbeats 4000000
namespace Go.Proofs.YtcgjlmopeblapaaGreat
open Go Go.Abs Go.Proofs Go.Fug
theorem same_pure (l m : List Opn) (hl : l.length ≤ 3000000) (hm : m.length ≤ 3000000) : APure Tryz.prog 14 [opsV l,opsV m] (.sc (.bool (decide (l = m)))) := by
  have hlc := cq l
  have hmc := cq m
  generalize hB : decide (l = m) = B
  refine az (c := ⟨Tryz.prog,26,[(6,[0,0,0,1,0,0,0,1,0])],[],[]⟩) (rs := [ResultVar.tmp 4]) Tryz.mixed Tryz.func14 rfl rfl rfl (Nat.le_of_ble_eq_true rfl) (by kernel_rfl) fun H => ?_
  by_cases hlen : l.length = m.length
  · simp (disch := omega) only [↓aI,↓zP,aD,zD,aS,simprocAttr,Tryz.facts,zA]
    refine br (c := ⟨Tryz.prog,26,[(6,[0,0,0,1,0,0,0,1,0])],[],[]⟩) Tryz.mixed (by kernel_rfl) (fun mm σ H' => H' = H ∧ ∃ i,i + mm = l.length ∧ l.take i = m.take i ∧ σ 0 = opsV l ∧ σ 1 = opsV m ∧ σ 5 = .sc (.int .i64 (i : Nat))) l.length ?_ ?_
    · refine ⟨rfl,0,by omega,by simp,?_⟩
      simp (disch := omega) only [↓aI,↓zP,aD,zD,aS,simprocAttr,Tryz.facts]
    · rintro mm σ H' ⟨rfl,i,him,htk,s0,s1,s5⟩
      by_cases hlt : i < l.length
      · have hlt2 : i < m.length := by omega
        have hld := opsC_load hlt
        have hld2 := opsC_load hlt2
        have hle : i * 19 + 19 ≤ l.length * 19 := by omega
        have hle2 : i * 19 + 19 ≤ m.length * 19 := by omega
        have ht1 := List.take_succ_eq_append_getElem hlt
        have ht2 := List.take_succ_eq_append_getElem hlt2
        have hne : l[i] ≠ m[i] → l ≠ m := fun h e => h (by subst e; rfl)
        generalize l[i] = q at *
        generalize m[i] = w at *
        obtain ⟨kd,⟨⟨a,c⟩,⟨pa,pc⟩,ri,ru⟩,⟨x,y⟩,⟨mc,ma,⟨g1,g2⟩,fb,⟨t1,t2⟩,tb,nm,vl⟩⟩ := q
        obtain ⟨kd',⟨⟨a',c'⟩,⟨pa',pc'⟩,ri',ru'⟩,⟨x',y'⟩,⟨mc',ma',⟨g1',g2'⟩,fb',⟨t1',t2'⟩,tb',nm',vl'⟩⟩ := w
        simp only [opC] at hld hld2
        have he := eq_op kd kd' a a' c c' pa pa' pc pc' ri ri' ru ru' x x' y y' mc mc' ma ma' g1 g1' g2 g2' fb fb' t1 t1' t2 t2' tb tb' nm nm' vl vl'
        by_cases hq : (⟨kd,⟨(a,c),(pa,pc),ri,ru⟩,(x,y),⟨mc,ma,(g1,g2),fb,(t1,t2),tb,nm,vl⟩⟩ : Opn) = ⟨kd',⟨(a',c'),(pa',pc'),ri',ru'⟩,(x',y'),⟨mc',ma',(g1',g2'),fb',(t1',t2'),tb',nm',vl'⟩⟩
        · rw [decide_eq_true hq] at he
          simp (disch := omega) only [↓aI,↓zP,aD,zD,aS,simprocAttr,Tryz.facts,s0,s1,s5,zA,hld,hle,hlc,hld2,hle2,hmc,he]
          exact ⟨mm - 1,by omega,i + 1,by omega,by rw [ht1,ht2,htk,hq],rfl⟩
        · rw [decide_eq_false hq] at he
          have hB2 : B = false := by rw [← hB]; exact decide_eq_false (hne hq)
          subst hB2
          simp (disch := omega) only [↓aI,↓zP,aD,zD,aS,simprocAttr,Tryz.facts,s0,s1,s5,zA,hld,hle,hlc,hld2,hle2,hmc,he]
          exact Abs.Sub.refl _
      · obtain rfl : i = l.length := by omega
        rw [List.take_length,hlen,List.take_length] at htk
        have hB2 : B = true := by rw [← hB]; exact decide_eq_true htk
        subst hB2
        simp (disch := omega) only [↓aI,↓zP,aD,zD,aS,simprocAttr,Tryz.facts,s0,s1,s5,zA]
        exact Abs.Sub.refl _
  · have hB2 : B = false := by rw [← hB]; exact decide_eq_false (fun e => hlen (by rw [e]))
    subst hB2
    simp (disch := omega) only [↓aI,↓zP,aD,zD,aS,simprocAttr,Tryz.facts,zA]
    exact Abs.Sub.refl _
end Go.Proofs.YtcgjlmopeblapaaGreat
end
