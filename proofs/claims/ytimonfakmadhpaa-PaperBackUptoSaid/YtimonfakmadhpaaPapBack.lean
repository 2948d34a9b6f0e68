/-
  PaperBack: the walk, and the call, of the arguments as they are read.
  Conditions: none. Lemmas only.
-/
import Derived.Test.YtimonfakmadhpaaPapT
import Derived.Test.YtimonfakmadhpaaPapG4
import Derived.Test.YtimonfakmadhpaaPapG1
import Derived.Test.YtimonfakmadhpaaPapG7
import Derived.Test.YtimonfakmadhpaaFugTys
set_option linter.all false
set_option linter.unusedSimpArgs false
set_option linter.unusedVariables false
set_option maxRecDepth 20000
set_option maxHeartbeats 4000000
namespace Go.Proofs.Ytimonfakmadhpaa
open Go Go.Abs Go.Proofs Go.Fug
theorem rdL_most (s : RS) (most : Nat) : (rdGet s most).1.2 = 0 → (rdGet s most).2.length ≤ most := fun h => by
  unfold rdGet at h ⊢
  have hr := rdNum_rng s 0 most
  rw [(rdL_to _ _ h).2.2]
  omega
theorem back_walk (l : List Opn) (b : List UInt8) (hb : b.length ≤ 1100000) : APure Try.prog 8 [opsV l,bytesV b] (.sc (.bool true)) := by
  have haw := awake_pure
  have hol := cq l
  have hst1 : ∀ x,(opC x).map AV.strip0 = opC x := fun x => rfl
  by_cases hl : 60 < l.length
  · refine az (c := ⟨Try.prog,73,[(17,[0,0,0,0,0,0,0,2,0,0,0,0,0,2,0,0]),(1000006,[7]),(4000017,[4]),(4000016,[4]),(4000013,[1,9]),(4000011,[1,42]),(4000007,[0,1,5,15,16,17])],[43],[]⟩) (rs := [ResultVar.tmp 4]) Try.mixed Try.func8 rfl rfl rfl (Nat.le_of_ble_eq_true rfl) (by kernel_rfl) fun H => ?_
    simp (disch := omega) only [↓aI,aD,aG,ixA,aX,aV,ag,aT,ae,mkA,ab,bnd,aS,aH,aK,cvO,aJ,aY,↓aO,aW,aE,aF,aM,aA,aC,aB,aN,ad,frz,aR,Nat.reduceBEq,Nat.reduceLT,reduceCtorEq,↓reduceIte,aL,AV.cellsOf,AV.fine,AV.one,aQ,Nat.reduceMul,Nat.reduceAdd,Nat.reduceLeDiff,Nat.reduceEqDiff,Int.reduceToNat,Nat.reduceSub,Nat.reduceMod,Nat.reduceDiv,indexK.aggOf,Int.reducePow,Int.reduceLE,Int.reduceNeg,Int.reduceLT,Int.reduceBEq,Int.reduceBNe,Int.reduceEq,aZ,aU,Try.facts,dT,dF,qT,qF,nT,nF,Bool.false_and,Bool.and_false]
    first | refine CallK.p (haw) ?_ | refine CallP.i (haw) ?_
    simp (disch := omega) only [↓aI,aD,aG,ixA,aX,aV,ag,aT,ae,mkA,ab,bnd,aS,aH,aK,cvO,aJ,aY,↓aO,aW,aE,aF,aM,aA,aC,aB,aN,ad,frz,aR,Nat.reduceBEq,Nat.reduceLT,reduceCtorEq,↓reduceIte,aL,AV.cellsOf,AV.fine,AV.one,aQ,Nat.reduceMul,Nat.reduceAdd,Nat.reduceLeDiff,Nat.reduceEqDiff,Int.reduceToNat,Nat.reduceSub,Nat.reduceMod,Nat.reduceDiv,indexK.aggOf,Int.reducePow,Int.reduceLE,Int.reduceNeg,Int.reduceLT,Int.reduceBEq,Int.reduceBNe,Int.reduceEq,aZ,aU,Try.facts]
    exact Abs.Sub.refl _
  · have hbl := encB_length b
    have hR := fun (o : Opn) => rright18_pure o
    have hvl : (vput [] l).length ≤ 2000000 := by
      have h1 := vops_length l
      have h2 := vnum_length l.length
      simp only [vput,List.nil_append,List.length_append]
      omega
    have hp1 : APure Try.prog 36 [.imm 0 [] 0,opsV l] (bytesV (vput [] l)) := wput_pure [] l (by simp) (by omega)
    have hg1 : l.all opR = true → ∀ B H r k p h,ACalls Try.prog 33 [.ptr r 0,.sc (.int .i64 (l.length : Nat))] H fun v H' => v = opsV l ∧ RdS B H' r k (vput [] l) ([],0) := fun hall B H r k p h => by
      have h1 := Get_live B H r k (vput [] l) (vput [] l,0) l.length p h
      have h2 := rdGet_of l [] hall (by omega)
      rw [List.append_nil] at h2
      rw [h2] at h1
      exact h1
    have hsm := same_pure l l (by omega) (by omega)
    rw [decide_eq_true rfl] at hsm
    have hend := fun B H r k bs p h => end_live B H r k bs ([],0) p h
    rw [show endE ([],0) = 0 from rfl] at hend
    generalize vput [] l = W at *
    have hg2 := fun B H r k bs p h => Get_live B H r k bs (b,0) ((60 : Nat) : Int) p h
    have hto := rdGet_to (s := (b,0)) (most := ((60 : Nat) : Int))
    have hmo := rdL_most (b,0) 60
    have her : (rdGet (b,0) ((60 : Nat) : Int)).1.2 ≠ 0 → (rdGet (b,0) ((60 : Nat) : Int)).2 = [] := fun h => rdL_err _ _ h
    have he := fun B H r k bs p h => err_live B H r k bs (rdGet (b,0) ((60 : Nat) : Int)).1 p h
    have hlf := fun B H r k bs p h => rleft_live B H r k bs (rdGet (b,0) ((60 : Nat) : Int)).1 p h
    generalize rdGet (b,0) ((60 : Nat) : Int) = R at *
    obtain ⟨⟨r1,e1⟩,O⟩ := R
    simp only at hg2 hto hmo her he hlf
    have hp2 : e1 = 0 → APure Try.prog 36 [.imm 0 [] 0,opsV O] (bytesV (vput [] O)) := fun h => wput_pure [] O (by simp) (by have := hmo h; omega)
    generalize vput [] O = V at *
    have hcut : e1 = 0 → b.length - r1.length = V.length ∧ b.take V.length = V ∧ r1.length ≤ b.length ∧ V.length ≤ b.length := fun h => by
      have h1 := (hto h).2
      rw [h1]
      refine ⟨by simp,List.take_left,by simp,by simp⟩
    refine az (c := ⟨Try.prog,73,[(17,[0,0,0,0,0,0,0,2,0,0,0,0,0,2,0,0]),(1000006,[7]),(4000017,[4]),(4000016,[4]),(4000013,[1,9]),(4000011,[1,42]),(4000007,[0,1,5,15,16,17])],[43],[]⟩) (rs := [ResultVar.tmp 4]) Try.mixed Try.func8 rfl rfl rfl (Nat.le_of_ble_eq_true rfl) (by kernel_rfl) fun H => ?_
    simp (disch := omega) only [↓aI,aD,aG,ixA,aX,aV,ag,aT,ae,mkA,ab,bnd,aS,aH,aK,cvO,aJ,aY,↓aO,aW,aE,aF,aM,aA,aC,aB,aN,ad,frz,aR,Nat.reduceBEq,Nat.reduceLT,reduceCtorEq,↓reduceIte,aL,AV.cellsOf,AV.fine,AV.one,aQ,Nat.reduceMul,Nat.reduceAdd,Nat.reduceLeDiff,Nat.reduceEqDiff,Int.reduceToNat,Nat.reduceSub,Nat.reduceMod,Nat.reduceDiv,indexK.aggOf,Int.reducePow,Int.reduceLE,Int.reduceNeg,Int.reduceLT,Int.reduceBEq,Int.reduceBNe,Int.reduceEq,aZ,aU,Try.facts,dT,dF,qT,qF,nT,nF,Bool.false_and,Bool.and_false]
    refine br (c := ⟨Try.prog,73,[(17,[0,0,0,0,0,0,0,2,0,0,0,0,0,2,0,0]),(1000006,[7]),(4000017,[4]),(4000016,[4]),(4000013,[1,9]),(4000011,[1,42]),(4000007,[0,1,5,15,16,17])],[43],[]⟩) Try.mixed (by kernel_rfl) (fun mm σ H' => H' = H ∧ ∃ i,i + mm = l.length ∧ σ 0 = opsV l ∧ σ 1 = bytesV b ∧ σ 5 = .sc (.bool ((l.take i).all opR)) ∧ σ 15 = opsV l ∧ σ 16 = .sc (.int .i64 (l.length : Nat)) ∧ σ 17 = .sc (.int .i64 (i : Nat))) l.length ?_ ?_
    · refine ⟨rfl,0,by omega,?_⟩
      rw [List.take_zero,List.all_nil]
      simp (disch := omega) only [↓aI,aD,aG,ixA,aX,aV,ag,aT,ae,mkA,ab,bnd,aS,aH,aK,cvO,aJ,aY,↓aO,aW,aE,aF,aM,aA,aC,aB,aN,ad,frz,aR,Nat.reduceBEq,Nat.reduceLT,reduceCtorEq,↓reduceIte,aL,AV.cellsOf,AV.fine,AV.one,aQ,Nat.reduceMul,Nat.reduceAdd,Nat.reduceLeDiff,Nat.reduceEqDiff,Int.reduceToNat,Nat.reduceSub,Nat.reduceMod,Nat.reduceDiv,indexK.aggOf,Int.reducePow,Int.reduceLE,Int.reduceNeg,Int.reduceLT,Int.reduceBEq,Int.reduceBNe,Int.reduceEq,aZ,aU,Try.facts]
    · rintro mm σ H' ⟨rfl,i,him,s0,s1,s5,s15,s16,s17⟩
      by_cases hlt : i < l.length
      · have hld := opsC_load hlt
        have hle : i * 19 + 19 ≤ l.length * 19 := by omega
        have hq := hR l[i]
        have ht : (l.take (i + 1)).all opR = ((l.take i).all opR && opR l[i]) := by
          rw [List.take_succ_eq_append_getElem hlt,List.all_append,List.all_cons,List.all_nil,Bool.and_true]
        generalize hA : (l.take (i + 1)).all opR = A1 at *
        generalize (l.take i).all opR = A0 at *
        generalize l[i] = q at *
        simp (disch := omega) only [↓aI,aD,aG,ixA,aX,aV,ag,aT,ae,mkA,ab,bnd,aS,aH,aK,cvO,aJ,aY,↓aO,aW,aE,aF,aM,aA,aC,aB,aN,ad,frz,aR,Nat.reduceBEq,Nat.reduceLT,reduceCtorEq,↓reduceIte,aL,AV.cellsOf,AV.fine,AV.one,aQ,Nat.reduceMul,Nat.reduceAdd,Nat.reduceLeDiff,Nat.reduceEqDiff,Int.reduceToNat,Nat.reduceSub,Nat.reduceMod,Nat.reduceDiv,indexK.aggOf,Int.reducePow,Int.reduceLE,Int.reduceNeg,Int.reduceLT,Int.reduceBEq,Int.reduceBNe,Int.reduceEq,aZ,aU,Try.facts,s0,s1,s5,s15,s16,s17,dT,dF,qT,qF,nT,nF,Bool.false_and,Bool.and_false,hld,hle,hol,opC_len,hst1]
        intro k hk0 hk
        cases A0
        · skip
          try simp (disch := omega) only [↓aI,aD,aG,ixA,aX,aV,ag,aT,ae,mkA,ab,bnd,aS,aH,aK,cvO,aJ,aY,↓aO,aW,aE,aF,aM,aA,aC,aB,aN,ad,frz,aR,Nat.reduceBEq,Nat.reduceLT,reduceCtorEq,↓reduceIte,aL,AV.cellsOf,AV.fine,AV.one,aQ,Nat.reduceMul,Nat.reduceAdd,Nat.reduceLeDiff,Nat.reduceEqDiff,Int.reduceToNat,Nat.reduceSub,Nat.reduceMod,Nat.reduceDiv,indexK.aggOf,Int.reducePow,Int.reduceLE,Int.reduceNeg,Int.reduceLT,Int.reduceBEq,Int.reduceBNe,Int.reduceEq,aZ,aU,Try.facts,s0,s1,s5,s15,s16,s17,dT,dF,qT,qF,nT,nF,Bool.false_and,Bool.and_false,aj hk,ah,opC_len,hst1]
          exact ⟨mm - 1,by omega,i + 1,by omega,by rw [hA,ht]; rfl,rfl⟩
        · skip
          try simp (disch := omega) only [↓aI,aD,aG,ixA,aX,aV,ag,aT,ae,mkA,ab,bnd,aS,aH,aK,cvO,aJ,aY,↓aO,aW,aE,aF,aM,aA,aC,aB,aN,ad,frz,aR,Nat.reduceBEq,Nat.reduceLT,reduceCtorEq,↓reduceIte,aL,AV.cellsOf,AV.fine,AV.one,aQ,Nat.reduceMul,Nat.reduceAdd,Nat.reduceLeDiff,Nat.reduceEqDiff,Int.reduceToNat,Nat.reduceSub,Nat.reduceMod,Nat.reduceDiv,indexK.aggOf,Int.reducePow,Int.reduceLE,Int.reduceNeg,Int.reduceLT,Int.reduceBEq,Int.reduceBNe,Int.reduceEq,aZ,aU,Try.facts,s0,s1,s5,s15,s16,s17,dT,dF,qT,qF,nT,nF,Bool.false_and,Bool.and_false,aj hk,ah,opC_len,hst1]
          first | refine CallK.p (hq) ?_ | refine CallP.i (hq) ?_
          simp (disch := omega) only [↓aI,aD,aG,ixA,aX,aV,ag,aT,ae,mkA,ab,bnd,aS,aH,aK,cvO,aJ,aY,↓aO,aW,aE,aF,aM,aA,aC,aB,aN,ad,frz,aR,Nat.reduceBEq,Nat.reduceLT,reduceCtorEq,↓reduceIte,aL,AV.cellsOf,AV.fine,AV.one,aQ,Nat.reduceMul,Nat.reduceAdd,Nat.reduceLeDiff,Nat.reduceEqDiff,Int.reduceToNat,Nat.reduceSub,Nat.reduceMod,Nat.reduceDiv,indexK.aggOf,Int.reducePow,Int.reduceLE,Int.reduceNeg,Int.reduceLT,Int.reduceBEq,Int.reduceBNe,Int.reduceEq,aZ,aU,Try.facts,s0,s1,s5,s15,s16,s17,dT,dF,qT,qF,nT,nF,Bool.false_and,Bool.and_false,aj hk,ah,opC_len,hst1]
          exact ⟨mm - 1,by omega,i + 1,by omega,by rw [hA,ht]; rfl,rfl⟩
      · obtain rfl : i = l.length := by omega
        rw [List.take_length] at s5
        by_cases hall : l.all opR = true
        case' pos =>
          rw [hall] at s5
          simp (disch := omega) only [↓aI,aD,aG,ixA,aX,aV,ag,aT,ae,mkA,ab,bnd,aS,aH,aK,cvO,aJ,aY,↓aO,aW,aE,aF,aM,aA,aC,aB,aN,ad,frz,aR,Nat.reduceBEq,Nat.reduceLT,reduceCtorEq,↓reduceIte,aL,AV.cellsOf,AV.fine,AV.one,aQ,Nat.reduceMul,Nat.reduceAdd,Nat.reduceLeDiff,Nat.reduceEqDiff,Int.reduceToNat,Nat.reduceSub,Nat.reduceMod,Nat.reduceDiv,indexK.aggOf,Int.reducePow,Int.reduceLE,Int.reduceNeg,Int.reduceLT,Int.reduceBEq,Int.reduceBNe,Int.reduceEq,aZ,aU,Try.facts,s0,s1,s5,s15,s16,s17,dT,dF,qT,qF,nT,nF,Bool.false_and,Bool.and_false]
          first | refine CallK.p (hp1) ?_ | refine CallP.i (hp1) ?_
          simp (disch := omega) only [↓aI,aD,aG,ixA,aX,aV,ag,aT,ae,mkA,ab,bnd,aS,aH,aK,cvO,aJ,aY,↓aO,aW,aE,aF,aM,aA,aC,aB,aN,ad,frz,aR,Nat.reduceBEq,Nat.reduceLT,reduceCtorEq,↓reduceIte,aL,AV.cellsOf,AV.fine,AV.one,aQ,Nat.reduceMul,Nat.reduceAdd,Nat.reduceLeDiff,Nat.reduceEqDiff,Int.reduceToNat,Nat.reduceSub,Nat.reduceMod,Nat.reduceDiv,indexK.aggOf,Int.reducePow,Int.reduceLE,Int.reduceNeg,Int.reduceLT,Int.reduceBEq,Int.reduceBNe,Int.reduceEq,aZ,aU,Try.facts,s0,s1,s5,s15,s16,s17,dT,dF,qT,qF,nT,nF,Bool.false_and,Bool.and_false]
          refine CallK.i (read_live _ W hvl) ?_
          rintro v H1 ⟨r,kr,rfl,hr0,hrf,vr,hs⟩
          have p1 : RdS H' H1 r kr W (W,0) := ⟨⟨0,by omega,rfl,vr⟩,hs,hrf,hvl⟩
          simp (disch := omega) only [↓aI,aD,aG,ixA,aX,aV,ag,aT,ae,mkA,ab,bnd,aS,aH,aK,cvO,aJ,aY,↓aO,aW,aE,aF,aM,aA,aC,aB,aN,ad,frz,aR,Nat.reduceBEq,Nat.reduceLT,reduceCtorEq,↓reduceIte,aL,AV.cellsOf,AV.fine,AV.one,aQ,Nat.reduceMul,Nat.reduceAdd,Nat.reduceLeDiff,Nat.reduceEqDiff,Int.reduceToNat,Nat.reduceSub,Nat.reduceMod,Nat.reduceDiv,indexK.aggOf,Int.reducePow,Int.reduceLE,Int.reduceNeg,Int.reduceLT,Int.reduceBEq,Int.reduceBNe,Int.reduceEq,aZ,aU,Try.facts,s0,s1,s5,s15,s16,s17,dT,dF,qT,qF,nT,nF,Bool.false_and,Bool.and_false]
          refine CallK.i (hg1 hall _ _ _ _ p1 hr0) ?_
          rintro v H2 ⟨rfl,p2⟩
          simp (disch := omega) only [↓aI,aD,aG,ixA,aX,aV,ag,aT,ae,mkA,ab,bnd,aS,aH,aK,cvO,aJ,aY,↓aO,aW,aE,aF,aM,aA,aC,aB,aN,ad,frz,aR,Nat.reduceBEq,Nat.reduceLT,reduceCtorEq,↓reduceIte,aL,AV.cellsOf,AV.fine,AV.one,aQ,Nat.reduceMul,Nat.reduceAdd,Nat.reduceLeDiff,Nat.reduceEqDiff,Int.reduceToNat,Nat.reduceSub,Nat.reduceMod,Nat.reduceDiv,indexK.aggOf,Int.reducePow,Int.reduceLE,Int.reduceNeg,Int.reduceLT,Int.reduceBEq,Int.reduceBNe,Int.reduceEq,aZ,aU,Try.facts,s0,s1,s5,s15,s16,s17,dT,dF,qT,qF,nT,nF,Bool.false_and,Bool.and_false]
          first | refine CallK.p (hsm) ?_ | refine CallP.i (hsm) ?_
          simp (disch := omega) only [↓aI,aD,aG,ixA,aX,aV,ag,aT,ae,mkA,ab,bnd,aS,aH,aK,cvO,aJ,aY,↓aO,aW,aE,aF,aM,aA,aC,aB,aN,ad,frz,aR,Nat.reduceBEq,Nat.reduceLT,reduceCtorEq,↓reduceIte,aL,AV.cellsOf,AV.fine,AV.one,aQ,Nat.reduceMul,Nat.reduceAdd,Nat.reduceLeDiff,Nat.reduceEqDiff,Int.reduceToNat,Nat.reduceSub,Nat.reduceMod,Nat.reduceDiv,indexK.aggOf,Int.reducePow,Int.reduceLE,Int.reduceNeg,Int.reduceLT,Int.reduceBEq,Int.reduceBNe,Int.reduceEq,aZ,aU,Try.facts,s0,s1,s5,s15,s16,s17,dT,dF,qT,qF,nT,nF,Bool.false_and,Bool.and_false]
          refine CallK.i (hend _ _ _ _ _ p2 hr0) ?_
          rintro v E ⟨rfl,rfl⟩
          have hs9 := p2.2.1
          simp (disch := omega) only [↓aI,aD,aG,ixA,aX,aV,ag,aT,ae,mkA,ab,bnd,aS,aH,aK,cvO,aJ,aY,↓aO,aW,aE,aF,aM,aA,aC,aB,aN,ad,frz,aR,Nat.reduceBEq,Nat.reduceLT,reduceCtorEq,↓reduceIte,aL,AV.cellsOf,AV.fine,AV.one,aQ,Nat.reduceMul,Nat.reduceAdd,Nat.reduceLeDiff,Nat.reduceEqDiff,Int.reduceToNat,Nat.reduceSub,Nat.reduceMod,Nat.reduceDiv,indexK.aggOf,Int.reducePow,Int.reduceLE,Int.reduceNeg,Int.reduceLT,Int.reduceBEq,Int.reduceBNe,Int.reduceEq,aZ,aU,Try.facts,s0,s1,s5,s15,s16,s17,dT,dF,qT,qF,nT,nF,Bool.false_and,Bool.and_false]
        case' neg =>
          rw [Bool.eq_false_iff.2 hall] at s5
          have hs9 := Abs.Sub.refl H'
          simp (disch := omega) only [↓aI,aD,aG,ixA,aX,aV,ag,aT,ae,mkA,ab,bnd,aS,aH,aK,cvO,aJ,aY,↓aO,aW,aE,aF,aM,aA,aC,aB,aN,ad,frz,aR,Nat.reduceBEq,Nat.reduceLT,reduceCtorEq,↓reduceIte,aL,AV.cellsOf,AV.fine,AV.one,aQ,Nat.reduceMul,Nat.reduceAdd,Nat.reduceLeDiff,Nat.reduceEqDiff,Int.reduceToNat,Nat.reduceSub,Nat.reduceMod,Nat.reduceDiv,indexK.aggOf,Int.reducePow,Int.reduceLE,Int.reduceNeg,Int.reduceLT,Int.reduceBEq,Int.reduceBNe,Int.reduceEq,aZ,aU,Try.facts,s0,s1,s5,s15,s16,s17,dT,dF,qT,qF,nT,nF,Bool.false_and,Bool.and_false]
        all_goals
          intro k9 hk90 hk9
          try simp (disch := omega) only [↓aI,aD,aG,ixA,aX,aV,ag,aT,ae,mkA,ab,bnd,aS,aH,aK,cvO,aJ,aY,↓aO,aW,aE,aF,aM,aA,aC,aB,aN,ad,frz,aR,Nat.reduceBEq,Nat.reduceLT,reduceCtorEq,↓reduceIte,aL,AV.cellsOf,AV.fine,AV.one,aQ,Nat.reduceMul,Nat.reduceAdd,Nat.reduceLeDiff,Nat.reduceEqDiff,Int.reduceToNat,Nat.reduceSub,Nat.reduceMod,Nat.reduceDiv,indexK.aggOf,Int.reducePow,Int.reduceLE,Int.reduceNeg,Int.reduceLT,Int.reduceBEq,Int.reduceBNe,Int.reduceEq,aZ,aU,Try.facts,s1,dT,dF,qT,qF,nT,nF,Bool.false_and,Bool.and_false]
          intro k2 o2 hk20 hk2 ho2
          try simp (disch := omega) only [↓aI,aD,aG,ixA,aX,aV,ag,aT,ae,mkA,ab,bnd,aS,aH,aK,cvO,aJ,aY,↓aO,aW,aE,aF,aM,aA,aC,aB,aN,ad,frz,aR,Nat.reduceBEq,Nat.reduceLT,reduceCtorEq,↓reduceIte,aL,AV.cellsOf,AV.fine,AV.one,aQ,Nat.reduceMul,Nat.reduceAdd,Nat.reduceLeDiff,Nat.reduceEqDiff,Int.reduceToNat,Nat.reduceSub,Nat.reduceMod,Nat.reduceDiv,indexK.aggOf,Int.reducePow,Int.reduceLE,Int.reduceNeg,Int.reduceLT,Int.reduceBEq,Int.reduceBNe,Int.reduceEq,aZ,aU,Try.facts,s1,dT,dF,qT,qF,nT,nF,Bool.false_and,Bool.and_false]
          refine CallK.i (read_live _ b (by omega)) ?_
          rintro v H3 ⟨r3,kr3,rfl,hr30,hr3f,vr3,hs3⟩
          have p3 : RdS _ H3 r3 kr3 b (b,0) := ⟨⟨0,by omega,rfl,vr3⟩,hs3,hr3f,by omega⟩
          simp (disch := omega) only [↓aI,aD,aG,ixA,aX,aV,ag,aT,ae,mkA,ab,bnd,aS,aH,aK,cvO,aJ,aY,↓aO,aW,aE,aF,aM,aA,aC,aB,aN,ad,frz,aR,Nat.reduceBEq,Nat.reduceLT,reduceCtorEq,↓reduceIte,aL,AV.cellsOf,AV.fine,AV.one,aQ,Nat.reduceMul,Nat.reduceAdd,Nat.reduceLeDiff,Nat.reduceEqDiff,Int.reduceToNat,Nat.reduceSub,Nat.reduceMod,Nat.reduceDiv,indexK.aggOf,Int.reducePow,Int.reduceLE,Int.reduceNeg,Int.reduceLT,Int.reduceBEq,Int.reduceBNe,Int.reduceEq,aZ,aU,Try.facts,s1,dT,dF,qT,qF,nT,nF,Bool.false_and,Bool.and_false]
          refine CallK.i (hg2 _ _ _ _ _ p3 hr30) ?_
          rintro v H4 ⟨rfl,p4⟩
          simp (disch := omega) only [↓aI,aD,aG,ixA,aX,aV,ag,aT,ae,mkA,ab,bnd,aS,aH,aK,cvO,aJ,aY,↓aO,aW,aE,aF,aM,aA,aC,aB,aN,ad,frz,aR,Nat.reduceBEq,Nat.reduceLT,reduceCtorEq,↓reduceIte,aL,AV.cellsOf,AV.fine,AV.one,aQ,Nat.reduceMul,Nat.reduceAdd,Nat.reduceLeDiff,Nat.reduceEqDiff,Int.reduceToNat,Nat.reduceSub,Nat.reduceMod,Nat.reduceDiv,indexK.aggOf,Int.reducePow,Int.reduceLE,Int.reduceNeg,Int.reduceLT,Int.reduceBEq,Int.reduceBNe,Int.reduceEq,aZ,aU,Try.facts,s1,dT,dF,qT,qF,nT,nF,Bool.false_and,Bool.and_false]
          refine CallK.i (he _ _ _ _ _ p4 hr30) ?_
          rintro v E2 ⟨rfl,rfl⟩
          by_cases c : e1 = 0
          · subst c
            obtain ⟨hc1,hc2,hc3,hc4⟩ := hcut rfl

            have hp2' := hp2 rfl
            simp (disch := omega) only [↓aI,aD,aG,ixA,aX,aV,ag,aT,ae,mkA,ab,bnd,aS,aH,aK,cvO,aJ,aY,↓aO,aW,aE,aF,aM,aA,aC,aB,aN,ad,frz,aR,Nat.reduceBEq,Nat.reduceLT,reduceCtorEq,↓reduceIte,aL,AV.cellsOf,AV.fine,AV.one,aQ,Nat.reduceMul,Nat.reduceAdd,Nat.reduceLeDiff,Nat.reduceEqDiff,Int.reduceToNat,Nat.reduceSub,Nat.reduceMod,Nat.reduceDiv,indexK.aggOf,Int.reducePow,Int.reduceLE,Int.reduceNeg,Int.reduceLT,Int.reduceBEq,Int.reduceBNe,Int.reduceEq,aZ,aU,Try.facts,s1,dT,dF,qT,qF,nT,nF,Bool.false_and,Bool.and_false]
            first | refine CallK.p (hp2') ?_ | refine CallP.i (hp2') ?_
            simp (disch := omega) only [↓aI,aD,aG,ixA,aX,aV,ag,aT,ae,mkA,ab,bnd,aS,aH,aK,cvO,aJ,aY,↓aO,aW,aE,aF,aM,aA,aC,aB,aN,ad,frz,aR,Nat.reduceBEq,Nat.reduceLT,reduceCtorEq,↓reduceIte,aL,AV.cellsOf,AV.fine,AV.one,aQ,Nat.reduceMul,Nat.reduceAdd,Nat.reduceLeDiff,Nat.reduceEqDiff,Int.reduceToNat,Nat.reduceSub,Nat.reduceMod,Nat.reduceDiv,indexK.aggOf,Int.reducePow,Int.reduceLE,Int.reduceNeg,Int.reduceLT,Int.reduceBEq,Int.reduceBNe,Int.reduceEq,aZ,aU,Try.facts,s1,dT,dF,qT,qF,nT,nF,Bool.false_and,Bool.and_false,encB_isU8,strOf_encB,hbl]
            refine CallK.i (hlf _ _ _ _ _ p4 hr30) ?_
            rintro v E3 ⟨rfl,rfl⟩
            simp (disch := omega) only [↓aI,aD,aG,ixA,aX,aV,ag,aT,ae,mkA,ab,bnd,aS,aH,aK,cvO,aJ,aY,↓aO,aW,aE,aF,aM,aA,aC,aB,aN,ad,frz,aR,Nat.reduceBEq,Nat.reduceLT,reduceCtorEq,↓reduceIte,aL,AV.cellsOf,AV.fine,AV.one,aQ,Nat.reduceMul,Nat.reduceAdd,Nat.reduceLeDiff,Nat.reduceEqDiff,Int.reduceToNat,Nat.reduceSub,Nat.reduceMod,Nat.reduceDiv,indexK.aggOf,Int.reducePow,Int.reduceLE,Int.reduceNeg,Int.reduceLT,Int.reduceBEq,Int.reduceBNe,Int.reduceEq,aZ,aU,Try.facts,s1,dT,dF,qT,qF,nT,nF,Bool.false_and,Bool.and_false,encB_isU8,strOf_encB,hbl,Nat.sub_zero,hc1,encB_take,hc2,beq_self_eq_true]
            first | refine CallK.p (haw) ?_ | refine CallP.i (haw) ?_
            simp (disch := omega) only [↓aI,aD,aG,ixA,aX,aV,ag,aT,ae,mkA,ab,bnd,aS,aH,aK,cvO,aJ,aY,↓aO,aW,aE,aF,aM,aA,aC,aB,aN,ad,frz,aR,Nat.reduceBEq,Nat.reduceLT,reduceCtorEq,↓reduceIte,aL,AV.cellsOf,AV.fine,AV.one,aQ,Nat.reduceMul,Nat.reduceAdd,Nat.reduceLeDiff,Nat.reduceEqDiff,Int.reduceToNat,Nat.reduceSub,Nat.reduceMod,Nat.reduceDiv,indexK.aggOf,Int.reducePow,Int.reduceLE,Int.reduceNeg,Int.reduceLT,Int.reduceBEq,Int.reduceBNe,Int.reduceEq,aZ,aU,Try.facts,s1,dT,dF,qT,qF,nT,nF,Bool.false_and,Bool.and_false]
            exact (hs9.trans (Sub.set_new (am hk2))).trans p4.2.1
          · obtain rfl := her c
            simp (disch := omega) only [↓aI,aD,aG,ixA,aX,aV,ag,aT,ae,mkA,ab,bnd,aS,aH,aK,cvO,aJ,aY,↓aO,aW,aE,aF,aM,aA,aC,aB,aN,ad,frz,aR,Nat.reduceBEq,Nat.reduceLT,reduceCtorEq,↓reduceIte,aL,AV.cellsOf,AV.fine,AV.one,aQ,Nat.reduceMul,Nat.reduceAdd,Nat.reduceLeDiff,Nat.reduceEqDiff,Int.reduceToNat,Nat.reduceSub,Nat.reduceMod,Nat.reduceDiv,indexK.aggOf,Int.reducePow,Int.reduceLE,Int.reduceNeg,Int.reduceLT,Int.reduceBEq,Int.reduceBNe,Int.reduceEq,aZ,aU,Try.facts,s1,dT,dF,qT,qF,nT,nF,Bool.false_and,Bool.and_false,dL,List.flatMap_nil]
            first | refine CallK.p (haw) ?_ | refine CallP.i (haw) ?_
            simp (disch := omega) only [↓aI,aD,aG,ixA,aX,aV,ag,aT,ae,mkA,ab,bnd,aS,aH,aK,cvO,aJ,aY,↓aO,aW,aE,aF,aM,aA,aC,aB,aN,ad,frz,aR,Nat.reduceBEq,Nat.reduceLT,reduceCtorEq,↓reduceIte,aL,AV.cellsOf,AV.fine,AV.one,aQ,Nat.reduceMul,Nat.reduceAdd,Nat.reduceLeDiff,Nat.reduceEqDiff,Int.reduceToNat,Nat.reduceSub,Nat.reduceMod,Nat.reduceDiv,indexK.aggOf,Int.reducePow,Int.reduceLE,Int.reduceNeg,Int.reduceLT,Int.reduceBEq,Int.reduceBNe,Int.reduceEq,aZ,aU,Try.facts,s1,dT,dF,qT,qF,nT,nF,Bool.false_and,Bool.and_false]
            exact (hs9.trans (Sub.set_new (am hk2))).trans p4.2.1
theorem paper_back (x0 : List OpX) (x1 : List UInt8) (n : Nat) (hb : n + Try.ty62.size x1 ≤ 1048576) : APure Try.prog 8 [.imm 0 (x0.flatMap Try.ty84.enc) x0.length,(Try.ty62.enc x1).getD 0 .any] (.sc (.bool true)) := by
  rw [size_bytes] at hb
  have h := back_walk (x0.map opOf) x1 (by omega)
  rw [opsV,← ops_enc,List.length_map] at h
  rw [enc_bytes]
  exact h
end Go.Proofs.Ytimonfakmadhpaa
