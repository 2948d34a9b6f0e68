/-
  PaperBytes: the walk, and the call, of the arguments as they are read.
  Conditions: none. Lemmas only.
-/
import Derived.Test.YtimonfakmadhpaaPapG7
import Derived.Test.YtimonfakmadhpaaPapG5
import Derived.Test.YtimonfakmadhpaaPapG4
import Derived.Test.YtimonfakmadhpaaFugTys
set_option linter.all false
set_option linter.unusedSimpArgs false
set_option linter.unusedVariables false
set_option maxRecDepth 20000
set_option maxHeartbeats 4000000
namespace Go.Proofs.Ytimonfakmadhpaa
open Go Go.Abs Go.Proofs Go.Fug
theorem rread_pure (b : List UInt8) : APure Try.prog 35 [bytesV b] (rsV (b,0)) := by
  refine az (c := ⟨Try.prog,5,[],[],[]⟩) (rs := [ResultVar.cell 2 67]) Try.mixed Try.func35 rfl rfl rfl (Nat.le_of_ble_eq_true rfl) (by kernel_rfl) fun H => ?_
  simp (disch := omega) only [↓aI,aD,aG,ixA,aX,aV,ag,aT,ae,mkA,ab,bnd,aS,aH,aK,cvO,aJ,aY,↓aO,aW,aE,aF,aM,aA,aC,aB,aN,ad,frz,aR,Nat.reduceBEq,Nat.reduceLT,reduceCtorEq,↓reduceIte,aL,AV.cellsOf,AV.fine,AV.one,aQ,Nat.reduceMul,Nat.reduceAdd,Nat.reduceLeDiff,Nat.reduceEqDiff,Int.reduceToNat,Nat.reduceSub,Nat.reduceMod,Nat.reduceDiv,indexK.aggOf,Int.reducePow,Int.reduceLE,Int.reduceNeg,Int.reduceLT,Int.reduceBEq,Int.reduceBNe,Int.reduceEq,aZ,aU,Try.facts]
  intro k hk0 hk
  simp (disch := omega) only [↓aI,aD,aG,ixA,aX,aV,ag,aT,ae,mkA,ab,bnd,aS,aH,aK,cvO,aJ,aY,↓aO,aW,aE,aF,aM,aA,aC,aB,aN,ad,frz,aR,Nat.reduceBEq,Nat.reduceLT,reduceCtorEq,↓reduceIte,aL,AV.cellsOf,AV.fine,AV.one,aQ,Nat.reduceMul,Nat.reduceAdd,Nat.reduceLeDiff,Nat.reduceEqDiff,Int.reduceToNat,Nat.reduceSub,Nat.reduceMod,Nat.reduceDiv,indexK.aggOf,Int.reducePow,Int.reduceLE,Int.reduceNeg,Int.reduceLT,Int.reduceBEq,Int.reduceBNe,Int.reduceEq,aZ,aU,Try.facts,ah]
  exact Sub.set_new hk
theorem rdL_len : ∀ (n : Nat) (s : RS),(rdL n s).1.1.length ≤ s.1.length ∧ (rdL n s).2.length ≤ s.1.length
  | 0,s => ⟨Nat.le_refl _,Nat.zero_le _⟩
  | n + 1,s => by
    have h := rdOp_sh s
    unfold rdL
    split
    · rename_i h0
      have h1 := rdL_len n (rdOp s).1
      have h2 := (h.lt h0).2
      refine ⟨by simp only; omega,?_⟩
      simp only
      split
      · simp only [List.length_cons]; omega
      · simp
    · exact ⟨h.le,by simp⟩
theorem rdGet_len (s : RS) (most : Int) : (rdGet s most).1.1.length ≤ s.1.length ∧ (rdGet s most).2.length ≤ s.1.length := by
  unfold rdGet
  have h1 := rdL_len (rdNum s 0 most).2.toNat (rdNum s 0 most).1
  have h2 := (rdNum_sh s 0 most).le
  omega
theorem bytes_walk (l : List Opn) (b : List UInt8) (most : Int) (hb : b.length ≤ 1100000) : APure Try.prog 7 [opsV l,bytesV b,.sc (.int .i64 most)] (.sc (.bool true)) := by
  have haw := awake_pure
  by_cases hl : 60 < l.length
  · refine az (c := ⟨Try.prog,66,[(2000006,[0,1,2,3,4,5,6,7,8,9,10,11,12,13,14,15,17,18,16,19,20,21,22,23,24,25,26,28,29,30,27,31,32,33,34,35,36,37]),(6,[0,0,0,0,0,0,0,0,0,0,0,0,0,0,0,0,0,0,2,0,0,0,0,0,0,0,0,0,0,0,2,0,0,0,0,2,0,0]),(1000005,[9]),(4000006,[6]),(4000005,[0,7,8,9,10]),(4000003,[0,1,2,7])],[15],[]⟩) (rs := [ResultVar.tmp 6]) Try.mixed Try.func7 rfl rfl rfl (Nat.le_of_ble_eq_true rfl) (by kernel_rfl) fun H => ?_
    simp (disch := omega) only [↓aI,aD,aG,ixA,aX,aV,ag,aT,ae,mkA,ab,bnd,aS,aH,aK,cvO,aJ,aY,↓aO,aW,aE,aF,aM,aA,aC,aB,aN,ad,frz,aR,Nat.reduceBEq,Nat.reduceLT,reduceCtorEq,↓reduceIte,aL,AV.cellsOf,AV.fine,AV.one,aQ,Nat.reduceMul,Nat.reduceAdd,Nat.reduceLeDiff,Nat.reduceEqDiff,Int.reduceToNat,Nat.reduceSub,Nat.reduceMod,Nat.reduceDiv,indexK.aggOf,Int.reducePow,Int.reduceLE,Int.reduceNeg,Int.reduceLT,Int.reduceBEq,Int.reduceBNe,Int.reduceEq,aZ,aU,Try.facts,dT,dF,qT,qF,nT,nF,Bool.false_and,Bool.and_false]
    first | refine CallK.p (haw) ?_ | refine CallP.i (haw) ?_
    simp (disch := omega) only [↓aI,aD,aG,ixA,aX,aV,ag,aT,ae,mkA,ab,bnd,aS,aH,aK,cvO,aJ,aY,↓aO,aW,aE,aF,aM,aA,aC,aB,aN,ad,frz,aR,Nat.reduceBEq,Nat.reduceLT,reduceCtorEq,↓reduceIte,aL,AV.cellsOf,AV.fine,AV.one,aQ,Nat.reduceMul,Nat.reduceAdd,Nat.reduceLeDiff,Nat.reduceEqDiff,Int.reduceToNat,Nat.reduceSub,Nat.reduceMod,Nat.reduceDiv,indexK.aggOf,Int.reducePow,Int.reduceLE,Int.reduceNeg,Int.reduceLT,Int.reduceBEq,Int.reduceBNe,Int.reduceEq,aZ,aU,Try.facts]
    exact Abs.Sub.refl _
  · have hbl := encB_length b
    have hp1 : APure Try.prog 36 [.imm 0 [.sc (.int .u8 7)] 1,opsV l] (bytesV (vput [7] l)) := wput_pure [7] l (by simp) (by omega)
    have hp2 : APure Try.prog 37 [.imm 0 [.sc (.int .u8 7)] 1,opsV l] (bytesV (vput [7] l)) := rput18_pure [7] l (by simp) (by omega)
    have hrr := rread_pure b
    have hg2 := rGet_pure (b,0) most (by simp only; omega)
    have hg1 := fun B H r k bs p h => Get_live B H r k bs (b,0) most p h
    have hlen : (rdGet (b,0) most).2.length ≤ 3000000 ∧ (rdGet (b,0) most).1.1.length ≤ b.length := by
      have := rdGet_len (b,0) most
      simp only at this
      omega
    have he := fun B H r k bs p h => err_live B H r k bs (rdGet (b,0) most).1 p h
    have hlf := fun B H r k bs p h => rleft_live B H r k bs (rdGet (b,0) most).1 p h
    generalize rdGet (b,0) most = R at *
    obtain ⟨⟨r1,e1⟩,O⟩ := R
    simp only at hg1 hg2 hlen he hlf
    have hsm := same_pure O O hlen.1 hlen.1
    rw [decide_eq_true rfl] at hsm
    generalize vput [7] l = W at *
    refine az (c := ⟨Try.prog,66,[(2000006,[0,1,2,3,4,5,6,7,8,9,10,11,12,13,14,15,17,18,16,19,20,21,22,23,24,25,26,28,29,30,27,31,32,33,34,35,36,37]),(6,[0,0,0,0,0,0,0,0,0,0,0,0,0,0,0,0,0,0,2,0,0,0,0,0,0,0,0,0,0,0,2,0,0,0,0,2,0,0]),(1000005,[9]),(4000006,[6]),(4000005,[0,7,8,9,10]),(4000003,[0,1,2,7])],[15],[]⟩) (rs := [ResultVar.tmp 6]) Try.mixed Try.func7 rfl rfl rfl (Nat.le_of_ble_eq_true rfl) (by kernel_rfl) fun H => ?_
    simp (disch := omega) only [↓aI,aD,aG,ixA,aX,aV,ag,aT,ae,mkA,ab,bnd,aS,aH,aK,cvO,aJ,aY,↓aO,aW,aE,aF,aM,aA,aC,aB,aN,ad,frz,aR,Nat.reduceBEq,Nat.reduceLT,reduceCtorEq,↓reduceIte,aL,AV.cellsOf,AV.fine,AV.one,aQ,Nat.reduceMul,Nat.reduceAdd,Nat.reduceLeDiff,Nat.reduceEqDiff,Int.reduceToNat,Nat.reduceSub,Nat.reduceMod,Nat.reduceDiv,indexK.aggOf,Int.reducePow,Int.reduceLE,Int.reduceNeg,Int.reduceLT,Int.reduceBEq,Int.reduceBNe,Int.reduceEq,aZ,aU,Try.facts,dT,dF,qT,qF,nT,nF,Bool.false_and,Bool.and_false]
    intro k hk0 hk
    try simp (disch := omega) only [↓aI,aD,aG,ixA,aX,aV,ag,aT,ae,mkA,ab,bnd,aS,aH,aK,cvO,aJ,aY,↓aO,aW,aE,aF,aM,aA,aC,aB,aN,ad,frz,aR,Nat.reduceBEq,Nat.reduceLT,reduceCtorEq,↓reduceIte,aL,AV.cellsOf,AV.fine,AV.one,aQ,Nat.reduceMul,Nat.reduceAdd,Nat.reduceLeDiff,Nat.reduceEqDiff,Int.reduceToNat,Nat.reduceSub,Nat.reduceMod,Nat.reduceDiv,indexK.aggOf,Int.reducePow,Int.reduceLE,Int.reduceNeg,Int.reduceLT,Int.reduceBEq,Int.reduceBNe,Int.reduceEq,aZ,aU,Try.facts,dT,dF,qT,qF,nT,nF,Bool.false_and,Bool.and_false]
    intro k2 o2 hk20 hk2 ho2
    try simp (disch := omega) only [↓aI,aD,aG,ixA,aX,aV,ag,aT,ae,mkA,ab,bnd,aS,aH,aK,cvO,aJ,aY,↓aO,aW,aE,aF,aM,aA,aC,aB,aN,ad,frz,aR,Nat.reduceBEq,Nat.reduceLT,reduceCtorEq,↓reduceIte,aL,AV.cellsOf,AV.fine,AV.one,aQ,Nat.reduceMul,Nat.reduceAdd,Nat.reduceLeDiff,Nat.reduceEqDiff,Int.reduceToNat,Nat.reduceSub,Nat.reduceMod,Nat.reduceDiv,indexK.aggOf,Int.reducePow,Int.reduceLE,Int.reduceNeg,Int.reduceLT,Int.reduceBEq,Int.reduceBNe,Int.reduceEq,aZ,aU,Try.facts,dT,dF,qT,qF,nT,nF,Bool.false_and,Bool.and_false]
    refine CallK.i (read_live _ b (by omega)) ?_
    rintro v H1 ⟨r,kr,rfl,hr0,hrf,vr,hs⟩
    have p1 : RdS (H.set k2 o2) H1 r kr b (b,0) := ⟨⟨0,by omega,rfl,vr⟩,hs,hrf,by omega⟩
    simp (disch := omega) only [↓aI,aD,aG,ixA,aX,aV,ag,aT,ae,mkA,ab,bnd,aS,aH,aK,cvO,aJ,aY,↓aO,aW,aE,aF,aM,aA,aC,aB,aN,ad,frz,aR,Nat.reduceBEq,Nat.reduceLT,reduceCtorEq,↓reduceIte,aL,AV.cellsOf,AV.fine,AV.one,aQ,Nat.reduceMul,Nat.reduceAdd,Nat.reduceLeDiff,Nat.reduceEqDiff,Int.reduceToNat,Nat.reduceSub,Nat.reduceMod,Nat.reduceDiv,indexK.aggOf,Int.reducePow,Int.reduceLE,Int.reduceNeg,Int.reduceLT,Int.reduceBEq,Int.reduceBNe,Int.reduceEq,aZ,aU,Try.facts,dT,dF,qT,qF,nT,nF,Bool.false_and,Bool.and_false]
    refine CallK.i (hg1 _ _ _ _ _ p1 hr0) ?_
    rintro v H2 ⟨rfl,p2⟩
    simp (disch := omega) only [↓aI,aD,aG,ixA,aX,aV,ag,aT,ae,mkA,ab,bnd,aS,aH,aK,cvO,aJ,aY,↓aO,aW,aE,aF,aM,aA,aC,aB,aN,ad,frz,aR,Nat.reduceBEq,Nat.reduceLT,reduceCtorEq,↓reduceIte,aL,AV.cellsOf,AV.fine,AV.one,aQ,Nat.reduceMul,Nat.reduceAdd,Nat.reduceLeDiff,Nat.reduceEqDiff,Int.reduceToNat,Nat.reduceSub,Nat.reduceMod,Nat.reduceDiv,indexK.aggOf,Int.reducePow,Int.reduceLE,Int.reduceNeg,Int.reduceLT,Int.reduceBEq,Int.reduceBNe,Int.reduceEq,aZ,aU,Try.facts,dT,dF,qT,qF,nT,nF,Bool.false_and,Bool.and_false]
    first | refine CallK.p (hrr) ?_ | refine CallP.i (hrr) ?_
    simp (disch := omega) only [↓aI,aD,aG,ixA,aX,aV,ag,aT,ae,mkA,ab,bnd,aS,aH,aK,cvO,aJ,aY,↓aO,aW,aE,aF,aM,aA,aC,aB,aN,ad,frz,aR,Nat.reduceBEq,Nat.reduceLT,reduceCtorEq,↓reduceIte,aL,AV.cellsOf,AV.fine,AV.one,aQ,Nat.reduceMul,Nat.reduceAdd,Nat.reduceLeDiff,Nat.reduceEqDiff,Int.reduceToNat,Nat.reduceSub,Nat.reduceMod,Nat.reduceDiv,indexK.aggOf,Int.reducePow,Int.reduceLE,Int.reduceNeg,Int.reduceLT,Int.reduceBEq,Int.reduceBNe,Int.reduceEq,aZ,aU,Try.facts,dT,dF,qT,qF,nT,nF,Bool.false_and,Bool.and_false]
    first | refine CallK.p (hg2) ?_ | refine CallP.i (hg2) ?_
    simp (disch := omega) only [↓aI,aD,aG,ixA,aX,aV,ag,aT,ae,mkA,ab,bnd,aS,aH,aK,cvO,aJ,aY,↓aO,aW,aE,aF,aM,aA,aC,aB,aN,ad,frz,aR,Nat.reduceBEq,Nat.reduceLT,reduceCtorEq,↓reduceIte,aL,AV.cellsOf,AV.fine,AV.one,aQ,Nat.reduceMul,Nat.reduceAdd,Nat.reduceLeDiff,Nat.reduceEqDiff,Int.reduceToNat,Nat.reduceSub,Nat.reduceMod,Nat.reduceDiv,indexK.aggOf,Int.reducePow,Int.reduceLE,Int.reduceNeg,Int.reduceLT,Int.reduceBEq,Int.reduceBNe,Int.reduceEq,aZ,aU,Try.facts,dT,dF,qT,qF,nT,nF,Bool.false_and,Bool.and_false]
    intro k9 hk90 hk9
    try simp (disch := omega) only [↓aI,aD,aG,ixA,aX,aV,ag,aT,ae,mkA,ab,bnd,aS,aH,aK,cvO,aJ,aY,↓aO,aW,aE,aF,aM,aA,aC,aB,aN,ad,frz,aR,Nat.reduceBEq,Nat.reduceLT,reduceCtorEq,↓reduceIte,aL,AV.cellsOf,AV.fine,AV.one,aQ,Nat.reduceMul,Nat.reduceAdd,Nat.reduceLeDiff,Nat.reduceEqDiff,Int.reduceToNat,Nat.reduceSub,Nat.reduceMod,Nat.reduceDiv,indexK.aggOf,Int.reducePow,Int.reduceLE,Int.reduceNeg,Int.reduceLT,Int.reduceBEq,Int.reduceBNe,Int.reduceEq,aZ,aU,Try.facts,dT,dF,qT,qF,nT,nF,Bool.false_and,Bool.and_false,aj hk9,ah]
    first | refine CallK.p (hp1) ?_ | refine CallP.i (hp1) ?_
    simp (disch := omega) only [↓aI,aD,aG,ixA,aX,aV,ag,aT,ae,mkA,ab,bnd,aS,aH,aK,cvO,aJ,aY,↓aO,aW,aE,aF,aM,aA,aC,aB,aN,ad,frz,aR,Nat.reduceBEq,Nat.reduceLT,reduceCtorEq,↓reduceIte,aL,AV.cellsOf,AV.fine,AV.one,aQ,Nat.reduceMul,Nat.reduceAdd,Nat.reduceLeDiff,Nat.reduceEqDiff,Int.reduceToNat,Nat.reduceSub,Nat.reduceMod,Nat.reduceDiv,indexK.aggOf,Int.reducePow,Int.reduceLE,Int.reduceNeg,Int.reduceLT,Int.reduceBEq,Int.reduceBNe,Int.reduceEq,aZ,aU,Try.facts,dT,dF,qT,qF,nT,nF,Bool.false_and,Bool.and_false,encB_isU8,strOf_encB,hbl,aj hk9,ah]
    first | refine CallK.p (hp2) ?_ | refine CallP.i (hp2) ?_
    simp (disch := omega) only [↓aI,aD,aG,ixA,aX,aV,ag,aT,ae,mkA,ab,bnd,aS,aH,aK,cvO,aJ,aY,↓aO,aW,aE,aF,aM,aA,aC,aB,aN,ad,frz,aR,Nat.reduceBEq,Nat.reduceLT,reduceCtorEq,↓reduceIte,aL,AV.cellsOf,AV.fine,AV.one,aQ,Nat.reduceMul,Nat.reduceAdd,Nat.reduceLeDiff,Nat.reduceEqDiff,Int.reduceToNat,Nat.reduceSub,Nat.reduceMod,Nat.reduceDiv,indexK.aggOf,Int.reducePow,Int.reduceLE,Int.reduceNeg,Int.reduceLT,Int.reduceBEq,Int.reduceBNe,Int.reduceEq,aZ,aU,Try.facts,dT,dF,qT,qF,nT,nF,Bool.false_and,Bool.and_false,encB_isU8,strOf_encB,hbl,aj hk9,ah]
    first | refine CallK.p (hsm) ?_ | refine CallP.i (hsm) ?_
    simp (disch := omega) only [↓aI,aD,aG,ixA,aX,aV,ag,aT,ae,mkA,ab,bnd,aS,aH,aK,cvO,aJ,aY,↓aO,aW,aE,aF,aM,aA,aC,aB,aN,ad,frz,aR,Nat.reduceBEq,Nat.reduceLT,reduceCtorEq,↓reduceIte,aL,AV.cellsOf,AV.fine,AV.one,aQ,Nat.reduceMul,Nat.reduceAdd,Nat.reduceLeDiff,Nat.reduceEqDiff,Int.reduceToNat,Nat.reduceSub,Nat.reduceMod,Nat.reduceDiv,indexK.aggOf,Int.reducePow,Int.reduceLE,Int.reduceNeg,Int.reduceLT,Int.reduceBEq,Int.reduceBNe,Int.reduceEq,aZ,aU,Try.facts,dT,dF,qT,qF,nT,nF,Bool.false_and,Bool.and_false,aj hk9,ah]
    refine CallK.i (he _ _ _ _ _ p2 hr0) ?_
    rintro v E ⟨rfl,rfl⟩
    by_cases c : e1 = 0
    · subst c
      simp (disch := omega) only [↓aI,aD,aG,ixA,aX,aV,ag,aT,ae,mkA,ab,bnd,aS,aH,aK,cvO,aJ,aY,↓aO,aW,aE,aF,aM,aA,aC,aB,aN,ad,frz,aR,Nat.reduceBEq,Nat.reduceLT,reduceCtorEq,↓reduceIte,aL,AV.cellsOf,AV.fine,AV.one,aQ,Nat.reduceMul,Nat.reduceAdd,Nat.reduceLeDiff,Nat.reduceEqDiff,Int.reduceToNat,Nat.reduceSub,Nat.reduceMod,Nat.reduceDiv,indexK.aggOf,Int.reducePow,Int.reduceLE,Int.reduceNeg,Int.reduceLT,Int.reduceBEq,Int.reduceBNe,Int.reduceEq,aZ,aU,Try.facts,dT,dF,qT,qF,nT,nF,Bool.false_and,Bool.and_false,aj hk9,ah]
      refine CallK.i (hlf _ _ _ _ _ p2 hr0) ?_
      rintro v E ⟨rfl,rfl⟩
      simp (disch := omega) only [↓aI,aD,aG,ixA,aX,aV,ag,aT,ae,mkA,ab,bnd,aS,aH,aK,cvO,aJ,aY,↓aO,aW,aE,aF,aM,aA,aC,aB,aN,ad,frz,aR,Nat.reduceBEq,Nat.reduceLT,reduceCtorEq,↓reduceIte,aL,AV.cellsOf,AV.fine,AV.one,aQ,Nat.reduceMul,Nat.reduceAdd,Nat.reduceLeDiff,Nat.reduceEqDiff,Int.reduceToNat,Nat.reduceSub,Nat.reduceMod,Nat.reduceDiv,indexK.aggOf,Int.reducePow,Int.reduceLE,Int.reduceNeg,Int.reduceLT,Int.reduceBEq,Int.reduceBNe,Int.reduceEq,aZ,aU,Try.facts,dT,dF,qT,qF,nT,nF,Bool.false_and,Bool.and_false,aj hk9,ah]
      first | refine CallK.p (haw) ?_ | refine CallP.i (haw) ?_
      simp (disch := omega) only [↓aI,aD,aG,ixA,aX,aV,ag,aT,ae,mkA,ab,bnd,aS,aH,aK,cvO,aJ,aY,↓aO,aW,aE,aF,aM,aA,aC,aB,aN,ad,frz,aR,Nat.reduceBEq,Nat.reduceLT,reduceCtorEq,↓reduceIte,aL,AV.cellsOf,AV.fine,AV.one,aQ,Nat.reduceMul,Nat.reduceAdd,Nat.reduceLeDiff,Nat.reduceEqDiff,Int.reduceToNat,Nat.reduceSub,Nat.reduceMod,Nat.reduceDiv,indexK.aggOf,Int.reducePow,Int.reduceLE,Int.reduceNeg,Int.reduceLT,Int.reduceBEq,Int.reduceBNe,Int.reduceEq,aZ,aU,Try.facts,dT,dF,qT,qF,nT,nF,Bool.false_and,Bool.and_false,aj hk9,ah]
      exact (Sub.set_new (am hk2)).trans p2.2.1
    · simp (disch := omega) only [↓aI,aD,aG,ixA,aX,aV,ag,aT,ae,mkA,ab,bnd,aS,aH,aK,cvO,aJ,aY,↓aO,aW,aE,aF,aM,aA,aC,aB,aN,ad,frz,aR,Nat.reduceBEq,Nat.reduceLT,reduceCtorEq,↓reduceIte,aL,AV.cellsOf,AV.fine,AV.one,aQ,Nat.reduceMul,Nat.reduceAdd,Nat.reduceLeDiff,Nat.reduceEqDiff,Int.reduceToNat,Nat.reduceSub,Nat.reduceMod,Nat.reduceDiv,indexK.aggOf,Int.reducePow,Int.reduceLE,Int.reduceNeg,Int.reduceLT,Int.reduceBEq,Int.reduceBNe,Int.reduceEq,aZ,aU,Try.facts,dT,dF,qT,qF,nT,nF,Bool.false_and,Bool.and_false,aj hk9,ah,beq_self_eq_true]
      first | refine CallK.p (haw) ?_ | refine CallP.i (haw) ?_
      simp (disch := omega) only [↓aI,aD,aG,ixA,aX,aV,ag,aT,ae,mkA,ab,bnd,aS,aH,aK,cvO,aJ,aY,↓aO,aW,aE,aF,aM,aA,aC,aB,aN,ad,frz,aR,Nat.reduceBEq,Nat.reduceLT,reduceCtorEq,↓reduceIte,aL,AV.cellsOf,AV.fine,AV.one,aQ,Nat.reduceMul,Nat.reduceAdd,Nat.reduceLeDiff,Nat.reduceEqDiff,Int.reduceToNat,Nat.reduceSub,Nat.reduceMod,Nat.reduceDiv,indexK.aggOf,Int.reducePow,Int.reduceLE,Int.reduceNeg,Int.reduceLT,Int.reduceBEq,Int.reduceBNe,Int.reduceEq,aZ,aU,Try.facts,dT,dF,qT,qF,nT,nF,Bool.false_and,Bool.and_false,aj hk9,ah]
      exact (Sub.set_new (am hk2)).trans p2.2.1
theorem paper_bytes (x0 : List OpX) (x1 : List UInt8) (x2 : Int) (n : Nat) (hb : n + Try.ty62.size x1 + Try.ty3.size x2 ≤ 1048576) : APure Try.prog 7 [.imm 0 (x0.flatMap Try.ty84.enc) x0.length,(Try.ty62.enc x1).getD 0 .any,.sc (.int .i64 x2)] (.sc (.bool true)) := by
  rw [size_bytes] at hb
  have h := bytes_walk (x0.map opOf) x1 x2 (by omega)
  rw [opsV,← ops_enc,List.length_map] at h
  rw [enc_bytes]
  exact h
end Go.Proofs.Ytimonfakmadhpaa
