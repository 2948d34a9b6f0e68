/-
  Several texts in one: each says what it proves.
  Conditions: none. Lemmas only.
-/
import Derived.Test.YtimonfakmadhpaaPapG6
import Derived.Test.YtimonfakmadhpaaPapG1
import Derived.Test.YtimonfakmadhpaaFugTys
set_option linter.all false
section
set_option linter.unusedSimpArgs false
set_option linter.unusedVariables false
set_option maxRecDepth 8000
set_option maxHeartbeats 4000000
namespace Go.Proofs.Ytimonfakmadhpaa
open Go Go.Abs Go.Proofs Go.Fug
abbrev rsV (s : RS) : AV := .agg [.imm 0 (bw s.1) s.1.length,.sc (.int .i64 s.2)]
theorem encB_drop (l : List UInt8) (k : Nat) : ((bw l).drop k).take (l.length - k) = bw (l.drop k) := by
  unfold bw
  rw [← List.map_drop,List.take_of_length_le (by simp)]
theorem rfail_pure (s : RS) (e : Int) : APure Try.prog 116 [rsV s,.sc (.int .i64 e)] (rsV (s.1,e)) := by
  obtain ⟨rest,e0⟩ := s
  refine az (c := ⟨Try.prog,9,[(1000000,[2])],[],[]⟩) (rs := [ResultVar.cell 4 67]) Try.mixed Try.func116 rfl rfl rfl (Nat.le_of_ble_eq_true rfl) (by kernel_rfl) fun H => ?_
  simp (disch := omega) only [↓aI,aD,aG,ixA,aX,aV,ag,aT,ae,mkA,ab,bnd,aS,aH,aK,cvO,aJ,aY,↓aO,aW,aE,aF,aM,aA,aC,aB,aN,ad,frz,aR,Nat.reduceBEq,Nat.reduceLT,reduceCtorEq,↓reduceIte,aL,AV.cellsOf,AV.fine,AV.one,aQ,Nat.reduceMul,Nat.reduceAdd,Nat.reduceLeDiff,Nat.reduceEqDiff,Int.reduceToNat,Nat.reduceSub,Nat.reduceMod,Nat.reduceDiv,indexK.aggOf,Int.reducePow,Int.reduceLE,Int.reduceNeg,Int.reduceLT,Int.reduceBEq,Int.reduceBNe,Int.reduceEq,aZ,aU,Try.facts]
  intro b2 hb20 hb2 b4 hb40 hb4
  have n4 := bK hb4
  simp (disch := omega) only [↓aI,aD,aG,ixA,aX,aV,ag,aT,ae,mkA,ab,bnd,aS,aH,aK,cvO,aJ,aY,↓aO,aW,aE,aF,aM,aA,aC,aB,aN,ad,frz,aR,Nat.reduceBEq,Nat.reduceLT,reduceCtorEq,↓reduceIte,aL,AV.cellsOf,AV.fine,AV.one,aQ,Nat.reduceMul,Nat.reduceAdd,Nat.reduceLeDiff,Nat.reduceEqDiff,Int.reduceToNat,Nat.reduceSub,Nat.reduceMod,Nat.reduceDiv,indexK.aggOf,Int.reducePow,Int.reduceLE,Int.reduceNeg,Int.reduceLT,Int.reduceBEq,Int.reduceBNe,Int.reduceEq,aZ,aU,Try.facts,aP,n4,bH hb2 n4,ah]
  exact Sub.set_new (am hb4)
theorem rrnum_pure (s : RS) (lo hi : Int) (hl : s.1.length ≤ 2000000) : APure Try.prog 75 [rsV s,.sc (.int .i64 lo),.sc (.int .i64 hi)] (.tup [rsV (rdNum s lo hi).1,.sc (.int .i64 (rdNum s lo hi).2)]) := by
  have hf := first_pure s.1 hl
  have hfl := fun e => rfail_pure s e
  have hle := vr_le 6 0 0 s.1
  rw [show vr 6 0 0 s.1 = vread s.1 from rfl] at hle
  have hR : rdNum s lo hi = if s.2 = 0 then (if (vread s.1).2.2 = 0 then (if ((vread s.1).1 : Int) < lo ∨ hi < ((vread s.1).1 : Int) then ((s.1,6),0) else ((s.1.drop (vread s.1).2.1,0),((vread s.1).1 : Int))) else ((s.1,(vread s.1).2.2),0)) else (s,0) := rfl
  generalize rdNum s lo hi = R at *
  generalize vread s.1 = V at *
  obtain ⟨n,w,ev⟩ := V
  obtain ⟨rest,e⟩ := s
  simp only [triV] at hf hle hR hfl
  have hdr := encB_drop rest w
  have hel := encB_len rest
  by_cases c1 : e = 0
  · subst c1
    rw [if_pos rfl] at hR
    by_cases c2 : ev = 0
    · subst c2
      rw [if_pos rfl] at hR
      have hle := hle rfl
      by_cases c3 : (n : Int) < lo ∨ hi < (n : Int)
      · rw [if_pos c3] at hR
        subst hR
        have h6 := hfl 6
        by_cases c4 : (n : Int) < lo
        · refine az (c := ⟨Try.prog,43,[(1000000,[3])],[],[]⟩) (rs := [ResultVar.cell 6 67,ResultVar.tmp 7]) Try.mixed Try.func75 rfl rfl rfl (Nat.le_of_ble_eq_true rfl) (by kernel_rfl) fun H => ?_
          simp (disch := omega) only [↓aI,aD,aG,ixA,aX,aV,ag,aT,ae,mkA,ab,bnd,aS,aH,aK,cvO,aJ,aY,↓aO,aW,aE,aF,aM,aA,aC,aB,aN,ad,frz,aR,Nat.reduceBEq,Nat.reduceLT,reduceCtorEq,↓reduceIte,aL,AV.cellsOf,AV.fine,AV.one,aQ,Nat.reduceMul,Nat.reduceAdd,Nat.reduceLeDiff,Nat.reduceEqDiff,Int.reduceToNat,Nat.reduceSub,Nat.reduceMod,Nat.reduceDiv,indexK.aggOf,Int.reducePow,Int.reduceLE,Int.reduceNeg,Int.reduceLT,Int.reduceBEq,Int.reduceBNe,Int.reduceEq,aZ,aU,Try.facts]
          intro b3 hb30 hb3 b6 hb60 hb6
          have n6 := bK hb6
          simp (disch := omega) only [↓aI,aD,aG,ixA,aX,aV,ag,aT,ae,mkA,ab,bnd,aS,aH,aK,cvO,aJ,aY,↓aO,aW,aE,aF,aM,aA,aC,aB,aN,ad,frz,aR,Nat.reduceBEq,Nat.reduceLT,reduceCtorEq,↓reduceIte,aL,AV.cellsOf,AV.fine,AV.one,aQ,Nat.reduceMul,Nat.reduceAdd,Nat.reduceLeDiff,Nat.reduceEqDiff,Int.reduceToNat,Nat.reduceSub,Nat.reduceMod,Nat.reduceDiv,indexK.aggOf,Int.reducePow,Int.reduceLE,Int.reduceNeg,Int.reduceLT,Int.reduceBEq,Int.reduceBNe,Int.reduceEq,aZ,aU,Try.facts,aP,n6,bH hb3 n6,ah,dT,dF,qT,qF,nT,nF,Bool.false_and,Bool.and_false]
          first | refine CallK.p (hf) ?_ | refine CallP.i (hf) ?_
          simp (disch := omega) only [↓aI,aD,aG,ixA,aX,aV,ag,aT,ae,mkA,ab,bnd,aS,aH,aK,cvO,aJ,aY,↓aO,aW,aE,aF,aM,aA,aC,aB,aN,ad,frz,aR,Nat.reduceBEq,Nat.reduceLT,reduceCtorEq,↓reduceIte,aL,AV.cellsOf,AV.fine,AV.one,aQ,Nat.reduceMul,Nat.reduceAdd,Nat.reduceLeDiff,Nat.reduceEqDiff,Int.reduceToNat,Nat.reduceSub,Nat.reduceMod,Nat.reduceDiv,indexK.aggOf,Int.reducePow,Int.reduceLE,Int.reduceNeg,Int.reduceLT,Int.reduceBEq,Int.reduceBNe,Int.reduceEq,aZ,aU,Try.facts,dT,dF,qT,qF,nT,nF,Bool.false_and,Bool.and_false,ah]
          first | refine CallK.p (h6) ?_ | refine CallP.i (h6) ?_
          simp (disch := omega) only [↓aI,aD,aG,ixA,aX,aV,ag,aT,ae,mkA,ab,bnd,aS,aH,aK,cvO,aJ,aY,↓aO,aW,aE,aF,aM,aA,aC,aB,aN,ad,frz,aR,Nat.reduceBEq,Nat.reduceLT,reduceCtorEq,↓reduceIte,aL,AV.cellsOf,AV.fine,AV.one,aQ,Nat.reduceMul,Nat.reduceAdd,Nat.reduceLeDiff,Nat.reduceEqDiff,Int.reduceToNat,Nat.reduceSub,Nat.reduceMod,Nat.reduceDiv,indexK.aggOf,Int.reducePow,Int.reduceLE,Int.reduceNeg,Int.reduceLT,Int.reduceBEq,Int.reduceBNe,Int.reduceEq,aZ,aU,Try.facts,dT,dF,qT,qF,nT,nF,Bool.false_and,Bool.and_false,ah]
          exact Sub.set_new (am hb6)
        · have c5 : hi < (n : Int) := c3.resolve_left c4
          refine az (c := ⟨Try.prog,43,[(1000000,[3])],[],[]⟩) (rs := [ResultVar.cell 6 67,ResultVar.tmp 7]) Try.mixed Try.func75 rfl rfl rfl (Nat.le_of_ble_eq_true rfl) (by kernel_rfl) fun H => ?_
          simp (disch := omega) only [↓aI,aD,aG,ixA,aX,aV,ag,aT,ae,mkA,ab,bnd,aS,aH,aK,cvO,aJ,aY,↓aO,aW,aE,aF,aM,aA,aC,aB,aN,ad,frz,aR,Nat.reduceBEq,Nat.reduceLT,reduceCtorEq,↓reduceIte,aL,AV.cellsOf,AV.fine,AV.one,aQ,Nat.reduceMul,Nat.reduceAdd,Nat.reduceLeDiff,Nat.reduceEqDiff,Int.reduceToNat,Nat.reduceSub,Nat.reduceMod,Nat.reduceDiv,indexK.aggOf,Int.reducePow,Int.reduceLE,Int.reduceNeg,Int.reduceLT,Int.reduceBEq,Int.reduceBNe,Int.reduceEq,aZ,aU,Try.facts]
          intro b3 hb30 hb3 b6 hb60 hb6
          have n6 := bK hb6
          simp (disch := omega) only [↓aI,aD,aG,ixA,aX,aV,ag,aT,ae,mkA,ab,bnd,aS,aH,aK,cvO,aJ,aY,↓aO,aW,aE,aF,aM,aA,aC,aB,aN,ad,frz,aR,Nat.reduceBEq,Nat.reduceLT,reduceCtorEq,↓reduceIte,aL,AV.cellsOf,AV.fine,AV.one,aQ,Nat.reduceMul,Nat.reduceAdd,Nat.reduceLeDiff,Nat.reduceEqDiff,Int.reduceToNat,Nat.reduceSub,Nat.reduceMod,Nat.reduceDiv,indexK.aggOf,Int.reducePow,Int.reduceLE,Int.reduceNeg,Int.reduceLT,Int.reduceBEq,Int.reduceBNe,Int.reduceEq,aZ,aU,Try.facts,aP,n6,bH hb3 n6,ah,dT,dF,qT,qF,nT,nF,Bool.false_and,Bool.and_false]
          first | refine CallK.p (hf) ?_ | refine CallP.i (hf) ?_
          simp (disch := omega) only [↓aI,aD,aG,ixA,aX,aV,ag,aT,ae,mkA,ab,bnd,aS,aH,aK,cvO,aJ,aY,↓aO,aW,aE,aF,aM,aA,aC,aB,aN,ad,frz,aR,Nat.reduceBEq,Nat.reduceLT,reduceCtorEq,↓reduceIte,aL,AV.cellsOf,AV.fine,AV.one,aQ,Nat.reduceMul,Nat.reduceAdd,Nat.reduceLeDiff,Nat.reduceEqDiff,Int.reduceToNat,Nat.reduceSub,Nat.reduceMod,Nat.reduceDiv,indexK.aggOf,Int.reducePow,Int.reduceLE,Int.reduceNeg,Int.reduceLT,Int.reduceBEq,Int.reduceBNe,Int.reduceEq,aZ,aU,Try.facts,dT,dF,qT,qF,nT,nF,Bool.false_and,Bool.and_false,ah]
          first | refine CallK.p (h6) ?_ | refine CallP.i (h6) ?_
          simp (disch := omega) only [↓aI,aD,aG,ixA,aX,aV,ag,aT,ae,mkA,ab,bnd,aS,aH,aK,cvO,aJ,aY,↓aO,aW,aE,aF,aM,aA,aC,aB,aN,ad,frz,aR,Nat.reduceBEq,Nat.reduceLT,reduceCtorEq,↓reduceIte,aL,AV.cellsOf,AV.fine,AV.one,aQ,Nat.reduceMul,Nat.reduceAdd,Nat.reduceLeDiff,Nat.reduceEqDiff,Int.reduceToNat,Nat.reduceSub,Nat.reduceMod,Nat.reduceDiv,indexK.aggOf,Int.reducePow,Int.reduceLE,Int.reduceNeg,Int.reduceLT,Int.reduceBEq,Int.reduceBNe,Int.reduceEq,aZ,aU,Try.facts,dT,dF,qT,qF,nT,nF,Bool.false_and,Bool.and_false,ah]
          exact Sub.set_new (am hb6)
      · rw [if_neg c3] at hR
        subst hR
        have hdl : (rest.drop w).length = rest.length - w := List.length_drop
        refine az (c := ⟨Try.prog,43,[(1000000,[3])],[],[]⟩) (rs := [ResultVar.cell 6 67,ResultVar.tmp 7]) Try.mixed Try.func75 rfl rfl rfl (Nat.le_of_ble_eq_true rfl) (by kernel_rfl) fun H => ?_
        simp (disch := omega) only [↓aI,aD,aG,ixA,aX,aV,ag,aT,ae,mkA,ab,bnd,aS,aH,aK,cvO,aJ,aY,↓aO,aW,aE,aF,aM,aA,aC,aB,aN,ad,frz,aR,Nat.reduceBEq,Nat.reduceLT,reduceCtorEq,↓reduceIte,aL,AV.cellsOf,AV.fine,AV.one,aQ,Nat.reduceMul,Nat.reduceAdd,Nat.reduceLeDiff,Nat.reduceEqDiff,Int.reduceToNat,Nat.reduceSub,Nat.reduceMod,Nat.reduceDiv,indexK.aggOf,Int.reducePow,Int.reduceLE,Int.reduceNeg,Int.reduceLT,Int.reduceBEq,Int.reduceBNe,Int.reduceEq,aZ,aU,Try.facts]
        intro b3 hb30 hb3 b6 hb60 hb6
        have n6 := bK hb6
        simp (disch := omega) only [↓aI,aD,aG,ixA,aX,aV,ag,aT,ae,mkA,ab,bnd,aS,aH,aK,cvO,aJ,aY,↓aO,aW,aE,aF,aM,aA,aC,aB,aN,ad,frz,aR,Nat.reduceBEq,Nat.reduceLT,reduceCtorEq,↓reduceIte,aL,AV.cellsOf,AV.fine,AV.one,aQ,Nat.reduceMul,Nat.reduceAdd,Nat.reduceLeDiff,Nat.reduceEqDiff,Int.reduceToNat,Nat.reduceSub,Nat.reduceMod,Nat.reduceDiv,indexK.aggOf,Int.reducePow,Int.reduceLE,Int.reduceNeg,Int.reduceLT,Int.reduceBEq,Int.reduceBNe,Int.reduceEq,aZ,aU,Try.facts,aP,n6,bH hb3 n6,ah,dT,dF,qT,qF,nT,nF,Bool.false_and,Bool.and_false]
        first | refine CallK.p (hf) ?_ | refine CallP.i (hf) ?_
        simp (disch := omega) only [↓aI,aD,aG,ixA,aX,aV,ag,aT,ae,mkA,ab,bnd,aS,aH,aK,cvO,aJ,aY,↓aO,aW,aE,aF,aM,aA,aC,aB,aN,ad,frz,aR,Nat.reduceBEq,Nat.reduceLT,reduceCtorEq,↓reduceIte,aL,AV.cellsOf,AV.fine,AV.one,aQ,Nat.reduceMul,Nat.reduceAdd,Nat.reduceLeDiff,Nat.reduceEqDiff,Int.reduceToNat,Nat.reduceSub,Nat.reduceMod,Nat.reduceDiv,indexK.aggOf,Int.reducePow,Int.reduceLE,Int.reduceNeg,Int.reduceLT,Int.reduceBEq,Int.reduceBNe,Int.reduceEq,aZ,aU,Try.facts,dT,dF,qT,qF,nT,nF,Bool.false_and,Bool.and_false,ah,hdr,hel]
        rw [← hdl]
        exact ⟨rfl,Sub.set_new (am hb6)⟩
    · rw [if_neg c2] at hR
      subst hR
      have h6 := hfl ev
      refine az (c := ⟨Try.prog,43,[(1000000,[3])],[],[]⟩) (rs := [ResultVar.cell 6 67,ResultVar.tmp 7]) Try.mixed Try.func75 rfl rfl rfl (Nat.le_of_ble_eq_true rfl) (by kernel_rfl) fun H => ?_
      simp (disch := omega) only [↓aI,aD,aG,ixA,aX,aV,ag,aT,ae,mkA,ab,bnd,aS,aH,aK,cvO,aJ,aY,↓aO,aW,aE,aF,aM,aA,aC,aB,aN,ad,frz,aR,Nat.reduceBEq,Nat.reduceLT,reduceCtorEq,↓reduceIte,aL,AV.cellsOf,AV.fine,AV.one,aQ,Nat.reduceMul,Nat.reduceAdd,Nat.reduceLeDiff,Nat.reduceEqDiff,Int.reduceToNat,Nat.reduceSub,Nat.reduceMod,Nat.reduceDiv,indexK.aggOf,Int.reducePow,Int.reduceLE,Int.reduceNeg,Int.reduceLT,Int.reduceBEq,Int.reduceBNe,Int.reduceEq,aZ,aU,Try.facts]
      intro b3 hb30 hb3 b6 hb60 hb6
      have n6 := bK hb6
      simp (disch := omega) only [↓aI,aD,aG,ixA,aX,aV,ag,aT,ae,mkA,ab,bnd,aS,aH,aK,cvO,aJ,aY,↓aO,aW,aE,aF,aM,aA,aC,aB,aN,ad,frz,aR,Nat.reduceBEq,Nat.reduceLT,reduceCtorEq,↓reduceIte,aL,AV.cellsOf,AV.fine,AV.one,aQ,Nat.reduceMul,Nat.reduceAdd,Nat.reduceLeDiff,Nat.reduceEqDiff,Int.reduceToNat,Nat.reduceSub,Nat.reduceMod,Nat.reduceDiv,indexK.aggOf,Int.reducePow,Int.reduceLE,Int.reduceNeg,Int.reduceLT,Int.reduceBEq,Int.reduceBNe,Int.reduceEq,aZ,aU,Try.facts,aP,n6,bH hb3 n6,ah,dT,dF,qT,qF,nT,nF,Bool.false_and,Bool.and_false]
      first | refine CallK.p (hf) ?_ | refine CallP.i (hf) ?_
      simp (disch := omega) only [↓aI,aD,aG,ixA,aX,aV,ag,aT,ae,mkA,ab,bnd,aS,aH,aK,cvO,aJ,aY,↓aO,aW,aE,aF,aM,aA,aC,aB,aN,ad,frz,aR,Nat.reduceBEq,Nat.reduceLT,reduceCtorEq,↓reduceIte,aL,AV.cellsOf,AV.fine,AV.one,aQ,Nat.reduceMul,Nat.reduceAdd,Nat.reduceLeDiff,Nat.reduceEqDiff,Int.reduceToNat,Nat.reduceSub,Nat.reduceMod,Nat.reduceDiv,indexK.aggOf,Int.reducePow,Int.reduceLE,Int.reduceNeg,Int.reduceLT,Int.reduceBEq,Int.reduceBNe,Int.reduceEq,aZ,aU,Try.facts,dT,dF,qT,qF,nT,nF,Bool.false_and,Bool.and_false,ah]
      first | refine CallK.p (h6) ?_ | refine CallP.i (h6) ?_
      simp (disch := omega) only [↓aI,aD,aG,ixA,aX,aV,ag,aT,ae,mkA,ab,bnd,aS,aH,aK,cvO,aJ,aY,↓aO,aW,aE,aF,aM,aA,aC,aB,aN,ad,frz,aR,Nat.reduceBEq,Nat.reduceLT,reduceCtorEq,↓reduceIte,aL,AV.cellsOf,AV.fine,AV.one,aQ,Nat.reduceMul,Nat.reduceAdd,Nat.reduceLeDiff,Nat.reduceEqDiff,Int.reduceToNat,Nat.reduceSub,Nat.reduceMod,Nat.reduceDiv,indexK.aggOf,Int.reducePow,Int.reduceLE,Int.reduceNeg,Int.reduceLT,Int.reduceBEq,Int.reduceBNe,Int.reduceEq,aZ,aU,Try.facts,dT,dF,qT,qF,nT,nF,Bool.false_and,Bool.and_false,ah]
      exact Sub.set_new (am hb6)
  · rw [if_neg c1] at hR
    subst hR
    refine az (c := ⟨Try.prog,43,[(1000000,[3])],[],[]⟩) (rs := [ResultVar.cell 6 67,ResultVar.tmp 7]) Try.mixed Try.func75 rfl rfl rfl (Nat.le_of_ble_eq_true rfl) (by kernel_rfl) fun H => ?_
    simp (disch := omega) only [↓aI,aD,aG,ixA,aX,aV,ag,aT,ae,mkA,ab,bnd,aS,aH,aK,cvO,aJ,aY,↓aO,aW,aE,aF,aM,aA,aC,aB,aN,ad,frz,aR,Nat.reduceBEq,Nat.reduceLT,reduceCtorEq,↓reduceIte,aL,AV.cellsOf,AV.fine,AV.one,aQ,Nat.reduceMul,Nat.reduceAdd,Nat.reduceLeDiff,Nat.reduceEqDiff,Int.reduceToNat,Nat.reduceSub,Nat.reduceMod,Nat.reduceDiv,indexK.aggOf,Int.reducePow,Int.reduceLE,Int.reduceNeg,Int.reduceLT,Int.reduceBEq,Int.reduceBNe,Int.reduceEq,aZ,aU,Try.facts]
    intro b3 hb30 hb3 b6 hb60 hb6
    have n6 := bK hb6
    simp (disch := omega) only [↓aI,aD,aG,ixA,aX,aV,ag,aT,ae,mkA,ab,bnd,aS,aH,aK,cvO,aJ,aY,↓aO,aW,aE,aF,aM,aA,aC,aB,aN,ad,frz,aR,Nat.reduceBEq,Nat.reduceLT,reduceCtorEq,↓reduceIte,aL,AV.cellsOf,AV.fine,AV.one,aQ,Nat.reduceMul,Nat.reduceAdd,Nat.reduceLeDiff,Nat.reduceEqDiff,Int.reduceToNat,Nat.reduceSub,Nat.reduceMod,Nat.reduceDiv,indexK.aggOf,Int.reducePow,Int.reduceLE,Int.reduceNeg,Int.reduceLT,Int.reduceBEq,Int.reduceBNe,Int.reduceEq,aZ,aU,Try.facts,aP,n6,bH hb3 n6,ah,dT,dF,qT,qF,nT,nF,Bool.false_and,Bool.and_false]
    exact Sub.set_new (am hb6)
theorem rtflag_pure (s : RS) (hl : s.1.length ≤ 2000000) : APure Try.prog 118 [rsV s] (.tup [rsV (rdFl s).1,.sc (.bool (rdFl s).2)]) := by
  have h1 := rrnum_pure s 0 1 hl
  unfold rdFl
  generalize rdNum s 0 1 = A at *
  obtain ⟨⟨r1,e1⟩,n⟩ := A
  obtain ⟨rest,e⟩ := s
  simp only at h1 ⊢
  refine az (c := ⟨Try.prog,14,[(1000000,[1]),(1000001,[4])],[],[]⟩) (rs := [ResultVar.cell 2 67,ResultVar.tmp 3]) Try.mixed Try.func118 rfl rfl rfl (Nat.le_of_ble_eq_true rfl) (by kernel_rfl) fun H => ?_
  simp (disch := omega) only [↓aI,aD,aG,ixA,aX,aV,ag,aT,ae,mkA,ab,bnd,aS,aH,aK,cvO,aJ,aY,↓aO,aW,aE,aF,aM,aA,aC,aB,aN,ad,frz,aR,Nat.reduceBEq,Nat.reduceLT,reduceCtorEq,↓reduceIte,aL,AV.cellsOf,AV.fine,AV.one,aQ,Nat.reduceMul,Nat.reduceAdd,Nat.reduceLeDiff,Nat.reduceEqDiff,Int.reduceToNat,Nat.reduceSub,Nat.reduceMod,Nat.reduceDiv,indexK.aggOf,Int.reducePow,Int.reduceLE,Int.reduceNeg,Int.reduceLT,Int.reduceBEq,Int.reduceBNe,Int.reduceEq,aZ,aU,Try.facts]
  intro b1 hb10 hb1 b2 hb20 hb2
  have n2 := bK hb2
  try simp (disch := omega) only [↓aI,aD,aG,ixA,aX,aV,ag,aT,ae,mkA,ab,bnd,aS,aH,aK,cvO,aJ,aY,↓aO,aW,aE,aF,aM,aA,aC,aB,aN,ad,frz,aR,Nat.reduceBEq,Nat.reduceLT,reduceCtorEq,↓reduceIte,aL,AV.cellsOf,AV.fine,AV.one,aQ,Nat.reduceMul,Nat.reduceAdd,Nat.reduceLeDiff,Nat.reduceEqDiff,Int.reduceToNat,Nat.reduceSub,Nat.reduceMod,Nat.reduceDiv,indexK.aggOf,Int.reducePow,Int.reduceLE,Int.reduceNeg,Int.reduceLT,Int.reduceBEq,Int.reduceBNe,Int.reduceEq,aZ,aU,Try.facts,aP,n2,bH hb1 n2,ah,dT,dF,qT,qF,nT,nF,Bool.false_and,Bool.and_false]
  first | refine CallK.p (h1) ?_ | refine CallP.i (h1) ?_
  simp (disch := omega) only [↓aI,aD,aG,ixA,aX,aV,ag,aT,ae,mkA,ab,bnd,aS,aH,aK,cvO,aJ,aY,↓aO,aW,aE,aF,aM,aA,aC,aB,aN,ad,frz,aR,Nat.reduceBEq,Nat.reduceLT,reduceCtorEq,↓reduceIte,aL,AV.cellsOf,AV.fine,AV.one,aQ,Nat.reduceMul,Nat.reduceAdd,Nat.reduceLeDiff,Nat.reduceEqDiff,Int.reduceToNat,Nat.reduceSub,Nat.reduceMod,Nat.reduceDiv,indexK.aggOf,Int.reducePow,Int.reduceLE,Int.reduceNeg,Int.reduceLT,Int.reduceBEq,Int.reduceBNe,Int.reduceEq,aZ,aU,Try.facts,dT,dF,qT,qF,nT,nF,Bool.false_and,Bool.and_false,ah]
  intro b4 hb40 hb4
  have n4 := bK hb4
  simp (disch := omega) only [↓aI,aD,aG,ixA,aX,aV,ag,aT,ae,mkA,ab,bnd,aS,aH,aK,cvO,aJ,aY,↓aO,aW,aE,aF,aM,aA,aC,aB,aN,ad,frz,aR,Nat.reduceBEq,Nat.reduceLT,reduceCtorEq,↓reduceIte,aL,AV.cellsOf,AV.fine,AV.one,aQ,Nat.reduceMul,Nat.reduceAdd,Nat.reduceLeDiff,Nat.reduceEqDiff,Int.reduceToNat,Nat.reduceSub,Nat.reduceMod,Nat.reduceDiv,indexK.aggOf,Int.reducePow,Int.reduceLE,Int.reduceNeg,Int.reduceLT,Int.reduceBEq,Int.reduceBNe,Int.reduceEq,aZ,aU,Try.facts,aP,n4,aj hb4,ah,dT,dF,qT,qF,nT,nF,Bool.false_and,Bool.and_false]
  exact Sub.set_new (am hb2)
theorem rtid_pure (s : RS) (hl : s.1.length ≤ 2000000) : APure Try.prog 117 [rsV s] (.tup [rsV (rdID s).1,idV (rdID s).2]) := by
  have h1 := rrnum_pure s 0 4 hl
  have h2 := rrnum_pure (rdNum s 0 4).1 0 1099511627776 (Nat.le_trans (rdNum_sh s 0 4).le hl)
  unfold rdID
  generalize rdNum s 0 4 = A at *
  obtain ⟨⟨r1,e1⟩,a⟩ := A
  simp only at h1 h2 ⊢
  generalize rdNum (r1,e1) 0 1099511627776 = A at *
  obtain ⟨⟨r2,e2⟩,c⟩ := A
  obtain ⟨rest,e⟩ := s
  simp only at h1 h2 ⊢
  refine az (c := ⟨Try.prog,20,[],[],[]⟩) (rs := [ResultVar.cell 2 67,ResultVar.cell 3 76]) Try.mixed Try.func117 rfl rfl rfl (Nat.le_of_ble_eq_true rfl) (by kernel_rfl) fun H => ?_
  simp (disch := omega) only [↓aI,aD,aG,ixA,aX,aV,ag,aT,ae,mkA,ab,bnd,aS,aH,aK,cvO,aJ,aY,↓aO,aW,aE,aF,aM,aA,aC,aB,aN,ad,frz,aR,Nat.reduceBEq,Nat.reduceLT,reduceCtorEq,↓reduceIte,aL,AV.cellsOf,AV.fine,AV.one,aQ,Nat.reduceMul,Nat.reduceAdd,Nat.reduceLeDiff,Nat.reduceEqDiff,Int.reduceToNat,Nat.reduceSub,Nat.reduceMod,Nat.reduceDiv,indexK.aggOf,Int.reducePow,Int.reduceLE,Int.reduceNeg,Int.reduceLT,Int.reduceBEq,Int.reduceBNe,Int.reduceEq,aZ,aU,Try.facts]
  intro b1 hb10 hb1 b2 hb20 hb2 b3 hb30 hb3
  have n12 := bK hb2
  have n13 := bK (am hb3)
  have n23 := bK hb3
  try simp (disch := omega) only [↓aI,aD,aG,ixA,aX,aV,ag,aT,ae,mkA,ab,bnd,aS,aH,aK,cvO,aJ,aY,↓aO,aW,aE,aF,aM,aA,aC,aB,aN,ad,frz,aR,Nat.reduceBEq,Nat.reduceLT,reduceCtorEq,↓reduceIte,aL,AV.cellsOf,AV.fine,AV.one,aQ,Nat.reduceMul,Nat.reduceAdd,Nat.reduceLeDiff,Nat.reduceEqDiff,Int.reduceToNat,Nat.reduceSub,Nat.reduceMod,Nat.reduceDiv,indexK.aggOf,Int.reducePow,Int.reduceLE,Int.reduceNeg,Int.reduceLT,Int.reduceBEq,Int.reduceBNe,Int.reduceEq,aZ,aU,Try.facts,aP,n12,n13,n23,ah,dT,dF,qT,qF,nT,nF,Bool.false_and,Bool.and_false]
  first | refine CallK.p (h1) ?_ | refine CallP.i (h1) ?_
  simp (disch := omega) only [↓aI,aD,aG,ixA,aX,aV,ag,aT,ae,mkA,ab,bnd,aS,aH,aK,cvO,aJ,aY,↓aO,aW,aE,aF,aM,aA,aC,aB,aN,ad,frz,aR,Nat.reduceBEq,Nat.reduceLT,reduceCtorEq,↓reduceIte,aL,AV.cellsOf,AV.fine,AV.one,aQ,Nat.reduceMul,Nat.reduceAdd,Nat.reduceLeDiff,Nat.reduceEqDiff,Int.reduceToNat,Nat.reduceSub,Nat.reduceMod,Nat.reduceDiv,indexK.aggOf,Int.reducePow,Int.reduceLE,Int.reduceNeg,Int.reduceLT,Int.reduceBEq,Int.reduceBNe,Int.reduceEq,aZ,aU,Try.facts,dT,dF,qT,qF,nT,nF,Bool.false_and,Bool.and_false,ah,aP,n12,n13,n23]
  first | refine CallK.p (h2) ?_ | refine CallP.i (h2) ?_
  simp (disch := omega) only [↓aI,aD,aG,ixA,aX,aV,ag,aT,ae,mkA,ab,bnd,aS,aH,aK,cvO,aJ,aY,↓aO,aW,aE,aF,aM,aA,aC,aB,aN,ad,frz,aR,Nat.reduceBEq,Nat.reduceLT,reduceCtorEq,↓reduceIte,aL,AV.cellsOf,AV.fine,AV.one,aQ,Nat.reduceMul,Nat.reduceAdd,Nat.reduceLeDiff,Nat.reduceEqDiff,Int.reduceToNat,Nat.reduceSub,Nat.reduceMod,Nat.reduceDiv,indexK.aggOf,Int.reducePow,Int.reduceLE,Int.reduceNeg,Int.reduceLT,Int.reduceBEq,Int.reduceBNe,Int.reduceEq,aZ,aU,Try.facts,dT,dF,qT,qF,nT,nF,Bool.false_and,Bool.and_false,ah,aP,n12,n13,n23]
  have f2 := am hb2
  have f3 := am (am hb3)
  exact ((((((Abs.Sub.refl H).set_free hb1).set_free f2).set_free f3).set_free hb1).set_free f2).set_free f3
theorem set_flip {H : AH} {a b : Nat} {x y : AObj} (h : ¬ a = b) : (H.set b x).set a y = (H.set a y).set b x := by
  funext z
  simp only [AH.set]
  by_cases e1 : z = a
  · subst e1; simp [h]
  · simp [e1]
theorem set_twice {H : AH} {a : Nat} {x y : AObj} : (H.set a x).set a y = H.set a y := by
  funext z
  simp only [AH.set]
  by_cases e1 : z = a <;> simp [e1]
theorem kill4 {H : AH} {a b c d : Nat} {x y z w : AObj} (h : H d = none) (h1 : ¬ a = d) (h2 : ¬ b = d) (h3 : ¬ c = d) : ((((H.set a x).set b y).set c z).set d w).kill d = ((H.set a x).set b y).set c z := by
  refine aj ?_
  rw [aP (fun e => h3 e.symm),aP (fun e => h2 e.symm),aP (fun e => h1 e.symm),h]
theorem rtan_pure (s : RS) (hl : s.1.length ≤ 2000000) : APure Try.prog 119 [rsV s] (.tup [rsV (rdAn s).1,ancV (rdAn s).2.1 (rdAn s).2.2]) := by
  have h1 := rtid_pure s hl
  have h2 := rtflag_pure (rdID s).1 (Nat.le_trans (rdID_sh s).le hl)
  unfold rdAn
  generalize rdID s = A at *
  obtain ⟨⟨r1,e1⟩,⟨a,c⟩⟩ := A
  simp only at h1 h2 ⊢
  generalize rdFl (r1,e1) = A at *
  obtain ⟨⟨r2,e2⟩,y⟩ := A
  obtain ⟨rest,e⟩ := s
  simp only at h1 h2 ⊢
  refine az (c := ⟨Try.prog,20,[(3,[1,0,0,0,2,2]),(1000001,[4])],[],[]⟩) (rs := [ResultVar.cell 2 67,ResultVar.cell 3 80]) Try.mixed Try.func119 rfl rfl rfl (Nat.le_of_ble_eq_true rfl) (by kernel_rfl) fun H => ?_
  simp (disch := omega) only [↓aI,aD,aG,ixA,aX,aV,ag,aT,ae,mkA,ab,bnd,aS,aH,aK,cvO,aJ,aY,↓aO,aW,aE,aF,aM,aA,aC,aB,aN,ad,frz,aR,Nat.reduceBEq,Nat.reduceLT,reduceCtorEq,↓reduceIte,aL,AV.cellsOf,AV.fine,AV.one,aQ,Nat.reduceMul,Nat.reduceAdd,Nat.reduceLeDiff,Nat.reduceEqDiff,Int.reduceToNat,Nat.reduceSub,Nat.reduceMod,Nat.reduceDiv,indexK.aggOf,Int.reducePow,Int.reduceLE,Int.reduceNeg,Int.reduceLT,Int.reduceBEq,Int.reduceBNe,Int.reduceEq,aZ,aU,Try.facts]
  intro b1 hb10 hb1 b2 hb20 hb2 b3 hb30 hb3
  have n12 := bK hb2
  have n13 := bK (am hb3)
  have n23 := bK hb3
  try simp (disch := omega) only [↓aI,aD,aG,ixA,aX,aV,ag,aT,ae,mkA,ab,bnd,aS,aH,aK,cvO,aJ,aY,↓aO,aW,aE,aF,aM,aA,aC,aB,aN,ad,frz,aR,Nat.reduceBEq,Nat.reduceLT,reduceCtorEq,↓reduceIte,aL,AV.cellsOf,AV.fine,AV.one,aQ,Nat.reduceMul,Nat.reduceAdd,Nat.reduceLeDiff,Nat.reduceEqDiff,Int.reduceToNat,Nat.reduceSub,Nat.reduceMod,Nat.reduceDiv,indexK.aggOf,Int.reducePow,Int.reduceLE,Int.reduceNeg,Int.reduceLT,Int.reduceBEq,Int.reduceBNe,Int.reduceEq,aZ,aU,Try.facts,dT,dF,qT,qF,nT,nF,Bool.false_and,Bool.and_false,ah,aP,n12,n13,n23,set_flip n12,set_flip n13,set_flip n23,set_twice]
  first | refine CallK.p (h1) ?_ | refine CallP.i (h1) ?_
  simp (disch := omega) only [↓aI,aD,aG,ixA,aX,aV,ag,aT,ae,mkA,ab,bnd,aS,aH,aK,cvO,aJ,aY,↓aO,aW,aE,aF,aM,aA,aC,aB,aN,ad,frz,aR,Nat.reduceBEq,Nat.reduceLT,reduceCtorEq,↓reduceIte,aL,AV.cellsOf,AV.fine,AV.one,aQ,Nat.reduceMul,Nat.reduceAdd,Nat.reduceLeDiff,Nat.reduceEqDiff,Int.reduceToNat,Nat.reduceSub,Nat.reduceMod,Nat.reduceDiv,indexK.aggOf,Int.reducePow,Int.reduceLE,Int.reduceNeg,Int.reduceLT,Int.reduceBEq,Int.reduceBNe,Int.reduceEq,aZ,aU,Try.facts,dT,dF,qT,qF,nT,nF,Bool.false_and,Bool.and_false,ah,aP,n12,n13,n23,set_flip n12,set_flip n13,set_flip n23,set_twice]
  intro b4 hb40 hb4
  have n34 := bK hb4
  have n24 := bK (am hb4)
  have n14 := bK (am (am hb4))
  have k4 := fun x y z w => kill4 (x := x) (y := y) (z := z) (w := w) (am (am (am hb4))) n14 n24 n34
  try simp (disch := omega) only [↓aI,aD,aG,ixA,aX,aV,ag,aT,ae,mkA,ab,bnd,aS,aH,aK,cvO,aJ,aY,↓aO,aW,aE,aF,aM,aA,aC,aB,aN,ad,frz,aR,Nat.reduceBEq,Nat.reduceLT,reduceCtorEq,↓reduceIte,aL,AV.cellsOf,AV.fine,AV.one,aQ,Nat.reduceMul,Nat.reduceAdd,Nat.reduceLeDiff,Nat.reduceEqDiff,Int.reduceToNat,Nat.reduceSub,Nat.reduceMod,Nat.reduceDiv,indexK.aggOf,Int.reducePow,Int.reduceLE,Int.reduceNeg,Int.reduceLT,Int.reduceBEq,Int.reduceBNe,Int.reduceEq,aZ,aU,Try.facts,dT,dF,qT,qF,nT,nF,Bool.false_and,Bool.and_false,ah,aP,n12,n13,n14,n23,n24,n34,set_flip n12,set_flip n13,set_flip n14,set_flip n23,set_flip n24,set_flip n34,set_twice,k4]
  first | refine CallK.p (h2) ?_ | refine CallP.i (h2) ?_
  simp (disch := omega) only [↓aI,aD,aG,ixA,aX,aV,ag,aT,ae,mkA,ab,bnd,aS,aH,aK,cvO,aJ,aY,↓aO,aW,aE,aF,aM,aA,aC,aB,aN,ad,frz,aR,Nat.reduceBEq,Nat.reduceLT,reduceCtorEq,↓reduceIte,aL,AV.cellsOf,AV.fine,AV.one,aQ,Nat.reduceMul,Nat.reduceAdd,Nat.reduceLeDiff,Nat.reduceEqDiff,Int.reduceToNat,Nat.reduceSub,Nat.reduceMod,Nat.reduceDiv,indexK.aggOf,Int.reducePow,Int.reduceLE,Int.reduceNeg,Int.reduceLT,Int.reduceBEq,Int.reduceBNe,Int.reduceEq,aZ,aU,Try.facts,dT,dF,qT,qF,nT,nF,Bool.false_and,Bool.and_false,ah,aP,n12,n13,n23,set_flip n12,set_flip n13,set_flip n23,set_twice,k4]
  have f2 := am hb2
  have f3 := am (am hb3)
  exact (((Abs.Sub.refl H).set_free hb1).set_free f2).set_free f3
theorem rtake_pure (s : RS) (hl : s.1.length ≤ 2000000) : APure Try.prog 76 [rsV s] (.tup [rsV (rdOp s).1,.agg (opC (rdOp s).2)]) := by
  have h1 := rrnum_pure s 1 3 hl
  have hnum := fun lo hi s h => rrnum_pure s lo hi h
  have hid := fun s h => rtid_pure s h
  have hfl := fun s h => rtflag_pure s h
  have han := fun s h => rtan_pure s h
  have hR : rdOp s = fixOp (rdBody (rdNum s 1 3).1 (rdNum s 1 3).2) := rfl
  have l1 := Nat.le_trans (rdNum_sh s 1 3).le hl
  generalize rdOp s = R at *
  generalize rdNum s 1 3 = K at *
  obtain ⟨⟨r1,e1⟩,kd⟩ := K
  obtain ⟨rest,e⟩ := s
  simp only at h1 hR l1
  by_cases k1 : kd = 1
  · subst k1
    unfold rdBody at hR
    rw [if_pos rfl] at hR
    unfold rdIns at hR
    have h2 := hid (r1,e1) l1
    have l2 := Nat.le_trans (rdID_sh (r1,e1)).le l1
    generalize rdID (r1,e1) = A at *
    obtain ⟨⟨r2,e2⟩,⟨a,c⟩⟩ := A
    simp only at h2 hR l2
    have h3 := hid (r2,e2) l2
    have l3 := Nat.le_trans (rdID_sh (r2,e2)).le l2
    generalize rdID (r2,e2) = A at *
    obtain ⟨⟨r3,e3⟩,⟨pa,pc⟩⟩ := A
    simp only at h3 hR l3
    have h4 := hfl (r3,e3) l3
    have l4 := Nat.le_trans (rdFl_sh (r3,e3)).le l3
    generalize rdFl (r3,e3) = A at *
    obtain ⟨⟨r4,e4⟩,y⟩ := A
    simp only at h4 hR l4
    have h5 := hnum 0 1114111 (r4,e4) l4
    have hrg := rdNum_rng (r4,e4) 0 1114111
    generalize rdNum (r4,e4) 0 1114111 = A at *
    obtain ⟨⟨r5,e5⟩,n⟩ := A
    simp only at h5 hR hrg
    have hw : IntKind.i32.wrap n = n := by rw [IntKind.wrap_i32]; omega
    have hpr := rright18_pure ⟨1,⟨(a,c),(pa,pc),y,n⟩,(0,0),cF⟩
    unfold fixOp at hR
    dsimp only at hR
    generalize opR ⟨1,⟨(a,c),(pa,pc),y,n⟩,(0,0),cF⟩ = ob at hpr hR
    simp only [opC,cj,cF] at hpr
    refine az (c := ⟨Try.prog,111,[(21,[1,0,2,2]),(4000019,[1,2,3,4,107]),(4000018,[1,2,3,4]),(4000017,[1,2,3,4]),(4000016,[1,2,3,4]),(4000015,[1,2,3,4]),(4000014,[1,2,3,4]),(4000013,[1,2,3,4]),(4000011,[1,2,3,4]),(4000009,[1,2,3,4]),(4000008,[1,2,3,4,5]),(4000006,[1,2,3,4]),(4000005,[1,2,3,4]),(4000004,[1,2,3,4]),(4000002,[1,2,3,4])],[],[(21,(.or (.op 0 2 (.or (.op 1 2 (.op 2 2 (.op 3 2 .nil))) (.op 2 2 (.op 1 2 (.op 3 2 .nil))))) (.op 1 2 (.op 0 2 (.op 2 2 (.op 3 2 .nil))))))]⟩) (rs := [ResultVar.cell 2 67,ResultVar.cell 3 84]) Try.mixed Try.func76 rfl rfl rfl (Nat.le_of_ble_eq_true rfl) (by kernel_rfl) fun H => ?_
    simp (disch := omega) only [↓aI,aD,aG,ixA,aX,aV,ag,aT,ae,mkA,ab,bnd,aS,aH,aK,cvO,aJ,aY,↓aO,aW,aE,aF,aM,aA,aC,aB,aN,ad,frz,aR,Nat.reduceBEq,Nat.reduceLT,reduceCtorEq,↓reduceIte,aL,AV.cellsOf,AV.fine,AV.one,aQ,Nat.reduceMul,Nat.reduceAdd,Nat.reduceLeDiff,Nat.reduceEqDiff,Int.reduceToNat,Nat.reduceSub,Nat.reduceMod,Nat.reduceDiv,indexK.aggOf,Int.reducePow,Int.reduceLE,Int.reduceNeg,Int.reduceLT,Int.reduceBEq,Int.reduceBNe,Int.reduceEq,aZ,aU,Try.facts]
    intro b1 hb10 hb1 b2 hb20 hb2 b3 hb30 hb3
    have n12 := bK hb2
    have n13 := bK (am hb3)
    have n23 := bK hb3
    intro b4 hb40 hb4
    have n34 := bK hb4
    have n24 := bK (am hb4)
    have n14 := bK (am (am hb4))
    have q2 := am hb2
    have q3 := am (am hb3)
    have q4 := am (am (am hb4))
    have hsub : ∀ x y z w : AObj,Abs.Sub H ((((H.set b1 x).set b2 y).set b3 z).set b4 w) := fun x y z w => (((Sub.set_new hb1).set_free q2).set_free q3).set_free q4
    try simp (disch := omega) only [↓aI,aD,aG,ixA,aX,aV,ag,aT,ae,mkA,ab,bnd,aS,aH,aK,cvO,aJ,aY,↓aO,aW,aE,aF,aM,aA,aC,aB,aN,ad,frz,aR,Nat.reduceBEq,Nat.reduceLT,reduceCtorEq,↓reduceIte,aL,AV.cellsOf,AV.fine,AV.one,aQ,Nat.reduceMul,Nat.reduceAdd,Nat.reduceLeDiff,Nat.reduceEqDiff,Int.reduceToNat,Nat.reduceSub,Nat.reduceMod,Nat.reduceDiv,indexK.aggOf,Int.reducePow,Int.reduceLE,Int.reduceNeg,Int.reduceLT,Int.reduceBEq,Int.reduceBNe,Int.reduceEq,aZ,aU,Try.facts,dT,dF,qT,qF,nT,nF,Bool.false_and,Bool.and_false,ah,aP,n12,n13,n14,n23,n24,n34,set_flip n12,set_flip n13,set_flip n14,set_flip n23,set_flip n24,set_flip n34,set_twice]
    first | refine CallK.p (h1) ?_ | refine CallP.i (h1) ?_
    simp (disch := omega) only [↓aI,aD,aG,ixA,aX,aV,ag,aT,ae,mkA,ab,bnd,aS,aH,aK,cvO,aJ,aY,↓aO,aW,aE,aF,aM,aA,aC,aB,aN,ad,frz,aR,Nat.reduceBEq,Nat.reduceLT,reduceCtorEq,↓reduceIte,aL,AV.cellsOf,AV.fine,AV.one,aQ,Nat.reduceMul,Nat.reduceAdd,Nat.reduceLeDiff,Nat.reduceEqDiff,Int.reduceToNat,Nat.reduceSub,Nat.reduceMod,Nat.reduceDiv,indexK.aggOf,Int.reducePow,Int.reduceLE,Int.reduceNeg,Int.reduceLT,Int.reduceBEq,Int.reduceBNe,Int.reduceEq,aZ,aU,Try.facts,dT,dF,qT,qF,nT,nF,Bool.false_and,Bool.and_false,ah,aP,n12,n13,n14,n23,n24,n34,set_flip n12,set_flip n13,set_flip n14,set_flip n23,set_flip n24,set_flip n34,set_twice]
    first | refine CallK.p (h2) ?_ | refine CallP.i (h2) ?_
    simp (disch := omega) only [↓aI,aD,aG,ixA,aX,aV,ag,aT,ae,mkA,ab,bnd,aS,aH,aK,cvO,aJ,aY,↓aO,aW,aE,aF,aM,aA,aC,aB,aN,ad,frz,aR,Nat.reduceBEq,Nat.reduceLT,reduceCtorEq,↓reduceIte,aL,AV.cellsOf,AV.fine,AV.one,aQ,Nat.reduceMul,Nat.reduceAdd,Nat.reduceLeDiff,Nat.reduceEqDiff,Int.reduceToNat,Nat.reduceSub,Nat.reduceMod,Nat.reduceDiv,indexK.aggOf,Int.reducePow,Int.reduceLE,Int.reduceNeg,Int.reduceLT,Int.reduceBEq,Int.reduceBNe,Int.reduceEq,aZ,aU,Try.facts,dT,dF,qT,qF,nT,nF,Bool.false_and,Bool.and_false,ah,aP,n12,n13,n14,n23,n24,n34,set_flip n12,set_flip n13,set_flip n14,set_flip n23,set_flip n24,set_flip n34,set_twice]
    first | refine CallK.p (h3) ?_ | refine CallP.i (h3) ?_
    simp (disch := omega) only [↓aI,aD,aG,ixA,aX,aV,ag,aT,ae,mkA,ab,bnd,aS,aH,aK,cvO,aJ,aY,↓aO,aW,aE,aF,aM,aA,aC,aB,aN,ad,frz,aR,Nat.reduceBEq,Nat.reduceLT,reduceCtorEq,↓reduceIte,aL,AV.cellsOf,AV.fine,AV.one,aQ,Nat.reduceMul,Nat.reduceAdd,Nat.reduceLeDiff,Nat.reduceEqDiff,Int.reduceToNat,Nat.reduceSub,Nat.reduceMod,Nat.reduceDiv,indexK.aggOf,Int.reducePow,Int.reduceLE,Int.reduceNeg,Int.reduceLT,Int.reduceBEq,Int.reduceBNe,Int.reduceEq,aZ,aU,Try.facts,dT,dF,qT,qF,nT,nF,Bool.false_and,Bool.and_false,ah,aP,n12,n13,n14,n23,n24,n34,set_flip n12,set_flip n13,set_flip n14,set_flip n23,set_flip n24,set_flip n34,set_twice]
    first | refine CallK.p (h4) ?_ | refine CallP.i (h4) ?_
    simp (disch := omega) only [↓aI,aD,aG,ixA,aX,aV,ag,aT,ae,mkA,ab,bnd,aS,aH,aK,cvO,aJ,aY,↓aO,aW,aE,aF,aM,aA,aC,aB,aN,ad,frz,aR,Nat.reduceBEq,Nat.reduceLT,reduceCtorEq,↓reduceIte,aL,AV.cellsOf,AV.fine,AV.one,aQ,Nat.reduceMul,Nat.reduceAdd,Nat.reduceLeDiff,Nat.reduceEqDiff,Int.reduceToNat,Nat.reduceSub,Nat.reduceMod,Nat.reduceDiv,indexK.aggOf,Int.reducePow,Int.reduceLE,Int.reduceNeg,Int.reduceLT,Int.reduceBEq,Int.reduceBNe,Int.reduceEq,aZ,aU,Try.facts,dT,dF,qT,qF,nT,nF,Bool.false_and,Bool.and_false,ah,aP,n12,n13,n14,n23,n24,n34,set_flip n12,set_flip n13,set_flip n14,set_flip n23,set_flip n24,set_flip n34,set_twice]
    first | refine CallK.p (h5) ?_ | refine CallP.i (h5) ?_
    simp (disch := omega) only [↓aI,aD,aG,ixA,aX,aV,ag,aT,ae,mkA,ab,bnd,aS,aH,aK,cvO,aJ,aY,↓aO,aW,aE,aF,aM,aA,aC,aB,aN,ad,frz,aR,Nat.reduceBEq,Nat.reduceLT,reduceCtorEq,↓reduceIte,aL,AV.cellsOf,AV.fine,AV.one,aQ,Nat.reduceMul,Nat.reduceAdd,Nat.reduceLeDiff,Nat.reduceEqDiff,Int.reduceToNat,Nat.reduceSub,Nat.reduceMod,Nat.reduceDiv,indexK.aggOf,Int.reducePow,Int.reduceLE,Int.reduceNeg,Int.reduceLT,Int.reduceBEq,Int.reduceBNe,Int.reduceEq,aZ,aU,Try.facts,hw,dT,dF,qT,qF,nT,nF,Bool.false_and,Bool.and_false,ah,aP,n12,n13,n14,n23,n24,n34,set_flip n12,set_flip n13,set_flip n14,set_flip n23,set_flip n24,set_flip n34,set_twice]
    by_cases e0 : e5 = 0
    · subst e0
      cases ob
      · rw [if_pos rfl,if_pos rfl] at hR
        subst hR
        simp (disch := omega) only [↓aI,aD,aG,ixA,aX,aV,ag,aT,ae,mkA,ab,bnd,aS,aH,aK,cvO,aJ,aY,↓aO,aW,aE,aF,aM,aA,aC,aB,aN,ad,frz,aR,Nat.reduceBEq,Nat.reduceLT,reduceCtorEq,↓reduceIte,aL,AV.cellsOf,AV.fine,AV.one,aQ,Nat.reduceMul,Nat.reduceAdd,Nat.reduceLeDiff,Nat.reduceEqDiff,Int.reduceToNat,Nat.reduceSub,Nat.reduceMod,Nat.reduceDiv,indexK.aggOf,Int.reducePow,Int.reduceLE,Int.reduceNeg,Int.reduceLT,Int.reduceBEq,Int.reduceBNe,Int.reduceEq,aZ,aU,Try.facts,dT,dF,qT,qF,nT,nF,Bool.false_and,Bool.and_false,ah,aP,n12,n13,n14,n23,n24,n34,set_flip n12,set_flip n13,set_flip n14,set_flip n23,set_flip n24,set_flip n34,set_twice]
        first | refine CallK.p (hpr) ?_ | refine CallP.i (hpr) ?_
        simp (disch := omega) only [↓aI,aD,aG,ixA,aX,aV,ag,aT,ae,mkA,ab,bnd,aS,aH,aK,cvO,aJ,aY,↓aO,aW,aE,aF,aM,aA,aC,aB,aN,ad,frz,aR,Nat.reduceBEq,Nat.reduceLT,reduceCtorEq,↓reduceIte,aL,AV.cellsOf,AV.fine,AV.one,aQ,Nat.reduceMul,Nat.reduceAdd,Nat.reduceLeDiff,Nat.reduceEqDiff,Int.reduceToNat,Nat.reduceSub,Nat.reduceMod,Nat.reduceDiv,indexK.aggOf,Int.reducePow,Int.reduceLE,Int.reduceNeg,Int.reduceLT,Int.reduceBEq,Int.reduceBNe,Int.reduceEq,aZ,aU,Try.facts,dT,dF,qT,qF,nT,nF,Bool.false_and,Bool.and_false,ah,aP,n12,n13,n14,n23,n24,n34,set_flip n12,set_flip n13,set_flip n14,set_flip n23,set_flip n24,set_flip n34,set_twice]
        refine eI (fun σ F => F = (((H.set b1 (.cells [.imm 0 (bw r5) r5.length,.sc (.int .i64 5)] 67 2)).set b2 (.cells [.imm 0 (bw r5) r5.length,.sc (.int .i64 5)] 67 2)).set b3 (.cells (opC ⟨1,⟨(a,c),(pa,pc),y,n⟩,(0,0),cF⟩) 84 19)).set b4 (.cells (opC ⟨1,⟨(a,c),(pa,pc),y,n⟩,(0,0),cF⟩) 84 19) ∧ σ 2 = .ptr b2 0 ∧ σ 3 = .ptr b3 0) ?_ ?_
        · simp (disch := omega) only [↓aI,aD,aG,ixA,aX,aV,ag,aT,ae,mkA,ab,bnd,aS,aH,aK,cvO,aJ,aY,↓aO,aW,aE,aF,aM,aA,aC,aB,aN,ad,frz,aR,Nat.reduceBEq,Nat.reduceLT,reduceCtorEq,↓reduceIte,aL,AV.cellsOf,AV.fine,AV.one,aQ,Nat.reduceMul,Nat.reduceAdd,Nat.reduceLeDiff,Nat.reduceEqDiff,Int.reduceToNat,Nat.reduceSub,Nat.reduceMod,Nat.reduceDiv,indexK.aggOf,Int.reducePow,Int.reduceLE,Int.reduceNeg,Int.reduceLT,Int.reduceBEq,Int.reduceBNe,Int.reduceEq,aZ,aU,Try.facts,opC,cj,cF,dT,dF,qT,qF,nT,nF,Bool.false_and,Bool.and_false,ah,aP,n12,n13,n14,n23,n24,n34,set_flip n12,set_flip n13,set_flip n14,set_flip n23,set_flip n24,set_flip n34,set_twice]
        · rintro σ F ⟨rfl,s2,s3⟩
          simp only [opC,cj,cF]
          simp (disch := omega) only [↓aI,aD,aG,ixA,aX,aV,ag,aT,ae,mkA,ab,bnd,aS,aH,aK,cvO,aJ,aY,↓aO,aW,aE,aF,aM,aA,aC,aB,aN,ad,frz,aR,Nat.reduceBEq,Nat.reduceLT,reduceCtorEq,↓reduceIte,aL,AV.cellsOf,AV.fine,AV.one,aQ,Nat.reduceMul,Nat.reduceAdd,Nat.reduceLeDiff,Nat.reduceEqDiff,Int.reduceToNat,Nat.reduceSub,Nat.reduceMod,Nat.reduceDiv,indexK.aggOf,Int.reducePow,Int.reduceLE,Int.reduceNeg,Int.reduceLT,Int.reduceBEq,Int.reduceBNe,Int.reduceEq,aZ,aU,Try.facts,s2,s3,dT,dF,qT,qF,nT,nF,Bool.false_and,Bool.and_false,ah,aP,n12,n13,n14,n23,n24,n34,set_flip n12,set_flip n13,set_flip n14,set_flip n23,set_flip n24,set_flip n34,set_twice]
          exact hsub _ _ _ _
      · rw [if_neg (by simp)] at hR
        subst hR
        simp (disch := omega) only [↓aI,aD,aG,ixA,aX,aV,ag,aT,ae,mkA,ab,bnd,aS,aH,aK,cvO,aJ,aY,↓aO,aW,aE,aF,aM,aA,aC,aB,aN,ad,frz,aR,Nat.reduceBEq,Nat.reduceLT,reduceCtorEq,↓reduceIte,aL,AV.cellsOf,AV.fine,AV.one,aQ,Nat.reduceMul,Nat.reduceAdd,Nat.reduceLeDiff,Nat.reduceEqDiff,Int.reduceToNat,Nat.reduceSub,Nat.reduceMod,Nat.reduceDiv,indexK.aggOf,Int.reducePow,Int.reduceLE,Int.reduceNeg,Int.reduceLT,Int.reduceBEq,Int.reduceBNe,Int.reduceEq,aZ,aU,Try.facts,dT,dF,qT,qF,nT,nF,Bool.false_and,Bool.and_false,ah,aP,n12,n13,n14,n23,n24,n34,set_flip n12,set_flip n13,set_flip n14,set_flip n23,set_flip n24,set_flip n34,set_twice]
        first | refine CallK.p (hpr) ?_ | refine CallP.i (hpr) ?_
        simp (disch := omega) only [↓aI,aD,aG,ixA,aX,aV,ag,aT,ae,mkA,ab,bnd,aS,aH,aK,cvO,aJ,aY,↓aO,aW,aE,aF,aM,aA,aC,aB,aN,ad,frz,aR,Nat.reduceBEq,Nat.reduceLT,reduceCtorEq,↓reduceIte,aL,AV.cellsOf,AV.fine,AV.one,aQ,Nat.reduceMul,Nat.reduceAdd,Nat.reduceLeDiff,Nat.reduceEqDiff,Int.reduceToNat,Nat.reduceSub,Nat.reduceMod,Nat.reduceDiv,indexK.aggOf,Int.reducePow,Int.reduceLE,Int.reduceNeg,Int.reduceLT,Int.reduceBEq,Int.reduceBNe,Int.reduceEq,aZ,aU,Try.facts,dT,dF,qT,qF,nT,nF,Bool.false_and,Bool.and_false,ah,aP,n12,n13,n14,n23,n24,n34,set_flip n12,set_flip n13,set_flip n14,set_flip n23,set_flip n24,set_flip n34,set_twice]
        refine eI (fun σ F => F = (((H.set b1 (.cells [.imm 0 (bw r5) r5.length,.sc (.int .i64 0)] 67 2)).set b2 (.cells [.imm 0 (bw r5) r5.length,.sc (.int .i64 0)] 67 2)).set b3 (.cells (opC ⟨1,⟨(a,c),(pa,pc),y,n⟩,(0,0),cF⟩) 84 19)).set b4 (.cells (opC ⟨1,⟨(a,c),(pa,pc),y,n⟩,(0,0),cF⟩) 84 19) ∧ σ 2 = .ptr b2 0 ∧ σ 3 = .ptr b3 0) ?_ ?_
        · simp (disch := omega) only [↓aI,aD,aG,ixA,aX,aV,ag,aT,ae,mkA,ab,bnd,aS,aH,aK,cvO,aJ,aY,↓aO,aW,aE,aF,aM,aA,aC,aB,aN,ad,frz,aR,Nat.reduceBEq,Nat.reduceLT,reduceCtorEq,↓reduceIte,aL,AV.cellsOf,AV.fine,AV.one,aQ,Nat.reduceMul,Nat.reduceAdd,Nat.reduceLeDiff,Nat.reduceEqDiff,Int.reduceToNat,Nat.reduceSub,Nat.reduceMod,Nat.reduceDiv,indexK.aggOf,Int.reducePow,Int.reduceLE,Int.reduceNeg,Int.reduceLT,Int.reduceBEq,Int.reduceBNe,Int.reduceEq,aZ,aU,Try.facts,opC,cj,cF,dT,dF,qT,qF,nT,nF,Bool.false_and,Bool.and_false,ah,aP,n12,n13,n14,n23,n24,n34,set_flip n12,set_flip n13,set_flip n14,set_flip n23,set_flip n24,set_flip n34,set_twice]
        · rintro σ F ⟨rfl,s2,s3⟩
          simp only [opC,cj,cF]
          simp (disch := omega) only [↓aI,aD,aG,ixA,aX,aV,ag,aT,ae,mkA,ab,bnd,aS,aH,aK,cvO,aJ,aY,↓aO,aW,aE,aF,aM,aA,aC,aB,aN,ad,frz,aR,Nat.reduceBEq,Nat.reduceLT,reduceCtorEq,↓reduceIte,aL,AV.cellsOf,AV.fine,AV.one,aQ,Nat.reduceMul,Nat.reduceAdd,Nat.reduceLeDiff,Nat.reduceEqDiff,Int.reduceToNat,Nat.reduceSub,Nat.reduceMod,Nat.reduceDiv,indexK.aggOf,Int.reducePow,Int.reduceLE,Int.reduceNeg,Int.reduceLT,Int.reduceBEq,Int.reduceBNe,Int.reduceEq,aZ,aU,Try.facts,s2,s3,dT,dF,qT,qF,nT,nF,Bool.false_and,Bool.and_false,ah,aP,n12,n13,n14,n23,n24,n34,set_flip n12,set_flip n13,set_flip n14,set_flip n23,set_flip n24,set_flip n34,set_twice]
          exact hsub _ _ _ _
    · have hR2 : R = ((r5, e5), ⟨1, ⟨(a, c), (pa, pc), y, n⟩, (0, 0), cF⟩) := by
        rw [hR]
        cases ob
        · rw [if_pos rfl,if_neg e0]
        · rw [if_neg (by simp)]
      clear hR
      subst hR2
      simp (disch := omega) only [↓aI,aD,aG,ixA,aX,aV,ag,aT,ae,mkA,ab,bnd,aS,aH,aK,cvO,aJ,aY,↓aO,aW,aE,aF,aM,aA,aC,aB,aN,ad,frz,aR,Nat.reduceBEq,Nat.reduceLT,reduceCtorEq,↓reduceIte,aL,AV.cellsOf,AV.fine,AV.one,aQ,Nat.reduceMul,Nat.reduceAdd,Nat.reduceLeDiff,Nat.reduceEqDiff,Int.reduceToNat,Nat.reduceSub,Nat.reduceMod,Nat.reduceDiv,indexK.aggOf,Int.reducePow,Int.reduceLE,Int.reduceNeg,Int.reduceLT,Int.reduceBEq,Int.reduceBNe,Int.reduceEq,aZ,aU,Try.facts,dT,dF,qT,qF,nT,nF,Bool.false_and,Bool.and_false,ah,aP,n12,n13,n14,n23,n24,n34,set_flip n12,set_flip n13,set_flip n14,set_flip n23,set_flip n24,set_flip n34,set_twice]
      refine eI (fun σ F => F = (((H.set b1 (.cells [.imm 0 (bw r5) r5.length,.sc (.int .i64 e5)] 67 2)).set b2 (.cells [.imm 0 (bw r5) r5.length,.sc (.int .i64 e5)] 67 2)).set b3 (.cells (opC ⟨1,⟨(a,c),(pa,pc),y,n⟩,(0,0),cF⟩) 84 19)).set b4 (.cells (opC ⟨1,⟨(a,c),(pa,pc),y,n⟩,(0,0),cF⟩) 84 19) ∧ σ 2 = .ptr b2 0 ∧ σ 3 = .ptr b3 0) ?_ ?_
      · simp (disch := omega) only [↓aI,aD,aG,ixA,aX,aV,ag,aT,ae,mkA,ab,bnd,aS,aH,aK,cvO,aJ,aY,↓aO,aW,aE,aF,aM,aA,aC,aB,aN,ad,frz,aR,Nat.reduceBEq,Nat.reduceLT,reduceCtorEq,↓reduceIte,aL,AV.cellsOf,AV.fine,AV.one,aQ,Nat.reduceMul,Nat.reduceAdd,Nat.reduceLeDiff,Nat.reduceEqDiff,Int.reduceToNat,Nat.reduceSub,Nat.reduceMod,Nat.reduceDiv,indexK.aggOf,Int.reducePow,Int.reduceLE,Int.reduceNeg,Int.reduceLT,Int.reduceBEq,Int.reduceBNe,Int.reduceEq,aZ,aU,Try.facts,opC,cj,cF,dT,dF,qT,qF,nT,nF,Bool.false_and,Bool.and_false,ah,aP,n12,n13,n14,n23,n24,n34,set_flip n12,set_flip n13,set_flip n14,set_flip n23,set_flip n24,set_flip n34,set_twice]
      · rintro σ F ⟨rfl,s2,s3⟩
        simp only [opC,cj,cF]
        simp (disch := omega) only [↓aI,aD,aG,ixA,aX,aV,ag,aT,ae,mkA,ab,bnd,aS,aH,aK,cvO,aJ,aY,↓aO,aW,aE,aF,aM,aA,aC,aB,aN,ad,frz,aR,Nat.reduceBEq,Nat.reduceLT,reduceCtorEq,↓reduceIte,aL,AV.cellsOf,AV.fine,AV.one,aQ,Nat.reduceMul,Nat.reduceAdd,Nat.reduceLeDiff,Nat.reduceEqDiff,Int.reduceToNat,Nat.reduceSub,Nat.reduceMod,Nat.reduceDiv,indexK.aggOf,Int.reducePow,Int.reduceLE,Int.reduceNeg,Int.reduceLT,Int.reduceBEq,Int.reduceBNe,Int.reduceEq,aZ,aU,Try.facts,s2,s3,dT,dF,qT,qF,nT,nF,Bool.false_and,Bool.and_false,ah,aP,n12,n13,n14,n23,n24,n34,set_flip n12,set_flip n13,set_flip n14,set_flip n23,set_flip n24,set_flip n34,set_twice]
        exact hsub _ _ _ _
  · by_cases k2 : kd = 2
    · subst k2
      unfold rdBody at hR
      rw [if_neg k1,if_pos rfl] at hR
      have h2 := hid (r1,e1) l1
      generalize rdID (r1,e1) = A at *
      obtain ⟨⟨r2,e2⟩,⟨a,c⟩⟩ := A
      simp only at h2 hR
      have hpr := rright18_pure ⟨2,cj,(a,c),cF⟩
      unfold fixOp at hR
      dsimp only at hR
      generalize opR ⟨2,cj,(a,c),cF⟩ = ob at hpr hR
      simp only [opC,cj,cF] at hpr
      refine az (c := ⟨Try.prog,111,[(21,[1,0,2,2]),(4000019,[1,2,3,4,107]),(4000018,[1,2,3,4]),(4000017,[1,2,3,4]),(4000016,[1,2,3,4]),(4000015,[1,2,3,4]),(4000014,[1,2,3,4]),(4000013,[1,2,3,4]),(4000011,[1,2,3,4]),(4000009,[1,2,3,4]),(4000008,[1,2,3,4,5]),(4000006,[1,2,3,4]),(4000005,[1,2,3,4]),(4000004,[1,2,3,4]),(4000002,[1,2,3,4])],[],[(21,(.or (.op 0 2 (.or (.op 1 2 (.op 2 2 (.op 3 2 .nil))) (.op 2 2 (.op 1 2 (.op 3 2 .nil))))) (.op 1 2 (.op 0 2 (.op 2 2 (.op 3 2 .nil))))))]⟩) (rs := [ResultVar.cell 2 67,ResultVar.cell 3 84]) Try.mixed Try.func76 rfl rfl rfl (Nat.le_of_ble_eq_true rfl) (by kernel_rfl) fun H => ?_
      simp (disch := omega) only [↓aI,aD,aG,ixA,aX,aV,ag,aT,ae,mkA,ab,bnd,aS,aH,aK,cvO,aJ,aY,↓aO,aW,aE,aF,aM,aA,aC,aB,aN,ad,frz,aR,Nat.reduceBEq,Nat.reduceLT,reduceCtorEq,↓reduceIte,aL,AV.cellsOf,AV.fine,AV.one,aQ,Nat.reduceMul,Nat.reduceAdd,Nat.reduceLeDiff,Nat.reduceEqDiff,Int.reduceToNat,Nat.reduceSub,Nat.reduceMod,Nat.reduceDiv,indexK.aggOf,Int.reducePow,Int.reduceLE,Int.reduceNeg,Int.reduceLT,Int.reduceBEq,Int.reduceBNe,Int.reduceEq,aZ,aU,Try.facts]
      intro b1 hb10 hb1 b2 hb20 hb2 b3 hb30 hb3
      have n12 := bK hb2
      have n13 := bK (am hb3)
      have n23 := bK hb3
      intro b4 hb40 hb4
      have n34 := bK hb4
      have n24 := bK (am hb4)
      have n14 := bK (am (am hb4))
      have q2 := am hb2
      have q3 := am (am hb3)
      have q4 := am (am (am hb4))
      have hsub : ∀ x y z w : AObj,Abs.Sub H ((((H.set b1 x).set b2 y).set b3 z).set b4 w) := fun x y z w => (((Sub.set_new hb1).set_free q2).set_free q3).set_free q4
      try simp (disch := omega) only [↓aI,aD,aG,ixA,aX,aV,ag,aT,ae,mkA,ab,bnd,aS,aH,aK,cvO,aJ,aY,↓aO,aW,aE,aF,aM,aA,aC,aB,aN,ad,frz,aR,Nat.reduceBEq,Nat.reduceLT,reduceCtorEq,↓reduceIte,aL,AV.cellsOf,AV.fine,AV.one,aQ,Nat.reduceMul,Nat.reduceAdd,Nat.reduceLeDiff,Nat.reduceEqDiff,Int.reduceToNat,Nat.reduceSub,Nat.reduceMod,Nat.reduceDiv,indexK.aggOf,Int.reducePow,Int.reduceLE,Int.reduceNeg,Int.reduceLT,Int.reduceBEq,Int.reduceBNe,Int.reduceEq,aZ,aU,Try.facts,dT,dF,qT,qF,nT,nF,Bool.false_and,Bool.and_false,ah,aP,n12,n13,n14,n23,n24,n34,set_flip n12,set_flip n13,set_flip n14,set_flip n23,set_flip n24,set_flip n34,set_twice]
      first | refine CallK.p (h1) ?_ | refine CallP.i (h1) ?_
      simp (disch := omega) only [↓aI,aD,aG,ixA,aX,aV,ag,aT,ae,mkA,ab,bnd,aS,aH,aK,cvO,aJ,aY,↓aO,aW,aE,aF,aM,aA,aC,aB,aN,ad,frz,aR,Nat.reduceBEq,Nat.reduceLT,reduceCtorEq,↓reduceIte,aL,AV.cellsOf,AV.fine,AV.one,aQ,Nat.reduceMul,Nat.reduceAdd,Nat.reduceLeDiff,Nat.reduceEqDiff,Int.reduceToNat,Nat.reduceSub,Nat.reduceMod,Nat.reduceDiv,indexK.aggOf,Int.reducePow,Int.reduceLE,Int.reduceNeg,Int.reduceLT,Int.reduceBEq,Int.reduceBNe,Int.reduceEq,aZ,aU,Try.facts,dT,dF,qT,qF,nT,nF,Bool.false_and,Bool.and_false,ah,aP,n12,n13,n14,n23,n24,n34,set_flip n12,set_flip n13,set_flip n14,set_flip n23,set_flip n24,set_flip n34,set_twice]
      first | refine CallK.p (h2) ?_ | refine CallP.i (h2) ?_
      simp (disch := omega) only [↓aI,aD,aG,ixA,aX,aV,ag,aT,ae,mkA,ab,bnd,aS,aH,aK,cvO,aJ,aY,↓aO,aW,aE,aF,aM,aA,aC,aB,aN,ad,frz,aR,Nat.reduceBEq,Nat.reduceLT,reduceCtorEq,↓reduceIte,aL,AV.cellsOf,AV.fine,AV.one,aQ,Nat.reduceMul,Nat.reduceAdd,Nat.reduceLeDiff,Nat.reduceEqDiff,Int.reduceToNat,Nat.reduceSub,Nat.reduceMod,Nat.reduceDiv,indexK.aggOf,Int.reducePow,Int.reduceLE,Int.reduceNeg,Int.reduceLT,Int.reduceBEq,Int.reduceBNe,Int.reduceEq,aZ,aU,Try.facts,dT,dF,qT,qF,nT,nF,Bool.false_and,Bool.and_false,ah,aP,n12,n13,n14,n23,n24,n34,set_flip n12,set_flip n13,set_flip n14,set_flip n23,set_flip n24,set_flip n34,set_twice]
      by_cases e0 : e2 = 0
      · subst e0
        cases ob
        · rw [if_pos rfl,if_pos rfl] at hR
          subst hR
          simp (disch := omega) only [↓aI,aD,aG,ixA,aX,aV,ag,aT,ae,mkA,ab,bnd,aS,aH,aK,cvO,aJ,aY,↓aO,aW,aE,aF,aM,aA,aC,aB,aN,ad,frz,aR,Nat.reduceBEq,Nat.reduceLT,reduceCtorEq,↓reduceIte,aL,AV.cellsOf,AV.fine,AV.one,aQ,Nat.reduceMul,Nat.reduceAdd,Nat.reduceLeDiff,Nat.reduceEqDiff,Int.reduceToNat,Nat.reduceSub,Nat.reduceMod,Nat.reduceDiv,indexK.aggOf,Int.reducePow,Int.reduceLE,Int.reduceNeg,Int.reduceLT,Int.reduceBEq,Int.reduceBNe,Int.reduceEq,aZ,aU,Try.facts,dT,dF,qT,qF,nT,nF,Bool.false_and,Bool.and_false,ah,aP,n12,n13,n14,n23,n24,n34,set_flip n12,set_flip n13,set_flip n14,set_flip n23,set_flip n24,set_flip n34,set_twice]
          first | refine CallK.p (hpr) ?_ | refine CallP.i (hpr) ?_
          simp (disch := omega) only [↓aI,aD,aG,ixA,aX,aV,ag,aT,ae,mkA,ab,bnd,aS,aH,aK,cvO,aJ,aY,↓aO,aW,aE,aF,aM,aA,aC,aB,aN,ad,frz,aR,Nat.reduceBEq,Nat.reduceLT,reduceCtorEq,↓reduceIte,aL,AV.cellsOf,AV.fine,AV.one,aQ,Nat.reduceMul,Nat.reduceAdd,Nat.reduceLeDiff,Nat.reduceEqDiff,Int.reduceToNat,Nat.reduceSub,Nat.reduceMod,Nat.reduceDiv,indexK.aggOf,Int.reducePow,Int.reduceLE,Int.reduceNeg,Int.reduceLT,Int.reduceBEq,Int.reduceBNe,Int.reduceEq,aZ,aU,Try.facts,dT,dF,qT,qF,nT,nF,Bool.false_and,Bool.and_false,ah,aP,n12,n13,n14,n23,n24,n34,set_flip n12,set_flip n13,set_flip n14,set_flip n23,set_flip n24,set_flip n34,set_twice]
          refine eI (fun σ F => F = (((H.set b1 (.cells [.imm 0 (bw r2) r2.length,.sc (.int .i64 5)] 67 2)).set b2 (.cells [.imm 0 (bw r2) r2.length,.sc (.int .i64 5)] 67 2)).set b3 (.cells (opC ⟨2,cj,(a,c),cF⟩) 84 19)).set b4 (.cells (opC ⟨2,cj,(a,c),cF⟩) 84 19) ∧ σ 2 = .ptr b2 0 ∧ σ 3 = .ptr b3 0) ?_ ?_
          · simp (disch := omega) only [↓aI,aD,aG,ixA,aX,aV,ag,aT,ae,mkA,ab,bnd,aS,aH,aK,cvO,aJ,aY,↓aO,aW,aE,aF,aM,aA,aC,aB,aN,ad,frz,aR,Nat.reduceBEq,Nat.reduceLT,reduceCtorEq,↓reduceIte,aL,AV.cellsOf,AV.fine,AV.one,aQ,Nat.reduceMul,Nat.reduceAdd,Nat.reduceLeDiff,Nat.reduceEqDiff,Int.reduceToNat,Nat.reduceSub,Nat.reduceMod,Nat.reduceDiv,indexK.aggOf,Int.reducePow,Int.reduceLE,Int.reduceNeg,Int.reduceLT,Int.reduceBEq,Int.reduceBNe,Int.reduceEq,aZ,aU,Try.facts,opC,cj,cF,dT,dF,qT,qF,nT,nF,Bool.false_and,Bool.and_false,ah,aP,n12,n13,n14,n23,n24,n34,set_flip n12,set_flip n13,set_flip n14,set_flip n23,set_flip n24,set_flip n34,set_twice]
          · rintro σ F ⟨rfl,s2,s3⟩
            simp only [opC,cj,cF]
            simp (disch := omega) only [↓aI,aD,aG,ixA,aX,aV,ag,aT,ae,mkA,ab,bnd,aS,aH,aK,cvO,aJ,aY,↓aO,aW,aE,aF,aM,aA,aC,aB,aN,ad,frz,aR,Nat.reduceBEq,Nat.reduceLT,reduceCtorEq,↓reduceIte,aL,AV.cellsOf,AV.fine,AV.one,aQ,Nat.reduceMul,Nat.reduceAdd,Nat.reduceLeDiff,Nat.reduceEqDiff,Int.reduceToNat,Nat.reduceSub,Nat.reduceMod,Nat.reduceDiv,indexK.aggOf,Int.reducePow,Int.reduceLE,Int.reduceNeg,Int.reduceLT,Int.reduceBEq,Int.reduceBNe,Int.reduceEq,aZ,aU,Try.facts,s2,s3,dT,dF,qT,qF,nT,nF,Bool.false_and,Bool.and_false,ah,aP,n12,n13,n14,n23,n24,n34,set_flip n12,set_flip n13,set_flip n14,set_flip n23,set_flip n24,set_flip n34,set_twice]
            exact hsub _ _ _ _
        · rw [if_neg (by simp)] at hR
          subst hR
          simp (disch := omega) only [↓aI,aD,aG,ixA,aX,aV,ag,aT,ae,mkA,ab,bnd,aS,aH,aK,cvO,aJ,aY,↓aO,aW,aE,aF,aM,aA,aC,aB,aN,ad,frz,aR,Nat.reduceBEq,Nat.reduceLT,reduceCtorEq,↓reduceIte,aL,AV.cellsOf,AV.fine,AV.one,aQ,Nat.reduceMul,Nat.reduceAdd,Nat.reduceLeDiff,Nat.reduceEqDiff,Int.reduceToNat,Nat.reduceSub,Nat.reduceMod,Nat.reduceDiv,indexK.aggOf,Int.reducePow,Int.reduceLE,Int.reduceNeg,Int.reduceLT,Int.reduceBEq,Int.reduceBNe,Int.reduceEq,aZ,aU,Try.facts,dT,dF,qT,qF,nT,nF,Bool.false_and,Bool.and_false,ah,aP,n12,n13,n14,n23,n24,n34,set_flip n12,set_flip n13,set_flip n14,set_flip n23,set_flip n24,set_flip n34,set_twice]
          first | refine CallK.p (hpr) ?_ | refine CallP.i (hpr) ?_
          simp (disch := omega) only [↓aI,aD,aG,ixA,aX,aV,ag,aT,ae,mkA,ab,bnd,aS,aH,aK,cvO,aJ,aY,↓aO,aW,aE,aF,aM,aA,aC,aB,aN,ad,frz,aR,Nat.reduceBEq,Nat.reduceLT,reduceCtorEq,↓reduceIte,aL,AV.cellsOf,AV.fine,AV.one,aQ,Nat.reduceMul,Nat.reduceAdd,Nat.reduceLeDiff,Nat.reduceEqDiff,Int.reduceToNat,Nat.reduceSub,Nat.reduceMod,Nat.reduceDiv,indexK.aggOf,Int.reducePow,Int.reduceLE,Int.reduceNeg,Int.reduceLT,Int.reduceBEq,Int.reduceBNe,Int.reduceEq,aZ,aU,Try.facts,dT,dF,qT,qF,nT,nF,Bool.false_and,Bool.and_false,ah,aP,n12,n13,n14,n23,n24,n34,set_flip n12,set_flip n13,set_flip n14,set_flip n23,set_flip n24,set_flip n34,set_twice]
          refine eI (fun σ F => F = (((H.set b1 (.cells [.imm 0 (bw r2) r2.length,.sc (.int .i64 0)] 67 2)).set b2 (.cells [.imm 0 (bw r2) r2.length,.sc (.int .i64 0)] 67 2)).set b3 (.cells (opC ⟨2,cj,(a,c),cF⟩) 84 19)).set b4 (.cells (opC ⟨2,cj,(a,c),cF⟩) 84 19) ∧ σ 2 = .ptr b2 0 ∧ σ 3 = .ptr b3 0) ?_ ?_
          · simp (disch := omega) only [↓aI,aD,aG,ixA,aX,aV,ag,aT,ae,mkA,ab,bnd,aS,aH,aK,cvO,aJ,aY,↓aO,aW,aE,aF,aM,aA,aC,aB,aN,ad,frz,aR,Nat.reduceBEq,Nat.reduceLT,reduceCtorEq,↓reduceIte,aL,AV.cellsOf,AV.fine,AV.one,aQ,Nat.reduceMul,Nat.reduceAdd,Nat.reduceLeDiff,Nat.reduceEqDiff,Int.reduceToNat,Nat.reduceSub,Nat.reduceMod,Nat.reduceDiv,indexK.aggOf,Int.reducePow,Int.reduceLE,Int.reduceNeg,Int.reduceLT,Int.reduceBEq,Int.reduceBNe,Int.reduceEq,aZ,aU,Try.facts,opC,cj,cF,dT,dF,qT,qF,nT,nF,Bool.false_and,Bool.and_false,ah,aP,n12,n13,n14,n23,n24,n34,set_flip n12,set_flip n13,set_flip n14,set_flip n23,set_flip n24,set_flip n34,set_twice]
          · rintro σ F ⟨rfl,s2,s3⟩
            simp only [opC,cj,cF]
            simp (disch := omega) only [↓aI,aD,aG,ixA,aX,aV,ag,aT,ae,mkA,ab,bnd,aS,aH,aK,cvO,aJ,aY,↓aO,aW,aE,aF,aM,aA,aC,aB,aN,ad,frz,aR,Nat.reduceBEq,Nat.reduceLT,reduceCtorEq,↓reduceIte,aL,AV.cellsOf,AV.fine,AV.one,aQ,Nat.reduceMul,Nat.reduceAdd,Nat.reduceLeDiff,Nat.reduceEqDiff,Int.reduceToNat,Nat.reduceSub,Nat.reduceMod,Nat.reduceDiv,indexK.aggOf,Int.reducePow,Int.reduceLE,Int.reduceNeg,Int.reduceLT,Int.reduceBEq,Int.reduceBNe,Int.reduceEq,aZ,aU,Try.facts,s2,s3,dT,dF,qT,qF,nT,nF,Bool.false_and,Bool.and_false,ah,aP,n12,n13,n14,n23,n24,n34,set_flip n12,set_flip n13,set_flip n14,set_flip n23,set_flip n24,set_flip n34,set_twice]
            exact hsub _ _ _ _
      · have hR2 : R = ((r2, e2), ⟨2, cj, (a, c), cF⟩) := by
          rw [hR]
          cases ob
          · rw [if_pos rfl,if_neg e0]
          · rw [if_neg (by simp)]
        clear hR
        subst hR2
        simp (disch := omega) only [↓aI,aD,aG,ixA,aX,aV,ag,aT,ae,mkA,ab,bnd,aS,aH,aK,cvO,aJ,aY,↓aO,aW,aE,aF,aM,aA,aC,aB,aN,ad,frz,aR,Nat.reduceBEq,Nat.reduceLT,reduceCtorEq,↓reduceIte,aL,AV.cellsOf,AV.fine,AV.one,aQ,Nat.reduceMul,Nat.reduceAdd,Nat.reduceLeDiff,Nat.reduceEqDiff,Int.reduceToNat,Nat.reduceSub,Nat.reduceMod,Nat.reduceDiv,indexK.aggOf,Int.reducePow,Int.reduceLE,Int.reduceNeg,Int.reduceLT,Int.reduceBEq,Int.reduceBNe,Int.reduceEq,aZ,aU,Try.facts,dT,dF,qT,qF,nT,nF,Bool.false_and,Bool.and_false,ah,aP,n12,n13,n14,n23,n24,n34,set_flip n12,set_flip n13,set_flip n14,set_flip n23,set_flip n24,set_flip n34,set_twice]
        refine eI (fun σ F => F = (((H.set b1 (.cells [.imm 0 (bw r2) r2.length,.sc (.int .i64 e2)] 67 2)).set b2 (.cells [.imm 0 (bw r2) r2.length,.sc (.int .i64 e2)] 67 2)).set b3 (.cells (opC ⟨2,cj,(a,c),cF⟩) 84 19)).set b4 (.cells (opC ⟨2,cj,(a,c),cF⟩) 84 19) ∧ σ 2 = .ptr b2 0 ∧ σ 3 = .ptr b3 0) ?_ ?_
        · simp (disch := omega) only [↓aI,aD,aG,ixA,aX,aV,ag,aT,ae,mkA,ab,bnd,aS,aH,aK,cvO,aJ,aY,↓aO,aW,aE,aF,aM,aA,aC,aB,aN,ad,frz,aR,Nat.reduceBEq,Nat.reduceLT,reduceCtorEq,↓reduceIte,aL,AV.cellsOf,AV.fine,AV.one,aQ,Nat.reduceMul,Nat.reduceAdd,Nat.reduceLeDiff,Nat.reduceEqDiff,Int.reduceToNat,Nat.reduceSub,Nat.reduceMod,Nat.reduceDiv,indexK.aggOf,Int.reducePow,Int.reduceLE,Int.reduceNeg,Int.reduceLT,Int.reduceBEq,Int.reduceBNe,Int.reduceEq,aZ,aU,Try.facts,opC,cj,cF,dT,dF,qT,qF,nT,nF,Bool.false_and,Bool.and_false,ah,aP,n12,n13,n14,n23,n24,n34,set_flip n12,set_flip n13,set_flip n14,set_flip n23,set_flip n24,set_flip n34,set_twice]
        · rintro σ F ⟨rfl,s2,s3⟩
          simp only [opC,cj,cF]
          simp (disch := omega) only [↓aI,aD,aG,ixA,aX,aV,ag,aT,ae,mkA,ab,bnd,aS,aH,aK,cvO,aJ,aY,↓aO,aW,aE,aF,aM,aA,aC,aB,aN,ad,frz,aR,Nat.reduceBEq,Nat.reduceLT,reduceCtorEq,↓reduceIte,aL,AV.cellsOf,AV.fine,AV.one,aQ,Nat.reduceMul,Nat.reduceAdd,Nat.reduceLeDiff,Nat.reduceEqDiff,Int.reduceToNat,Nat.reduceSub,Nat.reduceMod,Nat.reduceDiv,indexK.aggOf,Int.reducePow,Int.reduceLE,Int.reduceNeg,Int.reduceLT,Int.reduceBEq,Int.reduceBNe,Int.reduceEq,aZ,aU,Try.facts,s2,s3,dT,dF,qT,qF,nT,nF,Bool.false_and,Bool.and_false,ah,aP,n12,n13,n14,n23,n24,n34,set_flip n12,set_flip n13,set_flip n14,set_flip n23,set_flip n24,set_flip n34,set_twice]
          exact hsub _ _ _ _
    · by_cases k3 : kd = 3
      · subst k3
        unfold rdBody at hR
        rw [if_neg k1,if_neg k2,if_pos rfl] at hR
        unfold rdMar at hR
        dsimp only at hR
        have h2 := hnum 0 1099511627776 (r1,e1) l1
        have l2 := Nat.le_trans (rdNum_sh (r1,e1) 0 1099511627776).le l1
        generalize rdNum (r1,e1) 0 1099511627776 = A at *
        obtain ⟨⟨r2,e2⟩,mc⟩ := A
        simp only at h2 hR l2
        have h3 := hnum 0 4 (r2,e2) l2
        have l3 := Nat.le_trans (rdNum_sh (r2,e2) 0 4).le l2
        generalize rdNum (r2,e2) 0 4 = A at *
        obtain ⟨⟨r3,e3⟩,ma⟩ := A
        simp only at h3 hR l3
        have h4 := han (r3,e3) l3
        have l4 := Nat.le_trans (rdAn_sh (r3,e3)).le l3
        generalize rdAn (r3,e3) = A at *
        obtain ⟨⟨r4,e4⟩,⟨⟨g1,g2⟩,fb⟩⟩ := A
        simp only at h4 hR l4
        have h5 := han (r4,e4) l4
        have l5 := Nat.le_trans (rdAn_sh (r4,e4)).le l4
        generalize rdAn (r4,e4) = A at *
        obtain ⟨⟨r5,e5⟩,⟨⟨t1,t2⟩,tb⟩⟩ := A
        simp only at h5 hR l5
        have h6 := hnum 0 1099511627776 (r5,e5) l5
        have l6 := Nat.le_trans (rdNum_sh (r5,e5) 0 1099511627776).le l5
        generalize rdNum (r5,e5) 0 1099511627776 = A at *
        obtain ⟨⟨r6,e6⟩,nm⟩ := A
        simp only at h6 hR l6
        have h7 := hnum 0 1099511627776 (r6,e6) l6
        have l7 := Nat.le_trans (rdNum_sh (r6,e6) 0 1099511627776).le l6
        generalize rdNum (r6,e6) 0 1099511627776 = A at *
        obtain ⟨⟨r7,e7⟩,vl⟩ := A
        simp only at h7 hR l7
        have hpr := rright18_pure ⟨3,cj,(0,0),⟨mc,ma,(g1,g2),fb,(t1,t2),tb,nm,vl⟩⟩
        unfold fixOp at hR
        dsimp only at hR
        generalize opR ⟨3,cj,(0,0),⟨mc,ma,(g1,g2),fb,(t1,t2),tb,nm,vl⟩⟩ = ob at hpr hR
        simp only [opC,cj,cF] at hpr
        refine az (c := ⟨Try.prog,111,[(21,[1,0,2,2]),(4000019,[1,2,3,4,107]),(4000018,[1,2,3,4]),(4000017,[1,2,3,4]),(4000016,[1,2,3,4]),(4000015,[1,2,3,4]),(4000014,[1,2,3,4]),(4000013,[1,2,3,4]),(4000011,[1,2,3,4]),(4000009,[1,2,3,4]),(4000008,[1,2,3,4,5]),(4000006,[1,2,3,4]),(4000005,[1,2,3,4]),(4000004,[1,2,3,4]),(4000002,[1,2,3,4])],[],[(21,(.or (.op 0 2 (.or (.op 1 2 (.op 2 2 (.op 3 2 .nil))) (.op 2 2 (.op 1 2 (.op 3 2 .nil))))) (.op 1 2 (.op 0 2 (.op 2 2 (.op 3 2 .nil))))))]⟩) (rs := [ResultVar.cell 2 67,ResultVar.cell 3 84]) Try.mixed Try.func76 rfl rfl rfl (Nat.le_of_ble_eq_true rfl) (by kernel_rfl) fun H => ?_
        simp (disch := omega) only [↓aI,aD,aG,ixA,aX,aV,ag,aT,ae,mkA,ab,bnd,aS,aH,aK,cvO,aJ,aY,↓aO,aW,aE,aF,aM,aA,aC,aB,aN,ad,frz,aR,Nat.reduceBEq,Nat.reduceLT,reduceCtorEq,↓reduceIte,aL,AV.cellsOf,AV.fine,AV.one,aQ,Nat.reduceMul,Nat.reduceAdd,Nat.reduceLeDiff,Nat.reduceEqDiff,Int.reduceToNat,Nat.reduceSub,Nat.reduceMod,Nat.reduceDiv,indexK.aggOf,Int.reducePow,Int.reduceLE,Int.reduceNeg,Int.reduceLT,Int.reduceBEq,Int.reduceBNe,Int.reduceEq,aZ,aU,Try.facts]
        intro b1 hb10 hb1 b2 hb20 hb2 b3 hb30 hb3
        have n12 := bK hb2
        have n13 := bK (am hb3)
        have n23 := bK hb3
        intro b4 hb40 hb4
        have n34 := bK hb4
        have n24 := bK (am hb4)
        have n14 := bK (am (am hb4))
        have q2 := am hb2
        have q3 := am (am hb3)
        have q4 := am (am (am hb4))
        have hsub : ∀ x y z w : AObj,Abs.Sub H ((((H.set b1 x).set b2 y).set b3 z).set b4 w) := fun x y z w => (((Sub.set_new hb1).set_free q2).set_free q3).set_free q4
        try simp (disch := omega) only [↓aI,aD,aG,ixA,aX,aV,ag,aT,ae,mkA,ab,bnd,aS,aH,aK,cvO,aJ,aY,↓aO,aW,aE,aF,aM,aA,aC,aB,aN,ad,frz,aR,Nat.reduceBEq,Nat.reduceLT,reduceCtorEq,↓reduceIte,aL,AV.cellsOf,AV.fine,AV.one,aQ,Nat.reduceMul,Nat.reduceAdd,Nat.reduceLeDiff,Nat.reduceEqDiff,Int.reduceToNat,Nat.reduceSub,Nat.reduceMod,Nat.reduceDiv,indexK.aggOf,Int.reducePow,Int.reduceLE,Int.reduceNeg,Int.reduceLT,Int.reduceBEq,Int.reduceBNe,Int.reduceEq,aZ,aU,Try.facts,dT,dF,qT,qF,nT,nF,Bool.false_and,Bool.and_false,ah,aP,n12,n13,n14,n23,n24,n34,set_flip n12,set_flip n13,set_flip n14,set_flip n23,set_flip n24,set_flip n34,set_twice]
        first | refine CallK.p (h1) ?_ | refine CallP.i (h1) ?_
        simp (disch := omega) only [↓aI,aD,aG,ixA,aX,aV,ag,aT,ae,mkA,ab,bnd,aS,aH,aK,cvO,aJ,aY,↓aO,aW,aE,aF,aM,aA,aC,aB,aN,ad,frz,aR,Nat.reduceBEq,Nat.reduceLT,reduceCtorEq,↓reduceIte,aL,AV.cellsOf,AV.fine,AV.one,aQ,Nat.reduceMul,Nat.reduceAdd,Nat.reduceLeDiff,Nat.reduceEqDiff,Int.reduceToNat,Nat.reduceSub,Nat.reduceMod,Nat.reduceDiv,indexK.aggOf,Int.reducePow,Int.reduceLE,Int.reduceNeg,Int.reduceLT,Int.reduceBEq,Int.reduceBNe,Int.reduceEq,aZ,aU,Try.facts,dT,dF,qT,qF,nT,nF,Bool.false_and,Bool.and_false,ah,aP,n12,n13,n14,n23,n24,n34,set_flip n12,set_flip n13,set_flip n14,set_flip n23,set_flip n24,set_flip n34,set_twice]
        first | refine CallK.p (h2) ?_ | refine CallP.i (h2) ?_
        simp (disch := omega) only [↓aI,aD,aG,ixA,aX,aV,ag,aT,ae,mkA,ab,bnd,aS,aH,aK,cvO,aJ,aY,↓aO,aW,aE,aF,aM,aA,aC,aB,aN,ad,frz,aR,Nat.reduceBEq,Nat.reduceLT,reduceCtorEq,↓reduceIte,aL,AV.cellsOf,AV.fine,AV.one,aQ,Nat.reduceMul,Nat.reduceAdd,Nat.reduceLeDiff,Nat.reduceEqDiff,Int.reduceToNat,Nat.reduceSub,Nat.reduceMod,Nat.reduceDiv,indexK.aggOf,Int.reducePow,Int.reduceLE,Int.reduceNeg,Int.reduceLT,Int.reduceBEq,Int.reduceBNe,Int.reduceEq,aZ,aU,Try.facts,dT,dF,qT,qF,nT,nF,Bool.false_and,Bool.and_false,ah,aP,n12,n13,n14,n23,n24,n34,set_flip n12,set_flip n13,set_flip n14,set_flip n23,set_flip n24,set_flip n34,set_twice]
        first | refine CallK.p (h3) ?_ | refine CallP.i (h3) ?_
        simp (disch := omega) only [↓aI,aD,aG,ixA,aX,aV,ag,aT,ae,mkA,ab,bnd,aS,aH,aK,cvO,aJ,aY,↓aO,aW,aE,aF,aM,aA,aC,aB,aN,ad,frz,aR,Nat.reduceBEq,Nat.reduceLT,reduceCtorEq,↓reduceIte,aL,AV.cellsOf,AV.fine,AV.one,aQ,Nat.reduceMul,Nat.reduceAdd,Nat.reduceLeDiff,Nat.reduceEqDiff,Int.reduceToNat,Nat.reduceSub,Nat.reduceMod,Nat.reduceDiv,indexK.aggOf,Int.reducePow,Int.reduceLE,Int.reduceNeg,Int.reduceLT,Int.reduceBEq,Int.reduceBNe,Int.reduceEq,aZ,aU,Try.facts,dT,dF,qT,qF,nT,nF,Bool.false_and,Bool.and_false,ah,aP,n12,n13,n14,n23,n24,n34,set_flip n12,set_flip n13,set_flip n14,set_flip n23,set_flip n24,set_flip n34,set_twice]
        first | refine CallK.p (h4) ?_ | refine CallP.i (h4) ?_
        simp (disch := omega) only [↓aI,aD,aG,ixA,aX,aV,ag,aT,ae,mkA,ab,bnd,aS,aH,aK,cvO,aJ,aY,↓aO,aW,aE,aF,aM,aA,aC,aB,aN,ad,frz,aR,Nat.reduceBEq,Nat.reduceLT,reduceCtorEq,↓reduceIte,aL,AV.cellsOf,AV.fine,AV.one,aQ,Nat.reduceMul,Nat.reduceAdd,Nat.reduceLeDiff,Nat.reduceEqDiff,Int.reduceToNat,Nat.reduceSub,Nat.reduceMod,Nat.reduceDiv,indexK.aggOf,Int.reducePow,Int.reduceLE,Int.reduceNeg,Int.reduceLT,Int.reduceBEq,Int.reduceBNe,Int.reduceEq,aZ,aU,Try.facts,dT,dF,qT,qF,nT,nF,Bool.false_and,Bool.and_false,ah,aP,n12,n13,n14,n23,n24,n34,set_flip n12,set_flip n13,set_flip n14,set_flip n23,set_flip n24,set_flip n34,set_twice]
        first | refine CallK.p (h5) ?_ | refine CallP.i (h5) ?_
        simp (disch := omega) only [↓aI,aD,aG,ixA,aX,aV,ag,aT,ae,mkA,ab,bnd,aS,aH,aK,cvO,aJ,aY,↓aO,aW,aE,aF,aM,aA,aC,aB,aN,ad,frz,aR,Nat.reduceBEq,Nat.reduceLT,reduceCtorEq,↓reduceIte,aL,AV.cellsOf,AV.fine,AV.one,aQ,Nat.reduceMul,Nat.reduceAdd,Nat.reduceLeDiff,Nat.reduceEqDiff,Int.reduceToNat,Nat.reduceSub,Nat.reduceMod,Nat.reduceDiv,indexK.aggOf,Int.reducePow,Int.reduceLE,Int.reduceNeg,Int.reduceLT,Int.reduceBEq,Int.reduceBNe,Int.reduceEq,aZ,aU,Try.facts,dT,dF,qT,qF,nT,nF,Bool.false_and,Bool.and_false,ah,aP,n12,n13,n14,n23,n24,n34,set_flip n12,set_flip n13,set_flip n14,set_flip n23,set_flip n24,set_flip n34,set_twice]
        first | refine CallK.p (h6) ?_ | refine CallP.i (h6) ?_
        simp (disch := omega) only [↓aI,aD,aG,ixA,aX,aV,ag,aT,ae,mkA,ab,bnd,aS,aH,aK,cvO,aJ,aY,↓aO,aW,aE,aF,aM,aA,aC,aB,aN,ad,frz,aR,Nat.reduceBEq,Nat.reduceLT,reduceCtorEq,↓reduceIte,aL,AV.cellsOf,AV.fine,AV.one,aQ,Nat.reduceMul,Nat.reduceAdd,Nat.reduceLeDiff,Nat.reduceEqDiff,Int.reduceToNat,Nat.reduceSub,Nat.reduceMod,Nat.reduceDiv,indexK.aggOf,Int.reducePow,Int.reduceLE,Int.reduceNeg,Int.reduceLT,Int.reduceBEq,Int.reduceBNe,Int.reduceEq,aZ,aU,Try.facts,dT,dF,qT,qF,nT,nF,Bool.false_and,Bool.and_false,ah,aP,n12,n13,n14,n23,n24,n34,set_flip n12,set_flip n13,set_flip n14,set_flip n23,set_flip n24,set_flip n34,set_twice]
        first | refine CallK.p (h7) ?_ | refine CallP.i (h7) ?_
        simp (disch := omega) only [↓aI,aD,aG,ixA,aX,aV,ag,aT,ae,mkA,ab,bnd,aS,aH,aK,cvO,aJ,aY,↓aO,aW,aE,aF,aM,aA,aC,aB,aN,ad,frz,aR,Nat.reduceBEq,Nat.reduceLT,reduceCtorEq,↓reduceIte,aL,AV.cellsOf,AV.fine,AV.one,aQ,Nat.reduceMul,Nat.reduceAdd,Nat.reduceLeDiff,Nat.reduceEqDiff,Int.reduceToNat,Nat.reduceSub,Nat.reduceMod,Nat.reduceDiv,indexK.aggOf,Int.reducePow,Int.reduceLE,Int.reduceNeg,Int.reduceLT,Int.reduceBEq,Int.reduceBNe,Int.reduceEq,aZ,aU,Try.facts,dT,dF,qT,qF,nT,nF,Bool.false_and,Bool.and_false,ah,aP,n12,n13,n14,n23,n24,n34,set_flip n12,set_flip n13,set_flip n14,set_flip n23,set_flip n24,set_flip n34,set_twice]
        by_cases e0 : e7 = 0
        · subst e0
          cases ob
          · rw [if_pos rfl,if_pos rfl] at hR
            subst hR
            simp (disch := omega) only [↓aI,aD,aG,ixA,aX,aV,ag,aT,ae,mkA,ab,bnd,aS,aH,aK,cvO,aJ,aY,↓aO,aW,aE,aF,aM,aA,aC,aB,aN,ad,frz,aR,Nat.reduceBEq,Nat.reduceLT,reduceCtorEq,↓reduceIte,aL,AV.cellsOf,AV.fine,AV.one,aQ,Nat.reduceMul,Nat.reduceAdd,Nat.reduceLeDiff,Nat.reduceEqDiff,Int.reduceToNat,Nat.reduceSub,Nat.reduceMod,Nat.reduceDiv,indexK.aggOf,Int.reducePow,Int.reduceLE,Int.reduceNeg,Int.reduceLT,Int.reduceBEq,Int.reduceBNe,Int.reduceEq,aZ,aU,Try.facts,dT,dF,qT,qF,nT,nF,Bool.false_and,Bool.and_false,ah,aP,n12,n13,n14,n23,n24,n34,set_flip n12,set_flip n13,set_flip n14,set_flip n23,set_flip n24,set_flip n34,set_twice]
            first | refine CallK.p (hpr) ?_ | refine CallP.i (hpr) ?_
            simp (disch := omega) only [↓aI,aD,aG,ixA,aX,aV,ag,aT,ae,mkA,ab,bnd,aS,aH,aK,cvO,aJ,aY,↓aO,aW,aE,aF,aM,aA,aC,aB,aN,ad,frz,aR,Nat.reduceBEq,Nat.reduceLT,reduceCtorEq,↓reduceIte,aL,AV.cellsOf,AV.fine,AV.one,aQ,Nat.reduceMul,Nat.reduceAdd,Nat.reduceLeDiff,Nat.reduceEqDiff,Int.reduceToNat,Nat.reduceSub,Nat.reduceMod,Nat.reduceDiv,indexK.aggOf,Int.reducePow,Int.reduceLE,Int.reduceNeg,Int.reduceLT,Int.reduceBEq,Int.reduceBNe,Int.reduceEq,aZ,aU,Try.facts,dT,dF,qT,qF,nT,nF,Bool.false_and,Bool.and_false,ah,aP,n12,n13,n14,n23,n24,n34,set_flip n12,set_flip n13,set_flip n14,set_flip n23,set_flip n24,set_flip n34,set_twice]
            refine eI (fun σ F => F = (((H.set b1 (.cells [.imm 0 (bw r7) r7.length,.sc (.int .i64 5)] 67 2)).set b2 (.cells [.imm 0 (bw r7) r7.length,.sc (.int .i64 5)] 67 2)).set b3 (.cells (opC ⟨3,cj,(0,0),⟨mc,ma,(g1,g2),fb,(t1,t2),tb,nm,vl⟩⟩) 84 19)).set b4 (.cells (opC ⟨3,cj,(0,0),⟨mc,ma,(g1,g2),fb,(t1,t2),tb,nm,vl⟩⟩) 84 19) ∧ σ 2 = .ptr b2 0 ∧ σ 3 = .ptr b3 0) ?_ ?_
            · simp (disch := omega) only [↓aI,aD,aG,ixA,aX,aV,ag,aT,ae,mkA,ab,bnd,aS,aH,aK,cvO,aJ,aY,↓aO,aW,aE,aF,aM,aA,aC,aB,aN,ad,frz,aR,Nat.reduceBEq,Nat.reduceLT,reduceCtorEq,↓reduceIte,aL,AV.cellsOf,AV.fine,AV.one,aQ,Nat.reduceMul,Nat.reduceAdd,Nat.reduceLeDiff,Nat.reduceEqDiff,Int.reduceToNat,Nat.reduceSub,Nat.reduceMod,Nat.reduceDiv,indexK.aggOf,Int.reducePow,Int.reduceLE,Int.reduceNeg,Int.reduceLT,Int.reduceBEq,Int.reduceBNe,Int.reduceEq,aZ,aU,Try.facts,opC,cj,cF,dT,dF,qT,qF,nT,nF,Bool.false_and,Bool.and_false,ah,aP,n12,n13,n14,n23,n24,n34,set_flip n12,set_flip n13,set_flip n14,set_flip n23,set_flip n24,set_flip n34,set_twice]
            · rintro σ F ⟨rfl,s2,s3⟩
              simp only [opC,cj,cF]
              simp (disch := omega) only [↓aI,aD,aG,ixA,aX,aV,ag,aT,ae,mkA,ab,bnd,aS,aH,aK,cvO,aJ,aY,↓aO,aW,aE,aF,aM,aA,aC,aB,aN,ad,frz,aR,Nat.reduceBEq,Nat.reduceLT,reduceCtorEq,↓reduceIte,aL,AV.cellsOf,AV.fine,AV.one,aQ,Nat.reduceMul,Nat.reduceAdd,Nat.reduceLeDiff,Nat.reduceEqDiff,Int.reduceToNat,Nat.reduceSub,Nat.reduceMod,Nat.reduceDiv,indexK.aggOf,Int.reducePow,Int.reduceLE,Int.reduceNeg,Int.reduceLT,Int.reduceBEq,Int.reduceBNe,Int.reduceEq,aZ,aU,Try.facts,s2,s3,dT,dF,qT,qF,nT,nF,Bool.false_and,Bool.and_false,ah,aP,n12,n13,n14,n23,n24,n34,set_flip n12,set_flip n13,set_flip n14,set_flip n23,set_flip n24,set_flip n34,set_twice]
              exact hsub _ _ _ _
          · rw [if_neg (by simp)] at hR
            subst hR
            simp (disch := omega) only [↓aI,aD,aG,ixA,aX,aV,ag,aT,ae,mkA,ab,bnd,aS,aH,aK,cvO,aJ,aY,↓aO,aW,aE,aF,aM,aA,aC,aB,aN,ad,frz,aR,Nat.reduceBEq,Nat.reduceLT,reduceCtorEq,↓reduceIte,aL,AV.cellsOf,AV.fine,AV.one,aQ,Nat.reduceMul,Nat.reduceAdd,Nat.reduceLeDiff,Nat.reduceEqDiff,Int.reduceToNat,Nat.reduceSub,Nat.reduceMod,Nat.reduceDiv,indexK.aggOf,Int.reducePow,Int.reduceLE,Int.reduceNeg,Int.reduceLT,Int.reduceBEq,Int.reduceBNe,Int.reduceEq,aZ,aU,Try.facts,dT,dF,qT,qF,nT,nF,Bool.false_and,Bool.and_false,ah,aP,n12,n13,n14,n23,n24,n34,set_flip n12,set_flip n13,set_flip n14,set_flip n23,set_flip n24,set_flip n34,set_twice]
            first | refine CallK.p (hpr) ?_ | refine CallP.i (hpr) ?_
            simp (disch := omega) only [↓aI,aD,aG,ixA,aX,aV,ag,aT,ae,mkA,ab,bnd,aS,aH,aK,cvO,aJ,aY,↓aO,aW,aE,aF,aM,aA,aC,aB,aN,ad,frz,aR,Nat.reduceBEq,Nat.reduceLT,reduceCtorEq,↓reduceIte,aL,AV.cellsOf,AV.fine,AV.one,aQ,Nat.reduceMul,Nat.reduceAdd,Nat.reduceLeDiff,Nat.reduceEqDiff,Int.reduceToNat,Nat.reduceSub,Nat.reduceMod,Nat.reduceDiv,indexK.aggOf,Int.reducePow,Int.reduceLE,Int.reduceNeg,Int.reduceLT,Int.reduceBEq,Int.reduceBNe,Int.reduceEq,aZ,aU,Try.facts,dT,dF,qT,qF,nT,nF,Bool.false_and,Bool.and_false,ah,aP,n12,n13,n14,n23,n24,n34,set_flip n12,set_flip n13,set_flip n14,set_flip n23,set_flip n24,set_flip n34,set_twice]
            refine eI (fun σ F => F = (((H.set b1 (.cells [.imm 0 (bw r7) r7.length,.sc (.int .i64 0)] 67 2)).set b2 (.cells [.imm 0 (bw r7) r7.length,.sc (.int .i64 0)] 67 2)).set b3 (.cells (opC ⟨3,cj,(0,0),⟨mc,ma,(g1,g2),fb,(t1,t2),tb,nm,vl⟩⟩) 84 19)).set b4 (.cells (opC ⟨3,cj,(0,0),⟨mc,ma,(g1,g2),fb,(t1,t2),tb,nm,vl⟩⟩) 84 19) ∧ σ 2 = .ptr b2 0 ∧ σ 3 = .ptr b3 0) ?_ ?_
            · simp (disch := omega) only [↓aI,aD,aG,ixA,aX,aV,ag,aT,ae,mkA,ab,bnd,aS,aH,aK,cvO,aJ,aY,↓aO,aW,aE,aF,aM,aA,aC,aB,aN,ad,frz,aR,Nat.reduceBEq,Nat.reduceLT,reduceCtorEq,↓reduceIte,aL,AV.cellsOf,AV.fine,AV.one,aQ,Nat.reduceMul,Nat.reduceAdd,Nat.reduceLeDiff,Nat.reduceEqDiff,Int.reduceToNat,Nat.reduceSub,Nat.reduceMod,Nat.reduceDiv,indexK.aggOf,Int.reducePow,Int.reduceLE,Int.reduceNeg,Int.reduceLT,Int.reduceBEq,Int.reduceBNe,Int.reduceEq,aZ,aU,Try.facts,opC,cj,cF,dT,dF,qT,qF,nT,nF,Bool.false_and,Bool.and_false,ah,aP,n12,n13,n14,n23,n24,n34,set_flip n12,set_flip n13,set_flip n14,set_flip n23,set_flip n24,set_flip n34,set_twice]
            · rintro σ F ⟨rfl,s2,s3⟩
              simp only [opC,cj,cF]
              simp (disch := omega) only [↓aI,aD,aG,ixA,aX,aV,ag,aT,ae,mkA,ab,bnd,aS,aH,aK,cvO,aJ,aY,↓aO,aW,aE,aF,aM,aA,aC,aB,aN,ad,frz,aR,Nat.reduceBEq,Nat.reduceLT,reduceCtorEq,↓reduceIte,aL,AV.cellsOf,AV.fine,AV.one,aQ,Nat.reduceMul,Nat.reduceAdd,Nat.reduceLeDiff,Nat.reduceEqDiff,Int.reduceToNat,Nat.reduceSub,Nat.reduceMod,Nat.reduceDiv,indexK.aggOf,Int.reducePow,Int.reduceLE,Int.reduceNeg,Int.reduceLT,Int.reduceBEq,Int.reduceBNe,Int.reduceEq,aZ,aU,Try.facts,s2,s3,dT,dF,qT,qF,nT,nF,Bool.false_and,Bool.and_false,ah,aP,n12,n13,n14,n23,n24,n34,set_flip n12,set_flip n13,set_flip n14,set_flip n23,set_flip n24,set_flip n34,set_twice]
              exact hsub _ _ _ _
        · have hR2 : R = ((r7, e7), ⟨3, cj, (0, 0), ⟨mc, ma, (g1, g2), fb, (t1, t2), tb, nm, vl⟩⟩) := by
            rw [hR]
            cases ob
            · rw [if_pos rfl,if_neg e0]
            · rw [if_neg (by simp)]
          clear hR
          subst hR2
          simp (disch := omega) only [↓aI,aD,aG,ixA,aX,aV,ag,aT,ae,mkA,ab,bnd,aS,aH,aK,cvO,aJ,aY,↓aO,aW,aE,aF,aM,aA,aC,aB,aN,ad,frz,aR,Nat.reduceBEq,Nat.reduceLT,reduceCtorEq,↓reduceIte,aL,AV.cellsOf,AV.fine,AV.one,aQ,Nat.reduceMul,Nat.reduceAdd,Nat.reduceLeDiff,Nat.reduceEqDiff,Int.reduceToNat,Nat.reduceSub,Nat.reduceMod,Nat.reduceDiv,indexK.aggOf,Int.reducePow,Int.reduceLE,Int.reduceNeg,Int.reduceLT,Int.reduceBEq,Int.reduceBNe,Int.reduceEq,aZ,aU,Try.facts,dT,dF,qT,qF,nT,nF,Bool.false_and,Bool.and_false,ah,aP,n12,n13,n14,n23,n24,n34,set_flip n12,set_flip n13,set_flip n14,set_flip n23,set_flip n24,set_flip n34,set_twice]
          refine eI (fun σ F => F = (((H.set b1 (.cells [.imm 0 (bw r7) r7.length,.sc (.int .i64 e7)] 67 2)).set b2 (.cells [.imm 0 (bw r7) r7.length,.sc (.int .i64 e7)] 67 2)).set b3 (.cells (opC ⟨3,cj,(0,0),⟨mc,ma,(g1,g2),fb,(t1,t2),tb,nm,vl⟩⟩) 84 19)).set b4 (.cells (opC ⟨3,cj,(0,0),⟨mc,ma,(g1,g2),fb,(t1,t2),tb,nm,vl⟩⟩) 84 19) ∧ σ 2 = .ptr b2 0 ∧ σ 3 = .ptr b3 0) ?_ ?_
          · simp (disch := omega) only [↓aI,aD,aG,ixA,aX,aV,ag,aT,ae,mkA,ab,bnd,aS,aH,aK,cvO,aJ,aY,↓aO,aW,aE,aF,aM,aA,aC,aB,aN,ad,frz,aR,Nat.reduceBEq,Nat.reduceLT,reduceCtorEq,↓reduceIte,aL,AV.cellsOf,AV.fine,AV.one,aQ,Nat.reduceMul,Nat.reduceAdd,Nat.reduceLeDiff,Nat.reduceEqDiff,Int.reduceToNat,Nat.reduceSub,Nat.reduceMod,Nat.reduceDiv,indexK.aggOf,Int.reducePow,Int.reduceLE,Int.reduceNeg,Int.reduceLT,Int.reduceBEq,Int.reduceBNe,Int.reduceEq,aZ,aU,Try.facts,opC,cj,cF,dT,dF,qT,qF,nT,nF,Bool.false_and,Bool.and_false,ah,aP,n12,n13,n14,n23,n24,n34,set_flip n12,set_flip n13,set_flip n14,set_flip n23,set_flip n24,set_flip n34,set_twice]
          · rintro σ F ⟨rfl,s2,s3⟩
            simp only [opC,cj,cF]
            simp (disch := omega) only [↓aI,aD,aG,ixA,aX,aV,ag,aT,ae,mkA,ab,bnd,aS,aH,aK,cvO,aJ,aY,↓aO,aW,aE,aF,aM,aA,aC,aB,aN,ad,frz,aR,Nat.reduceBEq,Nat.reduceLT,reduceCtorEq,↓reduceIte,aL,AV.cellsOf,AV.fine,AV.one,aQ,Nat.reduceMul,Nat.reduceAdd,Nat.reduceLeDiff,Nat.reduceEqDiff,Int.reduceToNat,Nat.reduceSub,Nat.reduceMod,Nat.reduceDiv,indexK.aggOf,Int.reducePow,Int.reduceLE,Int.reduceNeg,Int.reduceLT,Int.reduceBEq,Int.reduceBNe,Int.reduceEq,aZ,aU,Try.facts,s2,s3,dT,dF,qT,qF,nT,nF,Bool.false_and,Bool.and_false,ah,aP,n12,n13,n14,n23,n24,n34,set_flip n12,set_flip n13,set_flip n14,set_flip n23,set_flip n24,set_flip n34,set_twice]
            exact hsub _ _ _ _
      · unfold rdBody at hR
        rw [if_neg k1,if_neg k2,if_neg k3] at hR
        have hpr := rright18_pure ⟨kd,cj,(0,0),cF⟩
        unfold fixOp at hR
        dsimp only at hR
        generalize opR ⟨kd,cj,(0,0),cF⟩ = ob at hpr hR
        simp only [opC,cj,cF] at hpr
        refine az (c := ⟨Try.prog,111,[(21,[1,0,2,2]),(4000019,[1,2,3,4,107]),(4000018,[1,2,3,4]),(4000017,[1,2,3,4]),(4000016,[1,2,3,4]),(4000015,[1,2,3,4]),(4000014,[1,2,3,4]),(4000013,[1,2,3,4]),(4000011,[1,2,3,4]),(4000009,[1,2,3,4]),(4000008,[1,2,3,4,5]),(4000006,[1,2,3,4]),(4000005,[1,2,3,4]),(4000004,[1,2,3,4]),(4000002,[1,2,3,4])],[],[(21,(.or (.op 0 2 (.or (.op 1 2 (.op 2 2 (.op 3 2 .nil))) (.op 2 2 (.op 1 2 (.op 3 2 .nil))))) (.op 1 2 (.op 0 2 (.op 2 2 (.op 3 2 .nil))))))]⟩) (rs := [ResultVar.cell 2 67,ResultVar.cell 3 84]) Try.mixed Try.func76 rfl rfl rfl (Nat.le_of_ble_eq_true rfl) (by kernel_rfl) fun H => ?_
        simp (disch := omega) only [↓aI,aD,aG,ixA,aX,aV,ag,aT,ae,mkA,ab,bnd,aS,aH,aK,cvO,aJ,aY,↓aO,aW,aE,aF,aM,aA,aC,aB,aN,ad,frz,aR,Nat.reduceBEq,Nat.reduceLT,reduceCtorEq,↓reduceIte,aL,AV.cellsOf,AV.fine,AV.one,aQ,Nat.reduceMul,Nat.reduceAdd,Nat.reduceLeDiff,Nat.reduceEqDiff,Int.reduceToNat,Nat.reduceSub,Nat.reduceMod,Nat.reduceDiv,indexK.aggOf,Int.reducePow,Int.reduceLE,Int.reduceNeg,Int.reduceLT,Int.reduceBEq,Int.reduceBNe,Int.reduceEq,aZ,aU,Try.facts]
        intro b1 hb10 hb1 b2 hb20 hb2 b3 hb30 hb3
        have n12 := bK hb2
        have n13 := bK (am hb3)
        have n23 := bK hb3
        intro b4 hb40 hb4
        have n34 := bK hb4
        have n24 := bK (am hb4)
        have n14 := bK (am (am hb4))
        have q2 := am hb2
        have q3 := am (am hb3)
        have q4 := am (am (am hb4))
        have hsub : ∀ x y z w : AObj,Abs.Sub H ((((H.set b1 x).set b2 y).set b3 z).set b4 w) := fun x y z w => (((Sub.set_new hb1).set_free q2).set_free q3).set_free q4
        try simp (disch := omega) only [↓aI,aD,aG,ixA,aX,aV,ag,aT,ae,mkA,ab,bnd,aS,aH,aK,cvO,aJ,aY,↓aO,aW,aE,aF,aM,aA,aC,aB,aN,ad,frz,aR,Nat.reduceBEq,Nat.reduceLT,reduceCtorEq,↓reduceIte,aL,AV.cellsOf,AV.fine,AV.one,aQ,Nat.reduceMul,Nat.reduceAdd,Nat.reduceLeDiff,Nat.reduceEqDiff,Int.reduceToNat,Nat.reduceSub,Nat.reduceMod,Nat.reduceDiv,indexK.aggOf,Int.reducePow,Int.reduceLE,Int.reduceNeg,Int.reduceLT,Int.reduceBEq,Int.reduceBNe,Int.reduceEq,aZ,aU,Try.facts,dT,dF,qT,qF,nT,nF,Bool.false_and,Bool.and_false,ah,aP,n12,n13,n14,n23,n24,n34,set_flip n12,set_flip n13,set_flip n14,set_flip n23,set_flip n24,set_flip n34,set_twice]
        first | refine CallK.p (h1) ?_ | refine CallP.i (h1) ?_
        simp (disch := omega) only [↓aI,aD,aG,ixA,aX,aV,ag,aT,ae,mkA,ab,bnd,aS,aH,aK,cvO,aJ,aY,↓aO,aW,aE,aF,aM,aA,aC,aB,aN,ad,frz,aR,Nat.reduceBEq,Nat.reduceLT,reduceCtorEq,↓reduceIte,aL,AV.cellsOf,AV.fine,AV.one,aQ,Nat.reduceMul,Nat.reduceAdd,Nat.reduceLeDiff,Nat.reduceEqDiff,Int.reduceToNat,Nat.reduceSub,Nat.reduceMod,Nat.reduceDiv,indexK.aggOf,Int.reducePow,Int.reduceLE,Int.reduceNeg,Int.reduceLT,Int.reduceBEq,Int.reduceBNe,Int.reduceEq,aZ,aU,Try.facts,dT,dF,qT,qF,nT,nF,Bool.false_and,Bool.and_false,ah,aP,n12,n13,n14,n23,n24,n34,set_flip n12,set_flip n13,set_flip n14,set_flip n23,set_flip n24,set_flip n34,set_twice]
        by_cases e0 : e1 = 0
        · subst e0
          cases ob
          · rw [if_pos rfl,if_pos rfl] at hR
            subst hR
            simp (disch := omega) only [↓aI,aD,aG,ixA,aX,aV,ag,aT,ae,mkA,ab,bnd,aS,aH,aK,cvO,aJ,aY,↓aO,aW,aE,aF,aM,aA,aC,aB,aN,ad,frz,aR,Nat.reduceBEq,Nat.reduceLT,reduceCtorEq,↓reduceIte,aL,AV.cellsOf,AV.fine,AV.one,aQ,Nat.reduceMul,Nat.reduceAdd,Nat.reduceLeDiff,Nat.reduceEqDiff,Int.reduceToNat,Nat.reduceSub,Nat.reduceMod,Nat.reduceDiv,indexK.aggOf,Int.reducePow,Int.reduceLE,Int.reduceNeg,Int.reduceLT,Int.reduceBEq,Int.reduceBNe,Int.reduceEq,aZ,aU,Try.facts,dT,dF,qT,qF,nT,nF,Bool.false_and,Bool.and_false,ah,aP,n12,n13,n14,n23,n24,n34,set_flip n12,set_flip n13,set_flip n14,set_flip n23,set_flip n24,set_flip n34,set_twice]
            first | refine CallK.p (hpr) ?_ | refine CallP.i (hpr) ?_
            simp (disch := omega) only [↓aI,aD,aG,ixA,aX,aV,ag,aT,ae,mkA,ab,bnd,aS,aH,aK,cvO,aJ,aY,↓aO,aW,aE,aF,aM,aA,aC,aB,aN,ad,frz,aR,Nat.reduceBEq,Nat.reduceLT,reduceCtorEq,↓reduceIte,aL,AV.cellsOf,AV.fine,AV.one,aQ,Nat.reduceMul,Nat.reduceAdd,Nat.reduceLeDiff,Nat.reduceEqDiff,Int.reduceToNat,Nat.reduceSub,Nat.reduceMod,Nat.reduceDiv,indexK.aggOf,Int.reducePow,Int.reduceLE,Int.reduceNeg,Int.reduceLT,Int.reduceBEq,Int.reduceBNe,Int.reduceEq,aZ,aU,Try.facts,dT,dF,qT,qF,nT,nF,Bool.false_and,Bool.and_false,ah,aP,n12,n13,n14,n23,n24,n34,set_flip n12,set_flip n13,set_flip n14,set_flip n23,set_flip n24,set_flip n34,set_twice]
            refine eI (fun σ F => F = (((H.set b1 (.cells [.imm 0 (bw r1) r1.length,.sc (.int .i64 5)] 67 2)).set b2 (.cells [.imm 0 (bw r1) r1.length,.sc (.int .i64 5)] 67 2)).set b3 (.cells (opC ⟨kd,cj,(0,0),cF⟩) 84 19)).set b4 (.cells (opC ⟨kd,cj,(0,0),cF⟩) 84 19) ∧ σ 2 = .ptr b2 0 ∧ σ 3 = .ptr b3 0) ?_ ?_
            · simp (disch := omega) only [↓aI,aD,aG,ixA,aX,aV,ag,aT,ae,mkA,ab,bnd,aS,aH,aK,cvO,aJ,aY,↓aO,aW,aE,aF,aM,aA,aC,aB,aN,ad,frz,aR,Nat.reduceBEq,Nat.reduceLT,reduceCtorEq,↓reduceIte,aL,AV.cellsOf,AV.fine,AV.one,aQ,Nat.reduceMul,Nat.reduceAdd,Nat.reduceLeDiff,Nat.reduceEqDiff,Int.reduceToNat,Nat.reduceSub,Nat.reduceMod,Nat.reduceDiv,indexK.aggOf,Int.reducePow,Int.reduceLE,Int.reduceNeg,Int.reduceLT,Int.reduceBEq,Int.reduceBNe,Int.reduceEq,aZ,aU,Try.facts,opC,cj,cF,dT,dF,qT,qF,nT,nF,Bool.false_and,Bool.and_false,ah,aP,n12,n13,n14,n23,n24,n34,set_flip n12,set_flip n13,set_flip n14,set_flip n23,set_flip n24,set_flip n34,set_twice]
            · rintro σ F ⟨rfl,s2,s3⟩
              simp only [opC,cj,cF]
              simp (disch := omega) only [↓aI,aD,aG,ixA,aX,aV,ag,aT,ae,mkA,ab,bnd,aS,aH,aK,cvO,aJ,aY,↓aO,aW,aE,aF,aM,aA,aC,aB,aN,ad,frz,aR,Nat.reduceBEq,Nat.reduceLT,reduceCtorEq,↓reduceIte,aL,AV.cellsOf,AV.fine,AV.one,aQ,Nat.reduceMul,Nat.reduceAdd,Nat.reduceLeDiff,Nat.reduceEqDiff,Int.reduceToNat,Nat.reduceSub,Nat.reduceMod,Nat.reduceDiv,indexK.aggOf,Int.reducePow,Int.reduceLE,Int.reduceNeg,Int.reduceLT,Int.reduceBEq,Int.reduceBNe,Int.reduceEq,aZ,aU,Try.facts,s2,s3,dT,dF,qT,qF,nT,nF,Bool.false_and,Bool.and_false,ah,aP,n12,n13,n14,n23,n24,n34,set_flip n12,set_flip n13,set_flip n14,set_flip n23,set_flip n24,set_flip n34,set_twice]
              exact hsub _ _ _ _
          · rw [if_neg (by simp)] at hR
            subst hR
            simp (disch := omega) only [↓aI,aD,aG,ixA,aX,aV,ag,aT,ae,mkA,ab,bnd,aS,aH,aK,cvO,aJ,aY,↓aO,aW,aE,aF,aM,aA,aC,aB,aN,ad,frz,aR,Nat.reduceBEq,Nat.reduceLT,reduceCtorEq,↓reduceIte,aL,AV.cellsOf,AV.fine,AV.one,aQ,Nat.reduceMul,Nat.reduceAdd,Nat.reduceLeDiff,Nat.reduceEqDiff,Int.reduceToNat,Nat.reduceSub,Nat.reduceMod,Nat.reduceDiv,indexK.aggOf,Int.reducePow,Int.reduceLE,Int.reduceNeg,Int.reduceLT,Int.reduceBEq,Int.reduceBNe,Int.reduceEq,aZ,aU,Try.facts,dT,dF,qT,qF,nT,nF,Bool.false_and,Bool.and_false,ah,aP,n12,n13,n14,n23,n24,n34,set_flip n12,set_flip n13,set_flip n14,set_flip n23,set_flip n24,set_flip n34,set_twice]
            first | refine CallK.p (hpr) ?_ | refine CallP.i (hpr) ?_
            simp (disch := omega) only [↓aI,aD,aG,ixA,aX,aV,ag,aT,ae,mkA,ab,bnd,aS,aH,aK,cvO,aJ,aY,↓aO,aW,aE,aF,aM,aA,aC,aB,aN,ad,frz,aR,Nat.reduceBEq,Nat.reduceLT,reduceCtorEq,↓reduceIte,aL,AV.cellsOf,AV.fine,AV.one,aQ,Nat.reduceMul,Nat.reduceAdd,Nat.reduceLeDiff,Nat.reduceEqDiff,Int.reduceToNat,Nat.reduceSub,Nat.reduceMod,Nat.reduceDiv,indexK.aggOf,Int.reducePow,Int.reduceLE,Int.reduceNeg,Int.reduceLT,Int.reduceBEq,Int.reduceBNe,Int.reduceEq,aZ,aU,Try.facts,dT,dF,qT,qF,nT,nF,Bool.false_and,Bool.and_false,ah,aP,n12,n13,n14,n23,n24,n34,set_flip n12,set_flip n13,set_flip n14,set_flip n23,set_flip n24,set_flip n34,set_twice]
            refine eI (fun σ F => F = (((H.set b1 (.cells [.imm 0 (bw r1) r1.length,.sc (.int .i64 0)] 67 2)).set b2 (.cells [.imm 0 (bw r1) r1.length,.sc (.int .i64 0)] 67 2)).set b3 (.cells (opC ⟨kd,cj,(0,0),cF⟩) 84 19)).set b4 (.cells (opC ⟨kd,cj,(0,0),cF⟩) 84 19) ∧ σ 2 = .ptr b2 0 ∧ σ 3 = .ptr b3 0) ?_ ?_
            · simp (disch := omega) only [↓aI,aD,aG,ixA,aX,aV,ag,aT,ae,mkA,ab,bnd,aS,aH,aK,cvO,aJ,aY,↓aO,aW,aE,aF,aM,aA,aC,aB,aN,ad,frz,aR,Nat.reduceBEq,Nat.reduceLT,reduceCtorEq,↓reduceIte,aL,AV.cellsOf,AV.fine,AV.one,aQ,Nat.reduceMul,Nat.reduceAdd,Nat.reduceLeDiff,Nat.reduceEqDiff,Int.reduceToNat,Nat.reduceSub,Nat.reduceMod,Nat.reduceDiv,indexK.aggOf,Int.reducePow,Int.reduceLE,Int.reduceNeg,Int.reduceLT,Int.reduceBEq,Int.reduceBNe,Int.reduceEq,aZ,aU,Try.facts,opC,cj,cF,dT,dF,qT,qF,nT,nF,Bool.false_and,Bool.and_false,ah,aP,n12,n13,n14,n23,n24,n34,set_flip n12,set_flip n13,set_flip n14,set_flip n23,set_flip n24,set_flip n34,set_twice]
            · rintro σ F ⟨rfl,s2,s3⟩
              simp only [opC,cj,cF]
              simp (disch := omega) only [↓aI,aD,aG,ixA,aX,aV,ag,aT,ae,mkA,ab,bnd,aS,aH,aK,cvO,aJ,aY,↓aO,aW,aE,aF,aM,aA,aC,aB,aN,ad,frz,aR,Nat.reduceBEq,Nat.reduceLT,reduceCtorEq,↓reduceIte,aL,AV.cellsOf,AV.fine,AV.one,aQ,Nat.reduceMul,Nat.reduceAdd,Nat.reduceLeDiff,Nat.reduceEqDiff,Int.reduceToNat,Nat.reduceSub,Nat.reduceMod,Nat.reduceDiv,indexK.aggOf,Int.reducePow,Int.reduceLE,Int.reduceNeg,Int.reduceLT,Int.reduceBEq,Int.reduceBNe,Int.reduceEq,aZ,aU,Try.facts,s2,s3,dT,dF,qT,qF,nT,nF,Bool.false_and,Bool.and_false,ah,aP,n12,n13,n14,n23,n24,n34,set_flip n12,set_flip n13,set_flip n14,set_flip n23,set_flip n24,set_flip n34,set_twice]
              exact hsub _ _ _ _
        · have hR2 : R = ((r1, e1), ⟨kd, cj, (0, 0), cF⟩) := by
            rw [hR]
            cases ob
            · rw [if_pos rfl,if_neg e0]
            · rw [if_neg (by simp)]
          clear hR
          subst hR2
          simp (disch := omega) only [↓aI,aD,aG,ixA,aX,aV,ag,aT,ae,mkA,ab,bnd,aS,aH,aK,cvO,aJ,aY,↓aO,aW,aE,aF,aM,aA,aC,aB,aN,ad,frz,aR,Nat.reduceBEq,Nat.reduceLT,reduceCtorEq,↓reduceIte,aL,AV.cellsOf,AV.fine,AV.one,aQ,Nat.reduceMul,Nat.reduceAdd,Nat.reduceLeDiff,Nat.reduceEqDiff,Int.reduceToNat,Nat.reduceSub,Nat.reduceMod,Nat.reduceDiv,indexK.aggOf,Int.reducePow,Int.reduceLE,Int.reduceNeg,Int.reduceLT,Int.reduceBEq,Int.reduceBNe,Int.reduceEq,aZ,aU,Try.facts,dT,dF,qT,qF,nT,nF,Bool.false_and,Bool.and_false,ah,aP,n12,n13,n14,n23,n24,n34,set_flip n12,set_flip n13,set_flip n14,set_flip n23,set_flip n24,set_flip n34,set_twice]
          refine eI (fun σ F => F = (((H.set b1 (.cells [.imm 0 (bw r1) r1.length,.sc (.int .i64 e1)] 67 2)).set b2 (.cells [.imm 0 (bw r1) r1.length,.sc (.int .i64 e1)] 67 2)).set b3 (.cells (opC ⟨kd,cj,(0,0),cF⟩) 84 19)).set b4 (.cells (opC ⟨kd,cj,(0,0),cF⟩) 84 19) ∧ σ 2 = .ptr b2 0 ∧ σ 3 = .ptr b3 0) ?_ ?_
          · simp (disch := omega) only [↓aI,aD,aG,ixA,aX,aV,ag,aT,ae,mkA,ab,bnd,aS,aH,aK,cvO,aJ,aY,↓aO,aW,aE,aF,aM,aA,aC,aB,aN,ad,frz,aR,Nat.reduceBEq,Nat.reduceLT,reduceCtorEq,↓reduceIte,aL,AV.cellsOf,AV.fine,AV.one,aQ,Nat.reduceMul,Nat.reduceAdd,Nat.reduceLeDiff,Nat.reduceEqDiff,Int.reduceToNat,Nat.reduceSub,Nat.reduceMod,Nat.reduceDiv,indexK.aggOf,Int.reducePow,Int.reduceLE,Int.reduceNeg,Int.reduceLT,Int.reduceBEq,Int.reduceBNe,Int.reduceEq,aZ,aU,Try.facts,opC,cj,cF,dT,dF,qT,qF,nT,nF,Bool.false_and,Bool.and_false,ah,aP,n12,n13,n14,n23,n24,n34,set_flip n12,set_flip n13,set_flip n14,set_flip n23,set_flip n24,set_flip n34,set_twice]
          · rintro σ F ⟨rfl,s2,s3⟩
            simp only [opC,cj,cF]
            simp (disch := omega) only [↓aI,aD,aG,ixA,aX,aV,ag,aT,ae,mkA,ab,bnd,aS,aH,aK,cvO,aJ,aY,↓aO,aW,aE,aF,aM,aA,aC,aB,aN,ad,frz,aR,Nat.reduceBEq,Nat.reduceLT,reduceCtorEq,↓reduceIte,aL,AV.cellsOf,AV.fine,AV.one,aQ,Nat.reduceMul,Nat.reduceAdd,Nat.reduceLeDiff,Nat.reduceEqDiff,Int.reduceToNat,Nat.reduceSub,Nat.reduceMod,Nat.reduceDiv,indexK.aggOf,Int.reducePow,Int.reduceLE,Int.reduceNeg,Int.reduceLT,Int.reduceBEq,Int.reduceBNe,Int.reduceEq,aZ,aU,Try.facts,s2,s3,dT,dF,qT,qF,nT,nF,Bool.false_and,Bool.and_false,ah,aP,n12,n13,n14,n23,n24,n34,set_flip n12,set_flip n13,set_flip n14,set_flip n23,set_flip n24,set_flip n34,set_twice]
            exact hsub _ _ _ _
end Go.Proofs.Ytimonfakmadhpaa
end
section
set_option linter.unusedSimpArgs false
set_option linter.unusedVariables false
set_option maxRecDepth 8000
set_option maxHeartbeats 4000000
namespace Go.Proofs.Ytimonfakmadhpaa
open Go Go.Abs Go.Proofs Go.Fug
theorem rGet_pure (s : RS) (most : Int) (hl : s.1.length ≤ 2000000) : APure Try.prog 34 [rsV s,.sc (.int .i64 most)] (.tup [rsV (rdGet s most).1,opsV (rdGet s most).2]) := by
  have h1 := rrnum_pure s 0 most hl
  have htk := fun s h => rtake_pure s h
  have hrg := rdNum_rng s 0 most
  have l1 := Nat.le_trans (rdNum_sh s 0 most).le hl
  unfold rdGet
  have hn0 : (rdNum s 0 most).2 ≤ 1099511627776 := by
    unfold rdNum
    split
    · split
      · split
        · simp
        · rename_i h _
          exact Int.ofNat_le.2 (vr_le 6 0 0 s.1 h).1
      · simp
    · simp
  have he0 : (rdNum s 0 most).1.2 ≠ 0 → (rdNum s 0 most).2 = 0 := by
    unfold rdNum
    split
    · split
      · split
        · simp
        · simp
      · simp
    · simp
  generalize rdNum s 0 most = A at *
  obtain ⟨⟨r1,e1⟩,z⟩ := A
  obtain ⟨rest,e⟩ := s
  simp only at h1 hrg hn0 l1 he0 ⊢
  obtain ⟨n,rfl⟩ : ∃ n : Nat,z = n := ⟨z.toNat,by omega⟩
  rw [show ((n : Int)).toNat = n by omega]
  generalize hR : rdL n (r1,e1) = R at *
  refine az (c := ⟨Try.prog,43,[(1000006,[10,9])],[],[]⟩) (rs := [ResultVar.cell 4 67,ResultVar.tmp 5]) Try.mixed Try.func34 rfl rfl rfl (Nat.le_of_ble_eq_true rfl) (by kernel_rfl) fun H => ?_
  simp (disch := omega) only [↓aI,aD,aG,ixA,aX,aV,ag,aT,ae,mkA,ab,bnd,aS,aH,aK,cvO,aJ,aY,↓aO,aW,aE,aF,aM,aA,aC,aB,aN,ad,frz,aR,Nat.reduceBEq,Nat.reduceLT,reduceCtorEq,↓reduceIte,aL,AV.cellsOf,AV.fine,AV.one,aQ,Nat.reduceMul,Nat.reduceAdd,Nat.reduceLeDiff,Nat.reduceEqDiff,Int.reduceToNat,Nat.reduceSub,Nat.reduceMod,Nat.reduceDiv,indexK.aggOf,Int.reducePow,Int.reduceLE,Int.reduceNeg,Int.reduceLT,Int.reduceBEq,Int.reduceBNe,Int.reduceEq,aZ,aU,Try.facts]
  intro b2 hb20 hb2 b4 hb40 hb4
  have n24 := bK hb4
  have f4 := am hb4
  simp (disch := omega) only [↓aI,aD,aG,ixA,aX,aV,ag,aT,ae,mkA,ab,bnd,aS,aH,aK,cvO,aJ,aY,↓aO,aW,aE,aF,aM,aA,aC,aB,aN,ad,frz,aR,Nat.reduceBEq,Nat.reduceLT,reduceCtorEq,↓reduceIte,aL,AV.cellsOf,AV.fine,AV.one,aQ,Nat.reduceMul,Nat.reduceAdd,Nat.reduceLeDiff,Nat.reduceEqDiff,Int.reduceToNat,Nat.reduceSub,Nat.reduceMod,Nat.reduceDiv,indexK.aggOf,Int.reducePow,Int.reduceLE,Int.reduceNeg,Int.reduceLT,Int.reduceBEq,Int.reduceBNe,Int.reduceEq,aZ,aU,Try.facts,aP,n24,set_flip n24,set_twice,ah]
  first | refine CallK.p (h1) ?_ | refine CallP.i (h1) ?_
  simp (disch := omega) only [↓aI,aD,aG,ixA,aX,aV,ag,aT,ae,mkA,ab,bnd,aS,aH,aK,cvO,aJ,aY,↓aO,aW,aE,aF,aM,aA,aC,aB,aN,ad,frz,aR,Nat.reduceBEq,Nat.reduceLT,reduceCtorEq,↓reduceIte,aL,AV.cellsOf,AV.fine,AV.one,aQ,Nat.reduceMul,Nat.reduceAdd,Nat.reduceLeDiff,Nat.reduceEqDiff,Int.reduceToNat,Nat.reduceSub,Nat.reduceMod,Nat.reduceDiv,indexK.aggOf,Int.reducePow,Int.reduceLE,Int.reduceNeg,Int.reduceLT,Int.reduceBEq,Int.reduceBNe,Int.reduceEq,aZ,aU,Try.facts,aP,n24,set_flip n24,set_twice,ah]
  refine tok_t 7 (by simp (disch := omega) only [↓aI,aD,aG,ixA,aX,aV,ag,aT,ae,mkA,ab,bnd,aS,aH,aK,cvO,aJ,aY,↓aO,aW,aE,aF,aM,aA,aC,aB,aN,ad,frz,aR,Nat.reduceBEq,Nat.reduceLT,reduceCtorEq,↓reduceIte,aL,AV.cellsOf,AV.fine,AV.one,aQ,Nat.reduceMul,Nat.reduceAdd,Nat.reduceLeDiff,Nat.reduceEqDiff,Int.reduceToNat,Nat.reduceSub,Nat.reduceMod,Nat.reduceDiv,indexK.aggOf,Int.reducePow,Int.reduceLE,Int.reduceNeg,Int.reduceLT,Int.reduceBEq,Int.reduceBNe,Int.reduceEq,aZ,aU,Try.facts]) fun kf hkf0 hkf => ?_
  have n4k := bK hkf
  have n2k := bK (am hkf)
  have fk := am (am hkf)
  refine br (c := ⟨Try.prog,43,[(1000006,[10,9])],[],[]⟩) Try.mixed (by kernel_rfl) (fun mm σ H' => ∃ (i : Nat) (rc : List UInt8) (ec : Int) (O : List Opn) (kf : Nat) (o : AObj),i + mm = n ∧ O.length = i ∧ O.length ≤ 2000001 ∧ rc.length ≤ 2000000 ∧
    (ec = 0 → O.length + rc.length ≤ 2000000 ∧ R.1 = (rdL mm (rc,ec)).1 ∧ R.2 = (if (rdL mm (rc,ec)).1.2 = 0 then O ++ (rdL mm (rc,ec)).2 else [])) ∧ (ec ≠ 0 → R = ((rc,ec),[])) ∧
    kf ≠ 0 ∧ H kf = none ∧ ¬ b2 = kf ∧ ¬ b4 = kf ∧ H' kf = some o ∧ cy 84 19 o (O.length * 19) ∧ H' b2 = some (.cells [.imm 0 (bw rc) rc.length,.sc (.int .i64 ec)] 67 2) ∧ H' b4 = some (.cells [.sc (.slice none 0 0),.sc (.int .i64 0)] 67 2) ∧ Abs.Sub H H' ∧
    σ 2 = .ptr b2 0 ∧ σ 4 = .ptr b4 0 ∧ σ 6 = .sc (.int .i64 (n : Nat)) ∧ σ 7 = .imm kf (dL O) O.length ∧ σ 8 = .sc (.int .i64 (i : Nat))) n ?_ ?_
  · refine ⟨0,r1,e1,[],kf,.nilt,by omega,rfl,by simp,l1,?_,?_,hkf0,fk,n2k,n4k,set_get,.inr ⟨rfl,rfl⟩,by rw [aP n2k,aP n24,set_get],by rw [aP n4k,set_get],((Sub.set_new hb2).set_free f4).set_free fk,?_⟩
    · rintro rfl
      rw [hR]
      refine ⟨by simpa using l1,rfl,?_⟩
      have := rdL_err n (r1,0)
      rw [hR] at this
      by_cases h : R.1.2 = 0
      · rw [if_pos h,List.nil_append]
      · rw [if_neg h]; exact this h
    · intro h
      have : n = 0 := by have := he0 h; omega
      subst this
      exact hR.symm
    · simp (disch := omega) only [↓aI,aD,aG,ixA,aX,aV,ag,aT,ae,mkA,ab,bnd,aS,aH,aK,cvO,aJ,aY,↓aO,aW,aE,aF,aM,aA,aC,aB,aN,ad,frz,aR,Nat.reduceBEq,Nat.reduceLT,reduceCtorEq,↓reduceIte,aL,AV.cellsOf,AV.fine,AV.one,aQ,Nat.reduceMul,Nat.reduceAdd,Nat.reduceLeDiff,Nat.reduceEqDiff,Int.reduceToNat,Nat.reduceSub,Nat.reduceMod,Nat.reduceDiv,indexK.aggOf,Int.reducePow,Int.reduceLE,Int.reduceNeg,Int.reduceLT,Int.reduceBEq,Int.reduceBNe,Int.reduceEq,aZ,aU,Try.facts]
      rfl
  · clear hkf hkf0 kf n4k n2k fk
    rintro mm σ H' ⟨i,rc,ec,O,kf,o,him,hOi,hOl,hrl,hok,herr,hkf0,hkf,n2k,n4k,vk,ho,v2,v4,hs,s2,s4,s6,s7,s8⟩
    have hOc := cq O
    by_cases c1 : i < n ∧ ec = 0
    · obtain ⟨hlt,rfl⟩ := c1
      obtain ⟨m,rfl⟩ : ∃ m,mm = m + 1 := ⟨mm - 1,by omega⟩
      obtain ⟨hO2,hR1,hR2⟩ := hok rfl
      have ht := htk (rc,0) hrl
      have hsh := rdOp_sh (rc,0)
      have hrl' : rdL (m + 1) (rc,0) = if (rdOp (rc,0)).1.2 = 0 then ((rdL m (rdOp (rc,0)).1).1,if (rdL m (rdOp (rc,0)).1).1.2 = 0 then (rdOp (rc,0)).2 :: (rdL m (rdOp (rc,0)).1).2 else []) else ((rdOp (rc,0)).1,[]) := rfl
      rw [hrl'] at hR1 hR2
      generalize rdOp (rc,0) = X at *
      obtain ⟨⟨r2,e2⟩,q⟩ := X
      simp only at ht hsh hR1 hR2
      have hsn := opsC_snoc O q
      have hO1 : (O ++ [q]).length = O.length + 1 := by simp
      have hsl := cq (O ++ [q])
      generalize hO2' : O ++ [q] = O2 at *
      obtain ⟨kd,⟨⟨a,c⟩,⟨pa,pc⟩,ri,ru⟩,⟨x,y⟩,⟨mc,ma,⟨g1,g2⟩,fb,⟨t1,t2⟩,tb,nm,vl⟩⟩ := q
      simp only [opC] at ht hsn
      simp (disch := omega) only [↓aI,aD,aG,ixA,aX,aV,ag,aT,ae,mkA,ab,bnd,aS,aH,aK,cvO,aJ,aY,↓aO,aW,aE,aF,aM,aA,aC,aB,aN,ad,frz,aR,Nat.reduceBEq,Nat.reduceLT,reduceCtorEq,↓reduceIte,aL,AV.cellsOf,AV.fine,AV.one,aQ,Nat.reduceMul,Nat.reduceAdd,Nat.reduceLeDiff,Nat.reduceEqDiff,Int.reduceToNat,Nat.reduceSub,Nat.reduceMod,Nat.reduceDiv,indexK.aggOf,Int.reducePow,Int.reduceLE,Int.reduceNeg,Int.reduceLT,Int.reduceBEq,Int.reduceBNe,Int.reduceEq,aZ,aU,Try.facts,s2,s4,s6,s7,s8,dT,dF,qT,qF,nT,nF,Bool.false_and,Bool.and_false,v2]
      first | refine CallK.p (ht) ?_ | refine CallP.i (ht) ?_
      simp (disch := omega) only [↓aI,aD,aG,ixA,aX,aV,ag,aT,ae,mkA,ab,bnd,aS,aH,aK,cvO,aJ,aY,↓aO,aW,aE,aF,aM,aA,aC,aB,aN,ad,frz,aR,Nat.reduceBEq,Nat.reduceLT,reduceCtorEq,↓reduceIte,aL,AV.cellsOf,AV.fine,AV.one,aQ,Nat.reduceMul,Nat.reduceAdd,Nat.reduceLeDiff,Nat.reduceEqDiff,Int.reduceToNat,Nat.reduceSub,Nat.reduceMod,Nat.reduceDiv,indexK.aggOf,Int.reducePow,Int.reduceLE,Int.reduceNeg,Int.reduceLT,Int.reduceBEq,Int.reduceBNe,Int.reduceEq,aZ,aU,Try.facts,s2,s4,s6,s7,s8,dT,dF,qT,qF,nT,nF,Bool.false_and,Bool.and_false,v2,ah]
      intro b9 hb90 hb9 b10 hb100 hb10
      have n910 := bK hb10
      have f10 := am hb10
      have k10 := fun X Y => aj (H := H'.set b9 X) (o := Y) (k := b10) (by rw [aP (fun e => n910 e.symm)]; exact f10)
      have k9 := fun X => aj (o := X) hb9
      have nk2 : ¬ kf = b2 := fun e => n2k e.symm
      simp (disch := omega) only [↓aI,aD,aG,ixA,aX,aV,ag,aT,ae,mkA,ab,bnd,aS,aH,aK,cvO,aJ,aY,↓aO,aW,aE,aF,aM,aA,aC,aB,aN,ad,frz,aR,Nat.reduceBEq,Nat.reduceLT,reduceCtorEq,↓reduceIte,aL,AV.cellsOf,AV.fine,AV.one,aQ,Nat.reduceMul,Nat.reduceAdd,Nat.reduceLeDiff,Nat.reduceEqDiff,Int.reduceToNat,Nat.reduceSub,Nat.reduceMod,Nat.reduceDiv,indexK.aggOf,Int.reducePow,Int.reduceLE,Int.reduceNeg,Int.reduceLT,Int.reduceBEq,Int.reduceBNe,Int.reduceEq,aZ,aU,Try.facts,s2,s4,s6,s7,s8,dT,dF,qT,qF,nT,nF,Bool.false_and,Bool.and_false,v2,aP,n910,set_flip n910,set_twice,k10,k9,ah,nk2,vk,ho,hOc,hsn]
      intro k3 o3 hk30 hk3 ho3
      have h3f := hs.free (am hk3)
      have n23 := bK hk3
      have n43 := bA v4 (am hk3)
      have hle := hsh.le
      simp only at hle
      rw [hsl,hO1] at ho3
      refine ⟨m,by omega,i + 1,r2,e2,O2,k3,o3,by omega,by omega,by omega,by omega,?_,?_,hk30,h3f,n23,n43,set_get,by rw [hO1]; exact ho3,by rw [aP n23,bZ n2k,set_get],by rw [aP n43,bZ n4k,aP (fun e => n24 e.symm),v4],((hs.set_free hb2).kill_free hkf).set_free h3f,by rw [hO1],rfl⟩
      · rintro rfl
        rw [if_pos rfl] at hR1 hR2
        have hlt2 := (hsh.lt rfl).2
        simp only at hlt2
        refine ⟨by omega,hR1,?_⟩
        rw [hR2]
        show (if (rdL m (r2,0)).1.2 = 0 then O ++ (if (rdL m (r2,0)).1.2 = 0 then _ else _) else _) = _
        by_cases h : (rdL m (r2,0)).1.2 = 0
        · rw [if_pos h,if_pos h,if_pos h,← hO2',List.append_assoc]
          rfl
        · rw [if_neg h,if_neg h]
      · intro h
        rw [if_neg h] at hR1 hR2
        simp only at hR1 hR2
        rw [if_neg h] at hR2
        exact Prod.ext hR1 hR2
    · by_cases c2 : ec = 0
      · subst c2
        obtain ⟨hO2,hR1,hR2⟩ := hok rfl
        have hin : ¬ i < n := fun h => c1 ⟨h,rfl⟩
        obtain rfl : mm = 0 := by omega
        simp only [rdL,if_true,List.append_nil] at hR1 hR2
        have hRO : R = ((rc,0),O) := Prod.ext hR1 hR2
        subst hRO
        simp (disch := omega) only [↓aI,aD,aG,ixA,aX,aV,ag,aT,ae,mkA,ab,bnd,aS,aH,aK,cvO,aJ,aY,↓aO,aW,aE,aF,aM,aA,aC,aB,aN,ad,frz,aR,Nat.reduceBEq,Nat.reduceLT,reduceCtorEq,↓reduceIte,aL,AV.cellsOf,AV.fine,AV.one,aQ,Nat.reduceMul,Nat.reduceAdd,Nat.reduceLeDiff,Nat.reduceEqDiff,Int.reduceToNat,Nat.reduceSub,Nat.reduceMod,Nat.reduceDiv,indexK.aggOf,Int.reducePow,Int.reduceLE,Int.reduceNeg,Int.reduceLT,Int.reduceBEq,Int.reduceBNe,Int.reduceEq,aZ,aU,Try.facts,s2,s4,s6,s7,s8,dT,dF,qT,qF,nT,nF,Bool.false_and,Bool.and_false,v2,v4,ah]
        exact hs.set_free f4
      · have hRO := herr c2
        subst hRO
        by_cases hin : i < n
        all_goals
          simp (disch := omega) only [↓aI,aD,aG,ixA,aX,aV,ag,aT,ae,mkA,ab,bnd,aS,aH,aK,cvO,aJ,aY,↓aO,aW,aE,aF,aM,aA,aC,aB,aN,ad,frz,aR,Nat.reduceBEq,Nat.reduceLT,reduceCtorEq,↓reduceIte,aL,AV.cellsOf,AV.fine,AV.one,aQ,Nat.reduceMul,Nat.reduceAdd,Nat.reduceLeDiff,Nat.reduceEqDiff,Int.reduceToNat,Nat.reduceSub,Nat.reduceMod,Nat.reduceDiv,indexK.aggOf,Int.reducePow,Int.reduceLE,Int.reduceNeg,Int.reduceLT,Int.reduceBEq,Int.reduceBNe,Int.reduceEq,aZ,aU,Try.facts,s2,s4,s6,s7,s8,dT,dF,qT,qF,nT,nF,Bool.false_and,Bool.and_false,v2,v4,ah]
          exact ⟨rfl,hs.set_free f4⟩
theorem same_pure (l m : List Opn) (hl : l.length ≤ 3000000) (hm : m.length ≤ 3000000) : APure Try.prog 38 [opsV l,opsV m] (.sc (.bool (decide (l = m)))) := by
  have hlc := cq l
  have hmc := cq m
  generalize hB : decide (l = m) = B
  refine az (c := ⟨Try.prog,26,[(6,[0,0,0,1,0,0,0,1,0])],[],[]⟩) (rs := [ResultVar.tmp 4]) Try.mixed Try.func38 rfl rfl rfl (Nat.le_of_ble_eq_true rfl) (by kernel_rfl) fun H => ?_
  by_cases hlen : l.length = m.length
  · simp (disch := omega) only [↓aI,aD,aG,ixA,aX,aV,ag,aT,ae,mkA,ab,bnd,aS,aH,aK,cvO,aJ,aY,↓aO,aW,aE,aF,aM,aA,aC,aB,aN,ad,frz,aR,Nat.reduceBEq,Nat.reduceLT,reduceCtorEq,↓reduceIte,aL,AV.cellsOf,AV.fine,AV.one,aQ,Nat.reduceMul,Nat.reduceAdd,Nat.reduceLeDiff,Nat.reduceEqDiff,Int.reduceToNat,Nat.reduceSub,Nat.reduceMod,Nat.reduceDiv,indexK.aggOf,Int.reducePow,Int.reduceLE,Int.reduceNeg,Int.reduceLT,Int.reduceBEq,Int.reduceBNe,Int.reduceEq,aZ,aU,Try.facts,dT,dF,qT,qF,nT,nF,Bool.false_and,Bool.and_false]
    refine br (c := ⟨Try.prog,26,[(6,[0,0,0,1,0,0,0,1,0])],[],[]⟩) Try.mixed (by kernel_rfl) (fun mm σ H' => H' = H ∧ ∃ i,i + mm = l.length ∧ l.take i = m.take i ∧ σ 0 = opsV l ∧ σ 1 = opsV m ∧ σ 5 = .sc (.int .i64 (i : Nat))) l.length ?_ ?_
    · refine ⟨rfl,0,by omega,by simp,?_⟩
      simp (disch := omega) only [↓aI,aD,aG,ixA,aX,aV,ag,aT,ae,mkA,ab,bnd,aS,aH,aK,cvO,aJ,aY,↓aO,aW,aE,aF,aM,aA,aC,aB,aN,ad,frz,aR,Nat.reduceBEq,Nat.reduceLT,reduceCtorEq,↓reduceIte,aL,AV.cellsOf,AV.fine,AV.one,aQ,Nat.reduceMul,Nat.reduceAdd,Nat.reduceLeDiff,Nat.reduceEqDiff,Int.reduceToNat,Nat.reduceSub,Nat.reduceMod,Nat.reduceDiv,indexK.aggOf,Int.reducePow,Int.reduceLE,Int.reduceNeg,Int.reduceLT,Int.reduceBEq,Int.reduceBNe,Int.reduceEq,aZ,aU,Try.facts]
    · rintro mm σ H' ⟨rfl,i,him,htk,s0,s1,s5⟩
      by_cases hlt : i < l.length
      · have hlt2 : i < m.length := by omega
        have hld := opsC_load hlt
        have hld2 := opsC_load hlt2
        have hle : i * 19 + 19 ≤ l.length * 19 := by omega
        have hle2 : i * 19 + 19 ≤ m.length * 19 := by omega
        have ht1 := List.take_succ_eq_append_getElem hlt
        have ht2 := List.take_succ_eq_append_getElem hlt2
        have hne : l[i] ≠ m[i] → l ≠ m := fun h e => h (by subst e; rfl)
        generalize l[i] = q at *
        generalize m[i] = w at *
        obtain ⟨kd,⟨⟨a,c⟩,⟨pa,pc⟩,ri,ru⟩,⟨x,y⟩,⟨mc,ma,⟨g1,g2⟩,fb,⟨t1,t2⟩,tb,nm,vl⟩⟩ := q
        obtain ⟨kd',⟨⟨a',c'⟩,⟨pa',pc'⟩,ri',ru'⟩,⟨x',y'⟩,⟨mc',ma',⟨g1',g2'⟩,fb',⟨t1',t2'⟩,tb',nm',vl'⟩⟩ := w
        simp only [opC] at hld hld2
        have he := eq_op kd kd' a a' c c' pa pa' pc pc' ri ri' ru ru' x x' y y' mc mc' ma ma' g1 g1' g2 g2' fb fb' t1 t1' t2 t2' tb tb' nm nm' vl vl'
        by_cases hq : (⟨kd,⟨(a,c),(pa,pc),ri,ru⟩,(x,y),⟨mc,ma,(g1,g2),fb,(t1,t2),tb,nm,vl⟩⟩ : Opn) = ⟨kd',⟨(a',c'),(pa',pc'),ri',ru'⟩,(x',y'),⟨mc',ma',(g1',g2'),fb',(t1',t2'),tb',nm',vl'⟩⟩
        · rw [decide_eq_true hq] at he
          simp (disch := omega) only [↓aI,aD,aG,ixA,aX,aV,ag,aT,ae,mkA,ab,bnd,aS,aH,aK,cvO,aJ,aY,↓aO,aW,aE,aF,aM,aA,aC,aB,aN,ad,frz,aR,Nat.reduceBEq,Nat.reduceLT,reduceCtorEq,↓reduceIte,aL,AV.cellsOf,AV.fine,AV.one,aQ,Nat.reduceMul,Nat.reduceAdd,Nat.reduceLeDiff,Nat.reduceEqDiff,Int.reduceToNat,Nat.reduceSub,Nat.reduceMod,Nat.reduceDiv,indexK.aggOf,Int.reducePow,Int.reduceLE,Int.reduceNeg,Int.reduceLT,Int.reduceBEq,Int.reduceBNe,Int.reduceEq,aZ,aU,Try.facts,s0,s1,s5,dT,dF,qT,qF,nT,nF,Bool.false_and,Bool.and_false,hld,hle,hlc,hld2,hle2,hmc,he]
          exact ⟨mm - 1,by omega,i + 1,by omega,by rw [ht1,ht2,htk,hq],rfl⟩
        · rw [decide_eq_false hq] at he
          have hB2 : B = false := by rw [← hB]; exact decide_eq_false (hne hq)
          subst hB2
          simp (disch := omega) only [↓aI,aD,aG,ixA,aX,aV,ag,aT,ae,mkA,ab,bnd,aS,aH,aK,cvO,aJ,aY,↓aO,aW,aE,aF,aM,aA,aC,aB,aN,ad,frz,aR,Nat.reduceBEq,Nat.reduceLT,reduceCtorEq,↓reduceIte,aL,AV.cellsOf,AV.fine,AV.one,aQ,Nat.reduceMul,Nat.reduceAdd,Nat.reduceLeDiff,Nat.reduceEqDiff,Int.reduceToNat,Nat.reduceSub,Nat.reduceMod,Nat.reduceDiv,indexK.aggOf,Int.reducePow,Int.reduceLE,Int.reduceNeg,Int.reduceLT,Int.reduceBEq,Int.reduceBNe,Int.reduceEq,aZ,aU,Try.facts,s0,s1,s5,dT,dF,qT,qF,nT,nF,Bool.false_and,Bool.and_false,hld,hle,hlc,hld2,hle2,hmc,he]
          exact Abs.Sub.refl _
      · obtain rfl : i = l.length := by omega
        rw [List.take_length,hlen,List.take_length] at htk
        have hB2 : B = true := by rw [← hB]; exact decide_eq_true htk
        subst hB2
        simp (disch := omega) only [↓aI,aD,aG,ixA,aX,aV,ag,aT,ae,mkA,ab,bnd,aS,aH,aK,cvO,aJ,aY,↓aO,aW,aE,aF,aM,aA,aC,aB,aN,ad,frz,aR,Nat.reduceBEq,Nat.reduceLT,reduceCtorEq,↓reduceIte,aL,AV.cellsOf,AV.fine,AV.one,aQ,Nat.reduceMul,Nat.reduceAdd,Nat.reduceLeDiff,Nat.reduceEqDiff,Int.reduceToNat,Nat.reduceSub,Nat.reduceMod,Nat.reduceDiv,indexK.aggOf,Int.reducePow,Int.reduceLE,Int.reduceNeg,Int.reduceLT,Int.reduceBEq,Int.reduceBNe,Int.reduceEq,aZ,aU,Try.facts,s0,s1,s5,dT,dF,qT,qF,nT,nF,Bool.false_and,Bool.and_false]
        exact Abs.Sub.refl _
  · have hB2 : B = false := by rw [← hB]; exact decide_eq_false (fun e => hlen (by rw [e]))
    subst hB2
    simp (disch := omega) only [↓aI,aD,aG,ixA,aX,aV,ag,aT,ae,mkA,ab,bnd,aS,aH,aK,cvO,aJ,aY,↓aO,aW,aE,aF,aM,aA,aC,aB,aN,ad,frz,aR,Nat.reduceBEq,Nat.reduceLT,reduceCtorEq,↓reduceIte,aL,AV.cellsOf,AV.fine,AV.one,aQ,Nat.reduceMul,Nat.reduceAdd,Nat.reduceLeDiff,Nat.reduceEqDiff,Int.reduceToNat,Nat.reduceSub,Nat.reduceMod,Nat.reduceDiv,indexK.aggOf,Int.reducePow,Int.reduceLE,Int.reduceNeg,Int.reduceLT,Int.reduceBEq,Int.reduceBNe,Int.reduceEq,aZ,aU,Try.facts,dT,dF,qT,qF,nT,nF,Bool.false_and,Bool.and_false]
    exact Abs.Sub.refl _
end Go.Proofs.Ytimonfakmadhpaa
end
section
set_option maxRecDepth 20000
namespace Go.Proofs.Ytimonfakmadhpaa
open Go Go.Abs Go.Proofs Go.Fug
abbrev IdX := Int × Int × Unit
abbrev InsX := IdX × IdX × Bool × Int × Unit
abbrev AncX := IdX × Bool × Unit
abbrev MkX := Int × Int × AncX × AncX × Int × Int × Unit
abbrev OpX := Int × InsX × IdX × MkX × Unit
abbrev idOf (x : IdX) : EId := (x.1,x.2.1)
abbrev insOf (x : InsX) : Ins := ⟨idOf x.1,idOf x.2.1,x.2.2.1,x.2.2.2.1⟩
abbrev mkOf (x : MkX) : Mk := ⟨x.1,x.2.1,idOf x.2.2.1.1,x.2.2.1.2.1,idOf x.2.2.2.1.1,x.2.2.2.1.2.1,x.2.2.2.2.1,x.2.2.2.2.2.1⟩
abbrev opOf (x : OpX) : Opn := ⟨x.1,insOf x.2.1,idOf x.2.2.1,mkOf x.2.2.2.1⟩
theorem op_enc (x : OpX) : Try.ty84.enc x = opC (opOf x) := by
  obtain ⟨k,⟨⟨a,c,⟨⟩⟩,⟨pa,pc,⟨⟩⟩,ri,ru,⟨⟩⟩,⟨d1,d2,⟨⟩⟩,⟨mc,ma,⟨⟨f1,f2,⟨⟩⟩,fb,⟨⟩⟩,⟨⟨t1,t2,⟨⟩⟩,tb,⟨⟩⟩,n,v,⟨⟩⟩,⟨⟩⟩ := x
  rfl
theorem ops_enc (l : List OpX) : l.flatMap Try.ty84.enc = dL (l.map opOf) := by
  induction l with
  | nil => rfl
  | cons x l ih =>
    rw [List.flatMap_cons,ih,op_enc]
    rfl
theorem enc_bytes (l : List UInt8) : Try.ty62.enc l = [bytesV l] := by
  show [AV.imm 0 (l.flatMap fun b => [.sc (.int .u8 b.toNat)]) l.length] = [.imm 0 (bw l) l.length]
  rw [flat_one]
  rfl
theorem size_bytes (l : List UInt8) : Try.ty62.size l = l.length + 1 := by
  show sumMap (fun _ => 1) l + 1 = l.length + 1
  rw [sum_one]
end Go.Proofs.Ytimonfakmadhpaa
end
