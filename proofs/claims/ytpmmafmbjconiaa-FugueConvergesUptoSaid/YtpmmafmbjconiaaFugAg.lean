/-
  The walks of the fugue layer: steps that are done till nothing more can be done.
  Conditions: none. Lemmas only.
-/
import Derived.Test.YtpmmafmbjconiaaFugO
set_option linter.all false
set_option linter.unusedSimpArgs false
set_option linter.unusedVariables false
set_option maxRecDepth 8000
set_option maxHeartbeats 4000000
namespace Go.Proofs.Ytpmmafmbjconiaa
open Go Go.Abs Go.Proofs Go.Fug
def runL (l : List DoT) (s : List Ins × List EId) : List Ins × List EId := l.foldl (fun s k => stepL k s) s
def rounds (l : List DoT) : Nat → List Ins × List EId
  | 0 => ([], [])
  | n + 1 => runL l (rounds l n)
theorem runL_take {l : List DoT} {j : Nat} (h : j < l.length) (s : List Ins × List EId) : runL (l.take (j + 1)) s = stepL l[j] (runL (l.take j) s) := by
  unfold runL
  rw [List.take_add_one, List.getElem?_eq_getElem h, List.foldl_append]
  rfl
theorem settled_live (H : AH) (l : List DoT) (hl : l.length ≤ 40) : ACalls Try.prog 23 [.imm 0 (dosC l) l.length] H fun v H' =>
    ∃ h m, v = .ptr h 0 ∧ H h = none ∧ H m = none ∧ Abs.Sub H H' ∧ IsT H' h m (rounds l (l.length + 1)).1 (rounds l (l.length + 1)).2 := by
  have hdl := dosC_length l
  have hl1 : ((l.length : Nat) : Int) + 1 = ((l.length + 1 : Nat) : Int) := rfl
  refine acalls_of_cwp (c := ⟨Try.prog, 32, [(1000006, [5])], [], []⟩) (rs := [ResultVar.tmp 2]) Try.mixed Try.func23 rfl rfl rfl (Nat.le_of_ble_eq_true rfl) (by kernel_rfl) ?_
  simp (disch := omega) only [↓runPre, runPost, fieldO, ixA, cutA, lenA, aggA, rowA, appA, mkA, indA, bnd, srcA, sameOp, funcA, cvO, partA, aggD, ↓PostP, resV, resAll, resOne, resVF, resAllF, resOneF, fitsAll, fitsR, fits, frz, Post, Nat.reduceBEq, Nat.reduceLT, reduceCtorEq, ↓reduceIte, initS, AV.cellsOf, AV.fine, AV.one, repA, Nat.reduceMul, Nat.reduceAdd, Nat.reduceLeDiff, Nat.reduceEqDiff, Int.reduceToNat, Nat.reduceSub, Nat.reduceMod, Nat.reduceDiv, indexK.aggOf, Int.reducePow, Int.reduceLE, Int.reduceNeg, Int.reduceLT, Int.reduceBEq, Int.reduceBNe, Int.reduceEq, ownA, nilA, Try.facts]
  refine CallK.i (new_live H) ?_
  rintro v H1 ⟨h, m, rfl, hh, hm, hs, t⟩
  simp (disch := omega) only [↓runPre, runPost, fieldO, ixA, cutA, lenA, aggA, rowA, appA, mkA, indA, bnd, srcA, sameOp, funcA, cvO, partA, aggD, ↓PostP, resV, resAll, resOne, resVF, resAllF, resOneF, fitsAll, fitsR, fits, frz, Post, Nat.reduceBEq, Nat.reduceLT, reduceCtorEq, ↓reduceIte, initS, AV.cellsOf, AV.fine, AV.one, repA, Nat.reduceMul, Nat.reduceAdd, Nat.reduceLeDiff, Nat.reduceEqDiff, Int.reduceToNat, Nat.reduceSub, Nat.reduceMod, Nat.reduceDiv, indexK.aggOf, Int.reducePow, Int.reduceLE, Int.reduceNeg, Int.reduceLT, Int.reduceBEq, Int.reduceBNe, Int.reduceEq, ownA, nilA, Try.facts, hl1]
  refine loop_t (c := ⟨Try.prog, 32, [(1000006, [5])], [], []⟩) Try.mixed (by kernel_rfl) (fun mm σ H' => ∃ (i : Nat), i + mm = l.length + 1 ∧ Abs.Sub H H' ∧ IsT H' h m (rounds l i).1 (rounds l i).2 ∧
    σ 0 = .imm 0 (dosC l) l.length ∧ σ 3 = .ptr h 0 ∧ σ 9 = .sc (.int .i64 ((l.length + 1 : Nat))) ∧ σ 10 = .sc (.int .i64 (i : Nat))) (l.length + 1) ?_ ?_
  · refine ⟨0, by omega, hs, t, ?_⟩
    simp (disch := omega) only [↓runPre, runPost, fieldO, ixA, cutA, lenA, aggA, rowA, appA, mkA, indA, bnd, srcA, sameOp, funcA, cvO, partA, aggD, ↓PostP, resV, resAll, resOne, resVF, resAllF, resOneF, fitsAll, fitsR, fits, frz, Post, Nat.reduceBEq, Nat.reduceLT, reduceCtorEq, ↓reduceIte, initS, AV.cellsOf, AV.fine, AV.one, repA, Nat.reduceMul, Nat.reduceAdd, Nat.reduceLeDiff, Nat.reduceEqDiff, Int.reduceToNat, Nat.reduceSub, Nat.reduceMod, Nat.reduceDiv, indexK.aggOf, Int.reducePow, Int.reduceLE, Int.reduceNeg, Int.reduceLT, Int.reduceBEq, Int.reduceBNe, Int.reduceEq, ownA, nilA, Try.facts]
    try rfl
  · clear hs t
    rintro mm σ H' ⟨i, him, hs, t, s0, s3, s9, s10⟩
    by_cases hlt : i < l.length + 1
    · have hi1 : ((i : Nat) : Int) + 1 = ((i + 1 : Nat) : Int) := rfl
      simp (disch := omega) only [↓runPre, runPost, fieldO, ixA, cutA, lenA, aggA, rowA, appA, mkA, indA, bnd, srcA, sameOp, funcA, cvO, partA, aggD, ↓PostP, resV, resAll, resOne, resVF, resAllF, resOneF, fitsAll, fitsR, fits, frz, Post, Nat.reduceBEq, Nat.reduceLT, reduceCtorEq, ↓reduceIte, initS, AV.cellsOf, AV.fine, AV.one, repA, Nat.reduceMul, Nat.reduceAdd, Nat.reduceLeDiff, Nat.reduceEqDiff, Int.reduceToNat, Nat.reduceSub, Nat.reduceMod, Nat.reduceDiv, indexK.aggOf, Int.reducePow, Int.reduceLE, Int.reduceNeg, Int.reduceLT, Int.reduceBEq, Int.reduceBNe, Int.reduceEq, ownA, nilA, Try.facts, s0, s3, s9, s10, dT, dF, qT, qF, nT, nF, Bool.false_and, Bool.and_false]
      refine loop_t (c := ⟨Try.prog, 32, [(1000006, [5])], [], []⟩) Try.mixed (by kernel_rfl) (fun mj σ H' => ∃ (j : Nat), j + mj = l.length ∧ Abs.Sub H H' ∧ IsT H' h m (runL (l.take j) (rounds l i)).1 (runL (l.take j) (rounds l i)).2 ∧
        σ 0 = .imm 0 (dosC l) l.length ∧ σ 3 = .ptr h 0 ∧ σ 9 = .sc (.int .i64 ((l.length + 1 : Nat))) ∧ σ 10 = .sc (.int .i64 (i : Nat)) ∧ σ 12 = .imm 0 (dosC l) l.length ∧ σ 13 = .sc (.int .i64 (l.length : Nat)) ∧ σ 14 = .sc (.int .i64 (j : Nat))) l.length ?_ ?_
      · refine ⟨0, by omega, hs, by simpa [runL] using t, ?_⟩
        simp (disch := omega) only [↓runPre, runPost, fieldO, ixA, cutA, lenA, aggA, rowA, appA, mkA, indA, bnd, srcA, sameOp, funcA, cvO, partA, aggD, ↓PostP, resV, resAll, resOne, resVF, resAllF, resOneF, fitsAll, fitsR, fits, frz, Post, Nat.reduceBEq, Nat.reduceLT, reduceCtorEq, ↓reduceIte, initS, AV.cellsOf, AV.fine, AV.one, repA, Nat.reduceMul, Nat.reduceAdd, Nat.reduceLeDiff, Nat.reduceEqDiff, Int.reduceToNat, Nat.reduceSub, Nat.reduceMod, Nat.reduceDiv, indexK.aggOf, Int.reducePow, Int.reduceLE, Int.reduceNeg, Int.reduceLT, Int.reduceBEq, Int.reduceBNe, Int.reduceEq, ownA, nilA, Try.facts, s0, s3, s9, s10]
        try rfl
      · clear hs t s0 s3 s9 s10
        rintro mj σ H' ⟨j, hjm, hs, t, s0, s3, s9, s10, s12, s13, s14⟩
        by_cases hlj : j < l.length
        · have hj1 : ((j : Nat) : Int) + 1 = ((j + 1 : Nat) : Int) := rfl
          have hld := dosC_load hlj
          have hle : j * 9 + 9 ≤ l.length * 9 := by omega
          have hrt := runL_take hlj (rounds l i)
          generalize l[j] = q at *
          generalize runL (l.take j) (rounds l i) = S at *
          obtain ⟨L, G⟩ := S
          obtain ⟨kd, ⟨⟨a, c⟩, ⟨pa, pc⟩, ri, ru⟩, ⟨x1, x2⟩⟩ := q
          simp only [doC, insC, List.cons_append, List.nil_append] at hld
          simp only [] at t
          by_cases hk : kd = 0
          · subst hk
            have hd := drop_live H' h m L G (x1, x2) t
            unfold DropR at hd
            have hst : stepL ⟨0, ⟨(a, c), (pa, pc), ri, ru⟩, (x1, x2)⟩ (L, G) = (L, (dropG L G (x1, x2)).1) := rfl
            rw [hst] at hrt
            generalize dropG L G (x1, x2) = R at *
            obtain ⟨G2, e⟩ := R
            simp only [] at hd hrt
            simp (disch := omega) only [↓runPre, runPost, fieldO, ixA, cutA, lenA, aggA, rowA, appA, mkA, indA, bnd, srcA, sameOp, funcA, cvO, partA, aggD, ↓PostP, resV, resAll, resOne, resVF, resAllF, resOneF, fitsAll, fitsR, fits, frz, Post, Nat.reduceBEq, Nat.reduceLT, reduceCtorEq, ↓reduceIte, initS, AV.cellsOf, AV.fine, AV.one, repA, Nat.reduceMul, Nat.reduceAdd, Nat.reduceLeDiff, Nat.reduceEqDiff, Int.reduceToNat, Nat.reduceSub, Nat.reduceMod, Nat.reduceDiv, indexK.aggOf, Int.reducePow, Int.reduceLE, Int.reduceNeg, Int.reduceLT, Int.reduceBEq, Int.reduceBNe, Int.reduceEq, ownA, nilA, Try.facts, s0, s3, s9, s10, s12, s13, s14, dT, dF, qT, qF, nT, nF, Bool.false_and, Bool.and_false, hld, hle, hdl, hj1]
            intro b1 hb10 hb1f
            simp (disch := omega) only [↓runPre, runPost, fieldO, ixA, cutA, lenA, aggA, rowA, appA, mkA, indA, bnd, srcA, sameOp, funcA, cvO, partA, aggD, ↓PostP, resV, resAll, resOne, resVF, resAllF, resOneF, fitsAll, fitsR, fits, frz, Post, Nat.reduceBEq, Nat.reduceLT, reduceCtorEq, ↓reduceIte, initS, AV.cellsOf, AV.fine, AV.one, repA, Nat.reduceMul, Nat.reduceAdd, Nat.reduceLeDiff, Nat.reduceEqDiff, Int.reduceToNat, Nat.reduceSub, Nat.reduceMod, Nat.reduceDiv, indexK.aggOf, Int.reducePow, Int.reduceLE, Int.reduceNeg, Int.reduceLT, Int.reduceBEq, Int.reduceBNe, Int.reduceEq, ownA, nilA, Try.facts, s0, s3, s9, s10, s12, s13, s14, dT, dF, qT, qF, nT, nF, Bool.false_and, Bool.and_false, hld, hle, hdl, hj1, kill_box hb1f, putCells_eq, beq_self_eq_true]
            refine CallK.i hd ?_
            rintro v H2 ⟨rfl, t2, fr⟩
            simp (disch := omega) only [↓runPre, runPost, fieldO, ixA, cutA, lenA, aggA, rowA, appA, mkA, indA, bnd, srcA, sameOp, funcA, cvO, partA, aggD, ↓PostP, resV, resAll, resOne, resVF, resAllF, resOneF, fitsAll, fitsR, fits, frz, Post, Nat.reduceBEq, Nat.reduceLT, reduceCtorEq, ↓reduceIte, initS, AV.cellsOf, AV.fine, AV.one, repA, Nat.reduceMul, Nat.reduceAdd, Nat.reduceLeDiff, Nat.reduceEqDiff, Int.reduceToNat, Nat.reduceSub, Nat.reduceMod, Nat.reduceDiv, indexK.aggOf, Int.reducePow, Int.reduceLE, Int.reduceNeg, Int.reduceLT, Int.reduceBEq, Int.reduceBNe, Int.reduceEq, ownA, nilA, Try.facts, s0, s3, s9, s10, s12, s13, s14, hj1]
            trace_state
            exact ⟨mj - 1, by omega, j + 1, by omega, keep hh hm hs fr, by rw [hrt]; exact t2, rfl⟩
          · have hd := add_live H' h m L G ⟨(a, c), (pa, pc), ri, ru⟩ t
            unfold AddR at hd
            have hst : stepL ⟨kd, ⟨(a, c), (pa, pc), ri, ru⟩, (x1, x2)⟩ (L, G) = ((addL L ⟨(a, c), (pa, pc), ri, ru⟩).1, G) := by unfold stepL; rw [if_neg hk]
            rw [hst] at hrt
            generalize addL L ⟨(a, c), (pa, pc), ri, ru⟩ = R at *
            obtain ⟨L2, e⟩ := R
            simp only [insC] at hd hrt
            simp (disch := omega) only [↓runPre, runPost, fieldO, ixA, cutA, lenA, aggA, rowA, appA, mkA, indA, bnd, srcA, sameOp, funcA, cvO, partA, aggD, ↓PostP, resV, resAll, resOne, resVF, resAllF, resOneF, fitsAll, fitsR, fits, frz, Post, Nat.reduceBEq, Nat.reduceLT, reduceCtorEq, ↓reduceIte, initS, AV.cellsOf, AV.fine, AV.one, repA, Nat.reduceMul, Nat.reduceAdd, Nat.reduceLeDiff, Nat.reduceEqDiff, Int.reduceToNat, Nat.reduceSub, Nat.reduceMod, Nat.reduceDiv, indexK.aggOf, Int.reducePow, Int.reduceLE, Int.reduceNeg, Int.reduceLT, Int.reduceBEq, Int.reduceBNe, Int.reduceEq, ownA, nilA, Try.facts, s0, s3, s9, s10, s12, s13, s14, dT, dF, qT, qF, nT, nF, Bool.false_and, Bool.and_false, hld, hle, hdl, hj1]
            intro b1 hb10 hb1f
            simp (disch := omega) only [↓runPre, runPost, fieldO, ixA, cutA, lenA, aggA, rowA, appA, mkA, indA, bnd, srcA, sameOp, funcA, cvO, partA, aggD, ↓PostP, resV, resAll, resOne, resVF, resAllF, resOneF, fitsAll, fitsR, fits, frz, Post, Nat.reduceBEq, Nat.reduceLT, reduceCtorEq, ↓reduceIte, initS, AV.cellsOf, AV.fine, AV.one, repA, Nat.reduceMul, Nat.reduceAdd, Nat.reduceLeDiff, Nat.reduceEqDiff, Int.reduceToNat, Nat.reduceSub, Nat.reduceMod, Nat.reduceDiv, indexK.aggOf, Int.reducePow, Int.reduceLE, Int.reduceNeg, Int.reduceLT, Int.reduceBEq, Int.reduceBNe, Int.reduceEq, ownA, nilA, Try.facts, s0, s3, s9, s10, s12, s13, s14, dT, dF, qT, qF, nT, nF, Bool.false_and, Bool.and_false, hld, hle, hdl, hj1, kill_box hb1f, putCells_eq]
            refine CallK.i hd ?_
            rintro v H2 ⟨rfl, t2, fr⟩
            simp (disch := omega) only [↓runPre, runPost, fieldO, ixA, cutA, lenA, aggA, rowA, appA, mkA, indA, bnd, srcA, sameOp, funcA, cvO, partA, aggD, ↓PostP, resV, resAll, resOne, resVF, resAllF, resOneF, fitsAll, fitsR, fits, frz, Post, Nat.reduceBEq, Nat.reduceLT, reduceCtorEq, ↓reduceIte, initS, AV.cellsOf, AV.fine, AV.one, repA, Nat.reduceMul, Nat.reduceAdd, Nat.reduceLeDiff, Nat.reduceEqDiff, Int.reduceToNat, Nat.reduceSub, Nat.reduceMod, Nat.reduceDiv, indexK.aggOf, Int.reducePow, Int.reduceLE, Int.reduceNeg, Int.reduceLT, Int.reduceBEq, Int.reduceBNe, Int.reduceEq, ownA, nilA, Try.facts, s0, s3, s9, s10, s12, s13, s14, hj1]
            exact ⟨mj - 1, by omega, j + 1, by omega, keep hh hm hs (fun x _ h2 => fr x h2), by rw [hrt]; exact t2, rfl⟩
        · obtain rfl : j = l.length := by omega
          rw [List.take_length] at t
          simp (disch := omega) only [↓runPre, runPost, fieldO, ixA, cutA, lenA, aggA, rowA, appA, mkA, indA, bnd, srcA, sameOp, funcA, cvO, partA, aggD, ↓PostP, resV, resAll, resOne, resVF, resAllF, resOneF, fitsAll, fitsR, fits, frz, Post, Nat.reduceBEq, Nat.reduceLT, reduceCtorEq, ↓reduceIte, initS, AV.cellsOf, AV.fine, AV.one, repA, Nat.reduceMul, Nat.reduceAdd, Nat.reduceLeDiff, Nat.reduceEqDiff, Int.reduceToNat, Nat.reduceSub, Nat.reduceMod, Nat.reduceDiv, indexK.aggOf, Int.reducePow, Int.reduceLE, Int.reduceNeg, Int.reduceLT, Int.reduceBEq, Int.reduceBNe, Int.reduceEq, ownA, nilA, Try.facts, s0, s3, s9, s10, s12, s13, s14, dT, dF, qT, qF, nT, nF, Bool.false_and, Bool.and_false, hi1]
          trace_state
          exact ⟨mm - 1, by omega, i + 1, by omega, hs, t, rfl⟩
    · obtain rfl : i = l.length + 1 := by omega
      simp (disch := omega) only [↓runPre, runPost, fieldO, ixA, cutA, lenA, aggA, rowA, appA, mkA, indA, bnd, srcA, sameOp, funcA, cvO, partA, aggD, ↓PostP, resV, resAll, resOne, resVF, resAllF, resOneF, fitsAll, fitsR, fits, frz, Post, Nat.reduceBEq, Nat.reduceLT, reduceCtorEq, ↓reduceIte, initS, AV.cellsOf, AV.fine, AV.one, repA, Nat.reduceMul, Nat.reduceAdd, Nat.reduceLeDiff, Nat.reduceEqDiff, Int.reduceToNat, Nat.reduceSub, Nat.reduceMod, Nat.reduceDiv, indexK.aggOf, Int.reducePow, Int.reduceLE, Int.reduceNeg, Int.reduceLT, Int.reduceBEq, Int.reduceBNe, Int.reduceEq, ownA, nilA, Try.facts, s0, s3, s9, s10, dT, dF, qT, qF, nT, nF, Bool.false_and, Bool.and_false]
      trace_state
      exact ⟨_, rfl, _, Abs.Sub.refl _, h, m, rfl, hh, hm, hs, t⟩
end Go.Proofs.Ytpmmafmbjconiaa
