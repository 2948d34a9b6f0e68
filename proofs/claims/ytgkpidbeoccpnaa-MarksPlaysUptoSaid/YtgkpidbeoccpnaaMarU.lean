/-
  The walks of the marks layer: the law of plays.
  Conditions: none. Lemmas only.
-/
import Derived.Test.YtgkpidbeoccpnaaMarG6
set_option linter.all false
set_option linter.unusedSimpArgs false
set_option linter.unusedVariables false
set_option maxRecDepth 8000
set_option maxHeartbeats 4000000
namespace Go.Proofs.Ytgkpidbeoccpnaa
open Go Go.Abs Go.Proofs Go.Fug
theorem mplays_walk (M : List Mk) (c a : Int) (hl : M.length ≤ 1048576) : APure Try.prog 3 [mksV M, .sc (.int .i64 c), .sc (.int .i64 a)] (.sc (.bool true)) := by
  have haw := awake_pure
  by_cases hM : M.length ≤ 60
  · have hml := mksC_length M
    obtain ⟨F, hF⟩ : ∃ F : Nat → List Mk, F = fun i => bookL (M.take i) := ⟨_, rfl⟩
    have hF0 : F 0 = [] := by rw [hF]; rfl
    have hFs : ∀ i (h : i < M.length), F (i + 1) = (addM (F i) M[i]).1 := fun i h => by
      rw [hF]
      simp only []
      unfold bookL
      rw [List.take_succ_eq_append_getElem h, List.foldl_append]
      rfl
    have hFg : ∀ i, GoodM (F i) := fun i => by rw [hF]; exact bookL_good _
    clear hF
    refine apure_of_cwp (c := ⟨Try.prog, 88, [(2000010, [0, 1, 2, 3, 4, 5, 6, 7, 9, 8, 10, 11, 12, 13, 15, 14, 16, 17, 18, 19, 20, 21, 22, 24, 25, 26, 23, 27, 28, 29]), (10, [1, 0, 1, 0, 0, 0, 0, 1, 0, 2, 0, 0, 0, 0, 0, 2, 0, 0, 0, 0, 0, 0, 0, 0, 0, 0, 2, 0, 0, 0]), (2000012, [0, 1, 2, 3, 4, 6, 7, 8, 9, 10, 11, 12, 5, 13, 14, 15, 16, 17, 18, 19, 20, 21, 22, 23, 24]), (12, [0, 1, 0, 0, 0, 0, 0, 0, 0, 0, 0, 0, 2, 0, 0, 0, 0, 0, 0, 0, 0, 2, 0, 0, 0]), (1000007, [10]), (4000012, [1, 2, 7, 8, 18, 19, 20, 85]), (4000010, [1, 2, 7, 8, 18, 19, 20, 60]), (4000008, [1, 2, 7, 10, 11, 12, 18, 19, 20])], [], []⟩) (rs := [ResultVar.tmp 6]) Try.mixed Try.func3 rfl rfl rfl (Nat.le_of_ble_eq_true rfl) (by kernel_rfl) fun H => ?_
    simp (disch := omega) only [↓runPre, runPost, fieldO, ixA, cutA, lenA, aggA, rowA, appA, mkA, indA, bnd, srcA, sameOp, funcA, cvO, partA, aggD, ↓PostP, resV, resAll, resOne, resVF, resAllF, resOneF, fitsAll, fitsR, fits, frz, Post, Nat.reduceBEq, Nat.reduceLT, reduceCtorEq, ↓reduceIte, initS, AV.cellsOf, AV.fine, AV.one, repA, Nat.reduceMul, Nat.reduceAdd, Nat.reduceLeDiff, Nat.reduceEqDiff, Int.reduceToNat, Nat.reduceSub, Nat.reduceMod, Nat.reduceDiv, indexK.aggOf, Int.reducePow, Int.reduceLE, Int.reduceNeg, Int.reduceLT, Int.reduceBEq, Int.reduceBNe, Int.reduceEq, ownA, nilA, Try.facts, dT, dF, qT, qF, nT, nF, Bool.false_and, Bool.and_false]
    refine CallK.i (mnew_live H) ?_
    rintro v H1 ⟨hb, rfl, hb0, hbf, rfl⟩
    simp (disch := omega) only [↓runPre, runPost, fieldO, ixA, cutA, lenA, aggA, rowA, appA, mkA, indA, bnd, srcA, sameOp, funcA, cvO, partA, aggD, ↓PostP, resV, resAll, resOne, resVF, resAllF, resOneF, fitsAll, fitsR, fits, frz, Post, Nat.reduceBEq, Nat.reduceLT, reduceCtorEq, ↓reduceIte, initS, AV.cellsOf, AV.fine, AV.one, repA, Nat.reduceMul, Nat.reduceAdd, Nat.reduceLeDiff, Nat.reduceEqDiff, Int.reduceToNat, Nat.reduceSub, Nat.reduceMod, Nat.reduceDiv, indexK.aggOf, Int.reducePow, Int.reduceLE, Int.reduceNeg, Int.reduceLT, Int.reduceBEq, Int.reduceBNe, Int.reduceEq, ownA, nilA, Try.facts]
    refine loop_t (c := ⟨Try.prog, 88, [(2000010, [0, 1, 2, 3, 4, 5, 6, 7, 9, 8, 10, 11, 12, 13, 15, 14, 16, 17, 18, 19, 20, 21, 22, 24, 25, 26, 23, 27, 28, 29]), (10, [1, 0, 1, 0, 0, 0, 0, 1, 0, 2, 0, 0, 0, 0, 0, 2, 0, 0, 0, 0, 0, 0, 0, 0, 0, 0, 2, 0, 0, 0]), (2000012, [0, 1, 2, 3, 4, 6, 7, 8, 9, 10, 11, 12, 5, 13, 14, 15, 16, 17, 18, 19, 20, 21, 22, 23, 24]), (12, [0, 1, 0, 0, 0, 0, 0, 0, 0, 0, 0, 0, 2, 0, 0, 0, 0, 0, 0, 0, 0, 2, 0, 0, 0]), (1000007, [10]), (4000012, [1, 2, 7, 8, 18, 19, 20, 85]), (4000010, [1, 2, 7, 8, 18, 19, 20, 60]), (4000008, [1, 2, 7, 10, 11, 12, 18, 19, 20])], [], []⟩) Try.mixed (by kernel_rfl) (fun mm σ H' => ∃ i : Nat, i + mm = M.length ∧ Abs.Sub H H' ∧ H' hb = some (bookO (F i)) ∧ ((F i = [] ∧ σ 8 = .sc (.slice none 0 0)) ∨ σ 8 = mksV (F i)) ∧
      σ 1 = .sc (.int .i64 c) ∧ σ 2 = .sc (.int .i64 a) ∧ σ 7 = .ptr hb 0 ∧ σ 18 = mksV M ∧ σ 19 = .sc (.int .i64 M.length) ∧ σ 20 = .sc (.int .i64 (i : Nat))) M.length ?_ ?_
    · refine ⟨0, by omega, Sub.set_new hbf, by rw [hF0]; exact set_get, .inl ⟨hF0, rfl⟩, ?_⟩
      simp (disch := omega) only [↓runPre, runPost, fieldO, ixA, cutA, lenA, aggA, rowA, appA, mkA, indA, bnd, srcA, sameOp, funcA, cvO, partA, aggD, ↓PostP, resV, resAll, resOne, resVF, resAllF, resOneF, fitsAll, fitsR, fits, frz, Post, Nat.reduceBEq, Nat.reduceLT, reduceCtorEq, ↓reduceIte, initS, AV.cellsOf, AV.fine, AV.one, repA, Nat.reduceMul, Nat.reduceAdd, Nat.reduceLeDiff, Nat.reduceEqDiff, Int.reduceToNat, Nat.reduceSub, Nat.reduceMod, Nat.reduceDiv, indexK.aggOf, Int.reducePow, Int.reduceLE, Int.reduceNeg, Int.reduceLT, Int.reduceBEq, Int.reduceBNe, Int.reduceEq, ownA, nilA, Try.facts]
      try rfl
    · rintro mm σ H' ⟨i, him, hs, vb, s8, s1, s2, s7, s18, s19, s20⟩
      by_cases hlt : i < M.length
      · have hld := mksC_load hlt
        have hle : i * 10 + 10 ≤ M.length * 10 := by omega
        have hst := hFs i hlt
        have hg := hFg i
        have hg2 := hFg (i + 1)
        have ha := badd_live H' hb (F i) M[i] vb hg
        have hra := rmadd_pure (F i) M[i] hg.small
        have hr1 := mright_pure M[i]
        have hr2 := rmright_pure M[i]
        rw [← hst] at ha hra
        generalize hl2 : F (i + 1) = l2 at *
        generalize F i = l at *
        generalize M[i] = q at *
        have hll := mksC_length l2
        have hl5 := hg2.small
        have hsm := msame_pure l2 l2 (by omega) (by omega)
        rw [dT rfl] at hsm
        have hli := fun H h => list_live H hb l2 h hl5
        have hla := fun H h => last_live H hb l2 h hl5
        have hbh := fun H h => bhas_live H hb l2 c a h hg2
        have hrh := rmhas_pure l2 c a (by omega)
        have hlz : 0 < l2.length → (mksC l2)[(l2.length - 1) * 10]? = some (.sc (.int .i64 (lastM l2))) := fun h0 => by
          have hlt : l2.length - 1 < l2.length := by omega
          have := mksC_get hlt (show 0 < 10 by omega)
          rw [Nat.add_zero] at this
          rw [this]
          unfold lastM
          rw [List.getLast?_eq_getElem?, List.getElem?_eq_getElem hlt]
          rfl
        have hln : ¬ 0 < l2.length → lastM l2 = 0 := fun h => by
          rw [List.length_eq_zero_iff.1 (by omega : l2.length = 0)]
          rfl
        generalize lastM l2 = z at *
        generalize hasM l2 c a = hz at *
        generalize rightM q = rq at *
        generalize (addM l q).2 = er at *
        obtain ⟨mc, ma, ⟨f1, f2⟩, fb, ⟨t1, t2⟩, tb, nm, vl⟩ := q
        simp only [mkC] at hld ha hra hr1 hr2
        have key : σ 8 = mksV l ∨ (l = [] ∧ σ 8 = .sc (.slice none 0 0)) := by
          rcases s8 with h | h
          · exact .inr h
          · exact .inl h
        clear s8
        rcases key with s8 | ⟨rfl, s8⟩
        all_goals
          simp (disch := omega) only [↓runPre, runPost, fieldO, ixA, cutA, lenA, aggA, rowA, appA, mkA, indA, bnd, srcA, sameOp, funcA, cvO, partA, aggD, ↓PostP, resV, resAll, resOne, resVF, resAllF, resOneF, fitsAll, fitsR, fits, frz, Post, Nat.reduceBEq, Nat.reduceLT, reduceCtorEq, ↓reduceIte, initS, AV.cellsOf, AV.fine, AV.one, repA, Nat.reduceMul, Nat.reduceAdd, Nat.reduceLeDiff, Nat.reduceEqDiff, Int.reduceToNat, Nat.reduceSub, Nat.reduceMod, Nat.reduceDiv, indexK.aggOf, Int.reducePow, Int.reduceLE, Int.reduceNeg, Int.reduceLT, Int.reduceBEq, Int.reduceBNe, Int.reduceEq, ownA, nilA, Try.facts, s1, s2, s7, s8, s18, s19, s20, dT, dF, qT, qF, nT, nF, Bool.false_and, Bool.and_false, hld, hle, hml]
          intro b1 hb10 hb1f
          simp (disch := omega) only [↓runPre, runPost, fieldO, ixA, cutA, lenA, aggA, rowA, appA, mkA, indA, bnd, srcA, sameOp, funcA, cvO, partA, aggD, ↓PostP, resV, resAll, resOne, resVF, resAllF, resOneF, fitsAll, fitsR, fits, frz, Post, Nat.reduceBEq, Nat.reduceLT, reduceCtorEq, ↓reduceIte, initS, AV.cellsOf, AV.fine, AV.one, repA, Nat.reduceMul, Nat.reduceAdd, Nat.reduceLeDiff, Nat.reduceEqDiff, Int.reduceToNat, Nat.reduceSub, Nat.reduceMod, Nat.reduceDiv, indexK.aggOf, Int.reducePow, Int.reduceLE, Int.reduceNeg, Int.reduceLT, Int.reduceBEq, Int.reduceBNe, Int.reduceEq, ownA, nilA, Try.facts, s1, s2, s7, s8, s18, s19, s20, dT, dF, qT, qF, nT, nF, Bool.false_and, Bool.and_false, hld, hle, hml, kill_box hb1f, putCells_eq]
          first | refine CallK.p (hra) ?_ | refine CallP.i (hra) ?_
          simp (disch := omega) only [↓runPre, runPost, fieldO, ixA, cutA, lenA, aggA, rowA, appA, mkA, indA, bnd, srcA, sameOp, funcA, cvO, partA, aggD, ↓PostP, resV, resAll, resOne, resVF, resAllF, resOneF, fitsAll, fitsR, fits, frz, Post, Nat.reduceBEq, Nat.reduceLT, reduceCtorEq, ↓reduceIte, initS, AV.cellsOf, AV.fine, AV.one, repA, Nat.reduceMul, Nat.reduceAdd, Nat.reduceLeDiff, Nat.reduceEqDiff, Int.reduceToNat, Nat.reduceSub, Nat.reduceMod, Nat.reduceDiv, indexK.aggOf, Int.reducePow, Int.reduceLE, Int.reduceNeg, Int.reduceLT, Int.reduceBEq, Int.reduceBNe, Int.reduceEq, ownA, nilA, Try.facts, s1, s2, s7, s8, s18, s19, s20, dT, dF, qT, qF, nT, nF, Bool.false_and, Bool.and_false, putCells_eq]
          first | refine CallK.p (hr1) ?_ | refine CallP.i (hr1) ?_
          simp (disch := omega) only [↓runPre, runPost, fieldO, ixA, cutA, lenA, aggA, rowA, appA, mkA, indA, bnd, srcA, sameOp, funcA, cvO, partA, aggD, ↓PostP, resV, resAll, resOne, resVF, resAllF, resOneF, fitsAll, fitsR, fits, frz, Post, Nat.reduceBEq, Nat.reduceLT, reduceCtorEq, ↓reduceIte, initS, AV.cellsOf, AV.fine, AV.one, repA, Nat.reduceMul, Nat.reduceAdd, Nat.reduceLeDiff, Nat.reduceEqDiff, Int.reduceToNat, Nat.reduceSub, Nat.reduceMod, Nat.reduceDiv, indexK.aggOf, Int.reducePow, Int.reduceLE, Int.reduceNeg, Int.reduceLT, Int.reduceBEq, Int.reduceBNe, Int.reduceEq, ownA, nilA, Try.facts, s1, s2, s7, s8, s18, s19, s20, dT, dF, qT, qF, nT, nF, Bool.false_and, Bool.and_false, putCells_eq]
          first | refine CallK.p (hr2) ?_ | refine CallP.i (hr2) ?_
          simp (disch := omega) only [↓runPre, runPost, fieldO, ixA, cutA, lenA, aggA, rowA, appA, mkA, indA, bnd, srcA, sameOp, funcA, cvO, partA, aggD, ↓PostP, resV, resAll, resOne, resVF, resAllF, resOneF, fitsAll, fitsR, fits, frz, Post, Nat.reduceBEq, Nat.reduceLT, reduceCtorEq, ↓reduceIte, initS, AV.cellsOf, AV.fine, AV.one, repA, Nat.reduceMul, Nat.reduceAdd, Nat.reduceLeDiff, Nat.reduceEqDiff, Int.reduceToNat, Nat.reduceSub, Nat.reduceMod, Nat.reduceDiv, indexK.aggOf, Int.reducePow, Int.reduceLE, Int.reduceNeg, Int.reduceLT, Int.reduceBEq, Int.reduceBNe, Int.reduceEq, ownA, nilA, Try.facts, s1, s2, s7, s8, s18, s19, s20, dT, dF, qT, qF, nT, nF, Bool.false_and, Bool.and_false, putCells_eq, bne_self_eq_false]
          refine CallK.i ha ?_
          rintro v H2 ⟨rfl, vb2, fr⟩
          have hs2 : Abs.Sub H H2 := fun y o hy => fr y o (ne_live hy hbf) (hs _ _ hy)
          simp (disch := omega) only [↓runPre, runPost, fieldO, ixA, cutA, lenA, aggA, rowA, appA, mkA, indA, bnd, srcA, sameOp, funcA, cvO, partA, aggD, ↓PostP, resV, resAll, resOne, resVF, resAllF, resOneF, fitsAll, fitsR, fits, frz, Post, Nat.reduceBEq, Nat.reduceLT, reduceCtorEq, ↓reduceIte, initS, AV.cellsOf, AV.fine, AV.one, repA, Nat.reduceMul, Nat.reduceAdd, Nat.reduceLeDiff, Nat.reduceEqDiff, Int.reduceToNat, Nat.reduceSub, Nat.reduceMod, Nat.reduceDiv, indexK.aggOf, Int.reducePow, Int.reduceLE, Int.reduceNeg, Int.reduceLT, Int.reduceBEq, Int.reduceBNe, Int.reduceEq, ownA, nilA, Try.facts, s1, s2, s7, s8, s18, s19, s20, dT, dF, qT, qF, nT, nF, Bool.false_and, Bool.and_false, putCells_eq, bne_self_eq_false]
          refine CallK.i (hli _ vb2) ?_
          rintro v E ⟨rfl, rfl⟩
          simp (disch := omega) only [↓runPre, runPost, fieldO, ixA, cutA, lenA, aggA, rowA, appA, mkA, indA, bnd, srcA, sameOp, funcA, cvO, partA, aggD, ↓PostP, resV, resAll, resOne, resVF, resAllF, resOneF, fitsAll, fitsR, fits, frz, Post, Nat.reduceBEq, Nat.reduceLT, reduceCtorEq, ↓reduceIte, initS, AV.cellsOf, AV.fine, AV.one, repA, Nat.reduceMul, Nat.reduceAdd, Nat.reduceLeDiff, Nat.reduceEqDiff, Int.reduceToNat, Nat.reduceSub, Nat.reduceMod, Nat.reduceDiv, indexK.aggOf, Int.reducePow, Int.reduceLE, Int.reduceNeg, Int.reduceLT, Int.reduceBEq, Int.reduceBNe, Int.reduceEq, ownA, nilA, Try.facts, s1, s2, s7, s8, s18, s19, s20, dT, dF, qT, qF, nT, nF, Bool.false_and, Bool.and_false, putCells_eq, bne_self_eq_false]
          first | refine CallK.p (hsm) ?_ | refine CallP.i (hsm) ?_
          simp (disch := omega) only [↓runPre, runPost, fieldO, ixA, cutA, lenA, aggA, rowA, appA, mkA, indA, bnd, srcA, sameOp, funcA, cvO, partA, aggD, ↓PostP, resV, resAll, resOne, resVF, resAllF, resOneF, fitsAll, fitsR, fits, frz, Post, Nat.reduceBEq, Nat.reduceLT, reduceCtorEq, ↓reduceIte, initS, AV.cellsOf, AV.fine, AV.one, repA, Nat.reduceMul, Nat.reduceAdd, Nat.reduceLeDiff, Nat.reduceEqDiff, Int.reduceToNat, Nat.reduceSub, Nat.reduceMod, Nat.reduceDiv, indexK.aggOf, Int.reducePow, Int.reduceLE, Int.reduceNeg, Int.reduceLT, Int.reduceBEq, Int.reduceBNe, Int.reduceEq, ownA, nilA, Try.facts, s1, s2, s7, s8, s18, s19, s20, dT, dF, qT, qF, nT, nF, Bool.false_and, Bool.and_false, putCells_eq, bne_self_eq_false]
          refine CallK.i (hbh _ vb2) ?_
          rintro v E ⟨rfl, rfl⟩
          simp (disch := omega) only [↓runPre, runPost, fieldO, ixA, cutA, lenA, aggA, rowA, appA, mkA, indA, bnd, srcA, sameOp, funcA, cvO, partA, aggD, ↓PostP, resV, resAll, resOne, resVF, resAllF, resOneF, fitsAll, fitsR, fits, frz, Post, Nat.reduceBEq, Nat.reduceLT, reduceCtorEq, ↓reduceIte, initS, AV.cellsOf, AV.fine, AV.one, repA, Nat.reduceMul, Nat.reduceAdd, Nat.reduceLeDiff, Nat.reduceEqDiff, Int.reduceToNat, Nat.reduceSub, Nat.reduceMod, Nat.reduceDiv, indexK.aggOf, Int.reducePow, Int.reduceLE, Int.reduceNeg, Int.reduceLT, Int.reduceBEq, Int.reduceBNe, Int.reduceEq, ownA, nilA, Try.facts, s1, s2, s7, s8, s18, s19, s20, dT, dF, qT, qF, nT, nF, Bool.false_and, Bool.and_false, putCells_eq, bne_self_eq_false]
          first | refine CallK.p (hrh) ?_ | refine CallP.i (hrh) ?_
          simp (disch := omega) only [↓runPre, runPost, fieldO, ixA, cutA, lenA, aggA, rowA, appA, mkA, indA, bnd, srcA, sameOp, funcA, cvO, partA, aggD, ↓PostP, resV, resAll, resOne, resVF, resAllF, resOneF, fitsAll, fitsR, fits, frz, Post, Nat.reduceBEq, Nat.reduceLT, reduceCtorEq, ↓reduceIte, initS, AV.cellsOf, AV.fine, AV.one, repA, Nat.reduceMul, Nat.reduceAdd, Nat.reduceLeDiff, Nat.reduceEqDiff, Int.reduceToNat, Nat.reduceSub, Nat.reduceMod, Nat.reduceDiv, indexK.aggOf, Int.reducePow, Int.reduceLE, Int.reduceNeg, Int.reduceLT, Int.reduceBEq, Int.reduceBNe, Int.reduceEq, ownA, nilA, Try.facts, s1, s2, s7, s8, s18, s19, s20, dT, dF, qT, qF, nT, nF, Bool.false_and, Bool.and_false, putCells_eq, bne_self_eq_false]
          by_cases h0 : 0 < l2.length
          · have hz0 := hlz h0
            have hle0 : (l2.length - 1) * 10 + 10 ≤ l2.length * 10 := by omega
            have hle1 : (l2.length - 1) * 10 < l2.length * 10 := by omega
            simp (disch := omega) only [↓runPre, runPost, fieldO, ixA, cutA, lenA, aggA, rowA, appA, mkA, indA, bnd, srcA, sameOp, funcA, cvO, partA, aggD, ↓PostP, resV, resAll, resOne, resVF, resAllF, resOneF, fitsAll, fitsR, fits, frz, Post, Nat.reduceBEq, Nat.reduceLT, reduceCtorEq, ↓reduceIte, initS, AV.cellsOf, AV.fine, AV.one, repA, Nat.reduceMul, Nat.reduceAdd, Nat.reduceLeDiff, Nat.reduceEqDiff, Int.reduceToNat, Nat.reduceSub, Nat.reduceMod, Nat.reduceDiv, indexK.aggOf, Int.reducePow, Int.reduceLE, Int.reduceNeg, Int.reduceLT, Int.reduceBEq, Int.reduceBNe, Int.reduceEq, ownA, nilA, Try.facts, s1, s2, s7, s8, s18, s19, s20, dT, dF, qT, qF, nT, nF, Bool.false_and, Bool.and_false, putCells_eq, bne_self_eq_false, hz0, hll, hle0, hle1]
            refine CallK.i (hla _ vb2) ?_
            rintro v E ⟨rfl, rfl⟩
            simp (disch := omega) only [↓runPre, runPost, fieldO, ixA, cutA, lenA, aggA, rowA, appA, mkA, indA, bnd, srcA, sameOp, funcA, cvO, partA, aggD, ↓PostP, resV, resAll, resOne, resVF, resAllF, resOneF, fitsAll, fitsR, fits, frz, Post, Nat.reduceBEq, Nat.reduceLT, reduceCtorEq, ↓reduceIte, initS, AV.cellsOf, AV.fine, AV.one, repA, Nat.reduceMul, Nat.reduceAdd, Nat.reduceLeDiff, Nat.reduceEqDiff, Int.reduceToNat, Nat.reduceSub, Nat.reduceMod, Nat.reduceDiv, indexK.aggOf, Int.reducePow, Int.reduceLE, Int.reduceNeg, Int.reduceLT, Int.reduceBEq, Int.reduceBNe, Int.reduceEq, ownA, nilA, Try.facts, s1, s2, s7, s8, s18, s19, s20, dT, dF, qT, qF, nT, nF, Bool.false_and, Bool.and_false, putCells_eq, bne_self_eq_false, hz0, hll, hle0, hle1]
            exact ⟨mm - 1, by omega, i + 1, by omega, hs2, by rw [hl2]; exact vb2, .inr (by rw [hl2]), rfl⟩
          · have hz0 := hln h0
            subst hz0
            simp (disch := omega) only [↓runPre, runPost, fieldO, ixA, cutA, lenA, aggA, rowA, appA, mkA, indA, bnd, srcA, sameOp, funcA, cvO, partA, aggD, ↓PostP, resV, resAll, resOne, resVF, resAllF, resOneF, fitsAll, fitsR, fits, frz, Post, Nat.reduceBEq, Nat.reduceLT, reduceCtorEq, ↓reduceIte, initS, AV.cellsOf, AV.fine, AV.one, repA, Nat.reduceMul, Nat.reduceAdd, Nat.reduceLeDiff, Nat.reduceEqDiff, Int.reduceToNat, Nat.reduceSub, Nat.reduceMod, Nat.reduceDiv, indexK.aggOf, Int.reducePow, Int.reduceLE, Int.reduceNeg, Int.reduceLT, Int.reduceBEq, Int.reduceBNe, Int.reduceEq, ownA, nilA, Try.facts, s1, s2, s7, s8, s18, s19, s20, dT, dF, qT, qF, nT, nF, Bool.false_and, Bool.and_false, putCells_eq, bne_self_eq_false]
            refine CallK.i (hla _ vb2) ?_
            rintro v E ⟨rfl, rfl⟩
            simp (disch := omega) only [↓runPre, runPost, fieldO, ixA, cutA, lenA, aggA, rowA, appA, mkA, indA, bnd, srcA, sameOp, funcA, cvO, partA, aggD, ↓PostP, resV, resAll, resOne, resVF, resAllF, resOneF, fitsAll, fitsR, fits, frz, Post, Nat.reduceBEq, Nat.reduceLT, reduceCtorEq, ↓reduceIte, initS, AV.cellsOf, AV.fine, AV.one, repA, Nat.reduceMul, Nat.reduceAdd, Nat.reduceLeDiff, Nat.reduceEqDiff, Int.reduceToNat, Nat.reduceSub, Nat.reduceMod, Nat.reduceDiv, indexK.aggOf, Int.reducePow, Int.reduceLE, Int.reduceNeg, Int.reduceLT, Int.reduceBEq, Int.reduceBNe, Int.reduceEq, ownA, nilA, Try.facts, s1, s2, s7, s8, s18, s19, s20, dT, dF, qT, qF, nT, nF, Bool.false_and, Bool.and_false, putCells_eq, bne_self_eq_false]
            exact ⟨mm - 1, by omega, i + 1, by omega, hs2, by rw [hl2]; exact vb2, .inr (by rw [hl2]), rfl⟩
      · simp (disch := omega) only [↓runPre, runPost, fieldO, ixA, cutA, lenA, aggA, rowA, appA, mkA, indA, bnd, srcA, sameOp, funcA, cvO, partA, aggD, ↓PostP, resV, resAll, resOne, resVF, resAllF, resOneF, fitsAll, fitsR, fits, frz, Post, Nat.reduceBEq, Nat.reduceLT, reduceCtorEq, ↓reduceIte, initS, AV.cellsOf, AV.fine, AV.one, repA, Nat.reduceMul, Nat.reduceAdd, Nat.reduceLeDiff, Nat.reduceEqDiff, Int.reduceToNat, Nat.reduceSub, Nat.reduceMod, Nat.reduceDiv, indexK.aggOf, Int.reducePow, Int.reduceLE, Int.reduceNeg, Int.reduceLT, Int.reduceBEq, Int.reduceBNe, Int.reduceEq, ownA, nilA, Try.facts, s1, s2, s7, s18, s19, s20, dT, dF, qT, qF, nT, nF, Bool.false_and, Bool.and_false]
        first | refine CallK.p (haw) ?_ | refine CallP.i (haw) ?_
        simp (disch := omega) only [↓runPre, runPost, fieldO, ixA, cutA, lenA, aggA, rowA, appA, mkA, indA, bnd, srcA, sameOp, funcA, cvO, partA, aggD, ↓PostP, resV, resAll, resOne, resVF, resAllF, resOneF, fitsAll, fitsR, fits, frz, Post, Nat.reduceBEq, Nat.reduceLT, reduceCtorEq, ↓reduceIte, initS, AV.cellsOf, AV.fine, AV.one, repA, Nat.reduceMul, Nat.reduceAdd, Nat.reduceLeDiff, Nat.reduceEqDiff, Int.reduceToNat, Nat.reduceSub, Nat.reduceMod, Nat.reduceDiv, indexK.aggOf, Int.reducePow, Int.reduceLE, Int.reduceNeg, Int.reduceLT, Int.reduceBEq, Int.reduceBNe, Int.reduceEq, ownA, nilA, Try.facts, s1, s2, s7, s18, s19, s20, dT, dF, qT, qF, nT, nF, Bool.false_and, Bool.and_false]
        exact hs
  · refine apure_of_cwp (c := ⟨Try.prog, 88, [(2000010, [0, 1, 2, 3, 4, 5, 6, 7, 9, 8, 10, 11, 12, 13, 15, 14, 16, 17, 18, 19, 20, 21, 22, 24, 25, 26, 23, 27, 28, 29]), (10, [1, 0, 1, 0, 0, 0, 0, 1, 0, 2, 0, 0, 0, 0, 0, 2, 0, 0, 0, 0, 0, 0, 0, 0, 0, 0, 2, 0, 0, 0]), (2000012, [0, 1, 2, 3, 4, 6, 7, 8, 9, 10, 11, 12, 5, 13, 14, 15, 16, 17, 18, 19, 20, 21, 22, 23, 24]), (12, [0, 1, 0, 0, 0, 0, 0, 0, 0, 0, 0, 0, 2, 0, 0, 0, 0, 0, 0, 0, 0, 2, 0, 0, 0]), (1000007, [10]), (4000012, [1, 2, 7, 8, 18, 19, 20, 85]), (4000010, [1, 2, 7, 8, 18, 19, 20, 60]), (4000008, [1, 2, 7, 10, 11, 12, 18, 19, 20])], [], []⟩) (rs := [ResultVar.tmp 6]) Try.mixed Try.func3 rfl rfl rfl (Nat.le_of_ble_eq_true rfl) (by kernel_rfl) fun H => ?_
    simp (disch := omega) only [↓runPre, runPost, fieldO, ixA, cutA, lenA, aggA, rowA, appA, mkA, indA, bnd, srcA, sameOp, funcA, cvO, partA, aggD, ↓PostP, resV, resAll, resOne, resVF, resAllF, resOneF, fitsAll, fitsR, fits, frz, Post, Nat.reduceBEq, Nat.reduceLT, reduceCtorEq, ↓reduceIte, initS, AV.cellsOf, AV.fine, AV.one, repA, Nat.reduceMul, Nat.reduceAdd, Nat.reduceLeDiff, Nat.reduceEqDiff, Int.reduceToNat, Nat.reduceSub, Nat.reduceMod, Nat.reduceDiv, indexK.aggOf, Int.reducePow, Int.reduceLE, Int.reduceNeg, Int.reduceLT, Int.reduceBEq, Int.reduceBNe, Int.reduceEq, ownA, nilA, Try.facts, dT, dF, qT, qF, nT, nF, Bool.false_and, Bool.and_false]
    first | refine CallK.p (haw) ?_ | refine CallP.i (haw) ?_
    simp (disch := omega) only [↓runPre, runPost, fieldO, ixA, cutA, lenA, aggA, rowA, appA, mkA, indA, bnd, srcA, sameOp, funcA, cvO, partA, aggD, ↓PostP, resV, resAll, resOne, resVF, resAllF, resOneF, fitsAll, fitsR, fits, frz, Post, Nat.reduceBEq, Nat.reduceLT, reduceCtorEq, ↓reduceIte, initS, AV.cellsOf, AV.fine, AV.one, repA, Nat.reduceMul, Nat.reduceAdd, Nat.reduceLeDiff, Nat.reduceEqDiff, Int.reduceToNat, Nat.reduceSub, Nat.reduceMod, Nat.reduceDiv, indexK.aggOf, Int.reducePow, Int.reduceLE, Int.reduceNeg, Int.reduceLT, Int.reduceBEq, Int.reduceBNe, Int.reduceEq, ownA, nilA, Try.facts]
    exact Abs.Sub.refl _
end Go.Proofs.Ytgkpidbeoccpnaa
