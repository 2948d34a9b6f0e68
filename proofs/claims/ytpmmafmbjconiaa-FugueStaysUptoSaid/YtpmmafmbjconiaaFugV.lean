/-
  The walks of the fugue layer: the law of what stays: its walk.
  Conditions: none. Lemmas only.
-/
import Derived.Test.YtpmmafmbjconiaaFugO
import Derived.Test.YtpmmafmbjconiaaFugR
set_option linter.all false
set_option linter.unusedSimpArgs false
set_option linter.unusedVariables false
set_option maxRecDepth 8000
set_option maxHeartbeats 4000000
namespace Go.Proofs.Ytpmmafmbjconiaa
open Go Go.Abs Go.Proofs Go.Fug
theorem addL_ext (L : List Ins) (i : Ins) : ∃ M, (addL L i).1 = L ++ M := by
  unfold addL
  split
  · exact ⟨[], by simp⟩
  · split
    · exact ⟨[], by simp⟩
    · split
      · exact ⟨[], by simp⟩
      · split
        · exact ⟨[], by simp⟩
        · exact ⟨[i], rfl⟩
theorem dropG_ext (L : List Ins) (G : List EId) (x : EId) : ∀ y ∈ G, y ∈ (dropG L G x).1 := by
  unfold dropG
  intro y hy
  split
  · exact hy
  · split
    · exact hy
    · simp [hy]
theorem stepL_ext (k : DoT) (L : List Ins) (G : List EId) : (∃ M, (stepL k (L, G)).1 = L ++ M) ∧ ∀ y ∈ G, y ∈ (stepL k (L, G)).2 := by
  unfold stepL
  split
  · exact ⟨⟨[], by simp⟩, dropG_ext _ _ _⟩
  · exact ⟨addL_ext _ _, fun _ h => h⟩
theorem stays_no (l mo : List DoT) (hl : l.length ≤ 1048576) (hm : mo.length ≤ 1048576) (h : ¬ (l.length ≤ 60 ∧ mo.length ≤ 60)) : APure Try.prog 6 [.imm 0 (dosC l) l.length, .imm 0 (dosC mo) mo.length] (.sc (.bool true)) := by
  have haw := awake_pure
  by_cases h1 : l.length ≤ 60
  all_goals
    refine apure_of_cwp (c := ⟨Try.prog, 107, [(19, [0, 0, 1, 0, 0, 0, 1, 0, 0, 0, 0, 1, 0, 0]), (20, [0, 1, 0, 0, 0, 0, 1, 0, 0, 0, 0, 0, 0, 1, 0, 0, 1, 0, 0, 0]), (1000006, [8]), (1000012, [11]), (1000018, [14]), (4000024, [4]), (4000020, [9, 12, 57, 58, 59, 96]), (4000019, [9, 12, 14, 57, 58, 59, 76]), (4000013, [5, 6, 9, 42, 43, 44]), (4000007, [1, 5, 6, 26, 27, 28]), (4000003, [0, 1, 5, 6]), (4000001, [0, 1, 22])], [], []⟩) (rs := [ResultVar.tmp 4]) Try.mixed Try.func6 rfl rfl rfl (Nat.le_of_ble_eq_true rfl) (by kernel_rfl) fun H => ?_
    simp (disch := omega) only [↓runPre, runPost, fieldO, ixA, cutA, lenA, aggA, rowA, appA, mkA, indA, bnd, srcA, sameOp, funcA, cvO, partA, aggD, ↓PostP, resV, resAll, resOne, resVF, resAllF, resOneF, fitsAll, fitsR, fits, frz, Post, Nat.reduceBEq, Nat.reduceLT, reduceCtorEq, ↓reduceIte, initS, AV.cellsOf, AV.fine, AV.one, repA, Nat.reduceMul, Nat.reduceAdd, Nat.reduceLeDiff, Nat.reduceEqDiff, Int.reduceToNat, Nat.reduceSub, Nat.reduceMod, Nat.reduceDiv, indexK.aggOf, Int.reducePow, Int.reduceLE, Int.reduceNeg, Int.reduceLT, Int.reduceBEq, Int.reduceBNe, Int.reduceEq, ownA, nilA, Try.facts, dT, dF, qT, qF, nT, nF, Bool.false_and, Bool.and_false]
    first | refine CallK.p (haw) ?_ | refine CallP.i (haw) ?_
    simp (disch := omega) only [↓runPre, runPost, fieldO, ixA, cutA, lenA, aggA, rowA, appA, mkA, indA, bnd, srcA, sameOp, funcA, cvO, partA, aggD, ↓PostP, resV, resAll, resOne, resVF, resAllF, resOneF, fitsAll, fitsR, fits, frz, Post, Nat.reduceBEq, Nat.reduceLT, reduceCtorEq, ↓reduceIte, initS, AV.cellsOf, AV.fine, AV.one, repA, Nat.reduceMul, Nat.reduceAdd, Nat.reduceLeDiff, Nat.reduceEqDiff, Int.reduceToNat, Nat.reduceSub, Nat.reduceMod, Nat.reduceDiv, indexK.aggOf, Int.reducePow, Int.reduceLE, Int.reduceNeg, Int.reduceLT, Int.reduceBEq, Int.reduceBNe, Int.reduceEq, ownA, nilA, Try.facts]
    exact Abs.Sub.refl _
theorem stays_yes (l mo : List DoT) (hl : l.length ≤ 60) (hml : mo.length ≤ 60) : APure Try.prog 6 [.imm 0 (dosC l) l.length, .imm 0 (dosC mo) mo.length] (.sc (.bool true)) := by
  have haw := awake_pure
  have hdl := dosC_length l
  have hdm := dosC_length mo
  refine apure_of_cwp (c := ⟨Try.prog, 107, [(19, [0, 0, 1, 0, 0, 0, 1, 0, 0, 0, 0, 1, 0, 0]), (20, [0, 1, 0, 0, 0, 0, 1, 0, 0, 0, 0, 0, 0, 1, 0, 0, 1, 0, 0, 0]), (1000006, [8]), (1000012, [11]), (1000018, [14]), (4000024, [4]), (4000020, [9, 12, 57, 58, 59, 96]), (4000019, [9, 12, 14, 57, 58, 59, 76]), (4000013, [5, 6, 9, 42, 43, 44]), (4000007, [1, 5, 6, 26, 27, 28]), (4000003, [0, 1, 5, 6]), (4000001, [0, 1, 22])], [], []⟩) (rs := [ResultVar.tmp 4]) Try.mixed Try.func6 rfl rfl rfl (Nat.le_of_ble_eq_true rfl) (by kernel_rfl) fun H => ?_
  simp (disch := omega) only [↓runPre, runPost, fieldO, ixA, cutA, lenA, aggA, rowA, appA, mkA, indA, bnd, srcA, sameOp, funcA, cvO, partA, aggD, ↓PostP, resV, resAll, resOne, resVF, resAllF, resOneF, fitsAll, fitsR, fits, frz, Post, Nat.reduceBEq, Nat.reduceLT, reduceCtorEq, ↓reduceIte, initS, AV.cellsOf, AV.fine, AV.one, repA, Nat.reduceMul, Nat.reduceAdd, Nat.reduceLeDiff, Nat.reduceEqDiff, Int.reduceToNat, Nat.reduceSub, Nat.reduceMod, Nat.reduceDiv, indexK.aggOf, Int.reducePow, Int.reduceLE, Int.reduceNeg, Int.reduceLT, Int.reduceBEq, Int.reduceBNe, Int.reduceEq, ownA, nilA, Try.facts, dT, dF, qT, qF, nT, nF, Bool.false_and, Bool.and_false]
  refine CallK.i (new_live H) ?_
  rintro v H1 ⟨h, m, rfl, hh, hm, hs, t⟩
  simp (disch := omega) only [↓runPre, runPost, fieldO, ixA, cutA, lenA, aggA, rowA, appA, mkA, indA, bnd, srcA, sameOp, funcA, cvO, partA, aggD, ↓PostP, resV, resAll, resOne, resVF, resAllF, resOneF, fitsAll, fitsR, fits, frz, Post, Nat.reduceBEq, Nat.reduceLT, reduceCtorEq, ↓reduceIte, initS, AV.cellsOf, AV.fine, AV.one, repA, Nat.reduceMul, Nat.reduceAdd, Nat.reduceLeDiff, Nat.reduceEqDiff, Int.reduceToNat, Nat.reduceSub, Nat.reduceMod, Nat.reduceDiv, indexK.aggOf, Int.reducePow, Int.reduceLE, Int.reduceNeg, Int.reduceLT, Int.reduceBEq, Int.reduceBNe, Int.reduceEq, ownA, nilA, Try.facts]
  intro k4 hk40 hk4
  simp (disch := omega) only [↓runPre, runPost, fieldO, ixA, cutA, lenA, aggA, rowA, appA, mkA, indA, bnd, srcA, sameOp, funcA, cvO, partA, aggD, ↓PostP, resV, resAll, resOne, resVF, resAllF, resOneF, fitsAll, fitsR, fits, frz, Post, Nat.reduceBEq, Nat.reduceLT, reduceCtorEq, ↓reduceIte, initS, AV.cellsOf, AV.fine, AV.one, repA, Nat.reduceMul, Nat.reduceAdd, Nat.reduceLeDiff, Nat.reduceEqDiff, Int.reduceToNat, Nat.reduceSub, Nat.reduceMod, Nat.reduceDiv, indexK.aggOf, Int.reducePow, Int.reduceLE, Int.reduceNeg, Int.reduceLT, Int.reduceBEq, Int.reduceBNe, Int.reduceEq, ownA, nilA, Try.facts, putCells_eq]
  refine nil_t k4 0 set_get rfl ?_
  refine nil_t k4 1 set_get rfl ?_
  simp only [List.set_cons_zero, List.set_cons_succ, set_set]
  have n4 := hs.free hk4
  have nh4 := ne_live t.hi hk4
  have nm4 := ne_live t.hm hk4
  refine loop_t (c := ⟨Try.prog, 107, [(19, [0, 0, 1, 0, 0, 0, 1, 0, 0, 0, 0, 1, 0, 0]), (20, [0, 1, 0, 0, 0, 0, 1, 0, 0, 0, 0, 0, 0, 1, 0, 0, 1, 0, 0, 0]), (1000006, [8]), (1000012, [11]), (1000018, [14]), (4000024, [4]), (4000020, [9, 12, 57, 58, 59, 96]), (4000019, [9, 12, 14, 57, 58, 59, 76]), (4000013, [5, 6, 9, 42, 43, 44]), (4000007, [1, 5, 6, 26, 27, 28]), (4000003, [0, 1, 5, 6]), (4000001, [0, 1, 22])], [], []⟩) Try.mixed (by kernel_rfl) (fun mm σ H' => ∃ (i : Nat) (L : List Ins) (G : List EId), i + mm = l.length ∧ L.length ≤ i ∧ Abs.Sub H H' ∧ IsT H' h m L G ∧ H' k4 = some (tBox L G) ∧
    σ 1 = .imm 0 (dosC mo) mo.length ∧ σ 5 = .ptr h 0 ∧ σ 6 = .ptr k4 0 ∧ σ 26 = .imm 0 (dosC l) l.length ∧ σ 27 = .sc (.int .i64 l.length) ∧ σ 28 = .sc (.int .i64 (i : Nat))) l.length ?_ ?_
  · refine ⟨0, [], [], by omega, by simp, hs.trans (Sub.set_new hk4), t.put nh4 nm4, set_get, ?_⟩
    simp (disch := omega) only [↓runPre, runPost, fieldO, ixA, cutA, lenA, aggA, rowA, appA, mkA, indA, bnd, srcA, sameOp, funcA, cvO, partA, aggD, ↓PostP, resV, resAll, resOne, resVF, resAllF, resOneF, fitsAll, fitsR, fits, frz, Post, Nat.reduceBEq, Nat.reduceLT, reduceCtorEq, ↓reduceIte, initS, AV.cellsOf, AV.fine, AV.one, repA, Nat.reduceMul, Nat.reduceAdd, Nat.reduceLeDiff, Nat.reduceEqDiff, Int.reduceToNat, Nat.reduceSub, Nat.reduceMod, Nat.reduceDiv, indexK.aggOf, Int.reducePow, Int.reduceLE, Int.reduceNeg, Int.reduceLT, Int.reduceBEq, Int.reduceBNe, Int.reduceEq, ownA, nilA, Try.facts]
    try rfl
  · clear hs t hk4
    rintro mm σ H' ⟨i, L, G, him, hLi, hs, t, v4, s1, s5, s6, s26, s27, s28⟩
    by_cases hlt : i < l.length
    · have hld := dosC_load hlt
      have hle : i * 9 + 9 ≤ l.length * 9 := by omega
      have hst := stepL_le l[i] L G
      have hb1 := both_live H' h m L G l[i] t
      generalize l[i] = q at *
      obtain ⟨kd, ⟨⟨a, c⟩, ⟨pa, pc⟩, ri, ru⟩, ⟨x1, x2⟩⟩ := q
      simp only [doC, insC, List.cons_append, List.nil_append] at hld hb1
      generalize stepL _ (L, G) = R at *
      obtain ⟨L2, G2⟩ := R
      unfold BothR at hb1
      simp only [] at hb1 hst
      simp (disch := omega) only [↓runPre, runPost, fieldO, ixA, cutA, lenA, aggA, rowA, appA, mkA, indA, bnd, srcA, sameOp, funcA, cvO, partA, aggD, ↓PostP, resV, resAll, resOne, resVF, resAllF, resOneF, fitsAll, fitsR, fits, frz, Post, Nat.reduceBEq, Nat.reduceLT, reduceCtorEq, ↓reduceIte, initS, AV.cellsOf, AV.fine, AV.one, repA, Nat.reduceMul, Nat.reduceAdd, Nat.reduceLeDiff, Nat.reduceEqDiff, Int.reduceToNat, Nat.reduceSub, Nat.reduceMod, Nat.reduceDiv, indexK.aggOf, Int.reducePow, Int.reduceLE, Int.reduceNeg, Int.reduceLT, Int.reduceBEq, Int.reduceBNe, Int.reduceEq, ownA, nilA, Try.facts, s5, s6, s26, s27, s28, dT, dF, qT, qF, nT, nF, Bool.false_and, Bool.and_false, hld, hle, hdl]
      intro b1 hb10 hb1f
      simp (disch := omega) only [↓runPre, runPost, fieldO, ixA, cutA, lenA, aggA, rowA, appA, mkA, indA, bnd, srcA, sameOp, funcA, cvO, partA, aggD, ↓PostP, resV, resAll, resOne, resVF, resAllF, resOneF, fitsAll, fitsR, fits, frz, Post, Nat.reduceBEq, Nat.reduceLT, reduceCtorEq, ↓reduceIte, initS, AV.cellsOf, AV.fine, AV.one, repA, Nat.reduceMul, Nat.reduceAdd, Nat.reduceLeDiff, Nat.reduceEqDiff, Int.reduceToNat, Nat.reduceSub, Nat.reduceMod, Nat.reduceDiv, indexK.aggOf, Int.reducePow, Int.reduceLE, Int.reduceNeg, Int.reduceLT, Int.reduceBEq, Int.reduceBNe, Int.reduceEq, ownA, nilA, Try.facts, s5, s6, s26, s27, s28, dT, dF, qT, qF, nT, nF, Bool.false_and, Bool.and_false, hld, hle, hdl, kill_box hb1f, putCells_eq, v4]
      refine CallK.i hb1 ?_
      rintro v H2 ⟨rfl, t2, fr⟩
      have w4 := fr k4 (fun e => nh4 e.symm) (fun e => nm4 e.symm) _ v4
      have hs2 : Abs.Sub H H2 := fun y o hy => fr y (ne_live hy hh) (ne_live hy hm) _ (hs _ _ hy)
      simp (disch := omega) only [↓runPre, runPost, fieldO, ixA, cutA, lenA, aggA, rowA, appA, mkA, indA, bnd, srcA, sameOp, funcA, cvO, partA, aggD, ↓PostP, resV, resAll, resOne, resVF, resAllF, resOneF, fitsAll, fitsR, fits, frz, Post, Nat.reduceBEq, Nat.reduceLT, reduceCtorEq, ↓reduceIte, initS, AV.cellsOf, AV.fine, AV.one, repA, Nat.reduceMul, Nat.reduceAdd, Nat.reduceLeDiff, Nat.reduceEqDiff, Int.reduceToNat, Nat.reduceSub, Nat.reduceMod, Nat.reduceDiv, indexK.aggOf, Int.reducePow, Int.reduceLE, Int.reduceNeg, Int.reduceLT, Int.reduceBEq, Int.reduceBNe, Int.reduceEq, ownA, nilA, Try.facts, s5, s6, s26, s27, s28, putCells_eq, w4]
      exact ⟨mm - 1, by omega, i + 1, L2, G2, by omega, by omega, hs2.set_free n4, t2.put nh4 nm4, rfl, s1, rfl⟩
    · have hN1 := nodes_live H' h m L G t
      have hLs : L.length ≤ 60 := by omega
      have hn1 := nodes_le G t.g.nd (by omega)
      obtain ⟨W, hW⟩ : ∃ W, W = nodes L G := ⟨_, rfl⟩
      rw [← hW] at hN1 hn1
      simp (disch := omega) only [↓runPre, runPost, fieldO, ixA, cutA, lenA, aggA, rowA, appA, mkA, indA, bnd, srcA, sameOp, funcA, cvO, partA, aggD, ↓PostP, resV, resAll, resOne, resVF, resAllF, resOneF, fitsAll, fitsR, fits, frz, Post, Nat.reduceBEq, Nat.reduceLT, reduceCtorEq, ↓reduceIte, initS, AV.cellsOf, AV.fine, AV.one, repA, Nat.reduceMul, Nat.reduceAdd, Nat.reduceLeDiff, Nat.reduceEqDiff, Int.reduceToNat, Nat.reduceSub, Nat.reduceMod, Nat.reduceDiv, indexK.aggOf, Int.reducePow, Int.reduceLE, Int.reduceNeg, Int.reduceLT, Int.reduceBEq, Int.reduceBNe, Int.reduceEq, ownA, nilA, Try.facts, s1, s5, s6, s26, s27, s28, dT, dF, qT, qF, nT, nF, Bool.false_and, Bool.and_false]
      refine CallK.i hN1 ?_
      rintro v E ⟨rfl, rfl⟩
      simp (disch := omega) only [↓runPre, runPost, fieldO, ixA, cutA, lenA, aggA, rowA, appA, mkA, indA, bnd, srcA, sameOp, funcA, cvO, partA, aggD, ↓PostP, resV, resAll, resOne, resVF, resAllF, resOneF, fitsAll, fitsR, fits, frz, Post, Nat.reduceBEq, Nat.reduceLT, reduceCtorEq, ↓reduceIte, initS, AV.cellsOf, AV.fine, AV.one, repA, Nat.reduceMul, Nat.reduceAdd, Nat.reduceLeDiff, Nat.reduceEqDiff, Int.reduceToNat, Nat.reduceSub, Nat.reduceMod, Nat.reduceDiv, indexK.aggOf, Int.reducePow, Int.reduceLE, Int.reduceNeg, Int.reduceLT, Int.reduceBEq, Int.reduceBNe, Int.reduceEq, ownA, nilA, Try.facts, s1, s5, s6, s26, s27, s28, dT, dF, qT, qF, nT, nF, Bool.false_and, Bool.and_false]
      clear hN1 him hlt s26 s27 s28
      refine loop_t (c := ⟨Try.prog, 107, [(19, [0, 0, 1, 0, 0, 0, 1, 0, 0, 0, 0, 1, 0, 0]), (20, [0, 1, 0, 0, 0, 0, 1, 0, 0, 0, 0, 0, 0, 1, 0, 0, 1, 0, 0, 0]), (1000006, [8]), (1000012, [11]), (1000018, [14]), (4000024, [4]), (4000020, [9, 12, 57, 58, 59, 96]), (4000019, [9, 12, 14, 57, 58, 59, 76]), (4000013, [5, 6, 9, 42, 43, 44]), (4000007, [1, 5, 6, 26, 27, 28]), (4000003, [0, 1, 5, 6]), (4000001, [0, 1, 22])], [], []⟩) Try.mixed (by kernel_rfl) (fun mm σ H' => ∃ (j : Nat) (L' M : List Ins) (G' : List EId), j + mm = mo.length ∧ L'.length ≤ 60 + j ∧ L' = L ++ M ∧ (∀ x ∈ G, x ∈ G') ∧ Abs.Sub H H' ∧ IsT H' h m L' G' ∧ H' k4 = some (tBox L' G') ∧
        σ 9 = ndsV W ∧ σ 5 = .ptr h 0 ∧ σ 6 = .ptr k4 0 ∧ σ 42 = .imm 0 (dosC mo) mo.length ∧ σ 43 = .sc (.int .i64 mo.length) ∧ σ 44 = .sc (.int .i64 (j : Nat))) mo.length ?_ ?_
      · refine ⟨0, L, [], G, by omega, by omega, by simp, fun _ h => h, hs, t, v4, ?_⟩
        simp (disch := omega) only [↓runPre, runPost, fieldO, ixA, cutA, lenA, aggA, rowA, appA, mkA, indA, bnd, srcA, sameOp, funcA, cvO, partA, aggD, ↓PostP, resV, resAll, resOne, resVF, resAllF, resOneF, fitsAll, fitsR, fits, frz, Post, Nat.reduceBEq, Nat.reduceLT, reduceCtorEq, ↓reduceIte, initS, AV.cellsOf, AV.fine, AV.one, repA, Nat.reduceMul, Nat.reduceAdd, Nat.reduceLeDiff, Nat.reduceEqDiff, Int.reduceToNat, Nat.reduceSub, Nat.reduceMod, Nat.reduceDiv, indexK.aggOf, Int.reducePow, Int.reduceLE, Int.reduceNeg, Int.reduceLT, Int.reduceBEq, Int.reduceBNe, Int.reduceEq, ownA, nilA, Try.facts]
        exact ⟨s5, s6⟩
      · clear hs t v4 s1 s5 s6
        rintro mm σ H' ⟨j, L', M, G', hjm, hLj, hLM, hGG, hs, t, v4, s9, s5, s6, s42, s43, s44⟩
        by_cases hlt : j < mo.length
        · have hld := dosC_load hlt
          have hle : j * 9 + 9 ≤ mo.length * 9 := by omega
          have hst := stepL_le mo[j] L' G'
          have hb1 := both_live H' h m L' G' mo[j] t
          obtain ⟨⟨M1, hM1⟩, hG1⟩ := stepL_ext mo[j] L' G'
          generalize mo[j] = q at *
          obtain ⟨kd, ⟨⟨a, c⟩, ⟨pa, pc⟩, ri, ru⟩, ⟨x1, x2⟩⟩ := q
          simp only [doC, insC, List.cons_append, List.nil_append] at hld hb1
          generalize stepL _ (L', G') = R at *
          obtain ⟨L2, G2⟩ := R
          unfold BothR at hb1
          simp only [] at hb1 hst hM1 hG1
          simp (disch := omega) only [↓runPre, runPost, fieldO, ixA, cutA, lenA, aggA, rowA, appA, mkA, indA, bnd, srcA, sameOp, funcA, cvO, partA, aggD, ↓PostP, resV, resAll, resOne, resVF, resAllF, resOneF, fitsAll, fitsR, fits, frz, Post, Nat.reduceBEq, Nat.reduceLT, reduceCtorEq, ↓reduceIte, initS, AV.cellsOf, AV.fine, AV.one, repA, Nat.reduceMul, Nat.reduceAdd, Nat.reduceLeDiff, Nat.reduceEqDiff, Int.reduceToNat, Nat.reduceSub, Nat.reduceMod, Nat.reduceDiv, indexK.aggOf, Int.reducePow, Int.reduceLE, Int.reduceNeg, Int.reduceLT, Int.reduceBEq, Int.reduceBNe, Int.reduceEq, ownA, nilA, Try.facts, s9, s5, s6, s42, s43, s44, dT, dF, qT, qF, nT, nF, Bool.false_and, Bool.and_false, hld, hle, hdm]
          intro b1 hb10 hb1f
          simp (disch := omega) only [↓runPre, runPost, fieldO, ixA, cutA, lenA, aggA, rowA, appA, mkA, indA, bnd, srcA, sameOp, funcA, cvO, partA, aggD, ↓PostP, resV, resAll, resOne, resVF, resAllF, resOneF, fitsAll, fitsR, fits, frz, Post, Nat.reduceBEq, Nat.reduceLT, reduceCtorEq, ↓reduceIte, initS, AV.cellsOf, AV.fine, AV.one, repA, Nat.reduceMul, Nat.reduceAdd, Nat.reduceLeDiff, Nat.reduceEqDiff, Int.reduceToNat, Nat.reduceSub, Nat.reduceMod, Nat.reduceDiv, indexK.aggOf, Int.reducePow, Int.reduceLE, Int.reduceNeg, Int.reduceLT, Int.reduceBEq, Int.reduceBNe, Int.reduceEq, ownA, nilA, Try.facts, s9, s5, s6, s42, s43, s44, dT, dF, qT, qF, nT, nF, Bool.false_and, Bool.and_false, hld, hle, hdm, kill_box hb1f, putCells_eq, v4]
          refine CallK.i hb1 ?_
          rintro v H2 ⟨rfl, t2, fr⟩
          have w4 := fr k4 (fun e => nh4 e.symm) (fun e => nm4 e.symm) _ v4
          have hs2 : Abs.Sub H H2 := fun y o hy => fr y (ne_live hy hh) (ne_live hy hm) _ (hs _ _ hy)
          simp (disch := omega) only [↓runPre, runPost, fieldO, ixA, cutA, lenA, aggA, rowA, appA, mkA, indA, bnd, srcA, sameOp, funcA, cvO, partA, aggD, ↓PostP, resV, resAll, resOne, resVF, resAllF, resOneF, fitsAll, fitsR, fits, frz, Post, Nat.reduceBEq, Nat.reduceLT, reduceCtorEq, ↓reduceIte, initS, AV.cellsOf, AV.fine, AV.one, repA, Nat.reduceMul, Nat.reduceAdd, Nat.reduceLeDiff, Nat.reduceEqDiff, Int.reduceToNat, Nat.reduceSub, Nat.reduceMod, Nat.reduceDiv, indexK.aggOf, Int.reducePow, Int.reduceLE, Int.reduceNeg, Int.reduceLT, Int.reduceBEq, Int.reduceBNe, Int.reduceEq, ownA, nilA, Try.facts, s9, s5, s6, s42, s43, s44, putCells_eq, w4]
          exact ⟨mm - 1, by omega, j + 1, L2, M ++ M1, G2, by omega, by omega, by rw [hM1, hLM, List.append_assoc], fun x hx => hG1 x (hGG x hx), hs2.set_free n4, t2.put nh4 nm4, rfl, rfl⟩
        · have hN2 := nodes_live H' h m L' G' t
          have hn2 := nodes_le G' t.g.nd (by omega)
          have hsub := nodes_sub L M G G'
          have hone := fun {a b} => @stays_one L M G G' hGG a b
          rw [← hLM] at hsub hone
          rw [← hW] at hsub hone
          obtain ⟨V, hV⟩ : ∃ V, V = nodes L' G' := ⟨_, rfl⟩
          rw [← hV] at hN2 hn2 hsub hone
          have hWi := ndsC_length W
          have hVi := ndsC_length V
          simp (disch := omega) only [↓runPre, runPost, fieldO, ixA, cutA, lenA, aggA, rowA, appA, mkA, indA, bnd, srcA, sameOp, funcA, cvO, partA, aggD, ↓PostP, resV, resAll, resOne, resVF, resAllF, resOneF, fitsAll, fitsR, fits, frz, Post, Nat.reduceBEq, Nat.reduceLT, reduceCtorEq, ↓reduceIte, initS, AV.cellsOf, AV.fine, AV.one, repA, Nat.reduceMul, Nat.reduceAdd, Nat.reduceLeDiff, Nat.reduceEqDiff, Int.reduceToNat, Nat.reduceSub, Nat.reduceMod, Nat.reduceDiv, indexK.aggOf, Int.reducePow, Int.reduceLE, Int.reduceNeg, Int.reduceLT, Int.reduceBEq, Int.reduceBNe, Int.reduceEq, ownA, nilA, Try.facts, s9, s5, s6, s42, s43, s44, dT, dF, qT, qF, nT, nF, Bool.false_and, Bool.and_false]
          refine CallK.i hN2 ?_
          rintro v E ⟨rfl, rfl⟩
          simp (disch := omega) only [↓runPre, runPost, fieldO, ixA, cutA, lenA, aggA, rowA, appA, mkA, indA, bnd, srcA, sameOp, funcA, cvO, partA, aggD, ↓PostP, resV, resAll, resOne, resVF, resAllF, resOneF, fitsAll, fitsR, fits, frz, Post, Nat.reduceBEq, Nat.reduceLT, reduceCtorEq, ↓reduceIte, initS, AV.cellsOf, AV.fine, AV.one, repA, Nat.reduceMul, Nat.reduceAdd, Nat.reduceLeDiff, Nat.reduceEqDiff, Int.reduceToNat, Nat.reduceSub, Nat.reduceMod, Nat.reduceDiv, indexK.aggOf, Int.reducePow, Int.reduceLE, Int.reduceNeg, Int.reduceLT, Int.reduceBEq, Int.reduceBNe, Int.reduceEq, ownA, nilA, Try.facts, s9, s5, s6, s42, s43, s44, dT, dF, qT, qF, nT, nF, Bool.false_and, Bool.and_false]
          clear hN2 hjm hlt hLj hLM hGG t v4 s42 s43 s44 hV hW
          refine loop_t (c := ⟨Try.prog, 107, [(19, [0, 0, 1, 0, 0, 0, 1, 0, 0, 0, 0, 1, 0, 0]), (20, [0, 1, 0, 0, 0, 0, 1, 0, 0, 0, 0, 0, 0, 1, 0, 0, 1, 0, 0, 0]), (1000006, [8]), (1000012, [11]), (1000018, [14]), (4000024, [4]), (4000020, [9, 12, 57, 58, 59, 96]), (4000019, [9, 12, 14, 57, 58, 59, 76]), (4000013, [5, 6, 9, 42, 43, 44]), (4000007, [1, 5, 6, 26, 27, 28]), (4000003, [0, 1, 5, 6]), (4000001, [0, 1, 22])], [], []⟩) Try.mixed (by kernel_rfl) (fun mm σ H' => ∃ (j at_ : Nat), j + mm = V.length ∧ at_ ≤ W.length ∧ (idsN (W.drop at_)).Sublist (idsN (V.drop j)) ∧ Abs.Sub H H' ∧
            σ 9 = ndsV W ∧ σ 57 = ndsV V ∧ σ 58 = .sc (.int .i64 V.length) ∧ σ 59 = .sc (.int .i64 (j : Nat)) ∧ σ 12 = .sc (.int .i64 (at_ : Nat))) V.length ?_ ?_
          · refine ⟨0, 0, by omega, by omega, by simpa using hsub, hs, ?_⟩
            simp (disch := omega) only [↓runPre, runPost, fieldO, ixA, cutA, lenA, aggA, rowA, appA, mkA, indA, bnd, srcA, sameOp, funcA, cvO, partA, aggD, ↓PostP, resV, resAll, resOne, resVF, resAllF, resOneF, fitsAll, fitsR, fits, frz, Post, Nat.reduceBEq, Nat.reduceLT, reduceCtorEq, ↓reduceIte, initS, AV.cellsOf, AV.fine, AV.one, repA, Nat.reduceMul, Nat.reduceAdd, Nat.reduceLeDiff, Nat.reduceEqDiff, Int.reduceToNat, Nat.reduceSub, Nat.reduceMod, Nat.reduceDiv, indexK.aggOf, Int.reducePow, Int.reduceLE, Int.reduceNeg, Int.reduceLT, Int.reduceBEq, Int.reduceBNe, Int.reduceEq, ownA, nilA, Try.facts, s9]
            skip
            try rfl
          · clear s9 hs
            rintro mm σ H' ⟨j, at_, hjm, haj, hsb, hs, s9, s57, s58, s59, s12⟩
            by_cases hlt : j < V.length
            · have hld := ndsC_load hlt
              have hle : j * 4 + 4 ≤ V.length * 4 := by omega
              have hVm := List.getElem_mem hlt
              have hdj := List.drop_eq_getElem_cons hlt
              rw [hdj] at hsb
              have ha1 : ((at_ : Nat) : Int) + 1 = ((at_ + 1 : Nat) : Int) := by omega
              by_cases hat : at_ < W.length
              · have hld2 := ndsC_two hat
                have hgr := ndsC_get hat (j := 2) (by omega)
                have hgg := ndsC_get hat (j := 3) (by omega)
                have hle2 : at_ * 4 + 2 ≤ W.length * 4 := by omega
                have hle3 : at_ * 4 + 2 < W.length * 4 := by omega
                have hle4 : at_ * 4 + 3 < W.length * 4 := by omega
                have ho := hone (List.getElem_mem hat) hVm
                have hda := List.drop_eq_getElem_cons hat
                rw [hda] at hsb
                have gy := fun e => greedy_yes hsb e
                have gn := fun e => greedy_no hsb e
                rw [← hda] at gn
                generalize W[at_] = x at *
                generalize V[j] = y at *
                obtain ⟨⟨x1, x2⟩, xu, xg⟩ := x
                obtain ⟨⟨y1, y2⟩, yu, yg⟩ := y
                simp only [ndC, List.getElem?_cons_succ, List.getElem?_cons_zero] at hld hld2 hgr hgg gy gn ho
                by_cases e : y1 = x1 ∧ y2 = x2
                · obtain ⟨rfl, rfl⟩ := e
                  obtain ⟨rfl, hgo⟩ := ho rfl
                  have hnx := gy rfl
                  have hg2 : (xg && !yg) = false := by
                    cases xg with
                    | false => rfl
                    | true => rw [hgo rfl]; rfl
                  cases xg <;> cases yg <;> first | cases hg2 | skip
                  all_goals
                    simp (disch := omega) only [↓runPre, runPost, fieldO, ixA, cutA, lenA, aggA, rowA, appA, mkA, indA, bnd, srcA, sameOp, funcA, cvO, partA, aggD, ↓PostP, resV, resAll, resOne, resVF, resAllF, resOneF, fitsAll, fitsR, fits, frz, Post, Nat.reduceBEq, Nat.reduceLT, reduceCtorEq, ↓reduceIte, initS, AV.cellsOf, AV.fine, AV.one, repA, Nat.reduceMul, Nat.reduceAdd, Nat.reduceLeDiff, Nat.reduceEqDiff, Int.reduceToNat, Nat.reduceSub, Nat.reduceMod, Nat.reduceDiv, indexK.aggOf, Int.reducePow, Int.reduceLE, Int.reduceNeg, Int.reduceLT, Int.reduceBEq, Int.reduceBNe, Int.reduceEq, ownA, nilA, Try.facts, s9, s57, s58, s59, s12, dT, dF, qT, qF, nT, nF, Bool.false_and, Bool.and_false, hld, hle, hVi, hWi, ha1]
                    intro b1 hb10 hb1f
                    simp (disch := omega) only [↓runPre, runPost, fieldO, ixA, cutA, lenA, aggA, rowA, appA, mkA, indA, bnd, srcA, sameOp, funcA, cvO, partA, aggD, ↓PostP, resV, resAll, resOne, resVF, resAllF, resOneF, fitsAll, fitsR, fits, frz, Post, Nat.reduceBEq, Nat.reduceLT, reduceCtorEq, ↓reduceIte, initS, AV.cellsOf, AV.fine, AV.one, repA, Nat.reduceMul, Nat.reduceAdd, Nat.reduceLeDiff, Nat.reduceEqDiff, Int.reduceToNat, Nat.reduceSub, Nat.reduceMod, Nat.reduceDiv, indexK.aggOf, Int.reducePow, Int.reduceLE, Int.reduceNeg, Int.reduceLT, Int.reduceBEq, Int.reduceBNe, Int.reduceEq, ownA, nilA, Try.facts, s9, s57, s58, s59, s12, dT, dF, qT, qF, nT, nF, Bool.false_and, Bool.and_false, hld, hld2, hgr, hgg, hle, hle2, hle3, hle4, hVi, hWi, ha1, kill_box hb1f, beq_self_eq_true, bne_self_eq_false, putCells_eq]
                    skip
                    exact ⟨mm - 1, by omega, j + 1, at_ + 1, by omega, by omega, hnx, hs, rfl, rfl⟩
                · have hnx := gn (fun e' => e (by simpa using e'))
                  have hbq : ((y1 == x1) && (y2 == x2)) = false := by
                    rw [Bool.eq_false_iff]
                    intro h
                    simp only [Bool.and_eq_true, beq_iff_eq] at h
                    exact e h
                  simp (disch := omega) only [↓runPre, runPost, fieldO, ixA, cutA, lenA, aggA, rowA, appA, mkA, indA, bnd, srcA, sameOp, funcA, cvO, partA, aggD, ↓PostP, resV, resAll, resOne, resVF, resAllF, resOneF, fitsAll, fitsR, fits, frz, Post, Nat.reduceBEq, Nat.reduceLT, reduceCtorEq, ↓reduceIte, initS, AV.cellsOf, AV.fine, AV.one, repA, Nat.reduceMul, Nat.reduceAdd, Nat.reduceLeDiff, Nat.reduceEqDiff, Int.reduceToNat, Nat.reduceSub, Nat.reduceMod, Nat.reduceDiv, indexK.aggOf, Int.reducePow, Int.reduceLE, Int.reduceNeg, Int.reduceLT, Int.reduceBEq, Int.reduceBNe, Int.reduceEq, ownA, nilA, Try.facts, s9, s57, s58, s59, s12, dT, dF, qT, qF, nT, nF, Bool.false_and, Bool.and_false, hld, hle, hVi, hWi, ha1]
                  intro b1 hb10 hb1f
                  simp (disch := omega) only [↓runPre, runPost, fieldO, ixA, cutA, lenA, aggA, rowA, appA, mkA, indA, bnd, srcA, sameOp, funcA, cvO, partA, aggD, ↓PostP, resV, resAll, resOne, resVF, resAllF, resOneF, fitsAll, fitsR, fits, frz, Post, Nat.reduceBEq, Nat.reduceLT, reduceCtorEq, ↓reduceIte, initS, AV.cellsOf, AV.fine, AV.one, repA, Nat.reduceMul, Nat.reduceAdd, Nat.reduceLeDiff, Nat.reduceEqDiff, Int.reduceToNat, Nat.reduceSub, Nat.reduceMod, Nat.reduceDiv, indexK.aggOf, Int.reducePow, Int.reduceLE, Int.reduceNeg, Int.reduceLT, Int.reduceBEq, Int.reduceBNe, Int.reduceEq, ownA, nilA, Try.facts, s9, s57, s58, s59, s12, dT, dF, hld, hld2, hle, hle2, hle3, hle4, hVi, hWi, hbq, kill_box hb1f, putCells_eq]
                  skip
                  exact ⟨mm - 1, by omega, j + 1, at_, by omega, by omega, hnx, hs, rfl, rfl⟩
              · have hnx : (idsN (W.drop at_)).Sublist (idsN (V.drop (j + 1))) := by rw [List.drop_of_length_le (by omega)]; exact List.nil_sublist _
                generalize V[j] = y at *
                obtain ⟨⟨y1, y2⟩, yu, yg⟩ := y
                simp only [ndC] at hld
                simp (disch := omega) only [↓runPre, runPost, fieldO, ixA, cutA, lenA, aggA, rowA, appA, mkA, indA, bnd, srcA, sameOp, funcA, cvO, partA, aggD, ↓PostP, resV, resAll, resOne, resVF, resAllF, resOneF, fitsAll, fitsR, fits, frz, Post, Nat.reduceBEq, Nat.reduceLT, reduceCtorEq, ↓reduceIte, initS, AV.cellsOf, AV.fine, AV.one, repA, Nat.reduceMul, Nat.reduceAdd, Nat.reduceLeDiff, Nat.reduceEqDiff, Int.reduceToNat, Nat.reduceSub, Nat.reduceMod, Nat.reduceDiv, indexK.aggOf, Int.reducePow, Int.reduceLE, Int.reduceNeg, Int.reduceLT, Int.reduceBEq, Int.reduceBNe, Int.reduceEq, ownA, nilA, Try.facts, s9, s57, s58, s59, s12, dT, dF, qT, qF, nT, nF, Bool.false_and, Bool.and_false, hld, hle, hVi, hWi, ha1]
                intro b1 hb10 hb1f
                simp (disch := omega) only [↓runPre, runPost, fieldO, ixA, cutA, lenA, aggA, rowA, appA, mkA, indA, bnd, srcA, sameOp, funcA, cvO, partA, aggD, ↓PostP, resV, resAll, resOne, resVF, resAllF, resOneF, fitsAll, fitsR, fits, frz, Post, Nat.reduceBEq, Nat.reduceLT, reduceCtorEq, ↓reduceIte, initS, AV.cellsOf, AV.fine, AV.one, repA, Nat.reduceMul, Nat.reduceAdd, Nat.reduceLeDiff, Nat.reduceEqDiff, Int.reduceToNat, Nat.reduceSub, Nat.reduceMod, Nat.reduceDiv, indexK.aggOf, Int.reducePow, Int.reduceLE, Int.reduceNeg, Int.reduceLT, Int.reduceBEq, Int.reduceBNe, Int.reduceEq, ownA, nilA, Try.facts, s9, s57, s58, s59, s12, dT, dF, qT, qF, nT, nF, Bool.false_and, Bool.and_false, hld, hle, hVi, hWi, kill_box hb1f, putCells_eq]
                skip
                exact ⟨mm - 1, by omega, j + 1, at_, by omega, by omega, hnx, hs, rfl, rfl⟩
            · have hat : at_ = W.length := by
                rw [List.drop_of_length_le (by omega : V.length ≤ j)] at hsb
                have h1 := List.drop_eq_nil_iff.1 (greedy_end hsb)
                omega
              subst hat
              simp (disch := omega) only [↓runPre, runPost, fieldO, ixA, cutA, lenA, aggA, rowA, appA, mkA, indA, bnd, srcA, sameOp, funcA, cvO, partA, aggD, ↓PostP, resV, resAll, resOne, resVF, resAllF, resOneF, fitsAll, fitsR, fits, frz, Post, Nat.reduceBEq, Nat.reduceLT, reduceCtorEq, ↓reduceIte, initS, AV.cellsOf, AV.fine, AV.one, repA, Nat.reduceMul, Nat.reduceAdd, Nat.reduceLeDiff, Nat.reduceEqDiff, Int.reduceToNat, Nat.reduceSub, Nat.reduceMod, Nat.reduceDiv, indexK.aggOf, Int.reducePow, Int.reduceLE, Int.reduceNeg, Int.reduceLT, Int.reduceBEq, Int.reduceBNe, Int.reduceEq, ownA, nilA, Try.facts, s9, s57, s58, s59, s12, dT, dF, qT, qF, nT, nF, Bool.false_and, Bool.and_false]
              first | refine CallK.p (haw) ?_ | refine CallP.i (haw) ?_
              simp (disch := omega) only [↓runPre, runPost, fieldO, ixA, cutA, lenA, aggA, rowA, appA, mkA, indA, bnd, srcA, sameOp, funcA, cvO, partA, aggD, ↓PostP, resV, resAll, resOne, resVF, resAllF, resOneF, fitsAll, fitsR, fits, frz, Post, Nat.reduceBEq, Nat.reduceLT, reduceCtorEq, ↓reduceIte, initS, AV.cellsOf, AV.fine, AV.one, repA, Nat.reduceMul, Nat.reduceAdd, Nat.reduceLeDiff, Nat.reduceEqDiff, Int.reduceToNat, Nat.reduceSub, Nat.reduceMod, Nat.reduceDiv, indexK.aggOf, Int.reducePow, Int.reduceLE, Int.reduceNeg, Int.reduceLT, Int.reduceBEq, Int.reduceBNe, Int.reduceEq, ownA, nilA, Try.facts]
              skip
              exact hs
end Go.Proofs.Ytpmmafmbjconiaa
