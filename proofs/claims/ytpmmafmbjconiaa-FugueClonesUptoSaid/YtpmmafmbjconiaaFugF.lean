/-
  The walks of the fugue layer: the document's text, and what is added and dropped.
  Conditions: none. Lemmas only.
-/
import Derived.Test.YtpmmafmbjconiaaFugE
set_option linter.all false
set_option linter.unusedSimpArgs false
set_option linter.unusedVariables false
set_option maxRecDepth 8000
set_option maxHeartbeats 4000000
namespace Go.Proofs.Ytpmmafmbjconiaa
open Go Go.Abs Go.Proofs Go.Fug

theorem nodes_le {L : List Ins} (G : List EId) (h : (L.map (·.id)).Nodup) (hL : L.length ≤ 10000) : (nodes L G).length ≤ 1000000000 := by
  have h1 := below_le G h (L.length + 1) root true
  have : (L.length + 1) * L.length ≤ 10001 * 10000 := Nat.mul_le_mul (by omega) hL
  unfold nodes
  omega
theorem rnodes_pure (L : List Ins) (G : List EId) (hL : L.length ≤ 10000) (hG : G.length ≤ 10000) (g : Fug.Good L) : APure Try.prog 14 [treeV L G] (ndsV (nodes L G)) := by
  have h := rbelow_pure L G hL hG g.nd (L.length + 1) root true (by omega) (g.deep root)
  have hR : below L G (L.length + 1) root true = nodes L G := rfl
  rw [hR] at h
  generalize nodes L G = R at *
  refine apure_of_cwp (c := ⟨Try.prog, 6, [(1000000, [1])], [], []⟩) (rs := [ResultVar.tmp 2]) Try.mixed Try.func14 rfl rfl rfl (Nat.le_of_ble_eq_true rfl) (by kernel_rfl) fun H => ?_
  simp (disch := omega) only [↓runPre, runPost, fieldO, ixA, cutA, lenA, aggA, rowA, appA, mkA, indA, bnd, srcA, sameOp, funcA, cvO, partA, aggD, ↓PostP, resV, resAll, resOne, resVF, resAllF, resOneF, fitsAll, fitsR, fits, frz, Post, Nat.reduceBEq, Nat.reduceLT, reduceCtorEq, ↓reduceIte, initS, AV.cellsOf, AV.fine, AV.one, repA, Nat.reduceMul, Nat.reduceAdd, Nat.reduceLeDiff, Nat.reduceEqDiff, Int.reduceToNat, Nat.reduceSub, Nat.reduceMod, Nat.reduceDiv, indexK.aggOf, Int.reducePow, Int.reduceLE, Int.reduceNeg, Int.reduceLT, Int.reduceBEq, Int.reduceBNe, Int.reduceEq, ownA, nilA, Try.facts]
  intro k1 hk10 hk1
  try simp (disch := omega) only [↓runPre, runPost, fieldO, ixA, cutA, lenA, aggA, rowA, appA, mkA, indA, bnd, srcA, sameOp, funcA, cvO, partA, aggD, ↓PostP, resV, resAll, resOne, resVF, resAllF, resOneF, fitsAll, fitsR, fits, frz, Post, Nat.reduceBEq, Nat.reduceLT, reduceCtorEq, ↓reduceIte, initS, AV.cellsOf, AV.fine, AV.one, repA, Nat.reduceMul, Nat.reduceAdd, Nat.reduceLeDiff, Nat.reduceEqDiff, Int.reduceToNat, Nat.reduceSub, Nat.reduceMod, Nat.reduceDiv, indexK.aggOf, Int.reducePow, Int.reduceLE, Int.reduceNeg, Int.reduceLT, Int.reduceBEq, Int.reduceBNe, Int.reduceEq, ownA, nilA, Try.facts, kill_box hk1]
  first | refine CallK.p (h) ?_ | refine CallP.i (h) ?_
  simp (disch := omega) only [↓runPre, runPost, fieldO, ixA, cutA, lenA, aggA, rowA, appA, mkA, indA, bnd, srcA, sameOp, funcA, cvO, partA, aggD, ↓PostP, resV, resAll, resOne, resVF, resAllF, resOneF, fitsAll, fitsR, fits, frz, Post, Nat.reduceBEq, Nat.reduceLT, reduceCtorEq, ↓reduceIte, initS, AV.cellsOf, AV.fine, AV.one, repA, Nat.reduceMul, Nat.reduceAdd, Nat.reduceLeDiff, Nat.reduceEqDiff, Int.reduceToNat, Nat.reduceSub, Nat.reduceMod, Nat.reduceDiv, indexK.aggOf, Int.reducePow, Int.reduceLE, Int.reduceNeg, Int.reduceLT, Int.reduceBEq, Int.reduceBNe, Int.reduceEq, ownA, nilA, Try.facts, kill_box hk1]
  exact Abs.Sub.refl _
/-- those that are not dropped -/
def live (l : List Nd) : List Nd := l.filter fun n => !n.gone
theorem rlive_pure (L : List Ins) (G : List EId) (hL : L.length ≤ 10000) (hG : G.length ≤ 10000) (g : Fug.Good L) : APure Try.prog 22 [treeV L G] (ndsV (live (nodes L G))) := by
  have h := rnodes_pure L G hL hG g
  have hl := nodes_le G g.nd hL
  generalize nodes L G = M at *
  have hMi := ndsC_length M
  refine apure_of_cwp (c := ⟨Try.prog, 28, [(1000000, [1])], [], []⟩) (rs := [ResultVar.tmp 2]) Try.mixed Try.func22 rfl rfl rfl (Nat.le_of_ble_eq_true rfl) (by kernel_rfl) fun H => ?_
  simp (disch := omega) only [↓runPre, runPost, fieldO, ixA, cutA, lenA, aggA, rowA, appA, mkA, indA, bnd, srcA, sameOp, funcA, cvO, partA, aggD, ↓PostP, resV, resAll, resOne, resVF, resAllF, resOneF, fitsAll, fitsR, fits, frz, Post, Nat.reduceBEq, Nat.reduceLT, reduceCtorEq, ↓reduceIte, initS, AV.cellsOf, AV.fine, AV.one, repA, Nat.reduceMul, Nat.reduceAdd, Nat.reduceLeDiff, Nat.reduceEqDiff, Int.reduceToNat, Nat.reduceSub, Nat.reduceMod, Nat.reduceDiv, indexK.aggOf, Int.reducePow, Int.reduceLE, Int.reduceNeg, Int.reduceLT, Int.reduceBEq, Int.reduceBNe, Int.reduceEq, ownA, nilA, Try.facts]
  intro k1 hk10 hk1
  try simp (disch := omega) only [↓runPre, runPost, fieldO, ixA, cutA, lenA, aggA, rowA, appA, mkA, indA, bnd, srcA, sameOp, funcA, cvO, partA, aggD, ↓PostP, resV, resAll, resOne, resVF, resAllF, resOneF, fitsAll, fitsR, fits, frz, Post, Nat.reduceBEq, Nat.reduceLT, reduceCtorEq, ↓reduceIte, initS, AV.cellsOf, AV.fine, AV.one, repA, Nat.reduceMul, Nat.reduceAdd, Nat.reduceLeDiff, Nat.reduceEqDiff, Int.reduceToNat, Nat.reduceSub, Nat.reduceMod, Nat.reduceDiv, indexK.aggOf, Int.reducePow, Int.reduceLE, Int.reduceNeg, Int.reduceLT, Int.reduceBEq, Int.reduceBNe, Int.reduceEq, ownA, nilA, Try.facts, kill_box hk1]
  first | refine CallK.p (h) ?_ | refine CallP.i (h) ?_
  simp (disch := omega) only [↓runPre, runPost, fieldO, ixA, cutA, lenA, aggA, rowA, appA, mkA, indA, bnd, srcA, sameOp, funcA, cvO, partA, aggD, ↓PostP, resV, resAll, resOne, resVF, resAllF, resOneF, fitsAll, fitsR, fits, frz, Post, Nat.reduceBEq, Nat.reduceLT, reduceCtorEq, ↓reduceIte, initS, AV.cellsOf, AV.fine, AV.one, repA, Nat.reduceMul, Nat.reduceAdd, Nat.reduceLeDiff, Nat.reduceEqDiff, Int.reduceToNat, Nat.reduceSub, Nat.reduceMod, Nat.reduceDiv, indexK.aggOf, Int.reducePow, Int.reduceLE, Int.reduceNeg, Int.reduceLT, Int.reduceBEq, Int.reduceBNe, Int.reduceEq, ownA, nilA, Try.facts, kill_box hk1]
  refine tok_t 3 (by simp (disch := omega) only [↓runPre, runPost, fieldO, ixA, cutA, lenA, aggA, rowA, appA, mkA, indA, bnd, srcA, sameOp, funcA, cvO, partA, aggD, ↓PostP, resV, resAll, resOne, resVF, resAllF, resOneF, fitsAll, fitsR, fits, frz, Post, Nat.reduceBEq, Nat.reduceLT, reduceCtorEq, ↓reduceIte, initS, AV.cellsOf, AV.fine, AV.one, repA, Nat.reduceMul, Nat.reduceAdd, Nat.reduceLeDiff, Nat.reduceEqDiff, Int.reduceToNat, Nat.reduceSub, Nat.reduceMod, Nat.reduceDiv, indexK.aggOf, Int.reducePow, Int.reduceLE, Int.reduceNeg, Int.reduceLT, Int.reduceBEq, Int.reduceBNe, Int.reduceEq, ownA, nilA, Try.facts]) fun kt hkt0 hkt => ?_
  refine loop_t (c := ⟨Try.prog, 28, [(1000000, [1])], [], []⟩) Try.mixed (by kernel_rfl) (fun mm σ H' => Abs.Sub H H' ∧ ∃ (k k3 : Nat) (o3 : AObj) (W : List Nd), k + mm = M.length ∧ W = (M.take k).filter (fun n => !n.gone) ∧ σ 4 = .imm 0 (ndsC M) M.length ∧ σ 5 = .sc (.int .i64 (k : Nat)) ∧ k3 ≠ 0 ∧ H k3 = none ∧ H' k3 = some o3 ∧ TokO 44 4 o3 (W.length * 4) ∧ σ 3 = .imm k3 (ndsC W) W.length) M.length ?_ ?_
  · refine ⟨Abs.Sub.set_new hkt, 0, kt, .nilt, [], by omega, rfl, ?_⟩
    simp (disch := omega) only [↓runPre, runPost, fieldO, ixA, cutA, lenA, aggA, rowA, appA, mkA, indA, bnd, srcA, sameOp, funcA, cvO, partA, aggD, ↓PostP, resV, resAll, resOne, resVF, resAllF, resOneF, fitsAll, fitsR, fits, frz, Post, Nat.reduceBEq, Nat.reduceLT, reduceCtorEq, ↓reduceIte, initS, AV.cellsOf, AV.fine, AV.one, repA, Nat.reduceMul, Nat.reduceAdd, Nat.reduceLeDiff, Nat.reduceEqDiff, Int.reduceToNat, Nat.reduceSub, Nat.reduceMod, Nat.reduceDiv, indexK.aggOf, Int.reducePow, Int.reduceLE, Int.reduceNeg, Int.reduceLT, Int.reduceBEq, Int.reduceBNe, Int.reduceEq, ownA, nilA, Try.facts]
    exact ⟨hkt0, hkt, rfl⟩
  · rintro mm σ H' ⟨hsub, k, k3, o3, W, hkm, hW, h4, h5, hk30, hk3, hkv, ho3, h3⟩
    have hWl : W.length ≤ M.length := by rw [hW]; exact filter_take_le _ _ _
    have hWi := ndsC_length W
    by_cases hlt : k < M.length
    · have hft := filter_take (f := fun n : Nd => !n.gone) hlt
      have ld := ndsC_load hlt
      have g3 := ndsC_get hlt (show 3 < 4 by omega)
      have le4 : k * 4 + 4 ≤ M.length * 4 := by omega
      have le3 : k * 4 + 3 < M.length * 4 := by omega
      have hsn := ndsC_snoc W M[k]
      generalize M[k] = y at *
      obtain ⟨⟨y1, y2⟩, yu, yg⟩ := y
      simp only [ndC, List.getElem?_cons_succ, List.getElem?_cons_zero] at ld g3 hsn
      rw [← hW] at hft
      cases yg with
      | false =>
        simp only [Bool.not_false, if_true] at hft
        simp (disch := omega) only [↓runPre, runPost, fieldO, ixA, cutA, lenA, aggA, rowA, appA, mkA, indA, bnd, srcA, sameOp, funcA, cvO, partA, aggD, ↓PostP, resV, resAll, resOne, resVF, resAllF, resOneF, fitsAll, fitsR, fits, frz, Post, Nat.reduceBEq, Nat.reduceLT, reduceCtorEq, ↓reduceIte, initS, AV.cellsOf, AV.fine, AV.one, repA, Nat.reduceMul, Nat.reduceAdd, Nat.reduceLeDiff, Nat.reduceEqDiff, Int.reduceToNat, Nat.reduceSub, Nat.reduceMod, Nat.reduceDiv, indexK.aggOf, Int.reducePow, Int.reduceLE, Int.reduceNeg, Int.reduceLT, Int.reduceBEq, Int.reduceBNe, Int.reduceEq, ownA, nilA, Try.facts, h3, h4, h5, dT, dF, qT, qF, nT, nF, Bool.false_and, Bool.and_false, ld, g3, le4, le3, hMi, hkv, ho3, hWi, hsn]
        intro k' o' hk0' hk' ho'
        rw [ndsC_length] at ho'
        exact ⟨mm - 1, by omega, (hsub.kill_free hk3).set_free (hsub.free hk'), k + 1, k', o', W ++ [⟨(y1, y2), yu, false⟩], by omega, hft.symm, rfl, hk0', hsub.free hk', set_get, ho', by rw [List.length_append]; rfl⟩
      | true =>
        simp only [Bool.not_true, Bool.false_eq_true, if_false, List.append_nil] at hft
        simp (disch := omega) only [↓runPre, runPost, fieldO, ixA, cutA, lenA, aggA, rowA, appA, mkA, indA, bnd, srcA, sameOp, funcA, cvO, partA, aggD, ↓PostP, resV, resAll, resOne, resVF, resAllF, resOneF, fitsAll, fitsR, fits, frz, Post, Nat.reduceBEq, Nat.reduceLT, reduceCtorEq, ↓reduceIte, initS, AV.cellsOf, AV.fine, AV.one, repA, Nat.reduceMul, Nat.reduceAdd, Nat.reduceLeDiff, Nat.reduceEqDiff, Int.reduceToNat, Nat.reduceSub, Nat.reduceMod, Nat.reduceDiv, indexK.aggOf, Int.reducePow, Int.reduceLE, Int.reduceNeg, Int.reduceLT, Int.reduceBEq, Int.reduceBNe, Int.reduceEq, ownA, nilA, Try.facts, h3, h4, h5, dT, dF, qT, qF, nT, nF, Bool.false_and, Bool.and_false, ld, g3, le4, le3, hMi]
        exact ⟨mm - 1, by omega, hsub, k + 1, k3, o3, W, by omega, hft.symm, rfl, hk30, hk3, hkv, ho3, rfl⟩
    · obtain rfl : k = M.length := by omega
      rw [List.take_length] at hW
      have hW' : live M = W := hW.symm
      rw [hW']
      simp (disch := omega) only [↓runPre, runPost, fieldO, ixA, cutA, lenA, aggA, rowA, appA, mkA, indA, bnd, srcA, sameOp, funcA, cvO, partA, aggD, ↓PostP, resV, resAll, resOne, resVF, resAllF, resOneF, fitsAll, fitsR, fits, frz, Post, Nat.reduceBEq, Nat.reduceLT, reduceCtorEq, ↓reduceIte, initS, AV.cellsOf, AV.fine, AV.one, repA, Nat.reduceMul, Nat.reduceAdd, Nat.reduceLeDiff, Nat.reduceEqDiff, Int.reduceToNat, Nat.reduceSub, Nat.reduceMod, Nat.reduceDiv, indexK.aggOf, Int.reducePow, Int.reduceLE, Int.reduceNeg, Int.reduceLT, Int.reduceBEq, Int.reduceBNe, Int.reduceEq, ownA, nilA, Try.facts, h3, h4, h5, dT, dF, qT, qF, nT, nF, Bool.false_and, Bool.and_false, hMi]
      exact hsub
theorem runeB_len (r : Int) : (runeB r).length ≤ 4 := by
  unfold runeB Utf8.encode
  simp only []
  repeat' split
  all_goals (first | (simp; done) | (rename_i h; revert h; simp) | decide)
def runesB (l : List Nd) : List UInt8 := l.flatMap fun n => runeB n.rune
theorem runesB_len (l : List Nd) : (runesB l).length ≤ l.length * 4 := by
  induction l with
  | nil => simp [runesB]
  | cons n l ih =>
    have := runeB_len n.rune
    simp only [runesB, List.flatMap_cons, List.length_append, List.length_cons] at *
    omega
theorem rtext_pure (L : List Ins) (G : List EId) (hL : L.length ≤ 10000) (hG : G.length ≤ 10000) (g : Fug.Good L) : APure Try.prog 20 [treeV L G] (.sc (.string ⟨(runesB (live (nodes L G))).toArray⟩)) := by
  have h := rlive_pure L G hL hG g
  have hl : (live (nodes L G)).length ≤ 1000000000 := Nat.le_trans (List.length_filter_le _ _) (nodes_le G g.nd hL)
  generalize live (nodes L G) = M at *
  have hMi := ndsC_length M
  refine apure_of_cwp (c := ⟨Try.prog, 23, [(1000000, [1])], [], []⟩) (rs := [ResultVar.tmp 2]) Try.mixed Try.func20 rfl rfl rfl (Nat.le_of_ble_eq_true rfl) (by kernel_rfl) fun H => ?_
  simp (disch := omega) only [↓runPre, runPost, fieldO, ixA, cutA, lenA, aggA, rowA, appA, mkA, indA, bnd, srcA, sameOp, funcA, cvO, partA, aggD, ↓PostP, resV, resAll, resOne, resVF, resAllF, resOneF, fitsAll, fitsR, fits, frz, Post, Nat.reduceBEq, Nat.reduceLT, reduceCtorEq, ↓reduceIte, initS, AV.cellsOf, AV.fine, AV.one, repA, Nat.reduceMul, Nat.reduceAdd, Nat.reduceLeDiff, Nat.reduceEqDiff, Int.reduceToNat, Nat.reduceSub, Nat.reduceMod, Nat.reduceDiv, indexK.aggOf, Int.reducePow, Int.reduceLE, Int.reduceNeg, Int.reduceLT, Int.reduceBEq, Int.reduceBNe, Int.reduceEq, ownA, nilA, Try.facts]
  intro k1 hk10 hk1
  try simp (disch := omega) only [↓runPre, runPost, fieldO, ixA, cutA, lenA, aggA, rowA, appA, mkA, indA, bnd, srcA, sameOp, funcA, cvO, partA, aggD, ↓PostP, resV, resAll, resOne, resVF, resAllF, resOneF, fitsAll, fitsR, fits, frz, Post, Nat.reduceBEq, Nat.reduceLT, reduceCtorEq, ↓reduceIte, initS, AV.cellsOf, AV.fine, AV.one, repA, Nat.reduceMul, Nat.reduceAdd, Nat.reduceLeDiff, Nat.reduceEqDiff, Int.reduceToNat, Nat.reduceSub, Nat.reduceMod, Nat.reduceDiv, indexK.aggOf, Int.reducePow, Int.reduceLE, Int.reduceNeg, Int.reduceLT, Int.reduceBEq, Int.reduceBNe, Int.reduceEq, ownA, nilA, Try.facts, kill_box hk1]
  first | refine CallK.p (h) ?_ | refine CallP.i (h) ?_
  simp (disch := omega) only [↓runPre, runPost, fieldO, ixA, cutA, lenA, aggA, rowA, appA, mkA, indA, bnd, srcA, sameOp, funcA, cvO, partA, aggD, ↓PostP, resV, resAll, resOne, resVF, resAllF, resOneF, fitsAll, fitsR, fits, frz, Post, Nat.reduceBEq, Nat.reduceLT, reduceCtorEq, ↓reduceIte, initS, AV.cellsOf, AV.fine, AV.one, repA, Nat.reduceMul, Nat.reduceAdd, Nat.reduceLeDiff, Nat.reduceEqDiff, Int.reduceToNat, Nat.reduceSub, Nat.reduceMod, Nat.reduceDiv, indexK.aggOf, Int.reducePow, Int.reduceLE, Int.reduceNeg, Int.reduceLT, Int.reduceBEq, Int.reduceBNe, Int.reduceEq, ownA, nilA, Try.facts, kill_box hk1]
  refine loop_t (c := ⟨Try.prog, 23, [(1000000, [1])], [], []⟩) Try.mixed (by kernel_rfl) (fun mm σ H' => H' = H ∧ ∃ (k : Nat), k + mm = M.length ∧ σ 3 = .sc (.string ⟨(runesB (M.take k)).toArray⟩) ∧ σ 4 = .imm 0 (ndsC M) M.length ∧ σ 5 = .sc (.int .i64 (k : Nat))) M.length ?_ ?_
  · refine ⟨rfl, 0, by omega, ?_⟩
    simp (disch := omega) only [↓runPre, runPost, fieldO, ixA, cutA, lenA, aggA, rowA, appA, mkA, indA, bnd, srcA, sameOp, funcA, cvO, partA, aggD, ↓PostP, resV, resAll, resOne, resVF, resAllF, resOneF, fitsAll, fitsR, fits, frz, Post, Nat.reduceBEq, Nat.reduceLT, reduceCtorEq, ↓reduceIte, initS, AV.cellsOf, AV.fine, AV.one, repA, Nat.reduceMul, Nat.reduceAdd, Nat.reduceLeDiff, Nat.reduceEqDiff, Int.reduceToNat, Nat.reduceSub, Nat.reduceMod, Nat.reduceDiv, indexK.aggOf, Int.reducePow, Int.reduceLE, Int.reduceNeg, Int.reduceLT, Int.reduceBEq, Int.reduceBNe, Int.reduceEq, ownA, nilA, Try.facts]
    try rfl
  · rintro mm σ H' ⟨rfl, k, hkm, h3, h4, h5⟩
    by_cases hlt : k < M.length
    · have g2 := ndsC_get hlt (show 2 < 4 by omega)
      have le3 : k * 4 + 4 ≤ M.length * 4 := by omega
      have le4 : k * 4 + 2 < M.length * 4 := by omega
      have hn : runesB (M.take (k + 1)) = runesB (M.take k) ++ runeB M[k].rune := by
        rw [List.take_succ_eq_append_getElem hlt]; unfold runesB; rw [List.flatMap_append]; simp only [List.flatMap_cons, List.flatMap_nil, List.append_nil]
      have hc : (⟨(runesB (M.take k)).toArray⟩ : ByteArray) ++ (⟨(runeB M[k].rune).toArray⟩ : ByteArray) = ⟨(runesB (M.take (k + 1))).toArray⟩ := by
        rw [hn]
        apply ByteArray.ext
        simp
      have hs1 : (runesB (M.take k)).length ≤ 4000000000 := by
        have := runesB_len (M.take k)
        rw [List.length_take] at this
        omega
      have hs2 := runeB_len M[k].rune
      generalize hT' : runesB (M.take (k + 1)) = T' at *
      generalize runesB (M.take k) = T at *
      generalize M[k] = y at *
      obtain ⟨⟨y1, y2⟩, yu, yg⟩ := y
      simp only [ndC, List.getElem?_cons_succ, List.getElem?_cons_zero] at g2
      simp only [] at hc hs2
      simp (disch := omega) only [↓runPre, runPost, fieldO, ixA, cutA, lenA, aggA, rowA, appA, mkA, indA, bnd, srcA, sameOp, funcA, cvO, partA, aggD, ↓PostP, resV, resAll, resOne, resVF, resAllF, resOneF, fitsAll, fitsR, fits, frz, Post, Nat.reduceBEq, Nat.reduceLT, reduceCtorEq, ↓reduceIte, initS, AV.cellsOf, AV.fine, AV.one, repA, Nat.reduceMul, Nat.reduceAdd, Nat.reduceLeDiff, Nat.reduceEqDiff, Int.reduceToNat, Nat.reduceSub, Nat.reduceMod, Nat.reduceDiv, indexK.aggOf, Int.reducePow, Int.reduceLE, Int.reduceNeg, Int.reduceLT, Int.reduceBEq, Int.reduceBNe, Int.reduceEq, ownA, nilA, Try.facts, h3, h4, h5, dT, dF, qT, qF, nT, nF, Bool.false_and, Bool.and_false, g2, le3, le4, hMi, hc]
      exact ⟨mm - 1, by omega, k + 1, by omega, by simp [hT'], rfl⟩
    · obtain rfl : k = M.length := by omega
      rw [List.take_length] at h3
      simp (disch := omega) only [↓runPre, runPost, fieldO, ixA, cutA, lenA, aggA, rowA, appA, mkA, indA, bnd, srcA, sameOp, funcA, cvO, partA, aggD, ↓PostP, resV, resAll, resOne, resVF, resAllF, resOneF, fitsAll, fitsR, fits, frz, Post, Nat.reduceBEq, Nat.reduceLT, reduceCtorEq, ↓reduceIte, initS, AV.cellsOf, AV.fine, AV.one, repA, Nat.reduceMul, Nat.reduceAdd, Nat.reduceLeDiff, Nat.reduceEqDiff, Int.reduceToNat, Nat.reduceSub, Nat.reduceMod, Nat.reduceDiv, indexK.aggOf, Int.reducePow, Int.reduceLE, Int.reduceNeg, Int.reduceLT, Int.reduceBEq, Int.reduceBNe, Int.reduceEq, ownA, nilA, Try.facts, h3, h4, h5, dT, dF, qT, qF, nT, nF, Bool.false_and, Bool.and_false, hMi]
      exact Abs.Sub.refl _

theorem same_pure (A B : List Nd) (hA : A.length ≤ 1000000000) (hB : B.length ≤ 1000000000) : APure Try.prog 17 [ndsV A, ndsV B] (.sc (.bool (decide (A = B)))) := by
  have hAi := ndsC_length A
  have hBi := ndsC_length B
  have hC : ∀ b : Bool, (b = true ↔ A = B) → decide (A = B) = b := fun b h => by
    cases b with
    | true => simpa using h
    | false => simpa using h
  generalize decide (A = B) = C at *
  refine apure_of_cwp (c := ⟨Try.prog, 26, [(6, [0, 0, 0, 1, 0, 0, 0, 1, 0])], [], []⟩) (rs := [ResultVar.tmp 4]) Try.mixed Try.func17 rfl rfl rfl (Nat.le_of_ble_eq_true rfl) (by kernel_rfl) fun H => ?_
  by_cases hl : A.length = B.length
  · simp (disch := omega) only [↓runPre, runPost, fieldO, ixA, cutA, lenA, aggA, rowA, appA, mkA, indA, bnd, srcA, sameOp, funcA, cvO, partA, aggD, ↓PostP, resV, resAll, resOne, resVF, resAllF, resOneF, fitsAll, fitsR, fits, frz, Post, Nat.reduceBEq, Nat.reduceLT, reduceCtorEq, ↓reduceIte, initS, AV.cellsOf, AV.fine, AV.one, repA, Nat.reduceMul, Nat.reduceAdd, Nat.reduceLeDiff, Nat.reduceEqDiff, Int.reduceToNat, Nat.reduceSub, Nat.reduceMod, Nat.reduceDiv, indexK.aggOf, Int.reducePow, Int.reduceLE, Int.reduceNeg, Int.reduceLT, Int.reduceBEq, Int.reduceBNe, Int.reduceEq, ownA, nilA, Try.facts, dT, dF, qT, qF, nT, nF, Bool.false_and, Bool.and_false]
    refine loop_t (c := ⟨Try.prog, 26, [(6, [0, 0, 0, 1, 0, 0, 0, 1, 0])], [], []⟩) Try.mixed (by kernel_rfl) (fun mm σ H' => H' = H ∧ ∃ k, k + mm = A.length ∧ (∀ j (hj : j < A.length) (hj' : j < B.length), j < k → A[j] = B[j]) ∧ σ 0 = .imm 0 (ndsC A) A.length ∧ σ 1 = .imm 0 (ndsC B) B.length ∧ σ 5 = .sc (.int .i64 (k : Nat))) A.length ?_ ?_
    · refine ⟨rfl, 0, by omega, by omega, ?_⟩
      simp (disch := omega) only [↓runPre, runPost, fieldO, ixA, cutA, lenA, aggA, rowA, appA, mkA, indA, bnd, srcA, sameOp, funcA, cvO, partA, aggD, ↓PostP, resV, resAll, resOne, resVF, resAllF, resOneF, fitsAll, fitsR, fits, frz, Post, Nat.reduceBEq, Nat.reduceLT, reduceCtorEq, ↓reduceIte, initS, AV.cellsOf, AV.fine, AV.one, repA, Nat.reduceMul, Nat.reduceAdd, Nat.reduceLeDiff, Nat.reduceEqDiff, Int.reduceToNat, Nat.reduceSub, Nat.reduceMod, Nat.reduceDiv, indexK.aggOf, Int.reducePow, Int.reduceLE, Int.reduceNeg, Int.reduceLT, Int.reduceBEq, Int.reduceBNe, Int.reduceEq, ownA, nilA, Try.facts]
      try rfl
    · rintro mm σ H' ⟨rfl, k, hkm, hall, h0, h1, h5⟩
      by_cases hlt : k < A.length
      · have hlt' : k < B.length := by omega
        have ld := ndsC_load hlt
        have ld' := ndsC_load hlt'
        have le4 : k * 4 + 4 ≤ A.length * 4 := by omega
        have le4' : k * 4 + 4 ≤ B.length * 4 := by omega
        have hnx : A[k] = B[k] → ∀ j (hj : j < A.length) (hj' : j < B.length), j < k + 1 → A[j] = B[j] := fun e j hj hj' hjk => by
          by_cases e' : j = k
          · subst e'; exact e
          · exact hall j hj hj' (by omega)
        have hno : A[k] ≠ B[k] → A ≠ B := fun e e' => e (by subst e'; rfl)
        generalize A[k] = x at *
        generalize B[k] = y at *
        obtain ⟨⟨x1, x2⟩, xu, xg⟩ := x
        obtain ⟨⟨y1, y2⟩, yu, yg⟩ := y
        simp only [ndC] at ld ld'
        by_cases e : x1 = y1 ∧ x2 = y2 ∧ xu = yu ∧ xg = yg
        · obtain ⟨rfl, rfl, rfl, rfl⟩ := e
          simp (disch := omega) only [↓runPre, runPost, fieldO, ixA, cutA, lenA, aggA, rowA, appA, mkA, indA, bnd, srcA, sameOp, funcA, cvO, partA, aggD, ↓PostP, resV, resAll, resOne, resVF, resAllF, resOneF, fitsAll, fitsR, fits, frz, Post, Nat.reduceBEq, Nat.reduceLT, reduceCtorEq, ↓reduceIte, initS, AV.cellsOf, AV.fine, AV.one, repA, Nat.reduceMul, Nat.reduceAdd, Nat.reduceLeDiff, Nat.reduceEqDiff, Int.reduceToNat, Nat.reduceSub, Nat.reduceMod, Nat.reduceDiv, indexK.aggOf, Int.reducePow, Int.reduceLE, Int.reduceNeg, Int.reduceLT, Int.reduceBEq, Int.reduceBNe, Int.reduceEq, ownA, nilA, Try.facts, h0, h1, h5, dT, dF, qT, qF, nT, nF, Bool.false_and, Bool.and_false, ld, ld', le4, le4', hAi, hBi, beq_self_eq_true]
          exact ⟨mm - 1, by omega, k + 1, by omega, hnx rfl, rfl⟩
        · obtain rfl := hC false (by
            simp only [Bool.false_eq_true, false_iff]
            exact hno (fun e' => e (by simpa [and_assoc] using e')))
          have e4 : (xg == yg) = decide (xg = yg) := by cases xg <;> cases yg <;> rfl
          have hbq : ((x1 == y1) && ((x2 == y2) && ((xu == yu) && ((xg == yg) && true)))) = false := by
            rw [Bool.eq_false_iff]
            intro h
            simp only [Bool.and_eq_true, beq_iff_eq, and_true] at h
            exact e h
          have hbq2 : ((x1 == y1 && (x2 == y2 && true)) && ((xu == yu) && ((xg == yg) && true))) = false := by
            rw [Bool.eq_false_iff]
            intro h
            simp only [Bool.and_eq_true, beq_iff_eq, and_true] at h
            exact e ⟨h.1.1, h.1.2, h.2.1, h.2.2⟩
          simp only [Bool.and_true] at hbq hbq2
          simp (disch := omega) only [↓runPre, runPost, fieldO, ixA, cutA, lenA, aggA, rowA, appA, mkA, indA, bnd, srcA, sameOp, funcA, cvO, partA, aggD, ↓PostP, resV, resAll, resOne, resVF, resAllF, resOneF, fitsAll, fitsR, fits, frz, Post, Nat.reduceBEq, Nat.reduceLT, reduceCtorEq, ↓reduceIte, initS, AV.cellsOf, AV.fine, AV.one, repA, Nat.reduceMul, Nat.reduceAdd, Nat.reduceLeDiff, Nat.reduceEqDiff, Int.reduceToNat, Nat.reduceSub, Nat.reduceMod, Nat.reduceDiv, indexK.aggOf, Int.reducePow, Int.reduceLE, Int.reduceNeg, Int.reduceLT, Int.reduceBEq, Int.reduceBNe, Int.reduceEq, ownA, nilA, Try.facts, h0, h1, h5, dT, dF, ld, ld', le4, le4', hAi, hBi, hbq, hbq2]
          try exact Abs.Sub.refl _
      · obtain rfl : k = A.length := by omega
        obtain rfl := hC true (by
          simp only [true_iff]
          exact List.ext_getElem hl fun j hj hj' => hall j hj hj' (by omega))
        simp (disch := omega) only [↓runPre, runPost, fieldO, ixA, cutA, lenA, aggA, rowA, appA, mkA, indA, bnd, srcA, sameOp, funcA, cvO, partA, aggD, ↓PostP, resV, resAll, resOne, resVF, resAllF, resOneF, fitsAll, fitsR, fits, frz, Post, Nat.reduceBEq, Nat.reduceLT, reduceCtorEq, ↓reduceIte, initS, AV.cellsOf, AV.fine, AV.one, repA, Nat.reduceMul, Nat.reduceAdd, Nat.reduceLeDiff, Nat.reduceEqDiff, Int.reduceToNat, Nat.reduceSub, Nat.reduceMod, Nat.reduceDiv, indexK.aggOf, Int.reducePow, Int.reduceLE, Int.reduceNeg, Int.reduceLT, Int.reduceBEq, Int.reduceBNe, Int.reduceEq, ownA, nilA, Try.facts, h0, h1, h5, dT, dF, qT, qF, nT, nF, Bool.false_and, Bool.and_false, hAi, hBi]
        exact Abs.Sub.refl _
  · obtain rfl := hC false (by
      simp only [Bool.false_eq_true, false_iff]
      exact fun e => hl (by rw [e]))
    simp (disch := omega) only [↓runPre, runPost, fieldO, ixA, cutA, lenA, aggA, rowA, appA, mkA, indA, bnd, srcA, sameOp, funcA, cvO, partA, aggD, ↓PostP, resV, resAll, resOne, resVF, resAllF, resOneF, fitsAll, fitsR, fits, frz, Post, Nat.reduceBEq, Nat.reduceLT, reduceCtorEq, ↓reduceIte, initS, AV.cellsOf, AV.fine, AV.one, repA, Nat.reduceMul, Nat.reduceAdd, Nat.reduceLeDiff, Nat.reduceEqDiff, Int.reduceToNat, Nat.reduceSub, Nat.reduceMod, Nat.reduceDiv, indexK.aggOf, Int.reducePow, Int.reduceLE, Int.reduceNeg, Int.reduceLT, Int.reduceBEq, Int.reduceBNe, Int.reduceEq, ownA, nilA, Try.facts, dT, dF, qT, qF, nT, nF, Bool.false_and, Bool.and_false]
    exact Abs.Sub.refl _
end Go.Proofs.Ytpmmafmbjconiaa
