/-
  The walks of the fugue layer: what hangs below one, in the document's way.
  Conditions: none. Lemmas only.
-/
import Derived.Test.YtpmmafmbjconiaaFugC
set_option linter.all false
set_option linter.unusedSimpArgs false
set_option linter.unusedVariables false
set_option maxRecDepth 8000
set_option maxHeartbeats 4000000
namespace Go.Proofs.Ytpmmafmbjconiaa
open Go Go.Abs Go.Proofs Go.Fug

theorem kidsI_take {L : List Ins} {i : Nat} (h : i < L.length) (p : EId) (r : Bool) : kidsI (L.take (i + 1)) p r = if L[i].par = p ∧ L[i].right = r then insI (kidsI (L.take i) p r) L[i] else kidsI (L.take i) p r := by
  rw [List.take_succ_eq_append_getElem h, kidsI_snoc]
theorem filter_take {α : Type} {f : α → Bool} {M : List α} {j : Nat} (h : j < M.length) : (M.take (j + 1)).filter f = (M.take j).filter f ++ if f M[j] then [M[j]] else [] := by
  rw [List.take_succ_eq_append_getElem h, List.filter_append]
  simp [List.filter_cons]
theorem filter_take_le {α : Type} (f : α → Bool) (M : List α) (j : Nat) : ((M.take j).filter f).length ≤ M.length := Nat.le_trans (List.length_filter_le _ _) (by rw [List.length_take]; omega)

theorem rkids_pure (L : List Ins) (G : List EId) (p : EId) (r : Bool) (hL : L.length ≤ 100000) : APure Try.prog 39 [treeV L G, idV p, .sc (.bool r)] (inssV (kidsI L p r)) := by
  have hil := inssC_length L
  have hless := fun x y => rless_pure x y
  obtain ⟨a, c⟩ := p
  refine apure_of_cwp (c := ⟨Try.prog, 98, [(5, [0, 1, 0, 0, 0, 1, 1, 0, 0, 0, 1, 0, 0, 0, 1, 0, 0, 0]), (10, [0, 0, 0, 0, 1, 0, 1, 0, 0, 0, 1, 0]), (16, [0, 0, 0, 0, 1, 0, 1, 0, 0, 0, 1, 0, 0]), (1000000, [4, 3]), (4000017, [2, 3, 4, 7, 8, 9, 11]), (4000016, [2, 3, 4, 7, 8, 9, 11, 88]), (4000012, [2, 3, 4, 7, 8, 9]), (4000011, [2, 3, 4, 7, 8, 9, 10]), (4000010, [2, 3, 4, 7, 8, 9, 10, 54]), (4000005, [2, 3, 4, 7, 8, 36]), (4000003, [2, 3, 4, 7, 8, 16])], [], []⟩) (rs := [ResultVar.tmp 6]) Try.mixed Try.func39 rfl rfl rfl (Nat.le_of_ble_eq_true rfl) (by kernel_rfl) fun H => ?_
  simp (disch := omega) only [↓runPre, runPost, fieldO, ixA, cutA, lenA, aggA, rowA, appA, mkA, indA, bnd, srcA, sameOp, funcA, cvO, partA, aggD, ↓PostP, resV, resAll, resOne, resVF, resAllF, resOneF, fitsAll, fitsR, fits, frz, Post, Nat.reduceBEq, Nat.reduceLT, reduceCtorEq, ↓reduceIte, initS, AV.cellsOf, AV.fine, AV.one, repA, Nat.reduceMul, Nat.reduceAdd, Nat.reduceLeDiff, Nat.reduceEqDiff, Int.reduceToNat, Nat.reduceSub, Nat.reduceMod, Nat.reduceDiv, indexK.aggOf, Int.reducePow, Int.reduceLE, Int.reduceNeg, Int.reduceLT, Int.reduceBEq, Int.reduceBNe, Int.reduceEq, ownA, nilA, Try.facts]
  intro k1 hk10 hk1 k2 hk20 hk2
  simp (disch := omega) only [↓runPre, runPost, fieldO, ixA, cutA, lenA, aggA, rowA, appA, mkA, indA, bnd, srcA, sameOp, funcA, cvO, partA, aggD, ↓PostP, resV, resAll, resOne, resVF, resAllF, resOneF, fitsAll, fitsR, fits, frz, Post, Nat.reduceBEq, Nat.reduceLT, reduceCtorEq, ↓reduceIte, initS, AV.cellsOf, AV.fine, AV.one, repA, Nat.reduceMul, Nat.reduceAdd, Nat.reduceLeDiff, Nat.reduceEqDiff, Int.reduceToNat, Nat.reduceSub, Nat.reduceMod, Nat.reduceDiv, indexK.aggOf, Int.reducePow, Int.reduceLE, Int.reduceNeg, Int.reduceLT, Int.reduceBEq, Int.reduceBNe, Int.reduceEq, ownA, nilA, Try.facts, kill_box hk2, kill_box hk1]
  refine tok_t 7 (by simp (disch := omega) only [↓runPre, runPost, fieldO, ixA, cutA, lenA, aggA, rowA, appA, mkA, indA, bnd, srcA, sameOp, funcA, cvO, partA, aggD, ↓PostP, resV, resAll, resOne, resVF, resAllF, resOneF, fitsAll, fitsR, fits, frz, Post, Nat.reduceBEq, Nat.reduceLT, reduceCtorEq, ↓reduceIte, initS, AV.cellsOf, AV.fine, AV.one, repA, Nat.reduceMul, Nat.reduceAdd, Nat.reduceLeDiff, Nat.reduceEqDiff, Int.reduceToNat, Nat.reduceSub, Nat.reduceMod, Nat.reduceDiv, indexK.aggOf, Int.reducePow, Int.reduceLE, Int.reduceNeg, Int.reduceLT, Int.reduceBEq, Int.reduceBNe, Int.reduceEq, ownA, nilA, Try.facts]) fun kt hkt0 hkt => ?_
  refine loop_t (c := ⟨Try.prog, 98, [(5, [0, 1, 0, 0, 0, 1, 1, 0, 0, 0, 1, 0, 0, 0, 1, 0, 0, 0]), (10, [0, 0, 0, 0, 1, 0, 1, 0, 0, 0, 1, 0]), (16, [0, 0, 0, 0, 1, 0, 1, 0, 0, 0, 1, 0, 0]), (1000000, [4, 3]), (4000017, [2, 3, 4, 7, 8, 9, 11]), (4000016, [2, 3, 4, 7, 8, 9, 11, 88]), (4000012, [2, 3, 4, 7, 8, 9]), (4000011, [2, 3, 4, 7, 8, 9, 10]), (4000010, [2, 3, 4, 7, 8, 9, 10, 54]), (4000005, [2, 3, 4, 7, 8, 36]), (4000003, [2, 3, 4, 7, 8, 16])], [], []⟩) Try.mixed (by kernel_rfl) (fun mm σ H' => Abs.Sub H H' ∧ ∃ (i : Nat) (kA : Nat), i + mm = L.length ∧ σ 2 = .sc (.bool r) ∧ σ 3 = .ip (treeC L G) 0 ∧ σ 4 = .ip [.sc (.int .i64 a), .sc (.int .i64 c)] 0 ∧ σ 7 = .imm kA (inssC (kidsI (L.take i) (a, c) r)) (kidsI (L.take i) (a, c) r).length ∧ σ 8 = .sc (.int .i64 (i : Nat))) L.length ?_ ?_
  · refine ⟨Abs.Sub.set_new hkt, 0, kt, by omega, ?_⟩
    simp (disch := omega) only [↓runPre, runPost, fieldO, ixA, cutA, lenA, aggA, rowA, appA, mkA, indA, bnd, srcA, sameOp, funcA, cvO, partA, aggD, ↓PostP, resV, resAll, resOne, resVF, resAllF, resOneF, fitsAll, fitsR, fits, frz, Post, Nat.reduceBEq, Nat.reduceLT, reduceCtorEq, ↓reduceIte, initS, AV.cellsOf, AV.fine, AV.one, repA, Nat.reduceMul, Nat.reduceAdd, Nat.reduceLeDiff, Nat.reduceEqDiff, Int.reduceToNat, Nat.reduceSub, Nat.reduceMod, Nat.reduceDiv, indexK.aggOf, Int.reducePow, Int.reduceLE, Int.reduceNeg, Int.reduceLT, Int.reduceBEq, Int.reduceBNe, Int.reduceEq, ownA, nilA, Try.facts]
    try rfl
  · rintro mm σ H' ⟨hsub, i, kA, him, h2, h3, h4, h7, h8⟩
    by_cases hlt : i < L.length
    · have hM := kidsI_length (L.take i) (a, c) r
      have hMl := List.length_take_le i L
      have hst := kidsI_take hlt (a, c) r
      have hld := inssC_load hlt
      have hld1 := inssC_two hlt (show 2 + 2 ≤ 6 by omega)
      have hld0 := inssC_two hlt (show 0 + 2 ≤ 6 by omega)
      have hg4 := inssC_get hlt (show 4 < 6 by omega)
      have hle6 : i * 6 + 6 ≤ L.length * 6 := by omega
      have hle4 : i * 6 + 4 ≤ L.length * 6 := by omega
      have hle2 : i * 6 + 2 ≤ L.length * 6 := by omega
      have hle5 : i * 6 + 4 < L.length * 6 := by omega
      obtain ⟨M', hM'⟩ : ∃ M', M' = kidsI (L.take (i + 1)) (a, c) r := ⟨_, rfl⟩
      rw [← hM'] at hst
      generalize kidsI (L.take i) (a, c) r = M at *
      generalize L[i] = x at *
      have hMi := inssC_length M
      obtain ⟨⟨x1, x2⟩, ⟨q1, q2⟩, xr, xu⟩ := x
      simp only [insC, Nat.add_zero, List.drop_zero, List.drop_succ_cons, List.take_succ_cons, List.take_zero, List.getElem?_cons_succ, List.getElem?_cons_zero] at hld hld0 hld1 hg4 hst
      have F : True := trivial
      by_cases e1 : q1 = a ∧ q2 = c
      · by_cases e2 : xr = r
        · obtain ⟨rfl, rfl⟩ := e1
          subst e2
          rw [if_pos ⟨rfl, rfl⟩] at hst
          simp (disch := omega) only [↓runPre, runPost, fieldO, ixA, cutA, lenA, aggA, rowA, appA, mkA, indA, bnd, srcA, sameOp, funcA, cvO, partA, aggD, ↓PostP, resV, resAll, resOne, resVF, resAllF, resOneF, fitsAll, fitsR, fits, frz, Post, Nat.reduceBEq, Nat.reduceLT, reduceCtorEq, ↓reduceIte, initS, AV.cellsOf, AV.fine, AV.one, repA, Nat.reduceMul, Nat.reduceAdd, Nat.reduceLeDiff, Nat.reduceEqDiff, Int.reduceToNat, Nat.reduceSub, Nat.reduceMod, Nat.reduceDiv, indexK.aggOf, Int.reducePow, Int.reduceLE, Int.reduceNeg, Int.reduceLT, Int.reduceBEq, Int.reduceBNe, Int.reduceEq, ownA, nilA, Try.facts, h2, h3, h4, h7, h8, dT, dF, qT, qF, nT, nF, Bool.false_and, Bool.and_false, hld1, hg4, hil, hle4, hle5, hle6, bne_self_eq_false]
          refine tok_t 9 (by simp (disch := omega) only [↓runPre, runPost, fieldO, ixA, cutA, lenA, aggA, rowA, appA, mkA, indA, bnd, srcA, sameOp, funcA, cvO, partA, aggD, ↓PostP, resV, resAll, resOne, resVF, resAllF, resOneF, fitsAll, fitsR, fits, frz, Post, Nat.reduceBEq, Nat.reduceLT, reduceCtorEq, ↓reduceIte, initS, AV.cellsOf, AV.fine, AV.one, repA, Nat.reduceMul, Nat.reduceAdd, Nat.reduceLeDiff, Nat.reduceEqDiff, Int.reduceToNat, Nat.reduceSub, Nat.reduceMod, Nat.reduceDiv, indexK.aggOf, Int.reducePow, Int.reduceLE, Int.reduceNeg, Int.reduceLT, Int.reduceBEq, Int.reduceBNe, Int.reduceEq, ownA, nilA, Try.facts]) fun k9 hk90 hk9 => ?_
          refine loop_t (c := ⟨Try.prog, 98, [(5, [0, 1, 0, 0, 0, 1, 1, 0, 0, 0, 1, 0, 0, 0, 1, 0, 0, 0]), (10, [0, 0, 0, 0, 1, 0, 1, 0, 0, 0, 1, 0]), (16, [0, 0, 0, 0, 1, 0, 1, 0, 0, 0, 1, 0, 0]), (1000000, [4, 3]), (4000017, [2, 3, 4, 7, 8, 9, 11]), (4000016, [2, 3, 4, 7, 8, 9, 11, 88]), (4000012, [2, 3, 4, 7, 8, 9]), (4000011, [2, 3, 4, 7, 8, 9, 10]), (4000010, [2, 3, 4, 7, 8, 9, 10, 54]), (4000005, [2, 3, 4, 7, 8, 36]), (4000003, [2, 3, 4, 7, 8, 16])], [], []⟩) Try.mixed (by kernel_rfl) (fun mj σ H'' => Abs.Sub H H'' ∧ ∃ (j k9 : Nat) (o9 : AObj) (F : List Ins), j + mj = M.length ∧ F = (M.take j).filter (fun y => less y.id (x1, x2)) ∧ σ 2 = .sc (.bool xr) ∧ σ 3 = .ip (treeC L G) 0 ∧ σ 4 = .ip [.sc (.int .i64 q1), .sc (.int .i64 q2)] 0 ∧ σ 7 = .imm kA (inssC M) M.length ∧ σ 8 = .sc (.int .i64 (i : Nat)) ∧ σ 10 = .sc (.int .i64 (j : Nat)) ∧
            k9 ≠ 0 ∧ H k9 = none ∧ H'' k9 = some o9 ∧ TokO 33 6 o9 (F.length * 6) ∧ σ 9 = .imm k9 (inssC F) F.length) M.length ?_ ?_
          · refine ⟨hsub.set_free (hsub.free hk9), 0, k9, .nilt, [], by omega, rfl, ?_⟩
            simp (disch := omega) only [↓runPre, runPost, fieldO, ixA, cutA, lenA, aggA, rowA, appA, mkA, indA, bnd, srcA, sameOp, funcA, cvO, partA, aggD, ↓PostP, resV, resAll, resOne, resVF, resAllF, resOneF, fitsAll, fitsR, fits, frz, Post, Nat.reduceBEq, Nat.reduceLT, reduceCtorEq, ↓reduceIte, initS, AV.cellsOf, AV.fine, AV.one, repA, Nat.reduceMul, Nat.reduceAdd, Nat.reduceLeDiff, Nat.reduceEqDiff, Int.reduceToNat, Nat.reduceSub, Nat.reduceMod, Nat.reduceDiv, indexK.aggOf, Int.reducePow, Int.reduceLE, Int.reduceNeg, Int.reduceLT, Int.reduceBEq, Int.reduceBNe, Int.reduceEq, ownA, nilA, Try.facts, h2, h3, h4, h7, h8]
            exact ⟨hk90, hsub.free hk9, rfl⟩
          · rintro mj σ H'' ⟨hsub', j, k9, o9, F, hj, hF, h2, h3, h4, h7, h8, h10, hk90, hk9, hkv, ho9, h9⟩
            have hFl : F.length ≤ M.length := by rw [hF]; exact filter_take_le _ _ _
            have hFi := inssC_length F
            by_cases hjt : j < M.length
            · have hft := filter_take (f := fun y : Ins => less y.id (x1, x2)) hjt
              have ld := inssC_load hjt
              have ld0 := inssC_two hjt (show 0 + 2 ≤ 6 by omega)
              have le6 : j * 6 + 6 ≤ M.length * 6 := by omega
              have le2 : j * 6 + 2 ≤ M.length * 6 := by omega
              have hl := hless M[j].id (x1, x2)
              have hsn := inssC_snoc F M[j]
              generalize M[j] = y at *
              obtain ⟨⟨y1, y2⟩, ⟨z1, z2⟩, yr, yu⟩ := y
              simp only [insC, Nat.add_zero, List.drop_zero, List.drop_succ_cons, List.take_succ_cons, List.take_zero] at ld ld0 hsn
              cases hb : less (y1, y2) (x1, x2) with
              | true =>
                simp only [hb, if_true, ← hF] at hft hl
                simp (disch := omega) only [↓runPre, runPost, fieldO, ixA, cutA, lenA, aggA, rowA, appA, mkA, indA, bnd, srcA, sameOp, funcA, cvO, partA, aggD, ↓PostP, resV, resAll, resOne, resVF, resAllF, resOneF, fitsAll, fitsR, fits, frz, Post, Nat.reduceBEq, Nat.reduceLT, reduceCtorEq, ↓reduceIte, initS, AV.cellsOf, AV.fine, AV.one, repA, Nat.reduceMul, Nat.reduceAdd, Nat.reduceLeDiff, Nat.reduceEqDiff, Int.reduceToNat, Nat.reduceSub, Nat.reduceMod, Nat.reduceDiv, indexK.aggOf, Int.reducePow, Int.reduceLE, Int.reduceNeg, Int.reduceLT, Int.reduceBEq, Int.reduceBNe, Int.reduceEq, ownA, nilA, Try.facts, h2, h3, h4, h7, h8, h9, h10, dT, dF, qT, qF, nT, nF, Bool.false_and, Bool.and_false, ld, ld0, le6, le2, hld0, hMi, hil, hle6, hle2]
                first | refine CallK.p (hl) ?_ | refine CallP.i (hl) ?_
                simp (disch := omega) only [↓runPre, runPost, fieldO, ixA, cutA, lenA, aggA, rowA, appA, mkA, indA, bnd, srcA, sameOp, funcA, cvO, partA, aggD, ↓PostP, resV, resAll, resOne, resVF, resAllF, resOneF, fitsAll, fitsR, fits, frz, Post, Nat.reduceBEq, Nat.reduceLT, reduceCtorEq, ↓reduceIte, initS, AV.cellsOf, AV.fine, AV.one, repA, Nat.reduceMul, Nat.reduceAdd, Nat.reduceLeDiff, Nat.reduceEqDiff, Int.reduceToNat, Nat.reduceSub, Nat.reduceMod, Nat.reduceDiv, indexK.aggOf, Int.reducePow, Int.reduceLE, Int.reduceNeg, Int.reduceLT, Int.reduceBEq, Int.reduceBNe, Int.reduceEq, ownA, nilA, Try.facts, h2, h3, h4, h7, h8, h9, h10, dT, dF, qT, qF, nT, nF, Bool.false_and, Bool.and_false, ld, ld0, le6, le2, hld0, hMi, hil, hle6, hle2, hkv, ho9, hFi, hsn]
                intro k' o' hk0' hk' ho'
                rw [inssC_length] at ho'
                exact ⟨mj - 1, by omega, (hsub'.kill_free hk9).set_free (hsub'.free hk'), j + 1, k', o', F ++ [⟨(y1, y2), (z1, z2), yr, yu⟩], by omega, hft.symm, rfl, hk0', hsub'.free hk', set_get, ho', by rw [List.length_append]; rfl⟩
              | false =>
                simp only [hb, Bool.false_eq_true, if_false, List.append_nil, ← hF] at hft hl
                simp (disch := omega) only [↓runPre, runPost, fieldO, ixA, cutA, lenA, aggA, rowA, appA, mkA, indA, bnd, srcA, sameOp, funcA, cvO, partA, aggD, ↓PostP, resV, resAll, resOne, resVF, resAllF, resOneF, fitsAll, fitsR, fits, frz, Post, Nat.reduceBEq, Nat.reduceLT, reduceCtorEq, ↓reduceIte, initS, AV.cellsOf, AV.fine, AV.one, repA, Nat.reduceMul, Nat.reduceAdd, Nat.reduceLeDiff, Nat.reduceEqDiff, Int.reduceToNat, Nat.reduceSub, Nat.reduceMod, Nat.reduceDiv, indexK.aggOf, Int.reducePow, Int.reduceLE, Int.reduceNeg, Int.reduceLT, Int.reduceBEq, Int.reduceBNe, Int.reduceEq, ownA, nilA, Try.facts, h2, h3, h4, h7, h8, h9, h10, dT, dF, qT, qF, nT, nF, Bool.false_and, Bool.and_false, ld, ld0, le6, le2, hld0, hMi, hil, hle6, hle2]
                first | refine CallK.p (hl) ?_ | refine CallP.i (hl) ?_
                simp (disch := omega) only [↓runPre, runPost, fieldO, ixA, cutA, lenA, aggA, rowA, appA, mkA, indA, bnd, srcA, sameOp, funcA, cvO, partA, aggD, ↓PostP, resV, resAll, resOne, resVF, resAllF, resOneF, fitsAll, fitsR, fits, frz, Post, Nat.reduceBEq, Nat.reduceLT, reduceCtorEq, ↓reduceIte, initS, AV.cellsOf, AV.fine, AV.one, repA, Nat.reduceMul, Nat.reduceAdd, Nat.reduceLeDiff, Nat.reduceEqDiff, Int.reduceToNat, Nat.reduceSub, Nat.reduceMod, Nat.reduceDiv, indexK.aggOf, Int.reducePow, Int.reduceLE, Int.reduceNeg, Int.reduceLT, Int.reduceBEq, Int.reduceBNe, Int.reduceEq, ownA, nilA, Try.facts, h2, h3, h4, h7, h8, h9, h10, dT, dF, qT, qF, nT, nF, Bool.false_and, Bool.and_false, ld, ld0, le6, le2, hld0, hMi, hil, hle6, hle2]
                exact ⟨mj - 1, by omega, hsub', j + 1, k9, o9, F, by omega, hft.symm, rfl, hk90, hk9, hkv, ho9, rfl⟩
            · have hsn := inssC_snoc F ⟨(x1, x2), (q1, q2), xr, xu⟩
              simp only [insC] at hsn
              simp (disch := omega) only [↓runPre, runPost, fieldO, ixA, cutA, lenA, aggA, rowA, appA, mkA, indA, bnd, srcA, sameOp, funcA, cvO, partA, aggD, ↓PostP, resV, resAll, resOne, resVF, resAllF, resOneF, fitsAll, fitsR, fits, frz, Post, Nat.reduceBEq, Nat.reduceLT, reduceCtorEq, ↓reduceIte, initS, AV.cellsOf, AV.fine, AV.one, repA, Nat.reduceMul, Nat.reduceAdd, Nat.reduceLeDiff, Nat.reduceEqDiff, Int.reduceToNat, Nat.reduceSub, Nat.reduceMod, Nat.reduceDiv, indexK.aggOf, Int.reducePow, Int.reduceLE, Int.reduceNeg, Int.reduceLT, Int.reduceBEq, Int.reduceBNe, Int.reduceEq, ownA, nilA, Try.facts, h2, h3, h4, h7, h8, h9, h10, dT, dF, qT, qF, nT, nF, Bool.false_and, Bool.and_false, hMi, hil, hld, hle6, hkv, ho9, hFi, hsn]
              intro ka oa hka0 hka hoa
              rw [inssC_length] at hoa
              obtain rfl : j = M.length := by omega
              rw [List.take_length] at hF
              have hst' : M' = F ++ [⟨(x1, x2), (q1, q2), xr, xu⟩] ++ M.filter (fun y => !less y.id (x1, x2)) := by rw [hst, hF]; rfl
              have hlen3 : M'.length = M.length + 1 := by rw [hst]; exact insI_length _ _
              have hF1 : (F ++ [(⟨(x1, x2), (q1, q2), xr, xu⟩ : Ins)]).length = F.length + 1 := by simp
              have hsubA := (hsub'.kill_free hk9).set_free (o := oa) (hsub'.free hka)
              generalize F ++ [(⟨(x1, x2), (q1, q2), xr, xu⟩ : Ins)] = F1 at *
              refine loop_t (c := ⟨Try.prog, 98, [(5, [0, 1, 0, 0, 0, 1, 1, 0, 0, 0, 1, 0, 0, 0, 1, 0, 0, 0]), (10, [0, 0, 0, 0, 1, 0, 1, 0, 0, 0, 1, 0]), (16, [0, 0, 0, 0, 1, 0, 1, 0, 0, 0, 1, 0, 0]), (1000000, [4, 3]), (4000017, [2, 3, 4, 7, 8, 9, 11]), (4000016, [2, 3, 4, 7, 8, 9, 11, 88]), (4000012, [2, 3, 4, 7, 8, 9]), (4000011, [2, 3, 4, 7, 8, 9, 10]), (4000010, [2, 3, 4, 7, 8, 9, 10, 54]), (4000005, [2, 3, 4, 7, 8, 36]), (4000003, [2, 3, 4, 7, 8, 16])], [], []⟩) Try.mixed (by kernel_rfl) (fun mj σ H'' => Abs.Sub H H'' ∧ ∃ (j k9 : Nat) (o9 : AObj) (W : List Ins), j + mj = M.length ∧ W = F1 ++ (M.take j).filter (fun y => !less y.id (x1, x2)) ∧ σ 2 = .sc (.bool xr) ∧ σ 3 = .ip (treeC L G) 0 ∧ σ 4 = .ip [.sc (.int .i64 q1), .sc (.int .i64 q2)] 0 ∧ σ 7 = .imm kA (inssC M) M.length ∧ σ 8 = .sc (.int .i64 (i : Nat)) ∧ σ 11 = .sc (.int .i64 (j : Nat)) ∧
                k9 ≠ 0 ∧ H k9 = none ∧ H'' k9 = some o9 ∧ TokO 33 6 o9 (W.length * 6) ∧ σ 9 = .imm k9 (inssC W) W.length) M.length ?_ ?_
              · refine ⟨hsubA, 0, ka, oa, F1, by omega, by simp, ?_⟩
                simp (disch := omega) only [↓runPre, runPost, fieldO, ixA, cutA, lenA, aggA, rowA, appA, mkA, indA, bnd, srcA, sameOp, funcA, cvO, partA, aggD, ↓PostP, resV, resAll, resOne, resVF, resAllF, resOneF, fitsAll, fitsR, fits, frz, Post, Nat.reduceBEq, Nat.reduceLT, reduceCtorEq, ↓reduceIte, initS, AV.cellsOf, AV.fine, AV.one, repA, Nat.reduceMul, Nat.reduceAdd, Nat.reduceLeDiff, Nat.reduceEqDiff, Int.reduceToNat, Nat.reduceSub, Nat.reduceMod, Nat.reduceDiv, indexK.aggOf, Int.reducePow, Int.reduceLE, Int.reduceNeg, Int.reduceLT, Int.reduceBEq, Int.reduceBNe, Int.reduceEq, ownA, nilA, Try.facts, h2, h3, h4, h7, h8]
                exact ⟨hka0, hsub'.free hka, hoa, by rw [hF1]⟩
              · clear hsub' hkv ho9 hk90 hk9 h2 h3 h4 h7 h8 h9 h10 hsn hj
                rintro mj σ H'' ⟨hsub', j, k9, o9, W, hj, hW, h2, h3, h4, h7, h8, h11, hk90, hk9, hkv, ho9, h9⟩
                have hWl : W.length ≤ 2 * M.length + 1 := by rw [hW, List.length_append]; have := filter_take_le (fun y : Ins => !less y.id (x1, x2)) M j; omega
                have hFi := inssC_length W
                by_cases hjt : j < M.length
                · have hft := filter_take (f := fun y : Ins => !less y.id (x1, x2)) hjt
                  have ld := inssC_load hjt
                  have ld0 := inssC_two hjt (show 0 + 2 ≤ 6 by omega)
                  have le6 : j * 6 + 6 ≤ M.length * 6 := by omega
                  have le2 : j * 6 + 2 ≤ M.length * 6 := by omega
                  have hl := hless M[j].id (x1, x2)
                  have hsn := inssC_snoc W M[j]
                  generalize M[j] = y at *
                  obtain ⟨⟨y1, y2⟩, ⟨z1, z2⟩, yr, yu⟩ := y
                  simp only [insC, Nat.add_zero, List.drop_zero, List.drop_succ_cons, List.take_succ_cons, List.take_zero] at ld ld0 hsn
                  cases hb : less (y1, y2) (x1, x2) with
                  | false =>
                    simp only [hb, Bool.not_false, if_true] at hft hl
                    simp (disch := omega) only [↓runPre, runPost, fieldO, ixA, cutA, lenA, aggA, rowA, appA, mkA, indA, bnd, srcA, sameOp, funcA, cvO, partA, aggD, ↓PostP, resV, resAll, resOne, resVF, resAllF, resOneF, fitsAll, fitsR, fits, frz, Post, Nat.reduceBEq, Nat.reduceLT, reduceCtorEq, ↓reduceIte, initS, AV.cellsOf, AV.fine, AV.one, repA, Nat.reduceMul, Nat.reduceAdd, Nat.reduceLeDiff, Nat.reduceEqDiff, Int.reduceToNat, Nat.reduceSub, Nat.reduceMod, Nat.reduceDiv, indexK.aggOf, Int.reducePow, Int.reduceLE, Int.reduceNeg, Int.reduceLT, Int.reduceBEq, Int.reduceBNe, Int.reduceEq, ownA, nilA, Try.facts, h2, h3, h4, h7, h8, h9, h11, dT, dF, qT, qF, nT, nF, Bool.false_and, Bool.and_false, ld, ld0, le6, le2, hld0, hMi, hil, hle6, hle2]
                    first | refine CallK.p (hl) ?_ | refine CallP.i (hl) ?_
                    simp (disch := omega) only [↓runPre, runPost, fieldO, ixA, cutA, lenA, aggA, rowA, appA, mkA, indA, bnd, srcA, sameOp, funcA, cvO, partA, aggD, ↓PostP, resV, resAll, resOne, resVF, resAllF, resOneF, fitsAll, fitsR, fits, frz, Post, Nat.reduceBEq, Nat.reduceLT, reduceCtorEq, ↓reduceIte, initS, AV.cellsOf, AV.fine, AV.one, repA, Nat.reduceMul, Nat.reduceAdd, Nat.reduceLeDiff, Nat.reduceEqDiff, Int.reduceToNat, Nat.reduceSub, Nat.reduceMod, Nat.reduceDiv, indexK.aggOf, Int.reducePow, Int.reduceLE, Int.reduceNeg, Int.reduceLT, Int.reduceBEq, Int.reduceBNe, Int.reduceEq, ownA, nilA, Try.facts, h2, h3, h4, h7, h8, h9, h11, dT, dF, qT, qF, nT, nF, Bool.false_and, Bool.and_false, ld, ld0, le6, le2, hld0, hMi, hil, hle6, hle2, hkv, ho9, hFi, hsn]
                    intro k' o' hk0' hk' ho'
                    rw [inssC_length] at ho'
                    exact ⟨mj - 1, by omega, (hsub'.kill_free hk9).set_free (hsub'.free hk'), j + 1, k', o', W ++ [⟨(y1, y2), (z1, z2), yr, yu⟩], by omega, by rw [hft, hW, List.append_assoc], rfl, hk0', hsub'.free hk', set_get, ho', by rw [List.length_append]; rfl⟩
                  | true =>
                    simp only [hb, Bool.not_true, Bool.false_eq_true, if_false, List.append_nil] at hft hl
                    simp (disch := omega) only [↓runPre, runPost, fieldO, ixA, cutA, lenA, aggA, rowA, appA, mkA, indA, bnd, srcA, sameOp, funcA, cvO, partA, aggD, ↓PostP, resV, resAll, resOne, resVF, resAllF, resOneF, fitsAll, fitsR, fits, frz, Post, Nat.reduceBEq, Nat.reduceLT, reduceCtorEq, ↓reduceIte, initS, AV.cellsOf, AV.fine, AV.one, repA, Nat.reduceMul, Nat.reduceAdd, Nat.reduceLeDiff, Nat.reduceEqDiff, Int.reduceToNat, Nat.reduceSub, Nat.reduceMod, Nat.reduceDiv, indexK.aggOf, Int.reducePow, Int.reduceLE, Int.reduceNeg, Int.reduceLT, Int.reduceBEq, Int.reduceBNe, Int.reduceEq, ownA, nilA, Try.facts, h2, h3, h4, h7, h8, h9, h11, dT, dF, qT, qF, nT, nF, Bool.false_and, Bool.and_false, ld, ld0, le6, le2, hld0, hMi, hil, hle6, hle2]
                    first | refine CallK.p (hl) ?_ | refine CallP.i (hl) ?_
                    simp (disch := omega) only [↓runPre, runPost, fieldO, ixA, cutA, lenA, aggA, rowA, appA, mkA, indA, bnd, srcA, sameOp, funcA, cvO, partA, aggD, ↓PostP, resV, resAll, resOne, resVF, resAllF, resOneF, fitsAll, fitsR, fits, frz, Post, Nat.reduceBEq, Nat.reduceLT, reduceCtorEq, ↓reduceIte, initS, AV.cellsOf, AV.fine, AV.one, repA, Nat.reduceMul, Nat.reduceAdd, Nat.reduceLeDiff, Nat.reduceEqDiff, Int.reduceToNat, Nat.reduceSub, Nat.reduceMod, Nat.reduceDiv, indexK.aggOf, Int.reducePow, Int.reduceLE, Int.reduceNeg, Int.reduceLT, Int.reduceBEq, Int.reduceBNe, Int.reduceEq, ownA, nilA, Try.facts, h2, h3, h4, h7, h8, h9, h11, dT, dF, qT, qF, nT, nF, Bool.false_and, Bool.and_false, ld, ld0, le6, le2, hld0, hMi, hil, hle6, hle2]
                    exact ⟨mj - 1, by omega, hsub', j + 1, k9, o9, W, by omega, by rw [hft, hW], rfl, hk90, hk9, hkv, ho9, rfl⟩
                · obtain rfl : j = M.length := by omega
                  rw [List.take_length, ← hst'] at hW
                  subst hW
                  simp (disch := omega) only [↓runPre, runPost, fieldO, ixA, cutA, lenA, aggA, rowA, appA, mkA, indA, bnd, srcA, sameOp, funcA, cvO, partA, aggD, ↓PostP, resV, resAll, resOne, resVF, resAllF, resOneF, fitsAll, fitsR, fits, frz, Post, Nat.reduceBEq, Nat.reduceLT, reduceCtorEq, ↓reduceIte, initS, AV.cellsOf, AV.fine, AV.one, repA, Nat.reduceMul, Nat.reduceAdd, Nat.reduceLeDiff, Nat.reduceEqDiff, Int.reduceToNat, Nat.reduceSub, Nat.reduceMod, Nat.reduceDiv, indexK.aggOf, Int.reducePow, Int.reduceLE, Int.reduceNeg, Int.reduceLT, Int.reduceBEq, Int.reduceBNe, Int.reduceEq, ownA, nilA, Try.facts, h2, h3, h4, h7, h8, h9, h11, dT, dF, qT, qF, nT, nF, Bool.false_and, Bool.and_false, hMi]
                  exact ⟨mm - 1, by omega, hsub', i + 1, k9, by omega, by rw [← hM'], rfl⟩
        · have hne : (xr == r) = false := by simpa using e2
          obtain ⟨rfl, rfl⟩ := e1
          rw [if_neg (fun h => e2 h.2)] at hst
          subst hst
          simp (disch := omega) only [↓runPre, runPost, fieldO, ixA, cutA, lenA, aggA, rowA, appA, mkA, indA, bnd, srcA, sameOp, funcA, cvO, partA, aggD, ↓PostP, resV, resAll, resOne, resVF, resAllF, resOneF, fitsAll, fitsR, fits, frz, Post, Nat.reduceBEq, Nat.reduceLT, reduceCtorEq, ↓reduceIte, initS, AV.cellsOf, AV.fine, AV.one, repA, Nat.reduceMul, Nat.reduceAdd, Nat.reduceLeDiff, Nat.reduceEqDiff, Int.reduceToNat, Nat.reduceSub, Nat.reduceMod, Nat.reduceDiv, indexK.aggOf, Int.reducePow, Int.reduceLE, Int.reduceNeg, Int.reduceLT, Int.reduceBEq, Int.reduceBNe, Int.reduceEq, ownA, nilA, Try.facts, h2, h3, h4, h7, h8, dT, dF, qT, qF, nT, nF, Bool.false_and, Bool.and_false, hld1, hg4, hil, hle4, hle5, hle6, hne, bne_self_eq_false]
          exact ⟨mm - 1, by omega, hsub, i + 1, kA, by omega, by rw [← hM'], rfl⟩
      · rw [if_neg (fun h => e1 (by simpa using h.1))] at hst
        subst hst
        have e3 : (q1 ≠ a) ∨ (q1 = a ∧ q2 ≠ c) := by omega
        rcases e3 with e3 | e3
        all_goals
          simp (disch := omega) only [↓runPre, runPost, fieldO, ixA, cutA, lenA, aggA, rowA, appA, mkA, indA, bnd, srcA, sameOp, funcA, cvO, partA, aggD, ↓PostP, resV, resAll, resOne, resVF, resAllF, resOneF, fitsAll, fitsR, fits, frz, Post, Nat.reduceBEq, Nat.reduceLT, reduceCtorEq, ↓reduceIte, initS, AV.cellsOf, AV.fine, AV.one, repA, Nat.reduceMul, Nat.reduceAdd, Nat.reduceLeDiff, Nat.reduceEqDiff, Int.reduceToNat, Nat.reduceSub, Nat.reduceMod, Nat.reduceDiv, indexK.aggOf, Int.reducePow, Int.reduceLE, Int.reduceNeg, Int.reduceLT, Int.reduceBEq, Int.reduceBNe, Int.reduceEq, ownA, nilA, Try.facts, h2, h3, h4, h7, h8, dT, dF, qT, qF, nT, nF, Bool.false_and, Bool.and_false, hld1, hg4, hil, hle4, hle5, hle6]
          exact ⟨mm - 1, by omega, hsub, i + 1, kA, by omega, by rw [← hM'], rfl⟩
    · obtain rfl : i = L.length := by omega
      rw [List.take_length] at h7
      simp (disch := omega) only [↓runPre, runPost, fieldO, ixA, cutA, lenA, aggA, rowA, appA, mkA, indA, bnd, srcA, sameOp, funcA, cvO, partA, aggD, ↓PostP, resV, resAll, resOne, resVF, resAllF, resOneF, fitsAll, fitsR, fits, frz, Post, Nat.reduceBEq, Nat.reduceLT, reduceCtorEq, ↓reduceIte, initS, AV.cellsOf, AV.fine, AV.one, repA, Nat.reduceMul, Nat.reduceAdd, Nat.reduceLeDiff, Nat.reduceEqDiff, Int.reduceToNat, Nat.reduceSub, Nat.reduceMod, Nat.reduceDiv, indexK.aggOf, Int.reducePow, Int.reduceLE, Int.reduceNeg, Int.reduceLT, Int.reduceBEq, Int.reduceBNe, Int.reduceEq, ownA, nilA, Try.facts, h2, h3, h4, h7, h8, dT, dF, qT, qF, nT, nF, Bool.false_and, Bool.and_false, hil]
      exact hsub
end Go.Proofs.Ytpmmafmbjconiaa
