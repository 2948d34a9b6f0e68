/-
  The walks of the fugue layer: sorted IDs; what the document's text has.
  Conditions: none. Lemmas only.
-/
import Derived.Test.YtpmmafmbjconiaaFugA
set_option linter.all false
set_option linter.unusedSimpArgs false
set_option linter.unusedVariables false
set_option maxRecDepth 8000
set_option maxHeartbeats 4000000
namespace Go.Proofs.Ytpmmafmbjconiaa
open Go Go.Abs Go.Proofs Go.Fug

theorem dT {p : Prop} [Decidable p] (h : p) : decide p = true := by simpa using h
theorem dF {p : Prop} [Decidable p] (h : ¬ p) : decide p = false := by simpa using h
theorem qT {a b : Int} (h : a = b) : (a == b) = true := by simpa using h
theorem qF {a b : Int} (h : ¬ a = b) : (a == b) = false := by simpa using h
theorem nT {a b : Int} (h : ¬ a = b) : (a != b) = true := by simpa using h
theorem nF {a b : Int} (h : a = b) : (a != b) = false := by simpa using h

theorem side_pure (b : Bool) : APure Try.prog 42 [.sc (.bool b)] (.sc (.int .i64 (if b then 1 else 0))) := by
  refine apure_of_cwp (c := ⟨Try.prog, 4, [], [], []⟩) (rs := [ResultVar.tmp 2]) Try.mixed Try.func42 rfl rfl rfl (Nat.le_of_ble_eq_true rfl) (by kernel_rfl) fun H => ?_
  cases b with
  | true =>
    simp (disch := omega) only [↓runPre, runPost, fieldO, ixA, cutA, lenA, aggA, rowA, appA, mkA, indA, bnd, srcA, sameOp, funcA, cvO, partA, aggD, ↓PostP, resV, resAll, resOne, resVF, resAllF, resOneF, fitsAll, fitsR, fits, frz, Post, Nat.reduceBEq, Nat.reduceLT, reduceCtorEq, ↓reduceIte, initS, AV.cellsOf, AV.fine, AV.one, repA, Nat.reduceMul, Nat.reduceAdd, Nat.reduceLeDiff, Nat.reduceEqDiff, Int.reduceToNat, Nat.reduceSub, Nat.reduceMod, Nat.reduceDiv, indexK.aggOf, Int.reducePow, Int.reduceLE, Int.reduceNeg, Int.reduceLT, Int.reduceBEq, Int.reduceBNe, Int.reduceEq, ownA, nilA, Try.facts]
    exact Abs.Sub.refl _
  | false =>
    simp (disch := omega) only [↓runPre, runPost, fieldO, ixA, cutA, lenA, aggA, rowA, appA, mkA, indA, bnd, srcA, sameOp, funcA, cvO, partA, aggD, ↓PostP, resV, resAll, resOne, resVF, resAllF, resOneF, fitsAll, fitsR, fits, frz, Post, Nat.reduceBEq, Nat.reduceLT, reduceCtorEq, ↓reduceIte, initS, AV.cellsOf, AV.fine, AV.one, repA, Nat.reduceMul, Nat.reduceAdd, Nat.reduceLeDiff, Nat.reduceEqDiff, Int.reduceToNat, Nat.reduceSub, Nat.reduceMod, Nat.reduceDiv, indexK.aggOf, Int.reducePow, Int.reduceLE, Int.reduceNeg, Int.reduceLT, Int.reduceBEq, Int.reduceBNe, Int.reduceEq, ownA, nilA, Try.facts]
    exact Abs.Sub.refl _

theorem rright_pure (i : Ins) : APure Try.prog 44 [.agg (insC i)] (.sc (.bool (okI i))) := by
  obtain ⟨⟨a, c⟩, ⟨pa, pc⟩, ri, ru⟩ := i
  simp only [insC]
  have hB : okI ⟨(a, c), (pa, pc), ri, ru⟩ = (decide (0 ≤ a) && decide (a < 5) && decide (1 ≤ c) && decide (c ≤ 1099511627776) && decide (0 ≤ ru) && decide (ru ≤ 1114111) && (decide (ru < 55296) || decide (57343 < ru)) && (ri || decide ((pa, pc) ≠ root))) := rfl
  have h1 : (0 ≤ a ∧ a < 5 ∧ 1 ≤ c ∧ c ≤ 1099511627776) ∨ a < 0 ∨ (0 ≤ a ∧ 5 ≤ a) ∨ (0 ≤ a ∧ a < 5 ∧ c < 1) ∨ (0 ≤ a ∧ a < 5 ∧ 1 ≤ c ∧ 1099511627776 < c) := by omega
  have h2 : ru < 0 ∨ (0 ≤ ru ∧ ru < 55296) ∨ (55296 ≤ ru ∧ ru ≤ 57343) ∨ (57343 < ru ∧ ru ≤ 1114111) ∨ 1114111 < ru := by omega
  have h3 : (pa = 0 ∧ pc = 0) ∨ pa ≠ 0 ∨ (pa = 0 ∧ pc ≠ 0) := by omega
  generalize okI _ = B at *
  refine apure_of_cwp (c := ⟨Try.prog, 61, [(1000000, [1]), (4000004, [2]), (4000003, [1, 3, 4, 5]), (4000002, [1, 3, 4]), (4000001, [1, 3])], [], []⟩) (rs := [ResultVar.tmp 2]) Try.mixed Try.func44 rfl rfl rfl (Nat.le_of_ble_eq_true rfl) (by kernel_rfl) fun H => ?_
  simp (disch := omega) only [↓runPre, runPost, fieldO, ixA, cutA, lenA, aggA, rowA, appA, mkA, indA, bnd, srcA, sameOp, funcA, cvO, partA, aggD, ↓PostP, resV, resAll, resOne, resVF, resAllF, resOneF, fitsAll, fitsR, fits, frz, Post, Nat.reduceBEq, Nat.reduceLT, reduceCtorEq, ↓reduceIte, initS, AV.cellsOf, AV.fine, AV.one, repA, Nat.reduceMul, Nat.reduceAdd, Nat.reduceLeDiff, Nat.reduceEqDiff, Int.reduceToNat, Nat.reduceSub, Nat.reduceMod, Nat.reduceDiv, indexK.aggOf, Int.reducePow, Int.reduceLE, Int.reduceNeg, Int.reduceLT, Int.reduceBEq, Int.reduceBNe, Int.reduceEq, ownA, nilA, Try.facts]
  intro k0 hk00 hk0
  rcases h1 with h | h | h | h | h <;> rcases h2 with g | g | g | g | g <;> simp (disch := omega) only [↓runPre, runPost, fieldO, ixA, cutA, lenA, aggA, rowA, appA, mkA, indA, bnd, srcA, sameOp, funcA, cvO, partA, aggD, ↓PostP, resV, resAll, resOne, resVF, resAllF, resOneF, fitsAll, fitsR, fits, frz, Post, Nat.reduceBEq, Nat.reduceLT, reduceCtorEq, ↓reduceIte, initS, AV.cellsOf, AV.fine, AV.one, repA, Nat.reduceMul, Nat.reduceAdd, Nat.reduceLeDiff, Nat.reduceEqDiff, Int.reduceToNat, Nat.reduceSub, Nat.reduceMod, Nat.reduceDiv, indexK.aggOf, Int.reducePow, Int.reduceLE, Int.reduceNeg, Int.reduceLT, Int.reduceBEq, Int.reduceBNe, Int.reduceEq, ownA, nilA, Try.facts, dT, dF, qT, qF, nT, nF, kill_box hk0]
  all_goals first
    | (have hb : B = false := by (rw [hB]; simp; omega)
       exact ⟨by simp [hb], Abs.Sub.refl _⟩)
    | (cases ri with
       | true =>
         simp (disch := omega) only [↓runPre, runPost, fieldO, ixA, cutA, lenA, aggA, rowA, appA, mkA, indA, bnd, srcA, sameOp, funcA, cvO, partA, aggD, ↓PostP, resV, resAll, resOne, resVF, resAllF, resOneF, fitsAll, fitsR, fits, frz, Post, Nat.reduceBEq, Nat.reduceLT, reduceCtorEq, ↓reduceIte, initS, AV.cellsOf, AV.fine, AV.one, repA, Nat.reduceMul, Nat.reduceAdd, Nat.reduceLeDiff, Nat.reduceEqDiff, Int.reduceToNat, Nat.reduceSub, Nat.reduceMod, Nat.reduceDiv, indexK.aggOf, Int.reducePow, Int.reduceLE, Int.reduceNeg, Int.reduceLT, Int.reduceBEq, Int.reduceBNe, Int.reduceEq, ownA, nilA, Try.facts, dT, dF, qT, qF, nT, nF, kill_box hk0]
         have hb : B = true := by (rw [hB]; simp; omega)
         exact ⟨by simp [hb], Abs.Sub.refl _⟩
       | false =>
         rcases h3 with f | f | f
         · simp (disch := omega) only [↓runPre, runPost, fieldO, ixA, cutA, lenA, aggA, rowA, appA, mkA, indA, bnd, srcA, sameOp, funcA, cvO, partA, aggD, ↓PostP, resV, resAll, resOne, resVF, resAllF, resOneF, fitsAll, fitsR, fits, frz, Post, Nat.reduceBEq, Nat.reduceLT, reduceCtorEq, ↓reduceIte, initS, AV.cellsOf, AV.fine, AV.one, repA, Nat.reduceMul, Nat.reduceAdd, Nat.reduceLeDiff, Nat.reduceEqDiff, Int.reduceToNat, Nat.reduceSub, Nat.reduceMod, Nat.reduceDiv, indexK.aggOf, Int.reducePow, Int.reduceLE, Int.reduceNeg, Int.reduceLT, Int.reduceBEq, Int.reduceBNe, Int.reduceEq, ownA, nilA, Try.facts, dT, dF, qT, qF, nT, nF, kill_box hk0]
           have hb : B = false := by (rw [hB]; simp [root]; omega)
           exact ⟨by simp [hb], Abs.Sub.refl _⟩
         · simp (disch := omega) only [↓runPre, runPost, fieldO, ixA, cutA, lenA, aggA, rowA, appA, mkA, indA, bnd, srcA, sameOp, funcA, cvO, partA, aggD, ↓PostP, resV, resAll, resOne, resVF, resAllF, resOneF, fitsAll, fitsR, fits, frz, Post, Nat.reduceBEq, Nat.reduceLT, reduceCtorEq, ↓reduceIte, initS, AV.cellsOf, AV.fine, AV.one, repA, Nat.reduceMul, Nat.reduceAdd, Nat.reduceLeDiff, Nat.reduceEqDiff, Int.reduceToNat, Nat.reduceSub, Nat.reduceMod, Nat.reduceDiv, indexK.aggOf, Int.reducePow, Int.reduceLE, Int.reduceNeg, Int.reduceLT, Int.reduceBEq, Int.reduceBNe, Int.reduceEq, ownA, nilA, Try.facts, dT, dF, qT, qF, nT, nF, kill_box hk0]
           have hb : B = true := by (rw [hB]; simp [root]; omega)
           exact ⟨by simp [hb], Abs.Sub.refl _⟩
         · simp (disch := omega) only [↓runPre, runPost, fieldO, ixA, cutA, lenA, aggA, rowA, appA, mkA, indA, bnd, srcA, sameOp, funcA, cvO, partA, aggD, ↓PostP, resV, resAll, resOne, resVF, resAllF, resOneF, fitsAll, fitsR, fits, frz, Post, Nat.reduceBEq, Nat.reduceLT, reduceCtorEq, ↓reduceIte, initS, AV.cellsOf, AV.fine, AV.one, repA, Nat.reduceMul, Nat.reduceAdd, Nat.reduceLeDiff, Nat.reduceEqDiff, Int.reduceToNat, Nat.reduceSub, Nat.reduceMod, Nat.reduceDiv, indexK.aggOf, Int.reducePow, Int.reduceLE, Int.reduceNeg, Int.reduceLT, Int.reduceBEq, Int.reduceBNe, Int.reduceEq, ownA, nilA, Try.facts, dT, dF, qT, qF, nT, nF, kill_box hk0]
           have hb : B = true := by (rw [hB]; simp [root]; omega)
           exact ⟨by simp [hb], Abs.Sub.refl _⟩)

/-- where an ID goes, and all with it -/
theorem put_pure (l : List EId) (x : EId) (hl : l.length ≤ 1000000) : APure Try.prog 41 [idsV l, idV x] (idsV (putL l x)) := by
  have hle := placeL_le l x
  have hlt := fun i => placeL_lt (l := l) (x := x) (i := i)
  have hat := fun y => placeL_at (l := l) (x := x) (y := y)
  have hp := putL_eq l x
  have hpl := putL_length l x
  have hless := fun y => less_pure y x
  have hil := idsC_length l
  generalize putL l x = R at *
  generalize placeL l x = p at *
  obtain ⟨a, c⟩ := x
  refine apure_of_cwp (c := ⟨Try.prog, 34, [(2, [0, 0, 1, 0, 0, 0, 0, 0, 1, 1, 0, 0]), (2000004, [1, 2, 3, 5, 6, 0, 4, 7, 8]), (4, [0, 0, 0, 0, 0, 2, 2, 2, 0]), (1000000, [3])], [21], []⟩) (rs := [ResultVar.tmp 4]) Try.mixed Try.func41 rfl rfl rfl (Nat.le_of_ble_eq_true rfl) (by kernel_rfl) fun H => ?_
  simp (disch := omega) only [↓runPre, runPost, fieldO, ixA, cutA, lenA, aggA, rowA, appA, mkA, indA, bnd, srcA, sameOp, funcA, cvO, partA, aggD, ↓PostP, resV, resAll, resOne, resVF, resAllF, resOneF, fitsAll, fitsR, fits, frz, Post, Nat.reduceBEq, Nat.reduceLT, reduceCtorEq, ↓reduceIte, initS, AV.cellsOf, AV.fine, AV.one, repA, Nat.reduceMul, Nat.reduceAdd, Nat.reduceLeDiff, Nat.reduceEqDiff, Int.reduceToNat, Nat.reduceSub, Nat.reduceMod, Nat.reduceDiv, indexK.aggOf, Int.reducePow, Int.reduceLE, Int.reduceNeg, Int.reduceLT, Int.reduceBEq, Int.reduceBNe, Int.reduceEq, ownA, nilA, Try.facts]
  intro k hk0 hk
  simp (disch := omega) only [↓runPre, runPost, fieldO, ixA, cutA, lenA, aggA, rowA, appA, mkA, indA, bnd, srcA, sameOp, funcA, cvO, partA, aggD, ↓PostP, resV, resAll, resOne, resVF, resAllF, resOneF, fitsAll, fitsR, fits, frz, Post, Nat.reduceBEq, Nat.reduceLT, reduceCtorEq, ↓reduceIte, initS, AV.cellsOf, AV.fine, AV.one, repA, Nat.reduceMul, Nat.reduceAdd, Nat.reduceLeDiff, Nat.reduceEqDiff, Int.reduceToNat, Nat.reduceSub, Nat.reduceMod, Nat.reduceDiv, indexK.aggOf, Int.reducePow, Int.reduceLE, Int.reduceNeg, Int.reduceLT, Int.reduceBEq, Int.reduceBNe, Int.reduceEq, ownA, nilA, Try.facts, kill_box hk]
  refine loop_t (c := ⟨Try.prog, 34, [(2, [0, 0, 1, 0, 0, 0, 0, 0, 1, 1, 0, 0]), (2000004, [1, 2, 3, 5, 6, 0, 4, 7, 8]), (4, [0, 0, 0, 0, 0, 2, 2, 2, 0]), (1000000, [3])], [21], []⟩) Try.mixed (by kernel_rfl) (fun mm σ H' => H' = H ∧ ∃ i, i + mm = p ∧ σ 0 = .imm 0 (idsC l) l.length ∧ σ 3 = .ip [.sc (.int .i64 a), .sc (.int .i64 c)] 0 ∧ σ 5 = .sc (.int .i64 (i : Nat))) p ?_ ?_
  · refine ⟨rfl, 0, by omega, ?_⟩
    simp (disch := omega) only [↓runPre, runPost, fieldO, ixA, cutA, lenA, aggA, rowA, appA, mkA, indA, bnd, srcA, sameOp, funcA, cvO, partA, aggD, ↓PostP, resV, resAll, resOne, resVF, resAllF, resOneF, fitsAll, fitsR, fits, frz, Post, Nat.reduceBEq, Nat.reduceLT, reduceCtorEq, ↓reduceIte, initS, AV.cellsOf, AV.fine, AV.one, repA, Nat.reduceMul, Nat.reduceAdd, Nat.reduceLeDiff, Nat.reduceEqDiff, Int.reduceToNat, Nat.reduceSub, Nat.reduceMod, Nat.reduceDiv, indexK.aggOf, Int.reducePow, Int.reduceLE, Int.reduceNeg, Int.reduceLT, Int.reduceBEq, Int.reduceBNe, Int.reduceEq, ownA, nilA, Try.facts]
    try rfl
  · rintro mm σ H' ⟨rfl, i, him, h0, h3, h5⟩
    by_cases hip : i < p
    · obtain ⟨y, hy, hly⟩ := hlt i hip
      have hil' : i < l.length := by omega
      have hld := idsC_load hil'
      have hyi : l[i] = y := by rw [List.getElem?_eq_getElem hil'] at hy; exact Option.some.inj hy
      rw [hyi] at hld
      have hly' := hless y
      rw [hly] at hly'
      obtain ⟨y1, y2⟩ := y
      have hle' : i * 2 + 2 ≤ l.length * 2 := by omega
      simp (disch := omega) only [↓runPre, runPost, fieldO, ixA, cutA, lenA, aggA, rowA, appA, mkA, indA, bnd, srcA, sameOp, funcA, cvO, partA, aggD, ↓PostP, resV, resAll, resOne, resVF, resAllF, resOneF, fitsAll, fitsR, fits, frz, Post, Nat.reduceBEq, Nat.reduceLT, reduceCtorEq, ↓reduceIte, initS, AV.cellsOf, AV.fine, AV.one, repA, Nat.reduceMul, Nat.reduceAdd, Nat.reduceLeDiff, Nat.reduceEqDiff, Int.reduceToNat, Nat.reduceSub, Nat.reduceMod, Nat.reduceDiv, indexK.aggOf, Int.reducePow, Int.reduceLE, Int.reduceNeg, Int.reduceLT, Int.reduceBEq, Int.reduceBNe, Int.reduceEq, ownA, nilA, Try.facts, h0, h3, h5, dT, dF, hld, hil, hle']
      first | refine CallK.p (hly') ?_ | refine CallP.i (hly') ?_
      simp (disch := omega) only [↓runPre, runPost, fieldO, ixA, cutA, lenA, aggA, rowA, appA, mkA, indA, bnd, srcA, sameOp, funcA, cvO, partA, aggD, ↓PostP, resV, resAll, resOne, resVF, resAllF, resOneF, fitsAll, fitsR, fits, frz, Post, Nat.reduceBEq, Nat.reduceLT, reduceCtorEq, ↓reduceIte, initS, AV.cellsOf, AV.fine, AV.one, repA, Nat.reduceMul, Nat.reduceAdd, Nat.reduceLeDiff, Nat.reduceEqDiff, Int.reduceToNat, Nat.reduceSub, Nat.reduceMod, Nat.reduceDiv, indexK.aggOf, Int.reducePow, Int.reduceLE, Int.reduceNeg, Int.reduceLT, Int.reduceBEq, Int.reduceBNe, Int.reduceEq, ownA, nilA, Try.facts, h0, h3, h5, dT, dF, hld, hil, hle']
      exact ⟨mm - 1, by omega, i + 1, by omega, rfl⟩
    · obtain rfl : i = p := by omega
      have hcut : (idsC l).take (i * 2) = idsC (l.take i) := idsC_take l i
      have hcut2 : (idsC l).drop (i * 2) = idsC (l.drop i) := idsC_dropN l i
      have hil2 := idsC_length (l.take i)
      have hil3 := idsC_length (l.drop i)
      have hl2 : (l.take i).length = i := by rw [List.length_take]; omega
      have hl3 : (l.drop i).length = l.length - i := by rw [List.length_drop]
      have hq1 : idsC (l.take i) ++ [.sc (.int .i64 a), .sc (.int .i64 c)] = idsC (l.take i ++ [(a, c)]) := idsC_snoc _ (a, c)
      have hq2 : (idsC (l.take i ++ [(a, c)])).length = (i + 1) * 2 := by rw [idsC_length, List.length_append, hl2]; rfl
      have hq3 : (idsC (l.drop i)).take ((l.length - i) * 2) = idsC (l.drop i) := List.take_of_length_le (by omega)
      have hq4 : idsC (l.take i ++ [(a, c)]) ++ idsC (l.drop i) = idsC (l.take i ++ [(a, c)] ++ l.drop i) := idsC_append _ _
      have hq5 : i + 1 + (l.length - i) = l.length + 1 := by omega
      by_cases hil' : i < l.length
      · have hld := idsC_load hil'
        have hly := hat l[i] (List.getElem?_eq_getElem hil')
        have hly' := hless l[i]
        rw [hly] at hly'
        generalize l[i] = y at *
        obtain ⟨y1, y2⟩ := y
        have hle' : i * 2 + 2 ≤ l.length * 2 := by omega
        simp (disch := omega) only [↓runPre, runPost, fieldO, ixA, cutA, lenA, aggA, rowA, appA, mkA, indA, bnd, srcA, sameOp, funcA, cvO, partA, aggD, ↓PostP, resV, resAll, resOne, resVF, resAllF, resOneF, fitsAll, fitsR, fits, frz, Post, Nat.reduceBEq, Nat.reduceLT, reduceCtorEq, ↓reduceIte, initS, AV.cellsOf, AV.fine, AV.one, repA, Nat.reduceMul, Nat.reduceAdd, Nat.reduceLeDiff, Nat.reduceEqDiff, Int.reduceToNat, Nat.reduceSub, Nat.reduceMod, Nat.reduceDiv, indexK.aggOf, Int.reducePow, Int.reduceLE, Int.reduceNeg, Int.reduceLT, Int.reduceBEq, Int.reduceBNe, Int.reduceEq, ownA, nilA, Try.facts, h0, h3, h5, dT, dF, hld, hil, hle']
        first | refine CallK.p (hly') ?_ | refine CallP.i (hly') ?_
        simp (disch := omega) only [↓runPre, runPost, fieldO, ixA, cutA, lenA, aggA, rowA, appA, mkA, indA, bnd, srcA, sameOp, funcA, cvO, partA, aggD, ↓PostP, resV, resAll, resOne, resVF, resAllF, resOneF, fitsAll, fitsR, fits, frz, Post, Nat.reduceBEq, Nat.reduceLT, reduceCtorEq, ↓reduceIte, initS, AV.cellsOf, AV.fine, AV.one, repA, Nat.reduceMul, Nat.reduceAdd, Nat.reduceLeDiff, Nat.reduceEqDiff, Int.reduceToNat, Nat.reduceSub, Nat.reduceMod, Nat.reduceDiv, indexK.aggOf, Int.reducePow, Int.reduceLE, Int.reduceNeg, Int.reduceLT, Int.reduceBEq, Int.reduceBNe, Int.reduceEq, ownA, nilA, Try.facts, h0, h3, h5, dT, dF, hld, hil, hle', hcut, hcut2, hil2, hil3, hl2, hl3, Nat.sub_zero]
        intro kb hkb0 hkb
        simp (disch := omega) only [↓runPre, runPost, fieldO, ixA, cutA, lenA, aggA, rowA, appA, mkA, indA, bnd, srcA, sameOp, funcA, cvO, partA, aggD, ↓PostP, resV, resAll, resOne, resVF, resAllF, resOneF, fitsAll, fitsR, fits, frz, Post, Nat.reduceBEq, Nat.reduceLT, reduceCtorEq, ↓reduceIte, initS, AV.cellsOf, AV.fine, AV.one, repA, Nat.reduceMul, Nat.reduceAdd, Nat.reduceLeDiff, Nat.reduceEqDiff, Int.reduceToNat, Nat.reduceSub, Nat.reduceMod, Nat.reduceDiv, indexK.aggOf, Int.reducePow, Int.reduceLE, Int.reduceNeg, Int.reduceLT, Int.reduceBEq, Int.reduceBNe, Int.reduceEq, ownA, nilA, Try.facts, h0, h3, h5, dT, dF, hil, hcut, hcut2, hil2, hil3, hl2, hl3, Nat.sub_zero, hkb0]
        intro k4 o4 hk40 hk4 ho4
        replace hk4 := subset_set hk4
        simp (disch := omega) only [↓runPre, runPost, fieldO, ixA, cutA, lenA, aggA, rowA, appA, mkA, indA, bnd, srcA, sameOp, funcA, cvO, partA, aggD, ↓PostP, resV, resAll, resOne, resVF, resAllF, resOneF, fitsAll, fitsR, fits, frz, Post, Nat.reduceBEq, Nat.reduceLT, reduceCtorEq, ↓reduceIte, initS, AV.cellsOf, AV.fine, AV.one, repA, Nat.reduceMul, Nat.reduceAdd, Nat.reduceLeDiff, Nat.reduceEqDiff, Int.reduceToNat, Nat.reduceSub, Nat.reduceMod, Nat.reduceDiv, indexK.aggOf, Int.reducePow, Int.reduceLE, Int.reduceNeg, Int.reduceLT, Int.reduceBEq, Int.reduceBNe, Int.reduceEq, ownA, nilA, Try.facts, h0, h3, h5, dT, dF, hil, hcut, hcut2, hil2, hil3, hl2, hl3, Nat.sub_zero, ho4, hk40, hq1, hq2, hq3, hq4, hq5]
        intro k5 o5 hk50 hk5 ho5
        replace hk5 := subset_set hk5
        simp (disch := omega) only [↓runPre, runPost, fieldO, ixA, cutA, lenA, aggA, rowA, appA, mkA, indA, bnd, srcA, sameOp, funcA, cvO, partA, aggD, ↓PostP, resV, resAll, resOne, resVF, resAllF, resOneF, fitsAll, fitsR, fits, frz, Post, Nat.reduceBEq, Nat.reduceLT, reduceCtorEq, ↓reduceIte, initS, AV.cellsOf, AV.fine, AV.one, repA, Nat.reduceMul, Nat.reduceAdd, Nat.reduceLeDiff, Nat.reduceEqDiff, Int.reduceToNat, Nat.reduceSub, Nat.reduceMod, Nat.reduceDiv, indexK.aggOf, Int.reducePow, Int.reduceLE, Int.reduceNeg, Int.reduceLT, Int.reduceBEq, Int.reduceBNe, Int.reduceEq, ownA, nilA, Try.facts, h0, h3, h5, dT, dF, hil, hcut, hcut2, hil2, hil3, hl2, hl3, Nat.sub_zero, ho5, hk50, hq1, hq2, hq3, hq4, hq5]
        intro k6 o6 hk60 hk6 ho6
        replace hk6 := subset_set hk6
        exact ⟨by rw [← hp, ← hpl], Abs.Sub.set_new hk6⟩
      · simp (disch := omega) only [↓runPre, runPost, fieldO, ixA, cutA, lenA, aggA, rowA, appA, mkA, indA, bnd, srcA, sameOp, funcA, cvO, partA, aggD, ↓PostP, resV, resAll, resOne, resVF, resAllF, resOneF, fitsAll, fitsR, fits, frz, Post, Nat.reduceBEq, Nat.reduceLT, reduceCtorEq, ↓reduceIte, initS, AV.cellsOf, AV.fine, AV.one, repA, Nat.reduceMul, Nat.reduceAdd, Nat.reduceLeDiff, Nat.reduceEqDiff, Int.reduceToNat, Nat.reduceSub, Nat.reduceMod, Nat.reduceDiv, indexK.aggOf, Int.reducePow, Int.reduceLE, Int.reduceNeg, Int.reduceLT, Int.reduceBEq, Int.reduceBNe, Int.reduceEq, ownA, nilA, Try.facts, h0, h3, h5, dT, dF, hil, hcut, hcut2, hil2, hil3, hl2, hl3, Nat.sub_zero]
        intro kb hkb0 hkb
        simp (disch := omega) only [↓runPre, runPost, fieldO, ixA, cutA, lenA, aggA, rowA, appA, mkA, indA, bnd, srcA, sameOp, funcA, cvO, partA, aggD, ↓PostP, resV, resAll, resOne, resVF, resAllF, resOneF, fitsAll, fitsR, fits, frz, Post, Nat.reduceBEq, Nat.reduceLT, reduceCtorEq, ↓reduceIte, initS, AV.cellsOf, AV.fine, AV.one, repA, Nat.reduceMul, Nat.reduceAdd, Nat.reduceLeDiff, Nat.reduceEqDiff, Int.reduceToNat, Nat.reduceSub, Nat.reduceMod, Nat.reduceDiv, indexK.aggOf, Int.reducePow, Int.reduceLE, Int.reduceNeg, Int.reduceLT, Int.reduceBEq, Int.reduceBNe, Int.reduceEq, ownA, nilA, Try.facts, h0, h3, h5, dT, dF, hil, hcut, hcut2, hil2, hil3, hl2, hl3, Nat.sub_zero, hkb0]
        intro k4 o4 hk40 hk4 ho4
        replace hk4 := subset_set hk4
        simp (disch := omega) only [↓runPre, runPost, fieldO, ixA, cutA, lenA, aggA, rowA, appA, mkA, indA, bnd, srcA, sameOp, funcA, cvO, partA, aggD, ↓PostP, resV, resAll, resOne, resVF, resAllF, resOneF, fitsAll, fitsR, fits, frz, Post, Nat.reduceBEq, Nat.reduceLT, reduceCtorEq, ↓reduceIte, initS, AV.cellsOf, AV.fine, AV.one, repA, Nat.reduceMul, Nat.reduceAdd, Nat.reduceLeDiff, Nat.reduceEqDiff, Int.reduceToNat, Nat.reduceSub, Nat.reduceMod, Nat.reduceDiv, indexK.aggOf, Int.reducePow, Int.reduceLE, Int.reduceNeg, Int.reduceLT, Int.reduceBEq, Int.reduceBNe, Int.reduceEq, ownA, nilA, Try.facts, h0, h3, h5, dT, dF, hil, hcut, hcut2, hil2, hil3, hl2, hl3, Nat.sub_zero, ho4, hk40, hq1, hq2, hq3, hq4, hq5]
        intro k5 o5 hk50 hk5 ho5
        replace hk5 := subset_set hk5
        simp (disch := omega) only [↓runPre, runPost, fieldO, ixA, cutA, lenA, aggA, rowA, appA, mkA, indA, bnd, srcA, sameOp, funcA, cvO, partA, aggD, ↓PostP, resV, resAll, resOne, resVF, resAllF, resOneF, fitsAll, fitsR, fits, frz, Post, Nat.reduceBEq, Nat.reduceLT, reduceCtorEq, ↓reduceIte, initS, AV.cellsOf, AV.fine, AV.one, repA, Nat.reduceMul, Nat.reduceAdd, Nat.reduceLeDiff, Nat.reduceEqDiff, Int.reduceToNat, Nat.reduceSub, Nat.reduceMod, Nat.reduceDiv, indexK.aggOf, Int.reducePow, Int.reduceLE, Int.reduceNeg, Int.reduceLT, Int.reduceBEq, Int.reduceBNe, Int.reduceEq, ownA, nilA, Try.facts, h0, h3, h5, dT, dF, hil, hcut, hcut2, hil2, hil3, hl2, hl3, Nat.sub_zero, ho5, hk50, hq1, hq2, hq3, hq4, hq5]
        intro k6 o6 hk60 hk6 ho6
        replace hk6 := subset_set hk6
        exact ⟨by rw [← hp, ← hpl], Abs.Sub.set_new hk6⟩
end Go.Proofs.Ytpmmafmbjconiaa
