/-
  The walks of the fugue layer: the law of one by one: its walk.
  Conditions: none. Lemmas only.
-/
import Derived.Test.YtpmmafmbjconiaaFugO
set_option linter.all false
set_option linter.unusedSimpArgs false
set_option linter.unusedVariables false
set_option maxRecDepth 8000
set_option maxHeartbeats 4000000
namespace Go.Proofs.Ytpmmafmbjconiaa
open Go Go.Abs Go.Proofs Go.Fug
/-- so far as they should be -/
def okB (N : List Nd) (pre : List (Nat × Nd)) : Bool := decide (pre = (ixd 0 N).take pre.length)
theorem ixd_get (N : List Nd) : ∀ (i j : Nat), (ixd i N)[j]? = N[j]?.map fun n => (i + j, n) := by
  induction N with
  | nil => intro i j; simp [ixd]
  | cons n N ih =>
    intro i j
    cases j with
    | zero => simp [ixd]
    | succ j => simp only [ixd, List.getElem?_cons_succ, ih]; congr 1; funext x; congr 1; omega
theorem okB_snoc (N : List Nd) (pre : List (Nat × Nd)) (q : Nat) (x : Nd) : okB N (pre ++ [(q, x)]) = (okB N pre && decide (q = pre.length) && decide (N[pre.length]? = some x)) := by
  rw [Bool.eq_iff_iff]
  simp only [okB, Bool.and_eq_true, decide_eq_true_eq, List.length_append, List.length_singleton]
  rw [List.take_add_one, ixd_get]
  cases hN : N[pre.length]? with
  | none =>
    simp only [Option.map_none, Option.toList_none, List.append_nil, reduceCtorEq, and_false, iff_false]
    intro h
    have := congrArg List.length h
    simp only [List.length_append, List.length_singleton, List.length_take] at this
    omega
  | some y =>
    have hlt : pre.length < N.length := (List.getElem?_eq_some_iff.1 hN).1
    simp only [Option.map_some, Option.toList_some, Nat.zero_add, Option.some.injEq]
    constructor
    · intro h
      obtain ⟨h1, h2⟩ := List.append_inj h (by rw [List.length_take, ixd_length]; omega)
      simp only [List.cons.injEq, Prod.mk.injEq, and_true] at h2
      exact ⟨⟨h1, h2.1⟩, h2.2.symm⟩
    · rintro ⟨⟨h1, rfl⟩, rfl⟩
      rw [← h1]
/-- the two boxes of the walk -/
def oneH (HB : AH) (nb kb : Nat) (N : List Nd) (pre : List (Nat × Nd)) : AH :=
  (HB.set nb (.cells [.sc (.int .i64 (pre.length : Nat))] 3 1)).set kb (.cells [.sc (.bool (okB N pre))] 4 1)
theorem one_frame {HB Hc H1 : AH} {nb kb : Nat} {N : List Nd} {pre pre' : List (Nat × Nd)} (hn : ¬ kb = nb) (hc : Hc = oneH HB nb kb N pre) (hs : Abs.Sub Hc H1) :
    FrameStep Hc H1 (oneH HB nb kb N pre') ((H1.set kb (.cells [.sc (.bool (okB N pre'))] 4 1)).set nb (.cells [.sc (.int .i64 (pre'.length : Nat))] 3 1)) := by
  subst hc
  refine ⟨fun x o hx => ?_, fun q o h1 h2 => ?_⟩
  · unfold oneH at hx
    by_cases e1 : x = kb
    · subst e1
      rw [set_get] at hx
      rw [set_other hn, set_get]; exact hx
    · rw [set_other e1] at hx
      by_cases e2 : x = nb
      · subst e2; rw [set_get] at hx ⊢; exact hx
      · rw [set_other e2] at hx
        rw [set_other e2, set_other e1]
        exact hs x o (by unfold oneH; rw [set_other e1, set_other e2]; exact hx)
  · unfold oneH at h2
    have e1 : ¬ q = kb := fun e => by rw [e, set_get] at h2; cases h2
    rw [set_other e1] at h2
    have e2 : ¬ q = nb := fun e => by rw [e, set_get] at h2; cases h2
    rw [set_other e2] at h2
    exact ⟨by rw [set_other e2, set_other e1]; exact h1, by unfold oneH; rw [set_other e1, set_other e2]; exact h2⟩
theorem one_body (H1 : AH) (kb nb : Nat) (N : List Nd) (hN : N.length ≤ 1000000000) (b : Bool) (k q lv : Nat) (hlv : lv < 256) (x : Nd) (hkn : ¬ kb = nb) (hk : k < 1000000000)
    (h1 : H1 kb = some (.cells [.sc (.bool b)] 4 1)) (h2 : H1 nb = some (.cells [.sc (.int .i64 (k : Nat))] 3 1)) :
    ACalls Try.prog 16 [.sc (.int .i64 (q : Nat)), .agg (ndC x), .ptr kb 0, .ptr nb 0, .ip [ndsV N] 0, .ip [.sc (.int .u8 (lv : Nat))] 0] H1 fun v H2 =>
      v = .sc (.bool (decide (k + 1 ≤ lv))) ∧ H2 = (H1.set kb (.cells [.sc (.bool (b && decide (q = k) && decide (N[k]? = some x)))] 4 1)).set nb (.cells [.sc (.int .i64 (k + 1 : Nat))] 3 1) := by
  have hNi := ndsC_length N
  obtain ⟨B, hB⟩ : ∃ B, B = (b && decide (q = k) && decide (N[k]? = some x)) := ⟨_, rfl⟩
  rw [← hB]
  have hw : ((k : Int) + 1) = ((k + 1 : Nat) : Int) := by omega
  have hw2 : (((k + 1 : Nat) : Int) ≤ (lv : Int)) ↔ k + 1 ≤ lv := by omega
  obtain ⟨⟨x1, x2⟩, xu, xg⟩ := x
  simp only [ndC]
  refine acalls_of_cwp (c := ⟨Try.prog, 35, [(1, [1, 0, 0, 1, 0, 0, 0, 1, 1, 1, 0, 0, 0, 1, 1, 1, 0, 1, 0, 0, 2]), (1000000, [7])], [], []⟩) (rs := [ResultVar.tmp 8]) Try.mixed Try.func16 rfl rfl rfl (Nat.le_of_ble_eq_true rfl) (by kernel_rfl) ?_
  simp (disch := omega) only [↓runPre, runPost, fieldO, ixA, cutA, lenA, aggA, rowA, appA, mkA, indA, bnd, srcA, sameOp, funcA, cvO, partA, aggD, ↓PostP, resV, resAll, resOne, resVF, resAllF, resOneF, fitsAll, fitsR, fits, frz, Post, Nat.reduceBEq, Nat.reduceLT, reduceCtorEq, ↓reduceIte, initS, AV.cellsOf, AV.fine, AV.one, repA, Nat.reduceMul, Nat.reduceAdd, Nat.reduceLeDiff, Nat.reduceEqDiff, Int.reduceToNat, Nat.reduceSub, Nat.reduceMod, Nat.reduceDiv, indexK.aggOf, Int.reducePow, Int.reduceLE, Int.reduceNeg, Int.reduceLT, Int.reduceBEq, Int.reduceBNe, Int.reduceEq, ownA, nilA, Try.facts]
  intro b1 hb10 hb1
  simp (disch := omega) only [↓runPre, runPost, fieldO, ixA, cutA, lenA, aggA, rowA, appA, mkA, indA, bnd, srcA, sameOp, funcA, cvO, partA, aggD, ↓PostP, resV, resAll, resOne, resVF, resAllF, resOneF, fitsAll, fitsR, fits, frz, Post, Nat.reduceBEq, Nat.reduceLT, reduceCtorEq, ↓reduceIte, initS, AV.cellsOf, AV.fine, AV.one, repA, Nat.reduceMul, Nat.reduceAdd, Nat.reduceLeDiff, Nat.reduceEqDiff, Int.reduceToNat, Nat.reduceSub, Nat.reduceMod, Nat.reduceDiv, indexK.aggOf, Int.reducePow, Int.reduceLE, Int.reduceNeg, Int.reduceLT, Int.reduceBEq, Int.reduceBNe, Int.reduceEq, ownA, nilA, Try.facts, kill_box hb1]
  have nk := fun e : nb = kb => hkn e.symm
  cases b with
  | false =>
    obtain rfl : B = false := by rw [hB]; rfl
    simp (disch := omega) only [↓runPre, runPost, fieldO, ixA, cutA, lenA, aggA, rowA, appA, mkA, indA, bnd, srcA, sameOp, funcA, cvO, partA, aggD, ↓PostP, resV, resAll, resOne, resVF, resAllF, resOneF, fitsAll, fitsR, fits, frz, Post, Nat.reduceBEq, Nat.reduceLT, reduceCtorEq, ↓reduceIte, initS, AV.cellsOf, AV.fine, AV.one, repA, Nat.reduceMul, Nat.reduceAdd, Nat.reduceLeDiff, Nat.reduceEqDiff, Int.reduceToNat, Nat.reduceSub, Nat.reduceMod, Nat.reduceDiv, indexK.aggOf, Int.reducePow, Int.reduceLE, Int.reduceNeg, Int.reduceLT, Int.reduceBEq, Int.reduceBNe, Int.reduceEq, ownA, nilA, Try.facts, kill_box hb1, h1, h2, putCells_eq, set_other, nk, hw, hw2]
    exact ⟨_, rfl, _, Abs.Sub.refl _, rfl, rfl⟩
  | true =>
    by_cases hq : q = k
    · subst hq
      by_cases hlt : q < N.length
      · have ld := ndsC_load hlt
        have le4 : q * 4 + 4 ≤ N.length * 4 := by omega
        have hBq : B = decide (N[q] = ⟨(x1, x2), xu, xg⟩) := by rw [hB]; simp [List.getElem?_eq_getElem hlt]
        generalize N[q] = y at *
        obtain ⟨⟨y1, y2⟩, yu, yg⟩ := y
        simp only [ndC] at ld
        by_cases e : x1 = y1 ∧ x2 = y2 ∧ xu = yu ∧ xg = yg
        · obtain ⟨rfl, rfl, rfl, rfl⟩ := e
          obtain rfl : B = true := by rw [hBq]; simp
          simp (disch := omega) only [↓runPre, runPost, fieldO, ixA, cutA, lenA, aggA, rowA, appA, mkA, indA, bnd, srcA, sameOp, funcA, cvO, partA, aggD, ↓PostP, resV, resAll, resOne, resVF, resAllF, resOneF, fitsAll, fitsR, fits, frz, Post, Nat.reduceBEq, Nat.reduceLT, reduceCtorEq, ↓reduceIte, initS, AV.cellsOf, AV.fine, AV.one, repA, Nat.reduceMul, Nat.reduceAdd, Nat.reduceLeDiff, Nat.reduceEqDiff, Int.reduceToNat, Nat.reduceSub, Nat.reduceMod, Nat.reduceDiv, indexK.aggOf, Int.reducePow, Int.reduceLE, Int.reduceNeg, Int.reduceLT, Int.reduceBEq, Int.reduceBNe, Int.reduceEq, ownA, nilA, Try.facts, kill_box hb1, h1, h2, hNi, dT, dF, qT, qF, nT, nF, Bool.false_and, Bool.and_false, ld, le4, beq_self_eq_true, putCells_eq, set_other, nk, hw, hw2]
          exact ⟨_, rfl, _, Abs.Sub.refl _, rfl, rfl⟩
        · obtain rfl : B = false := by
            rw [hBq, decide_eq_false_iff_not]
            intro e'
            apply e
            simp only [Nd.mk.injEq, Prod.mk.injEq] at e'
            exact ⟨e'.1.1.symm, e'.1.2.symm, e'.2.1.symm, e'.2.2.symm⟩
          have hbq : ((x1 == y1) && ((x2 == y2) && ((xu == yu) && ((xg == yg) && true)))) = false := by
            rw [Bool.eq_false_iff]
            intro h
            simp only [Bool.and_eq_true, beq_iff_eq, and_true] at h
            exact e h
          have hbq2 : ((x1 == y1 && (x2 == y2 && true)) && ((xu == yu) && ((xg == yg) && true))) = false := by
            rw [Bool.eq_false_iff]
            intro h
            simp only [Bool.and_eq_true, beq_iff_eq, and_true] at h
            exact e ⟨h.1.1, h.1.2, h.2.1, h.2.2⟩
          simp only [Bool.and_true] at hbq hbq2
          simp (disch := omega) only [↓runPre, runPost, fieldO, ixA, cutA, lenA, aggA, rowA, appA, mkA, indA, bnd, srcA, sameOp, funcA, cvO, partA, aggD, ↓PostP, resV, resAll, resOne, resVF, resAllF, resOneF, fitsAll, fitsR, fits, frz, Post, Nat.reduceBEq, Nat.reduceLT, reduceCtorEq, ↓reduceIte, initS, AV.cellsOf, AV.fine, AV.one, repA, Nat.reduceMul, Nat.reduceAdd, Nat.reduceLeDiff, Nat.reduceEqDiff, Int.reduceToNat, Nat.reduceSub, Nat.reduceMod, Nat.reduceDiv, indexK.aggOf, Int.reducePow, Int.reduceLE, Int.reduceNeg, Int.reduceLT, Int.reduceBEq, Int.reduceBNe, Int.reduceEq, ownA, nilA, Try.facts, kill_box hb1, h1, h2, hNi, dT, dF, qT, ld, le4, hbq, hbq2, putCells_eq, set_other, nk, hw, hw2]
          exact ⟨_, rfl, _, Abs.Sub.refl _, rfl, rfl⟩
      · obtain rfl : B = false := by rw [hB, List.getElem?_eq_none (by omega)]; simp
        simp (disch := omega) only [↓runPre, runPost, fieldO, ixA, cutA, lenA, aggA, rowA, appA, mkA, indA, bnd, srcA, sameOp, funcA, cvO, partA, aggD, ↓PostP, resV, resAll, resOne, resVF, resAllF, resOneF, fitsAll, fitsR, fits, frz, Post, Nat.reduceBEq, Nat.reduceLT, reduceCtorEq, ↓reduceIte, initS, AV.cellsOf, AV.fine, AV.one, repA, Nat.reduceMul, Nat.reduceAdd, Nat.reduceLeDiff, Nat.reduceEqDiff, Int.reduceToNat, Nat.reduceSub, Nat.reduceMod, Nat.reduceDiv, indexK.aggOf, Int.reducePow, Int.reduceLE, Int.reduceNeg, Int.reduceLT, Int.reduceBEq, Int.reduceBNe, Int.reduceEq, ownA, nilA, Try.facts, kill_box hb1, h1, h2, hNi, dT, dF, qT, qF, nT, nF, Bool.false_and, Bool.and_false, putCells_eq, set_other, nk, hw, hw2]
        exact ⟨_, rfl, _, Abs.Sub.refl _, rfl, rfl⟩
    · obtain rfl : B = false := by rw [hB]; simp [hq]
      simp (disch := omega) only [↓runPre, runPost, fieldO, ixA, cutA, lenA, aggA, rowA, appA, mkA, indA, bnd, srcA, sameOp, funcA, cvO, partA, aggD, ↓PostP, resV, resAll, resOne, resVF, resAllF, resOneF, fitsAll, fitsR, fits, frz, Post, Nat.reduceBEq, Nat.reduceLT, reduceCtorEq, ↓reduceIte, initS, AV.cellsOf, AV.fine, AV.one, repA, Nat.reduceMul, Nat.reduceAdd, Nat.reduceLeDiff, Nat.reduceEqDiff, Int.reduceToNat, Nat.reduceSub, Nat.reduceMod, Nat.reduceDiv, indexK.aggOf, Int.reducePow, Int.reduceLE, Int.reduceNeg, Int.reduceLT, Int.reduceBEq, Int.reduceBNe, Int.reduceEq, ownA, nilA, Try.facts, kill_box hb1, h1, h2, hNi, dT, dF, qT, qF, nT, nF, Bool.false_and, Bool.and_false, putCells_eq, set_other, nk, hw, hw2]
      exact ⟨_, rfl, _, Abs.Sub.refl _, rfl, rfl⟩
end Go.Proofs.Ytpmmafmbjconiaa
