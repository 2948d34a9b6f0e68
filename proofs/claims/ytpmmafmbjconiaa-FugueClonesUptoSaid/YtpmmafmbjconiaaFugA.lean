/-
  The walks of the fugue layer: IDs, elements, sorted IDs.
  Conditions: none. Lemmas only.
-/
import Derived.Test.YtpmmafmbjconiaaFugFacts
import Derived.Test.YtpmmafmbjconiaaFugP
import Derived.Test.YtpmmafmbjconiaaAbsY
set_option linter.all false
set_option linter.unusedSimpArgs false
set_option linter.unusedVariables false
set_option maxRecDepth 8000
set_option maxHeartbeats 4000000
namespace Go.Proofs.Ytpmmafmbjconiaa
open Go Go.Abs Go.Proofs Go.Fug

def idC (x : EId) : List AV := [.sc (.int .i64 x.1), .sc (.int .i64 x.2)]
abbrev idV (x : EId) : AV := .agg [.sc (.int .i64 x.1), .sc (.int .i64 x.2)]
def idsC (l : List EId) : List AV := l.flatMap idC
abbrev idsV (l : List EId) : AV := .imm 0 (idsC l) l.length
theorem idsC_length (l : List EId) : (idsC l).length = l.length * 2 := by
  induction l with
  | nil => rfl
  | cons t r ih => simp only [idsC, List.flatMap_cons, List.length_append, List.length_cons] at *; rw [ih]; simp [idC]; omega
theorem idsC_drop {l : List EId} {i : Nat} (h : i < l.length) : (idsC l).drop (i * 2) = idC l[i] ++ idsC (l.drop (i + 1)) := by
  induction l generalizing i with
  | nil => simp at h
  | cons t r ih =>
    cases i with
    | zero => simp [idsC]
    | succ i =>
      have e : (i + 1) * 2 = (i * 2) + 1 + 1 := by omega
      have e1 : idsC (t :: r) = .sc (.int .i64 t.1) :: .sc (.int .i64 t.2) :: idsC r := rfl
      rw [e, e1, List.drop_succ_cons, List.drop_succ_cons, ih (by simpa using h)]
      rfl
theorem idsC_load {l : List EId} {i : Nat} (h : i < l.length) : ((idsC l).drop (i * 2)).take 2 = [.sc (.int .i64 l[i].1), .sc (.int .i64 l[i].2)] := by
  rw [idsC_drop h]; rfl
theorem idsC_append (l r : List EId) : idsC l ++ idsC r = idsC (l ++ r) := by simp [idsC]
theorem idsC_snoc (l : List EId) (x : EId) : idsC l ++ [.sc (.int .i64 x.1), .sc (.int .i64 x.2)] = idsC (l ++ [x]) := by simp [idsC, idC]
theorem idsC_take (l : List EId) (i : Nat) : (idsC l).take (i * 2) = idsC (l.take i) := by
  induction l generalizing i with
  | nil => simp [idsC]
  | cons t r ih =>
    cases i with
    | zero => simp [idsC]
    | succ i =>
      have e : (i + 1) * 2 = (i * 2) + 1 + 1 := by omega
      have e1 : idsC (t :: r) = .sc (.int .i64 t.1) :: .sc (.int .i64 t.2) :: idsC r := rfl
      rw [e, e1, List.take_succ_cons, List.take_succ_cons, ih, List.take_succ_cons]
      rfl
theorem idsC_dropN (l : List EId) (i : Nat) : (idsC l).drop (i * 2) = idsC (l.drop i) := by
  induction l generalizing i with
  | nil => simp [idsC]
  | cons t r ih =>
    cases i with
    | zero => simp [idsC]
    | succ i =>
      have e : (i + 1) * 2 = (i * 2) + 1 + 1 := by omega
      have e1 : idsC (t :: r) = .sc (.int .i64 t.1) :: .sc (.int .i64 t.2) :: idsC r := rfl
      rw [e, e1, List.drop_succ_cons, List.drop_succ_cons, ih, List.drop_succ_cons]

def insC (i : Ins) : List AV := [.sc (.int .i64 i.id.1), .sc (.int .i64 i.id.2), .sc (.int .i64 i.par.1), .sc (.int .i64 i.par.2), .sc (.bool i.right), .sc (.int .i32 i.rune)]

theorem less_pure (x y : EId) : APure Try.prog 46 [idV x, idV y] (.sc (.bool (less x y))) := by
  obtain ⟨a, b⟩ := x
  obtain ⟨c, e⟩ := y
  have hB : less (a, b) (c, e) = (decide (a < c) || (decide (a = c) && decide (b < e))) := rfl
  generalize less (a, b) (c, e) = B at *
  refine apure_of_cwp (c := ⟨Try.prog, 24, [(1000000, [3, 2])], [], []⟩) (rs := [ResultVar.tmp 4]) Try.mixed Try.func46 rfl rfl rfl (Nat.le_of_ble_eq_true rfl) (by kernel_rfl) fun H => ?_
  simp (disch := omega) only [↓runPre, runPost, fieldO, ixA, cutA, lenA, aggA, rowA, appA, mkA, indA, bnd, srcA, sameOp, funcA, cvO, partA, aggD, ↓PostP, resV, resAll, resOne, resVF, resAllF, resOneF, fitsAll, fitsR, fits, frz, Post, Nat.reduceBEq, Nat.reduceLT, reduceCtorEq, ↓reduceIte, initS, AV.cellsOf, AV.fine, AV.one, repA, Nat.reduceMul, Nat.reduceAdd, Nat.reduceLeDiff, Nat.reduceEqDiff, Int.reduceToNat, Nat.reduceSub, Nat.reduceMod, Nat.reduceDiv, indexK.aggOf, Int.reducePow, Int.reduceLE, Int.reduceNeg, Int.reduceLT, Int.reduceBEq, Int.reduceBNe, Int.reduceEq, ownA, nilA, Try.facts]
  intro k0 hk00 hk0 k1 hk10 hk1
  try simp (disch := omega) only [↓runPre, runPost, fieldO, ixA, cutA, lenA, aggA, rowA, appA, mkA, indA, bnd, srcA, sameOp, funcA, cvO, partA, aggD, ↓PostP, resV, resAll, resOne, resVF, resAllF, resOneF, fitsAll, fitsR, fits, frz, Post, Nat.reduceBEq, Nat.reduceLT, reduceCtorEq, ↓reduceIte, initS, AV.cellsOf, AV.fine, AV.one, repA, Nat.reduceMul, Nat.reduceAdd, Nat.reduceLeDiff, Nat.reduceEqDiff, Int.reduceToNat, Nat.reduceSub, Nat.reduceMod, Nat.reduceDiv, indexK.aggOf, Int.reducePow, Int.reduceLE, Int.reduceNeg, Int.reduceLT, Int.reduceBEq, Int.reduceBNe, Int.reduceEq, ownA, nilA, Try.facts, kill_box hk1, kill_box hk0]
  by_cases h0 : a < c
  · have e0_0 : decide (a < c) = true := by simp; omega
    simp (disch := omega) only [↓runPre, runPost, fieldO, ixA, cutA, lenA, aggA, rowA, appA, mkA, indA, bnd, srcA, sameOp, funcA, cvO, partA, aggD, ↓PostP, resV, resAll, resOne, resVF, resAllF, resOneF, fitsAll, fitsR, fits, frz, Post, Nat.reduceBEq, Nat.reduceLT, reduceCtorEq, ↓reduceIte, initS, AV.cellsOf, AV.fine, AV.one, repA, Nat.reduceMul, Nat.reduceAdd, Nat.reduceLeDiff, Nat.reduceEqDiff, Int.reduceToNat, Nat.reduceSub, Nat.reduceMod, Nat.reduceDiv, indexK.aggOf, Int.reducePow, Int.reduceLE, Int.reduceNeg, Int.reduceLT, Int.reduceBEq, Int.reduceBNe, Int.reduceEq, ownA, nilA, Try.facts, kill_box hk1, kill_box hk0, e0_0]
    refine ⟨?_, Abs.Sub.refl _⟩
    rw [hB]
    first | (simp; done) | (simp; omega)
  · have e0_0 : decide (a < c) = false := by simp; omega
    by_cases h1 : a = c
    · have e1_0 : (a == c) = true := by simp; omega
      by_cases h2 : b < e
      · have e2_0 : decide (b < e) = true := by simp; omega
        simp (disch := omega) only [↓runPre, runPost, fieldO, ixA, cutA, lenA, aggA, rowA, appA, mkA, indA, bnd, srcA, sameOp, funcA, cvO, partA, aggD, ↓PostP, resV, resAll, resOne, resVF, resAllF, resOneF, fitsAll, fitsR, fits, frz, Post, Nat.reduceBEq, Nat.reduceLT, reduceCtorEq, ↓reduceIte, initS, AV.cellsOf, AV.fine, AV.one, repA, Nat.reduceMul, Nat.reduceAdd, Nat.reduceLeDiff, Nat.reduceEqDiff, Int.reduceToNat, Nat.reduceSub, Nat.reduceMod, Nat.reduceDiv, indexK.aggOf, Int.reducePow, Int.reduceLE, Int.reduceNeg, Int.reduceLT, Int.reduceBEq, Int.reduceBNe, Int.reduceEq, ownA, nilA, Try.facts, kill_box hk1, kill_box hk0, e0_0, e1_0, e2_0]
        refine ⟨?_, Abs.Sub.refl _⟩
        rw [hB]
        first | (simp; done) | (simp; omega)
      · have e2_0 : decide (b < e) = false := by simp; omega
        simp (disch := omega) only [↓runPre, runPost, fieldO, ixA, cutA, lenA, aggA, rowA, appA, mkA, indA, bnd, srcA, sameOp, funcA, cvO, partA, aggD, ↓PostP, resV, resAll, resOne, resVF, resAllF, resOneF, fitsAll, fitsR, fits, frz, Post, Nat.reduceBEq, Nat.reduceLT, reduceCtorEq, ↓reduceIte, initS, AV.cellsOf, AV.fine, AV.one, repA, Nat.reduceMul, Nat.reduceAdd, Nat.reduceLeDiff, Nat.reduceEqDiff, Int.reduceToNat, Nat.reduceSub, Nat.reduceMod, Nat.reduceDiv, indexK.aggOf, Int.reducePow, Int.reduceLE, Int.reduceNeg, Int.reduceLT, Int.reduceBEq, Int.reduceBNe, Int.reduceEq, ownA, nilA, Try.facts, kill_box hk1, kill_box hk0, e0_0, e1_0, e2_0]
        refine ⟨?_, Abs.Sub.refl _⟩
        rw [hB]
        first | (simp; done) | (simp; omega)
    · have e1_0 : (a == c) = false := by simp; omega
      simp (disch := omega) only [↓runPre, runPost, fieldO, ixA, cutA, lenA, aggA, rowA, appA, mkA, indA, bnd, srcA, sameOp, funcA, cvO, partA, aggD, ↓PostP, resV, resAll, resOne, resVF, resAllF, resOneF, fitsAll, fitsR, fits, frz, Post, Nat.reduceBEq, Nat.reduceLT, reduceCtorEq, ↓reduceIte, initS, AV.cellsOf, AV.fine, AV.one, repA, Nat.reduceMul, Nat.reduceAdd, Nat.reduceLeDiff, Nat.reduceEqDiff, Int.reduceToNat, Nat.reduceSub, Nat.reduceMod, Nat.reduceDiv, indexK.aggOf, Int.reducePow, Int.reduceLE, Int.reduceNeg, Int.reduceLT, Int.reduceBEq, Int.reduceBNe, Int.reduceEq, ownA, nilA, Try.facts, kill_box hk1, kill_box hk0, e0_0, e1_0]
      refine ⟨?_, Abs.Sub.refl _⟩
      rw [hB]
      first | (simp; done) | (simp; omega)

theorem rless_pure (x y : EId) : APure Try.prog 45 [idV x, idV y] (.sc (.bool (less x y))) := by
  obtain ⟨a, b⟩ := x
  obtain ⟨c, e⟩ := y
  have hB : less (a, b) (c, e) = (decide (a < c) || (decide (a = c) && decide (b < e))) := rfl
  generalize less (a, b) (c, e) = B at *
  refine apure_of_cwp (c := ⟨Try.prog, 20, [(1000000, [3, 2])], [], []⟩) (rs := [ResultVar.tmp 4]) Try.mixed Try.func45 rfl rfl rfl (Nat.le_of_ble_eq_true rfl) (by kernel_rfl) fun H => ?_
  simp (disch := omega) only [↓runPre, runPost, fieldO, ixA, cutA, lenA, aggA, rowA, appA, mkA, indA, bnd, srcA, sameOp, funcA, cvO, partA, aggD, ↓PostP, resV, resAll, resOne, resVF, resAllF, resOneF, fitsAll, fitsR, fits, frz, Post, Nat.reduceBEq, Nat.reduceLT, reduceCtorEq, ↓reduceIte, initS, AV.cellsOf, AV.fine, AV.one, repA, Nat.reduceMul, Nat.reduceAdd, Nat.reduceLeDiff, Nat.reduceEqDiff, Int.reduceToNat, Nat.reduceSub, Nat.reduceMod, Nat.reduceDiv, indexK.aggOf, Int.reducePow, Int.reduceLE, Int.reduceNeg, Int.reduceLT, Int.reduceBEq, Int.reduceBNe, Int.reduceEq, ownA, nilA, Try.facts]
  intro k0 hk00 hk0 k1 hk10 hk1
  try simp (disch := omega) only [↓runPre, runPost, fieldO, ixA, cutA, lenA, aggA, rowA, appA, mkA, indA, bnd, srcA, sameOp, funcA, cvO, partA, aggD, ↓PostP, resV, resAll, resOne, resVF, resAllF, resOneF, fitsAll, fitsR, fits, frz, Post, Nat.reduceBEq, Nat.reduceLT, reduceCtorEq, ↓reduceIte, initS, AV.cellsOf, AV.fine, AV.one, repA, Nat.reduceMul, Nat.reduceAdd, Nat.reduceLeDiff, Nat.reduceEqDiff, Int.reduceToNat, Nat.reduceSub, Nat.reduceMod, Nat.reduceDiv, indexK.aggOf, Int.reducePow, Int.reduceLE, Int.reduceNeg, Int.reduceLT, Int.reduceBEq, Int.reduceBNe, Int.reduceEq, ownA, nilA, Try.facts, kill_box hk1, kill_box hk0]
  by_cases h0 : a = c
  · have n0_0 : (a != c) = false := by simp; omega
    by_cases h1 : b < e
    · have e1_0 : decide (b < e) = true := by simp; omega
      simp (disch := omega) only [↓runPre, runPost, fieldO, ixA, cutA, lenA, aggA, rowA, appA, mkA, indA, bnd, srcA, sameOp, funcA, cvO, partA, aggD, ↓PostP, resV, resAll, resOne, resVF, resAllF, resOneF, fitsAll, fitsR, fits, frz, Post, Nat.reduceBEq, Nat.reduceLT, reduceCtorEq, ↓reduceIte, initS, AV.cellsOf, AV.fine, AV.one, repA, Nat.reduceMul, Nat.reduceAdd, Nat.reduceLeDiff, Nat.reduceEqDiff, Int.reduceToNat, Nat.reduceSub, Nat.reduceMod, Nat.reduceDiv, indexK.aggOf, Int.reducePow, Int.reduceLE, Int.reduceNeg, Int.reduceLT, Int.reduceBEq, Int.reduceBNe, Int.reduceEq, ownA, nilA, Try.facts, kill_box hk1, kill_box hk0, n0_0, e1_0]
      refine ⟨?_, Abs.Sub.refl _⟩
      rw [hB]
      first | (simp; done) | (simp; omega)
    · have e1_0 : decide (b < e) = false := by simp; omega
      simp (disch := omega) only [↓runPre, runPost, fieldO, ixA, cutA, lenA, aggA, rowA, appA, mkA, indA, bnd, srcA, sameOp, funcA, cvO, partA, aggD, ↓PostP, resV, resAll, resOne, resVF, resAllF, resOneF, fitsAll, fitsR, fits, frz, Post, Nat.reduceBEq, Nat.reduceLT, reduceCtorEq, ↓reduceIte, initS, AV.cellsOf, AV.fine, AV.one, repA, Nat.reduceMul, Nat.reduceAdd, Nat.reduceLeDiff, Nat.reduceEqDiff, Int.reduceToNat, Nat.reduceSub, Nat.reduceMod, Nat.reduceDiv, indexK.aggOf, Int.reducePow, Int.reduceLE, Int.reduceNeg, Int.reduceLT, Int.reduceBEq, Int.reduceBNe, Int.reduceEq, ownA, nilA, Try.facts, kill_box hk1, kill_box hk0, n0_0, e1_0]
      refine ⟨?_, Abs.Sub.refl _⟩
      rw [hB]
      first | (simp; done) | (simp; omega)
  · have n0_0 : (a != c) = true := by simp; omega
    by_cases h1 : a < c
    · have e1_0 : decide (a < c) = true := by simp; omega
      simp (disch := omega) only [↓runPre, runPost, fieldO, ixA, cutA, lenA, aggA, rowA, appA, mkA, indA, bnd, srcA, sameOp, funcA, cvO, partA, aggD, ↓PostP, resV, resAll, resOne, resVF, resAllF, resOneF, fitsAll, fitsR, fits, frz, Post, Nat.reduceBEq, Nat.reduceLT, reduceCtorEq, ↓reduceIte, initS, AV.cellsOf, AV.fine, AV.one, repA, Nat.reduceMul, Nat.reduceAdd, Nat.reduceLeDiff, Nat.reduceEqDiff, Int.reduceToNat, Nat.reduceSub, Nat.reduceMod, Nat.reduceDiv, indexK.aggOf, Int.reducePow, Int.reduceLE, Int.reduceNeg, Int.reduceLT, Int.reduceBEq, Int.reduceBNe, Int.reduceEq, ownA, nilA, Try.facts, kill_box hk1, kill_box hk0, n0_0, e1_0]
      refine ⟨?_, Abs.Sub.refl _⟩
      rw [hB]
      first | (simp; done) | (simp; omega)
    · have e1_0 : decide (a < c) = false := by simp; omega
      simp (disch := omega) only [↓runPre, runPost, fieldO, ixA, cutA, lenA, aggA, rowA, appA, mkA, indA, bnd, srcA, sameOp, funcA, cvO, partA, aggD, ↓PostP, resV, resAll, resOne, resVF, resAllF, resOneF, fitsAll, fitsR, fits, frz, Post, Nat.reduceBEq, Nat.reduceLT, reduceCtorEq, ↓reduceIte, initS, AV.cellsOf, AV.fine, AV.one, repA, Nat.reduceMul, Nat.reduceAdd, Nat.reduceLeDiff, Nat.reduceEqDiff, Int.reduceToNat, Nat.reduceSub, Nat.reduceMod, Nat.reduceDiv, indexK.aggOf, Int.reducePow, Int.reduceLE, Int.reduceNeg, Int.reduceLT, Int.reduceBEq, Int.reduceBNe, Int.reduceEq, ownA, nilA, Try.facts, kill_box hk1, kill_box hk0, n0_0, e1_0]
      refine ⟨?_, Abs.Sub.refl _⟩
      rw [hB]
      first | (simp; done) | (simp; omega)

def okR (i : Ins) : Bool := !(decide (i.id.1 < 0) || decide (5 ≤ i.id.1) || decide (i.id.2 < 1) || decide (1099511627776 < i.id.2)) && (decide (0 ≤ i.rune) && decide (i.rune ≤ 1114111) && (decide (i.rune < 55296) || decide (57343 < i.rune)))

theorem right_pure (i : Ins) : APure Try.prog 40 [.agg (insC i)] (.sc (.bool (okR i))) := by
  obtain ⟨⟨a, c⟩, ⟨pa, pc⟩, ri, ru⟩ := i
  simp only [insC]
  have hB : okR ⟨(a, c), (pa, pc), ri, ru⟩ = (!(decide (a < 0) || decide (5 ≤ a) || decide (c < 1) || decide (1099511627776 < c)) && (decide (0 ≤ ru) && decide (ru ≤ 1114111) && (decide (ru < 55296) || decide (57343 < ru)))) := rfl
  generalize okR _ = B at *
  refine apure_of_cwp (c := ⟨Try.prog, 43, [(1000000, [1])], [], []⟩) (rs := [ResultVar.tmp 2]) Try.mixed Try.func40 rfl rfl rfl (Nat.le_of_ble_eq_true rfl) (by kernel_rfl) fun H => ?_
  simp (disch := omega) only [↓runPre, runPost, fieldO, ixA, cutA, lenA, aggA, rowA, appA, mkA, indA, bnd, srcA, sameOp, funcA, cvO, partA, aggD, ↓PostP, resV, resAll, resOne, resVF, resAllF, resOneF, fitsAll, fitsR, fits, frz, Post, Nat.reduceBEq, Nat.reduceLT, reduceCtorEq, ↓reduceIte, initS, AV.cellsOf, AV.fine, AV.one, repA, Nat.reduceMul, Nat.reduceAdd, Nat.reduceLeDiff, Nat.reduceEqDiff, Int.reduceToNat, Nat.reduceSub, Nat.reduceMod, Nat.reduceDiv, indexK.aggOf, Int.reducePow, Int.reduceLE, Int.reduceNeg, Int.reduceLT, Int.reduceBEq, Int.reduceBNe, Int.reduceEq, ownA, nilA, Try.facts]
  intro k0 hk00 hk0
  try simp (disch := omega) only [↓runPre, runPost, fieldO, ixA, cutA, lenA, aggA, rowA, appA, mkA, indA, bnd, srcA, sameOp, funcA, cvO, partA, aggD, ↓PostP, resV, resAll, resOne, resVF, resAllF, resOneF, fitsAll, fitsR, fits, frz, Post, Nat.reduceBEq, Nat.reduceLT, reduceCtorEq, ↓reduceIte, initS, AV.cellsOf, AV.fine, AV.one, repA, Nat.reduceMul, Nat.reduceAdd, Nat.reduceLeDiff, Nat.reduceEqDiff, Int.reduceToNat, Nat.reduceSub, Nat.reduceMod, Nat.reduceDiv, indexK.aggOf, Int.reducePow, Int.reduceLE, Int.reduceNeg, Int.reduceLT, Int.reduceBEq, Int.reduceBNe, Int.reduceEq, ownA, nilA, Try.facts, kill_box hk0]
  by_cases h0 : a < 0
  · have e0_0 : decide (a < 0) = true := by simp; omega
    simp (disch := omega) only [↓runPre, runPost, fieldO, ixA, cutA, lenA, aggA, rowA, appA, mkA, indA, bnd, srcA, sameOp, funcA, cvO, partA, aggD, ↓PostP, resV, resAll, resOne, resVF, resAllF, resOneF, fitsAll, fitsR, fits, frz, Post, Nat.reduceBEq, Nat.reduceLT, reduceCtorEq, ↓reduceIte, initS, AV.cellsOf, AV.fine, AV.one, repA, Nat.reduceMul, Nat.reduceAdd, Nat.reduceLeDiff, Nat.reduceEqDiff, Int.reduceToNat, Nat.reduceSub, Nat.reduceMod, Nat.reduceDiv, indexK.aggOf, Int.reducePow, Int.reduceLE, Int.reduceNeg, Int.reduceLT, Int.reduceBEq, Int.reduceBNe, Int.reduceEq, ownA, nilA, Try.facts, kill_box hk0, e0_0]
    refine ⟨?_, Abs.Sub.refl _⟩
    rw [hB]
    first | (simp; done) | (simp; omega)
  · have e0_0 : decide (a < 0) = false := by simp; omega
    by_cases h1 : 5 ≤ a
    · have e1_0 : decide (5 ≤ a) = true := by simp; omega
      have e1_1 : decide (a ≥ 5) = true := by simp; omega
      simp (disch := omega) only [↓runPre, runPost, fieldO, ixA, cutA, lenA, aggA, rowA, appA, mkA, indA, bnd, srcA, sameOp, funcA, cvO, partA, aggD, ↓PostP, resV, resAll, resOne, resVF, resAllF, resOneF, fitsAll, fitsR, fits, frz, Post, Nat.reduceBEq, Nat.reduceLT, reduceCtorEq, ↓reduceIte, initS, AV.cellsOf, AV.fine, AV.one, repA, Nat.reduceMul, Nat.reduceAdd, Nat.reduceLeDiff, Nat.reduceEqDiff, Int.reduceToNat, Nat.reduceSub, Nat.reduceMod, Nat.reduceDiv, indexK.aggOf, Int.reducePow, Int.reduceLE, Int.reduceNeg, Int.reduceLT, Int.reduceBEq, Int.reduceBNe, Int.reduceEq, ownA, nilA, Try.facts, kill_box hk0, e0_0, e1_0, e1_1]
      refine ⟨?_, Abs.Sub.refl _⟩
      rw [hB]
      first | (simp; done) | (simp; omega)
    · have e1_0 : decide (5 ≤ a) = false := by simp; omega
      have e1_1 : decide (a ≥ 5) = false := by simp; omega
      by_cases h2 : c < 1
      · have e2_0 : decide (c < 1) = true := by simp; omega
        simp (disch := omega) only [↓runPre, runPost, fieldO, ixA, cutA, lenA, aggA, rowA, appA, mkA, indA, bnd, srcA, sameOp, funcA, cvO, partA, aggD, ↓PostP, resV, resAll, resOne, resVF, resAllF, resOneF, fitsAll, fitsR, fits, frz, Post, Nat.reduceBEq, Nat.reduceLT, reduceCtorEq, ↓reduceIte, initS, AV.cellsOf, AV.fine, AV.one, repA, Nat.reduceMul, Nat.reduceAdd, Nat.reduceLeDiff, Nat.reduceEqDiff, Int.reduceToNat, Nat.reduceSub, Nat.reduceMod, Nat.reduceDiv, indexK.aggOf, Int.reducePow, Int.reduceLE, Int.reduceNeg, Int.reduceLT, Int.reduceBEq, Int.reduceBNe, Int.reduceEq, ownA, nilA, Try.facts, kill_box hk0, e0_0, e1_0, e1_1, e2_0]
        refine ⟨?_, Abs.Sub.refl _⟩
        rw [hB]
        first | (simp; done) | (simp; omega)
      · have e2_0 : decide (c < 1) = false := by simp; omega
        by_cases h3 : 1099511627776 < c
        · have e3_0 : decide (1099511627776 < c) = true := by simp; omega
          have e3_1 : decide (c > 1099511627776) = true := by simp; omega
          simp (disch := omega) only [↓runPre, runPost, fieldO, ixA, cutA, lenA, aggA, rowA, appA, mkA, indA, bnd, srcA, sameOp, funcA, cvO, partA, aggD, ↓PostP, resV, resAll, resOne, resVF, resAllF, resOneF, fitsAll, fitsR, fits, frz, Post, Nat.reduceBEq, Nat.reduceLT, reduceCtorEq, ↓reduceIte, initS, AV.cellsOf, AV.fine, AV.one, repA, Nat.reduceMul, Nat.reduceAdd, Nat.reduceLeDiff, Nat.reduceEqDiff, Int.reduceToNat, Nat.reduceSub, Nat.reduceMod, Nat.reduceDiv, indexK.aggOf, Int.reducePow, Int.reduceLE, Int.reduceNeg, Int.reduceLT, Int.reduceBEq, Int.reduceBNe, Int.reduceEq, ownA, nilA, Try.facts, kill_box hk0, e0_0, e1_0, e1_1, e2_0, e3_0, e3_1]
          refine ⟨?_, Abs.Sub.refl _⟩
          rw [hB]
          first | (simp; done) | (simp; omega)
        · have e3_0 : decide (1099511627776 < c) = false := by simp; omega
          have e3_1 : decide (c > 1099511627776) = false := by simp; omega
          by_cases h4 : 0 ≤ ru
          · have e4_0 : decide (0 ≤ ru) = true := by simp; omega
            have e4_1 : decide (ru ≥ 0) = true := by simp; omega
            by_cases h5 : ru ≤ 1114111
            · have e5_0 : decide (ru ≤ 1114111) = true := by simp; omega
              by_cases h6 : ru < 55296
              · have e6_0 : decide (ru < 55296) = true := by simp; omega
                simp (disch := omega) only [↓runPre, runPost, fieldO, ixA, cutA, lenA, aggA, rowA, appA, mkA, indA, bnd, srcA, sameOp, funcA, cvO, partA, aggD, ↓PostP, resV, resAll, resOne, resVF, resAllF, resOneF, fitsAll, fitsR, fits, frz, Post, Nat.reduceBEq, Nat.reduceLT, reduceCtorEq, ↓reduceIte, initS, AV.cellsOf, AV.fine, AV.one, repA, Nat.reduceMul, Nat.reduceAdd, Nat.reduceLeDiff, Nat.reduceEqDiff, Int.reduceToNat, Nat.reduceSub, Nat.reduceMod, Nat.reduceDiv, indexK.aggOf, Int.reducePow, Int.reduceLE, Int.reduceNeg, Int.reduceLT, Int.reduceBEq, Int.reduceBNe, Int.reduceEq, ownA, nilA, Try.facts, kill_box hk0, e0_0, e1_0, e1_1, e2_0, e3_0, e3_1, e4_0, e4_1, e5_0, e6_0]
                refine ⟨?_, Abs.Sub.refl _⟩
                rw [hB]
                first | (simp; done) | (simp; omega)
              · have e6_0 : decide (ru < 55296) = false := by simp; omega
                by_cases h7 : 57343 < ru
                · have e7_0 : decide (57343 < ru) = true := by simp; omega
                  have e7_1 : decide (ru > 57343) = true := by simp; omega
                  simp (disch := omega) only [↓runPre, runPost, fieldO, ixA, cutA, lenA, aggA, rowA, appA, mkA, indA, bnd, srcA, sameOp, funcA, cvO, partA, aggD, ↓PostP, resV, resAll, resOne, resVF, resAllF, resOneF, fitsAll, fitsR, fits, frz, Post, Nat.reduceBEq, Nat.reduceLT, reduceCtorEq, ↓reduceIte, initS, AV.cellsOf, AV.fine, AV.one, repA, Nat.reduceMul, Nat.reduceAdd, Nat.reduceLeDiff, Nat.reduceEqDiff, Int.reduceToNat, Nat.reduceSub, Nat.reduceMod, Nat.reduceDiv, indexK.aggOf, Int.reducePow, Int.reduceLE, Int.reduceNeg, Int.reduceLT, Int.reduceBEq, Int.reduceBNe, Int.reduceEq, ownA, nilA, Try.facts, kill_box hk0, e0_0, e1_0, e1_1, e2_0, e3_0, e3_1, e4_0, e4_1, e5_0, e6_0, e7_0, e7_1]
                  refine ⟨?_, Abs.Sub.refl _⟩
                  rw [hB]
                  first | (simp; done) | (simp; omega)
                · have e7_0 : decide (57343 < ru) = false := by simp; omega
                  have e7_1 : decide (ru > 57343) = false := by simp; omega
                  simp (disch := omega) only [↓runPre, runPost, fieldO, ixA, cutA, lenA, aggA, rowA, appA, mkA, indA, bnd, srcA, sameOp, funcA, cvO, partA, aggD, ↓PostP, resV, resAll, resOne, resVF, resAllF, resOneF, fitsAll, fitsR, fits, frz, Post, Nat.reduceBEq, Nat.reduceLT, reduceCtorEq, ↓reduceIte, initS, AV.cellsOf, AV.fine, AV.one, repA, Nat.reduceMul, Nat.reduceAdd, Nat.reduceLeDiff, Nat.reduceEqDiff, Int.reduceToNat, Nat.reduceSub, Nat.reduceMod, Nat.reduceDiv, indexK.aggOf, Int.reducePow, Int.reduceLE, Int.reduceNeg, Int.reduceLT, Int.reduceBEq, Int.reduceBNe, Int.reduceEq, ownA, nilA, Try.facts, kill_box hk0, e0_0, e1_0, e1_1, e2_0, e3_0, e3_1, e4_0, e4_1, e5_0, e6_0, e7_0, e7_1]
                  refine ⟨?_, Abs.Sub.refl _⟩
                  rw [hB]
                  first | (simp; done) | (simp; omega)
            · have e5_0 : decide (ru ≤ 1114111) = false := by simp; omega
              simp (disch := omega) only [↓runPre, runPost, fieldO, ixA, cutA, lenA, aggA, rowA, appA, mkA, indA, bnd, srcA, sameOp, funcA, cvO, partA, aggD, ↓PostP, resV, resAll, resOne, resVF, resAllF, resOneF, fitsAll, fitsR, fits, frz, Post, Nat.reduceBEq, Nat.reduceLT, reduceCtorEq, ↓reduceIte, initS, AV.cellsOf, AV.fine, AV.one, repA, Nat.reduceMul, Nat.reduceAdd, Nat.reduceLeDiff, Nat.reduceEqDiff, Int.reduceToNat, Nat.reduceSub, Nat.reduceMod, Nat.reduceDiv, indexK.aggOf, Int.reducePow, Int.reduceLE, Int.reduceNeg, Int.reduceLT, Int.reduceBEq, Int.reduceBNe, Int.reduceEq, ownA, nilA, Try.facts, kill_box hk0, e0_0, e1_0, e1_1, e2_0, e3_0, e3_1, e4_0, e4_1, e5_0]
              refine ⟨?_, Abs.Sub.refl _⟩
              rw [hB]
              first | (simp; done) | (simp; omega)
          · have e4_0 : decide (0 ≤ ru) = false := by simp; omega
            have e4_1 : decide (ru ≥ 0) = false := by simp; omega
            simp (disch := omega) only [↓runPre, runPost, fieldO, ixA, cutA, lenA, aggA, rowA, appA, mkA, indA, bnd, srcA, sameOp, funcA, cvO, partA, aggD, ↓PostP, resV, resAll, resOne, resVF, resAllF, resOneF, fitsAll, fitsR, fits, frz, Post, Nat.reduceBEq, Nat.reduceLT, reduceCtorEq, ↓reduceIte, initS, AV.cellsOf, AV.fine, AV.one, repA, Nat.reduceMul, Nat.reduceAdd, Nat.reduceLeDiff, Nat.reduceEqDiff, Int.reduceToNat, Nat.reduceSub, Nat.reduceMod, Nat.reduceDiv, indexK.aggOf, Int.reducePow, Int.reduceLE, Int.reduceNeg, Int.reduceLT, Int.reduceBEq, Int.reduceBNe, Int.reduceEq, ownA, nilA, Try.facts, kill_box hk0, e0_0, e1_0, e1_1, e2_0, e3_0, e3_1, e4_0, e4_1]
            refine ⟨?_, Abs.Sub.refl _⟩
            rw [hB]
            first | (simp; done) | (simp; omega)
end Go.Proofs.Ytpmmafmbjconiaa
