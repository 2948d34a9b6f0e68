/-
  The walks of the fugue layer: the document's lists: what is there, what hangs below.
  Conditions: none. Lemmas only.
-/
import Derived.Test.YtpmmafmbjconiaaFugB
set_option linter.all false
set_option linter.unusedSimpArgs false
set_option linter.unusedVariables false
set_option maxRecDepth 8000
set_option maxHeartbeats 4000000
namespace Go.Proofs.Ytpmmafmbjconiaa
open Go Go.Abs Go.Proofs Go.Fug

def inssC (l : List Ins) : List AV := l.flatMap insC
abbrev inssV (l : List Ins) : AV := .imm 0 (inssC l) l.length
theorem inssC_length (l : List Ins) : (inssC l).length = l.length * 6 := by
  induction l with
  | nil => rfl
  | cons t r ih => simp only [inssC, List.flatMap_cons, List.length_append, List.length_cons] at *; rw [ih]; simp [insC]; omega
theorem inssC_drop {l : List Ins} {i : Nat} (h : i < l.length) : (inssC l).drop (i * 6) = insC l[i] ++ inssC (l.drop (i + 1)) := by
  induction l generalizing i with
  | nil => simp at h
  | cons t r ih =>
    cases i with
    | zero => simp [inssC]
    | succ i =>
      have e : (i + 1) * 6 = 6 + i * 6 := by omega
      have e1 : inssC (t :: r) = insC t ++ inssC r := rfl
      rw [e, ← List.drop_drop, e1, List.drop_left' (by simp [insC]), ih (by simpa using h)]
      rfl
theorem inssC_load {l : List Ins} {i : Nat} (h : i < l.length) : ((inssC l).drop (i * 6)).take 6 = insC l[i] := by
  rw [inssC_drop h, List.take_left' (by simp [insC])]
theorem inssC_get {l : List Ins} {i j : Nat} (h : i < l.length) (hj : j < 6) : (inssC l)[i * 6 + j]? = (insC l[i])[j]? := by
  rw [← List.getElem?_drop, inssC_drop h, List.getElem?_append_left (by simpa [insC] using hj)]
theorem inssC_two {l : List Ins} {i j : Nat} (h : i < l.length) (hj : j + 2 ≤ 6) : ((inssC l).drop (i * 6 + j)).take 2 = ((insC l[i]).drop j).take 2 := by
  rw [← List.drop_drop, inssC_drop h, List.drop_append_of_le_length (by simp [insC]; omega), List.take_append_of_le_length (by simp [insC]; omega)]
theorem inssC_append (l r : List Ins) : inssC l ++ inssC r = inssC (l ++ r) := by simp [inssC]
theorem inssC_snoc (l : List Ins) (i : Ins) : inssC l ++ insC i = inssC (l ++ [i]) := by simp [inssC]

/-- the document's text -/
abbrev treeC (L : List Ins) (G : List EId) : List AV := [.imm 0 (inssC L) L.length, .imm 0 (idsC G) G.length]
abbrev treeV (L : List Ins) (G : List EId) : AV := .agg (treeC L G)

theorem dropped_pure (L : List Ins) (G : List EId) (x : EId) (hG : G.length ≤ 1000000) : APure Try.prog 43 [treeV L G, idV x] (.sc (.bool (decide (x ∈ G)))) := by
  have hil := idsC_length G
  have hB : ∀ b : Bool, (b = true ↔ x ∈ G) → decide (x ∈ G) = b := fun b h => by
    cases b with
    | true => simpa using h
    | false => simpa using h
  generalize decide (x ∈ G) = B at *
  obtain ⟨a, c⟩ := x
  refine apure_of_cwp (c := ⟨Try.prog, 20, [(4, [0, 1, 0, 0, 1, 1, 0]), (1000000, [3, 2])], [], []⟩) (rs := [ResultVar.tmp 4]) Try.mixed Try.func43 rfl rfl rfl (Nat.le_of_ble_eq_true rfl) (by kernel_rfl) fun H => ?_
  simp (disch := omega) only [↓runPre, runPost, fieldO, ixA, cutA, lenA, aggA, rowA, appA, mkA, indA, bnd, srcA, sameOp, funcA, cvO, partA, aggD, ↓PostP, resV, resAll, resOne, resVF, resAllF, resOneF, fitsAll, fitsR, fits, frz, Post, Nat.reduceBEq, Nat.reduceLT, reduceCtorEq, ↓reduceIte, initS, AV.cellsOf, AV.fine, AV.one, repA, Nat.reduceMul, Nat.reduceAdd, Nat.reduceLeDiff, Nat.reduceEqDiff, Int.reduceToNat, Nat.reduceSub, Nat.reduceMod, Nat.reduceDiv, indexK.aggOf, Int.reducePow, Int.reduceLE, Int.reduceNeg, Int.reduceLT, Int.reduceBEq, Int.reduceBNe, Int.reduceEq, ownA, nilA, Try.facts]
  intro k1 hk10 hk1 k2 hk20 hk2
  simp (disch := omega) only [↓runPre, runPost, fieldO, ixA, cutA, lenA, aggA, rowA, appA, mkA, indA, bnd, srcA, sameOp, funcA, cvO, partA, aggD, ↓PostP, resV, resAll, resOne, resVF, resAllF, resOneF, fitsAll, fitsR, fits, frz, Post, Nat.reduceBEq, Nat.reduceLT, reduceCtorEq, ↓reduceIte, initS, AV.cellsOf, AV.fine, AV.one, repA, Nat.reduceMul, Nat.reduceAdd, Nat.reduceLeDiff, Nat.reduceEqDiff, Int.reduceToNat, Nat.reduceSub, Nat.reduceMod, Nat.reduceDiv, indexK.aggOf, Int.reducePow, Int.reduceLE, Int.reduceNeg, Int.reduceLT, Int.reduceBEq, Int.reduceBNe, Int.reduceEq, ownA, nilA, Try.facts, kill_box hk2, kill_box hk1]
  refine loop_t (c := ⟨Try.prog, 20, [(4, [0, 1, 0, 0, 1, 1, 0]), (1000000, [3, 2])], [], []⟩) Try.mixed (by kernel_rfl) (fun mm σ H' => H' = H ∧ ∃ i, i + mm = G.length ∧ (∀ j (hj : j < G.length), j < i → G[j] ≠ (a, c)) ∧ σ 2 = .ip (treeC L G) 0 ∧ σ 3 = .ip [.sc (.int .i64 a), .sc (.int .i64 c)] 0 ∧ σ 5 = .sc (.int .i64 (i : Nat))) G.length ?_ ?_
  · refine ⟨rfl, 0, by omega, by omega, ?_⟩
    simp (disch := omega) only [↓runPre, runPost, fieldO, ixA, cutA, lenA, aggA, rowA, appA, mkA, indA, bnd, srcA, sameOp, funcA, cvO, partA, aggD, ↓PostP, resV, resAll, resOne, resVF, resAllF, resOneF, fitsAll, fitsR, fits, frz, Post, Nat.reduceBEq, Nat.reduceLT, reduceCtorEq, ↓reduceIte, initS, AV.cellsOf, AV.fine, AV.one, repA, Nat.reduceMul, Nat.reduceAdd, Nat.reduceLeDiff, Nat.reduceEqDiff, Int.reduceToNat, Nat.reduceSub, Nat.reduceMod, Nat.reduceDiv, indexK.aggOf, Int.reducePow, Int.reduceLE, Int.reduceNeg, Int.reduceLT, Int.reduceBEq, Int.reduceBNe, Int.reduceEq, ownA, nilA, Try.facts]
    try rfl
  · rintro mm σ H' ⟨rfl, i, him, hno, h2, h3, h5⟩
    by_cases hlt : i < G.length
    · have hld := idsC_load hlt
      have hle' : i * 2 + 2 ≤ G.length * 2 := by omega
      have hnx : G[i] ≠ (a, c) → ∀ j (hj : j < G.length), j < i + 1 → G[j] ≠ (a, c) := fun h j hj hji => by
        by_cases e : j = i
        · subst e; exact h
        · exact hno j hj (by omega)
      have hyes : G[i] = (a, c) → (a, c) ∈ G := fun h => by rw [← h]; exact List.getElem_mem hlt
      generalize G[i] = y at *
      obtain ⟨y1, y2⟩ := y
      by_cases e1 : y1 = a
      · by_cases e2 : y2 = c
        · subst e1 e2
          obtain rfl := hB true (by simp [hyes rfl])
          simp (disch := omega) only [↓runPre, runPost, fieldO, ixA, cutA, lenA, aggA, rowA, appA, mkA, indA, bnd, srcA, sameOp, funcA, cvO, partA, aggD, ↓PostP, resV, resAll, resOne, resVF, resAllF, resOneF, fitsAll, fitsR, fits, frz, Post, Nat.reduceBEq, Nat.reduceLT, reduceCtorEq, ↓reduceIte, initS, AV.cellsOf, AV.fine, AV.one, repA, Nat.reduceMul, Nat.reduceAdd, Nat.reduceLeDiff, Nat.reduceEqDiff, Int.reduceToNat, Nat.reduceSub, Nat.reduceMod, Nat.reduceDiv, indexK.aggOf, Int.reducePow, Int.reduceLE, Int.reduceNeg, Int.reduceLT, Int.reduceBEq, Int.reduceBNe, Int.reduceEq, ownA, nilA, Try.facts, h2, h3, h5, dT, dF, qT, qF, nT, nF, Bool.false_and, Bool.and_false, hld, hil, hle']
          exact Abs.Sub.refl _
        · simp (disch := omega) only [↓runPre, runPost, fieldO, ixA, cutA, lenA, aggA, rowA, appA, mkA, indA, bnd, srcA, sameOp, funcA, cvO, partA, aggD, ↓PostP, resV, resAll, resOne, resVF, resAllF, resOneF, fitsAll, fitsR, fits, frz, Post, Nat.reduceBEq, Nat.reduceLT, reduceCtorEq, ↓reduceIte, initS, AV.cellsOf, AV.fine, AV.one, repA, Nat.reduceMul, Nat.reduceAdd, Nat.reduceLeDiff, Nat.reduceEqDiff, Int.reduceToNat, Nat.reduceSub, Nat.reduceMod, Nat.reduceDiv, indexK.aggOf, Int.reducePow, Int.reduceLE, Int.reduceNeg, Int.reduceLT, Int.reduceBEq, Int.reduceBNe, Int.reduceEq, ownA, nilA, Try.facts, h2, h3, h5, dT, dF, qT, qF, nT, nF, Bool.false_and, Bool.and_false, hld, hil, hle']
          exact ⟨mm - 1, by omega, i + 1, by omega, hnx (by simp [e2]), rfl⟩
      · simp (disch := omega) only [↓runPre, runPost, fieldO, ixA, cutA, lenA, aggA, rowA, appA, mkA, indA, bnd, srcA, sameOp, funcA, cvO, partA, aggD, ↓PostP, resV, resAll, resOne, resVF, resAllF, resOneF, fitsAll, fitsR, fits, frz, Post, Nat.reduceBEq, Nat.reduceLT, reduceCtorEq, ↓reduceIte, initS, AV.cellsOf, AV.fine, AV.one, repA, Nat.reduceMul, Nat.reduceAdd, Nat.reduceLeDiff, Nat.reduceEqDiff, Int.reduceToNat, Nat.reduceSub, Nat.reduceMod, Nat.reduceDiv, indexK.aggOf, Int.reducePow, Int.reduceLE, Int.reduceNeg, Int.reduceLT, Int.reduceBEq, Int.reduceBNe, Int.reduceEq, ownA, nilA, Try.facts, h2, h3, h5, dT, dF, qT, qF, nT, nF, Bool.false_and, Bool.and_false, hld, hil, hle']
        exact ⟨mm - 1, by omega, i + 1, by omega, hnx (by simp [e1]), rfl⟩
    · obtain rfl := hB false (by
        simp only [Bool.false_eq_true, false_iff]
        intro hm
        obtain ⟨j, hj, e⟩ := List.mem_iff_getElem.1 hm
        exact hno j hj (by omega) e)
      simp (disch := omega) only [↓runPre, runPost, fieldO, ixA, cutA, lenA, aggA, rowA, appA, mkA, indA, bnd, srcA, sameOp, funcA, cvO, partA, aggD, ↓PostP, resV, resAll, resOne, resVF, resAllF, resOneF, fitsAll, fitsR, fits, frz, Post, Nat.reduceBEq, Nat.reduceLT, reduceCtorEq, ↓reduceIte, initS, AV.cellsOf, AV.fine, AV.one, repA, Nat.reduceMul, Nat.reduceAdd, Nat.reduceLeDiff, Nat.reduceEqDiff, Int.reduceToNat, Nat.reduceSub, Nat.reduceMod, Nat.reduceDiv, indexK.aggOf, Int.reducePow, Int.reduceLE, Int.reduceNeg, Int.reduceLT, Int.reduceBEq, Int.reduceBNe, Int.reduceEq, ownA, nilA, Try.facts, h2, h3, h5, dT, dF, qT, qF, nT, nF, Bool.false_and, Bool.and_false, hil]
      exact Abs.Sub.refl _

theorem rhas_pure (L : List Ins) (G : List EId) (x : EId) (hL : L.length ≤ 1000000) : APure Try.prog 30 [treeV L G, idV x] (.sc (.bool (decide (x ∈ L.map (·.id))))) := by
  have hil := inssC_length L
  have hB : ∀ b : Bool, (b = true ↔ x ∈ L.map (·.id)) → decide (x ∈ L.map (·.id)) = b := fun b h => by
    cases b with
    | true => simpa using h
    | false => simpa using h
  generalize decide (x ∈ L.map (·.id)) = B at *
  obtain ⟨a, c⟩ := x
  refine apure_of_cwp (c := ⟨Try.prog, 21, [(4, [0, 1, 0, 0, 0, 1, 1, 0]), (1000000, [3, 2])], [], []⟩) (rs := [ResultVar.tmp 4]) Try.mixed Try.func30 rfl rfl rfl (Nat.le_of_ble_eq_true rfl) (by kernel_rfl) fun H => ?_
  simp (disch := omega) only [↓runPre, runPost, fieldO, ixA, cutA, lenA, aggA, rowA, appA, mkA, indA, bnd, srcA, sameOp, funcA, cvO, partA, aggD, ↓PostP, resV, resAll, resOne, resVF, resAllF, resOneF, fitsAll, fitsR, fits, frz, Post, Nat.reduceBEq, Nat.reduceLT, reduceCtorEq, ↓reduceIte, initS, AV.cellsOf, AV.fine, AV.one, repA, Nat.reduceMul, Nat.reduceAdd, Nat.reduceLeDiff, Nat.reduceEqDiff, Int.reduceToNat, Nat.reduceSub, Nat.reduceMod, Nat.reduceDiv, indexK.aggOf, Int.reducePow, Int.reduceLE, Int.reduceNeg, Int.reduceLT, Int.reduceBEq, Int.reduceBNe, Int.reduceEq, ownA, nilA, Try.facts]
  intro k1 hk10 hk1 k2 hk20 hk2
  simp (disch := omega) only [↓runPre, runPost, fieldO, ixA, cutA, lenA, aggA, rowA, appA, mkA, indA, bnd, srcA, sameOp, funcA, cvO, partA, aggD, ↓PostP, resV, resAll, resOne, resVF, resAllF, resOneF, fitsAll, fitsR, fits, frz, Post, Nat.reduceBEq, Nat.reduceLT, reduceCtorEq, ↓reduceIte, initS, AV.cellsOf, AV.fine, AV.one, repA, Nat.reduceMul, Nat.reduceAdd, Nat.reduceLeDiff, Nat.reduceEqDiff, Int.reduceToNat, Nat.reduceSub, Nat.reduceMod, Nat.reduceDiv, indexK.aggOf, Int.reducePow, Int.reduceLE, Int.reduceNeg, Int.reduceLT, Int.reduceBEq, Int.reduceBNe, Int.reduceEq, ownA, nilA, Try.facts, kill_box hk2, kill_box hk1]
  refine loop_t (c := ⟨Try.prog, 21, [(4, [0, 1, 0, 0, 0, 1, 1, 0]), (1000000, [3, 2])], [], []⟩) Try.mixed (by kernel_rfl) (fun mm σ H' => H' = H ∧ ∃ i, i + mm = L.length ∧ (∀ j (hj : j < L.length), j < i → L[j].id ≠ (a, c)) ∧ σ 2 = .ip (treeC L G) 0 ∧ σ 3 = .ip [.sc (.int .i64 a), .sc (.int .i64 c)] 0 ∧ σ 5 = .sc (.int .i64 (i : Nat))) L.length ?_ ?_
  · refine ⟨rfl, 0, by omega, by omega, ?_⟩
    simp (disch := omega) only [↓runPre, runPost, fieldO, ixA, cutA, lenA, aggA, rowA, appA, mkA, indA, bnd, srcA, sameOp, funcA, cvO, partA, aggD, ↓PostP, resV, resAll, resOne, resVF, resAllF, resOneF, fitsAll, fitsR, fits, frz, Post, Nat.reduceBEq, Nat.reduceLT, reduceCtorEq, ↓reduceIte, initS, AV.cellsOf, AV.fine, AV.one, repA, Nat.reduceMul, Nat.reduceAdd, Nat.reduceLeDiff, Nat.reduceEqDiff, Int.reduceToNat, Nat.reduceSub, Nat.reduceMod, Nat.reduceDiv, indexK.aggOf, Int.reducePow, Int.reduceLE, Int.reduceNeg, Int.reduceLT, Int.reduceBEq, Int.reduceBNe, Int.reduceEq, ownA, nilA, Try.facts]
    try rfl
  · rintro mm σ H' ⟨rfl, i, him, hno, h2, h3, h5⟩
    by_cases hlt : i < L.length
    · have hld := inssC_two hlt (show 0 + 2 ≤ 6 by omega)
      have hle' : i * 6 + 6 ≤ L.length * 6 := by omega
      have hle2 : i * 6 + 2 ≤ L.length * 6 := by omega
      have hnx : L[i].id ≠ (a, c) → ∀ j (hj : j < L.length), j < i + 1 → L[j].id ≠ (a, c) := fun h j hj hji => by
        by_cases e : j = i
        · subst e; exact h
        · exact hno j hj (by omega)
      have hyes : L[i].id = (a, c) → (a, c) ∈ L.map (·.id) := fun h => by rw [← h]; exact List.mem_map.2 ⟨_, List.getElem_mem hlt, rfl⟩
      generalize L[i] = y at *
      obtain ⟨⟨y1, y2⟩, yp, yr, yu⟩ := y
      simp only [insC, Nat.add_zero, List.drop_zero, List.take_succ_cons, List.take_zero] at hld hyes hnx
      by_cases e1 : y1 = a
      · by_cases e2 : y2 = c
        · subst e1 e2
          obtain rfl := hB true (by simp only [true_iff]; exact hyes rfl)
          simp (disch := omega) only [↓runPre, runPost, fieldO, ixA, cutA, lenA, aggA, rowA, appA, mkA, indA, bnd, srcA, sameOp, funcA, cvO, partA, aggD, ↓PostP, resV, resAll, resOne, resVF, resAllF, resOneF, fitsAll, fitsR, fits, frz, Post, Nat.reduceBEq, Nat.reduceLT, reduceCtorEq, ↓reduceIte, initS, AV.cellsOf, AV.fine, AV.one, repA, Nat.reduceMul, Nat.reduceAdd, Nat.reduceLeDiff, Nat.reduceEqDiff, Int.reduceToNat, Nat.reduceSub, Nat.reduceMod, Nat.reduceDiv, indexK.aggOf, Int.reducePow, Int.reduceLE, Int.reduceNeg, Int.reduceLT, Int.reduceBEq, Int.reduceBNe, Int.reduceEq, ownA, nilA, Try.facts, h2, h3, h5, dT, dF, qT, qF, nT, nF, Bool.false_and, Bool.and_false, hld, hil, hle', hle2]
          exact Abs.Sub.refl _
        · simp (disch := omega) only [↓runPre, runPost, fieldO, ixA, cutA, lenA, aggA, rowA, appA, mkA, indA, bnd, srcA, sameOp, funcA, cvO, partA, aggD, ↓PostP, resV, resAll, resOne, resVF, resAllF, resOneF, fitsAll, fitsR, fits, frz, Post, Nat.reduceBEq, Nat.reduceLT, reduceCtorEq, ↓reduceIte, initS, AV.cellsOf, AV.fine, AV.one, repA, Nat.reduceMul, Nat.reduceAdd, Nat.reduceLeDiff, Nat.reduceEqDiff, Int.reduceToNat, Nat.reduceSub, Nat.reduceMod, Nat.reduceDiv, indexK.aggOf, Int.reducePow, Int.reduceLE, Int.reduceNeg, Int.reduceLT, Int.reduceBEq, Int.reduceBNe, Int.reduceEq, ownA, nilA, Try.facts, h2, h3, h5, dT, dF, qT, qF, nT, nF, Bool.false_and, Bool.and_false, hld, hil, hle', hle2]
          exact ⟨mm - 1, by omega, i + 1, by omega, hnx (by simp [e2]), rfl⟩
      · simp (disch := omega) only [↓runPre, runPost, fieldO, ixA, cutA, lenA, aggA, rowA, appA, mkA, indA, bnd, srcA, sameOp, funcA, cvO, partA, aggD, ↓PostP, resV, resAll, resOne, resVF, resAllF, resOneF, fitsAll, fitsR, fits, frz, Post, Nat.reduceBEq, Nat.reduceLT, reduceCtorEq, ↓reduceIte, initS, AV.cellsOf, AV.fine, AV.one, repA, Nat.reduceMul, Nat.reduceAdd, Nat.reduceLeDiff, Nat.reduceEqDiff, Int.reduceToNat, Nat.reduceSub, Nat.reduceMod, Nat.reduceDiv, indexK.aggOf, Int.reducePow, Int.reduceLE, Int.reduceNeg, Int.reduceLT, Int.reduceBEq, Int.reduceBNe, Int.reduceEq, ownA, nilA, Try.facts, h2, h3, h5, dT, dF, qT, qF, nT, nF, Bool.false_and, Bool.and_false, hld, hil, hle', hle2]
        exact ⟨mm - 1, by omega, i + 1, by omega, hnx (by simp [e1]), rfl⟩
    · obtain rfl := hB false (by
        simp only [Bool.false_eq_true, false_iff]
        intro hm
        obtain ⟨x, hx, e⟩ := List.mem_map.1 hm
        obtain ⟨j, hj, rfl⟩ := List.mem_iff_getElem.1 hx
        exact hno j hj (by omega) e)
      simp (disch := omega) only [↓runPre, runPost, fieldO, ixA, cutA, lenA, aggA, rowA, appA, mkA, indA, bnd, srcA, sameOp, funcA, cvO, partA, aggD, ↓PostP, resV, resAll, resOne, resVF, resAllF, resOneF, fitsAll, fitsR, fits, frz, Post, Nat.reduceBEq, Nat.reduceLT, reduceCtorEq, ↓reduceIte, initS, AV.cellsOf, AV.fine, AV.one, repA, Nat.reduceMul, Nat.reduceAdd, Nat.reduceLeDiff, Nat.reduceEqDiff, Int.reduceToNat, Nat.reduceSub, Nat.reduceMod, Nat.reduceDiv, indexK.aggOf, Int.reducePow, Int.reduceLE, Int.reduceNeg, Int.reduceLT, Int.reduceBEq, Int.reduceBNe, Int.reduceEq, ownA, nilA, Try.facts, h2, h3, h5, dT, dF, qT, qF, nT, nF, Bool.false_and, Bool.and_false, hil]
      exact Abs.Sub.refl _
end Go.Proofs.Ytpmmafmbjconiaa
