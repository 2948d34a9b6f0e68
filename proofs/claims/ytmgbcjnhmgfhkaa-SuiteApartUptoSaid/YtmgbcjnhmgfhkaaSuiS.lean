/-
  The walks of the suite layer: a question's parts; are they few?
  Conditions: none. Lemmas only.
-/
import Derived.Test.YtmgbcjnhmgfhkaaSuiP
set_option linter.all false
set_option linter.unusedSimpArgs false
set_option linter.unusedVariables false
set_option maxRecDepth 4000
namespace Go.Proofs.Ytmgbcjnhmgfhkaa
open Go Go.Abs Go.Proofs

structure PartT where
  from_ : Int
  raw : List UInt8
structure AskT where
  kind : Int
  n : Int
  a : PartT
  b : PartT
  c : PartT
abbrev partV (p : PartT) : AV := .agg [.sc (.int .i64 p.from_), .imm 0 (encB p.raw) p.raw.length]
def askC (k : AskT) : List AV := [.sc (.int .i64 k.kind), .sc (.int .i64 k.n), .sc (.int .i64 k.a.from_), .imm 0 (encB k.a.raw) k.a.raw.length, .sc (.int .i64 k.b.from_), .imm 0 (encB k.b.raw) k.b.raw.length, .sc (.int .i64 k.c.from_), .imm 0 (encB k.c.raw) k.c.raw.length]
def askCs (l : List AskT) : List AV := l.flatMap askC
theorem askCs_length (l : List AskT) : (askCs l).length = l.length * 8 := by
  induction l with
  | nil => rfl
  | cons k r ih => simp only [askCs, List.flatMap_cons, List.length_append, List.length_cons] at *; rw [ih]; simp [askC]; omega
theorem askCs_drop {l : List AskT} {i : Nat} (h : i < l.length) : (askCs l).drop (i * 8) = askC l[i] ++ askCs (l.drop (i + 1)) := by
  induction l generalizing i with
  | nil => simp at h
  | cons k r ih =>
    cases i with
    | zero => simp [askCs]
    | succ i =>
      have e : (i + 1) * 8 = 8 + i * 8 := by omega
      have e1 : askCs (k :: r) = askC k ++ askCs r := rfl
      rw [e, ← List.drop_drop, e1, List.drop_left' (by simp [askC]), ih (by simpa using h)]
      rfl
theorem askCs_load {l : List AskT} {i : Nat} (h : i < l.length) : ((askCs l).drop (i * 8)).take 8 = askC l[i] := by
  rw [askCs_drop h, List.take_left' (by simp [askC])]
theorem askCs_get {l : List AskT} {i j : Nat} (h : i < l.length) (hj : j < 8) : (askCs l)[i * 8 + j]? = (askC l[i])[j]? := by
  rw [← List.getElem?_drop, askCs_drop h, List.getElem?_append_left (by simpa [askC] using hj)]
/-- what a part is -/
def PartT.of (p : PartT) (l : List (List UInt8)) : List UInt8 := if 1 ≤ p.from_ ∧ p.from_ ≤ l.length then l.getD (p.from_.toNat - 1) [] else p.raw
theorem of_pure (p : PartT) (l : List (List UInt8)) (h : -9223372036854775808 ≤ p.from_ ∧ p.from_ < 9223372036854775808) (hl : l.length ≤ 1000000) : APure Try.prog 31 [partV p, rowsV l] (bytesV (p.of l)) := by
  obtain ⟨f, raw⟩ := p
  simp only [] at h
  refine apure_of_cwp (c := ⟨Try.prog, 23, [(1000000, [2])], [], []⟩) (rs := [ResultVar.tmp 4]) Try.mixed Try.func31 rfl rfl rfl (Nat.le_of_ble_eq_true rfl) (by kernel_rfl) fun H => ?_
  by_cases h1 : 1 ≤ f
  · have b1 : decide (1 ≤ f) = true := by simpa using h1
    by_cases h2 : f ≤ l.length
    · have b2 : decide (f ≤ (l.length : Int)) = true := by simpa using h2
      have hi : f.toNat - 1 < l.length := by omega
      have hof : PartT.of ⟨f, raw⟩ l = l[f.toNat - 1] := by rw [PartT.of, if_pos ⟨h1, h2⟩]; simp [List.getD, hi]
      have g := getR hi
      have hn : (f - 1).toNat = f.toNat - 1 := by omega
      have hw : IntKind.i64.wrap (f - 1) = f - 1 := wrapI (by omega)
      rw [hof]
      simp (disch := omega) only [↓runPre, runPost, fieldO, ixA, cutA, lenA, aggA, rowA, appA, mkA, indA, bnd, srcA, sameOp, funcA, cvO, partA, aggD, ↓PostP, resV, resAll, resOne, resVF, resAllF, resOneF, fitsAll, fitsR, fits, frz, Post, Nat.reduceBEq, Nat.reduceLT, reduceCtorEq, ↓reduceIte, initS, AV.cellsOf, AV.fine, AV.one, repA, Nat.reduceMul, Nat.reduceAdd, Nat.reduceLeDiff, Nat.reduceEqDiff, Int.reduceToNat, Nat.reduceSub, Nat.reduceMod, Nat.reduceDiv, indexK.aggOf, Int.reducePow, Int.reduceLE, Int.reduceNeg, Int.reduceLT, Int.reduceBEq, Int.reduceBNe, Int.reduceEq, ownA, nilA, Try.facts]
      intro k hk0 hk
      simp (disch := omega) only [↓runPre, runPost, fieldO, ixA, cutA, lenA, aggA, rowA, appA, mkA, indA, bnd, srcA, sameOp, funcA, cvO, partA, aggD, ↓PostP, resV, resAll, resOne, resVF, resAllF, resOneF, fitsAll, fitsR, fits, frz, Post, Nat.reduceBEq, Nat.reduceLT, reduceCtorEq, ↓reduceIte, initS, AV.cellsOf, AV.fine, AV.one, repA, Nat.reduceMul, Nat.reduceAdd, Nat.reduceLeDiff, Nat.reduceEqDiff, Int.reduceToNat, Nat.reduceSub, Nat.reduceMod, Nat.reduceDiv, indexK.aggOf, Int.reducePow, Int.reduceLE, Int.reduceNeg, Int.reduceLT, Int.reduceBEq, Int.reduceBNe, Int.reduceEq, ownA, nilA, Try.facts, b1, b2, kill_box hk, hw, hn, g]
      exact Abs.Sub.refl _
    · have b2 : decide (f ≤ (l.length : Int)) = false := by simpa using h2
      have hof : PartT.of ⟨f, raw⟩ l = raw := by rw [PartT.of, if_neg (fun h => h2 h.2)]
      rw [hof]
      simp (disch := omega) only [↓runPre, runPost, fieldO, ixA, cutA, lenA, aggA, rowA, appA, mkA, indA, bnd, srcA, sameOp, funcA, cvO, partA, aggD, ↓PostP, resV, resAll, resOne, resVF, resAllF, resOneF, fitsAll, fitsR, fits, frz, Post, Nat.reduceBEq, Nat.reduceLT, reduceCtorEq, ↓reduceIte, initS, AV.cellsOf, AV.fine, AV.one, repA, Nat.reduceMul, Nat.reduceAdd, Nat.reduceLeDiff, Nat.reduceEqDiff, Int.reduceToNat, Nat.reduceSub, Nat.reduceMod, Nat.reduceDiv, indexK.aggOf, Int.reducePow, Int.reduceLE, Int.reduceNeg, Int.reduceLT, Int.reduceBEq, Int.reduceBNe, Int.reduceEq, ownA, nilA, Try.facts]
      intro k hk0 hk
      simp (disch := omega) only [↓runPre, runPost, fieldO, ixA, cutA, lenA, aggA, rowA, appA, mkA, indA, bnd, srcA, sameOp, funcA, cvO, partA, aggD, ↓PostP, resV, resAll, resOne, resVF, resAllF, resOneF, fitsAll, fitsR, fits, frz, Post, Nat.reduceBEq, Nat.reduceLT, reduceCtorEq, ↓reduceIte, initS, AV.cellsOf, AV.fine, AV.one, repA, Nat.reduceMul, Nat.reduceAdd, Nat.reduceLeDiff, Nat.reduceEqDiff, Int.reduceToNat, Nat.reduceSub, Nat.reduceMod, Nat.reduceDiv, indexK.aggOf, Int.reducePow, Int.reduceLE, Int.reduceNeg, Int.reduceLT, Int.reduceBEq, Int.reduceBNe, Int.reduceEq, ownA, nilA, Try.facts, b1, b2, kill_box hk]
      exact Abs.Sub.refl _
  · have b1 : decide (1 ≤ f) = false := by simpa using h1
    have hof : PartT.of ⟨f, raw⟩ l = raw := by rw [PartT.of, if_neg (fun h => h1 h.1)]
    rw [hof]
    simp (disch := omega) only [↓runPre, runPost, fieldO, ixA, cutA, lenA, aggA, rowA, appA, mkA, indA, bnd, srcA, sameOp, funcA, cvO, partA, aggD, ↓PostP, resV, resAll, resOne, resVF, resAllF, resOneF, fitsAll, fitsR, fits, frz, Post, Nat.reduceBEq, Nat.reduceLT, reduceCtorEq, ↓reduceIte, initS, AV.cellsOf, AV.fine, AV.one, repA, Nat.reduceMul, Nat.reduceAdd, Nat.reduceLeDiff, Nat.reduceEqDiff, Int.reduceToNat, Nat.reduceSub, Nat.reduceMod, Nat.reduceDiv, indexK.aggOf, Int.reducePow, Int.reduceLE, Int.reduceNeg, Int.reduceLT, Int.reduceBEq, Int.reduceBNe, Int.reduceEq, ownA, nilA, Try.facts]
    intro k hk0 hk
    simp (disch := omega) only [↓runPre, runPost, fieldO, ixA, cutA, lenA, aggA, rowA, appA, mkA, indA, bnd, srcA, sameOp, funcA, cvO, partA, aggD, ↓PostP, resV, resAll, resOne, resVF, resAllF, resOneF, fitsAll, fitsR, fits, frz, Post, Nat.reduceBEq, Nat.reduceLT, reduceCtorEq, ↓reduceIte, initS, AV.cellsOf, AV.fine, AV.one, repA, Nat.reduceMul, Nat.reduceAdd, Nat.reduceLeDiff, Nat.reduceEqDiff, Int.reduceToNat, Nat.reduceSub, Nat.reduceMod, Nat.reduceDiv, indexK.aggOf, Int.reducePow, Int.reduceLE, Int.reduceNeg, Int.reduceLT, Int.reduceBEq, Int.reduceBNe, Int.reduceEq, ownA, nilA, Try.facts, b1, kill_box hk]
    exact Abs.Sub.refl _

def costA (k : AskT) : Nat := min k.a.raw.length 4000 + (min k.b.raw.length 4000) + min k.c.raw.length 4000
def fewN : List AskT → Nat → Nat
  | [], n => n
  | k :: r, n => if n ≤ 4000 then fewN r (n + costA k) else n
def fewB (l : List AskT) : Bool := decide (l.length ≤ 40) && decide (fewN l 0 ≤ 4000)
theorem costA_le (k : AskT) : costA k ≤ 12000 := by unfold costA; omega
theorem min4 (a : Nat) : (if (4000 : Int) < (a : Int) then (4000 : Int) else (a : Int)) = ((min a 4000 : Nat) : Int) := by split <;> omega
/-- few questions -/
theorem few_pure (l : List AskT) (hl : l.length ≤ 1048576) : APure Try.prog 16 [.imm 0 (askCs l) l.length] (.sc (.bool (fewB l))) := by
  have hal := askCs_length l
  have hB : fewB l = (decide (l.length ≤ 40) && decide (fewN l 0 ≤ 4000)) := rfl
  generalize fewB l = B at *
  refine apure_of_cwp (c := ⟨Try.prog, 50, [(5, [0, 0, 0, 0, 0, 0, 1, 1, 0, 0, 0, 0, 0, 0, 1, 1, 0, 0, 0, 0, 0, 0, 0, 1, 1, 0, 0, 0, 0])], [], []⟩) (rs := [ResultVar.tmp 2]) Try.mixed Try.func16 rfl rfl rfl (Nat.le_of_ble_eq_true rfl) (by kernel_rfl) fun H => ?_
  simp (disch := omega) only [↓runPre, runPost, fieldO, ixA, cutA, lenA, aggA, rowA, appA, mkA, indA, bnd, srcA, sameOp, funcA, cvO, partA, aggD, ↓PostP, resV, resAll, resOne, resVF, resAllF, resOneF, fitsAll, fitsR, fits, frz, Post, Nat.reduceBEq, Nat.reduceLT, reduceCtorEq, ↓reduceIte, initS, AV.cellsOf, AV.fine, AV.one, repA, Nat.reduceMul, Nat.reduceAdd, Nat.reduceLeDiff, Nat.reduceEqDiff, Int.reduceToNat, Nat.reduceSub, Nat.reduceMod, Nat.reduceDiv, indexK.aggOf, Int.reducePow, Int.reduceLE, Int.reduceNeg, Int.reduceLT, Int.reduceBEq, Int.reduceBNe, Int.reduceEq, ownA, nilA, Try.facts]
  refine loop_t (c := ⟨Try.prog, 50, [(5, [0, 0, 0, 0, 0, 0, 1, 1, 0, 0, 0, 0, 0, 0, 1, 1, 0, 0, 0, 0, 0, 0, 0, 1, 1, 0, 0, 0, 0])], [], []⟩) Try.mixed (by kernel_rfl) (fun mm σ H' => H' = H ∧ ∃ i n, i + mm = l.length ∧ n ≤ 16000 ∧ fewN (l.drop i) n = fewN l 0 ∧ σ 0 = .imm 0 (askCs l) l.length ∧ σ 3 = .sc (.int .i64 (n : Nat)) ∧ σ 4 = .sc (.int .i64 (i : Nat))) l.length ?_ ?_
  · refine ⟨rfl, 0, 0, by omega, by omega, rfl, ?_⟩
    simp (disch := omega) only [↓runPre, runPost, fieldO, ixA, cutA, lenA, aggA, rowA, appA, mkA, indA, bnd, srcA, sameOp, funcA, cvO, partA, aggD, ↓PostP, resV, resAll, resOne, resVF, resAllF, resOneF, fitsAll, fitsR, fits, frz, Post, Nat.reduceBEq, Nat.reduceLT, reduceCtorEq, ↓reduceIte, initS, AV.cellsOf, AV.fine, AV.one, repA, Nat.reduceMul, Nat.reduceAdd, Nat.reduceLeDiff, Nat.reduceEqDiff, Int.reduceToNat, Nat.reduceSub, Nat.reduceMod, Nat.reduceDiv, indexK.aggOf, Int.reducePow, Int.reduceLE, Int.reduceNeg, Int.reduceLT, Int.reduceBEq, Int.reduceBNe, Int.reduceEq, ownA, nilA, Try.facts]
    try exact ⟨rfl, rfl⟩
  · rintro mm σ H' ⟨rfl, i, n, him, hn, hf, h0, h3, h4⟩
    have fin : (¬ i < l.length ∨ ¬ n ≤ 4000) → fewN l 0 = n := fun h => by
      rw [← hf]
      by_cases hi : i < l.length
      · rw [List.drop_eq_getElem_cons hi, fewN, if_neg (h.elim (fun h => absurd hi h) id)]
      · rw [List.drop_eq_nil_of_le (by omega), fewN]
    by_cases hlt : i < l.length
    · have hb1 : decide ((i : Int) < (l.length : Int)) = true := by simp; omega
      by_cases hn4 : n ≤ 4000
      · have hb2 : decide ((n : Int) ≤ 4000) = true := by simp; omega
        have g1 := askCs_get hlt (show 3 < 8 by omega)
        have g2 := askCs_get hlt (show 5 < 8 by omega)
        have g3 := askCs_get hlt (show 7 < 8 by omega)
        have hst : fewN (l.drop (i + 1)) (n + costA l[i]) = fewN l 0 := by
          rw [← hf, List.drop_eq_getElem_cons hlt, fewN, if_pos hn4]
        have hcl := costA_le l[i]
        have hca : costA l[i] = min l[i].a.raw.length 4000 + min l[i].b.raw.length 4000 + min l[i].c.raw.length 4000 := rfl
        simp only [askC, List.getElem?_cons_succ, List.getElem?_cons_zero] at g1 g2 g3
        generalize l[i] = k at *
        have hlt8 : i * 8 < (askCs l).length := by omega
        have hlt8' : i * 8 < l.length * 8 := by omega
        simp (disch := omega) only [↓runPre, runPost, fieldO, ixA, cutA, lenA, aggA, rowA, appA, mkA, indA, bnd, srcA, sameOp, funcA, cvO, partA, aggD, ↓PostP, resV, resAll, resOne, resVF, resAllF, resOneF, fitsAll, fitsR, fits, frz, Post, Nat.reduceBEq, Nat.reduceLT, reduceCtorEq, ↓reduceIte, initS, AV.cellsOf, AV.fine, AV.one, repA, Nat.reduceMul, Nat.reduceAdd, Nat.reduceLeDiff, Nat.reduceEqDiff, Int.reduceToNat, Nat.reduceSub, Nat.reduceMod, Nat.reduceDiv, indexK.aggOf, Int.reducePow, Int.reduceLE, Int.reduceNeg, Int.reduceLT, Int.reduceBEq, Int.reduceBNe, Int.reduceEq, ownA, nilA, Try.facts, h0, h3, h4, hb1, hb2, g1, g2, g3, hlt8, hlt8', hal, Nat.add_assoc, min4]
        exact ⟨mm - 1, by omega, i + 1, n + costA k, by omega, by omega, hst, by rw [hca, Nat.add_assoc (min _ _)], rfl⟩
      · have hb2 : decide ((n : Int) ≤ 4000) = false := by simp; omega
        have hfi := fin (.inr hn4)
        simp (disch := omega) only [↓runPre, runPost, fieldO, ixA, cutA, lenA, aggA, rowA, appA, mkA, indA, bnd, srcA, sameOp, funcA, cvO, partA, aggD, ↓PostP, resV, resAll, resOne, resVF, resAllF, resOneF, fitsAll, fitsR, fits, frz, Post, Nat.reduceBEq, Nat.reduceLT, reduceCtorEq, ↓reduceIte, initS, AV.cellsOf, AV.fine, AV.one, repA, Nat.reduceMul, Nat.reduceAdd, Nat.reduceLeDiff, Nat.reduceEqDiff, Int.reduceToNat, Nat.reduceSub, Nat.reduceMod, Nat.reduceDiv, indexK.aggOf, Int.reducePow, Int.reduceLE, Int.reduceNeg, Int.reduceLT, Int.reduceBEq, Int.reduceBNe, Int.reduceEq, ownA, nilA, Try.facts, h0, h3, h4, hb1, hb2]
        by_cases h40 : l.length ≤ 40
        · have b3 : decide ((l.length : Int) ≤ 40) = true := by simp; omega
          simp (disch := omega) only [↓runPre, runPost, fieldO, ixA, cutA, lenA, aggA, rowA, appA, mkA, indA, bnd, srcA, sameOp, funcA, cvO, partA, aggD, ↓PostP, resV, resAll, resOne, resVF, resAllF, resOneF, fitsAll, fitsR, fits, frz, Post, Nat.reduceBEq, Nat.reduceLT, reduceCtorEq, ↓reduceIte, initS, AV.cellsOf, AV.fine, AV.one, repA, Nat.reduceMul, Nat.reduceAdd, Nat.reduceLeDiff, Nat.reduceEqDiff, Int.reduceToNat, Nat.reduceSub, Nat.reduceMod, Nat.reduceDiv, indexK.aggOf, Int.reducePow, Int.reduceLE, Int.reduceNeg, Int.reduceLT, Int.reduceBEq, Int.reduceBNe, Int.reduceEq, ownA, nilA, Try.facts, h0, h3, h4, hb1, hb2, b3]
          exact ⟨by rw [hB, hfi]; simp [hn4], Abs.Sub.refl _⟩
        · have b3 : decide ((l.length : Int) ≤ 40) = false := by simp; omega
          simp (disch := omega) only [↓runPre, runPost, fieldO, ixA, cutA, lenA, aggA, rowA, appA, mkA, indA, bnd, srcA, sameOp, funcA, cvO, partA, aggD, ↓PostP, resV, resAll, resOne, resVF, resAllF, resOneF, fitsAll, fitsR, fits, frz, Post, Nat.reduceBEq, Nat.reduceLT, reduceCtorEq, ↓reduceIte, initS, AV.cellsOf, AV.fine, AV.one, repA, Nat.reduceMul, Nat.reduceAdd, Nat.reduceLeDiff, Nat.reduceEqDiff, Int.reduceToNat, Nat.reduceSub, Nat.reduceMod, Nat.reduceDiv, indexK.aggOf, Int.reducePow, Int.reduceLE, Int.reduceNeg, Int.reduceLT, Int.reduceBEq, Int.reduceBNe, Int.reduceEq, ownA, nilA, Try.facts, h0, h3, h4, hb1, hb2, b3]
          exact ⟨by rw [hB]; simp [h40], Abs.Sub.refl _⟩
    · have hb1 : decide ((i : Int) < (l.length : Int)) = false := by simp; omega
      have hfi := fin (.inl hlt)
      simp (disch := omega) only [↓runPre, runPost, fieldO, ixA, cutA, lenA, aggA, rowA, appA, mkA, indA, bnd, srcA, sameOp, funcA, cvO, partA, aggD, ↓PostP, resV, resAll, resOne, resVF, resAllF, resOneF, fitsAll, fitsR, fits, frz, Post, Nat.reduceBEq, Nat.reduceLT, reduceCtorEq, ↓reduceIte, initS, AV.cellsOf, AV.fine, AV.one, repA, Nat.reduceMul, Nat.reduceAdd, Nat.reduceLeDiff, Nat.reduceEqDiff, Int.reduceToNat, Nat.reduceSub, Nat.reduceMod, Nat.reduceDiv, indexK.aggOf, Int.reducePow, Int.reduceLE, Int.reduceNeg, Int.reduceLT, Int.reduceBEq, Int.reduceBNe, Int.reduceEq, ownA, nilA, Try.facts, h0, h3, h4, hb1]
      by_cases h40 : l.length ≤ 40
      · have b3 : decide ((l.length : Int) ≤ 40) = true := by simp; omega
        by_cases hn4 : n ≤ 4000
        · have hb2 : decide ((n : Int) ≤ 4000) = true := by simp; omega
          simp (disch := omega) only [↓runPre, runPost, fieldO, ixA, cutA, lenA, aggA, rowA, appA, mkA, indA, bnd, srcA, sameOp, funcA, cvO, partA, aggD, ↓PostP, resV, resAll, resOne, resVF, resAllF, resOneF, fitsAll, fitsR, fits, frz, Post, Nat.reduceBEq, Nat.reduceLT, reduceCtorEq, ↓reduceIte, initS, AV.cellsOf, AV.fine, AV.one, repA, Nat.reduceMul, Nat.reduceAdd, Nat.reduceLeDiff, Nat.reduceEqDiff, Int.reduceToNat, Nat.reduceSub, Nat.reduceMod, Nat.reduceDiv, indexK.aggOf, Int.reducePow, Int.reduceLE, Int.reduceNeg, Int.reduceLT, Int.reduceBEq, Int.reduceBNe, Int.reduceEq, ownA, nilA, Try.facts, h0, h3, h4, hb1, hb2, b3]
          exact ⟨by rw [hB, hfi]; simp [h40, hn4], Abs.Sub.refl _⟩
        · have hb2 : decide ((n : Int) ≤ 4000) = false := by simp; omega
          simp (disch := omega) only [↓runPre, runPost, fieldO, ixA, cutA, lenA, aggA, rowA, appA, mkA, indA, bnd, srcA, sameOp, funcA, cvO, partA, aggD, ↓PostP, resV, resAll, resOne, resVF, resAllF, resOneF, fitsAll, fitsR, fits, frz, Post, Nat.reduceBEq, Nat.reduceLT, reduceCtorEq, ↓reduceIte, initS, AV.cellsOf, AV.fine, AV.one, repA, Nat.reduceMul, Nat.reduceAdd, Nat.reduceLeDiff, Nat.reduceEqDiff, Int.reduceToNat, Nat.reduceSub, Nat.reduceMod, Nat.reduceDiv, indexK.aggOf, Int.reducePow, Int.reduceLE, Int.reduceNeg, Int.reduceLT, Int.reduceBEq, Int.reduceBNe, Int.reduceEq, ownA, nilA, Try.facts, h0, h3, h4, hb1, hb2, b3]
          exact ⟨by rw [hB, hfi]; simp [hn4], Abs.Sub.refl _⟩
      · have b3 : decide ((l.length : Int) ≤ 40) = false := by simp; omega
        simp (disch := omega) only [↓runPre, runPost, fieldO, ixA, cutA, lenA, aggA, rowA, appA, mkA, indA, bnd, srcA, sameOp, funcA, cvO, partA, aggD, ↓PostP, resV, resAll, resOne, resVF, resAllF, resOneF, fitsAll, fitsR, fits, frz, Post, Nat.reduceBEq, Nat.reduceLT, reduceCtorEq, ↓reduceIte, initS, AV.cellsOf, AV.fine, AV.one, repA, Nat.reduceMul, Nat.reduceAdd, Nat.reduceLeDiff, Nat.reduceEqDiff, Int.reduceToNat, Nat.reduceSub, Nat.reduceMod, Nat.reduceDiv, indexK.aggOf, Int.reducePow, Int.reduceLE, Int.reduceNeg, Int.reduceLT, Int.reduceBEq, Int.reduceBNe, Int.reduceEq, ownA, nilA, Try.facts, h0, h3, h4, hb1, b3]
        exact ⟨by rw [hB]; simp [h40], Abs.Sub.refl _⟩
end Go.Proofs.Ytmgbcjnhmgfhkaa
