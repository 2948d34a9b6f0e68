/-
  The walks of the suite layer: a term's size, name and key; the document's.
  Conditions: none. Lemmas only.
-/
import Derived.Test.YtmgbcjnhmgfhkaaSuiA
set_option linter.all false
set_option linter.unusedSimpArgs false
set_option linter.unusedVariables false
namespace Go.Proofs.Ytmgbcjnhmgfhkaa
open Go Go.Abs Go.Proofs

/-- how long a term's name is -/
def sizeT (t : Term) : Nat := if t.kind = 103 then 64 else if t.kind = 98 then (t.parts.getD 3 []).length + 16 else 32
/-- a term's name -/
def nameT (t : Term) (n : Nat) : List UInt8 := t.kind :: lowL 8 n ++ List.replicate (sizeT t - 9) 0
/-- are there the parts that are looked at, and are they short? -/
def okT (t : Term) : Prop := (t.kind = 98 → 4 ≤ t.parts.length) ∧ t.parts.length ≤ 1000000 ∧ t.parts.flatten.length ≤ 1000000000000
theorem flat_take {ls : List (List UInt8)} {i : Nat} (h : i < ls.length) : (ls.take (i + 1)).flatten = (ls.take i).flatten ++ ls[i] := by
  rw [List.take_succ_eq_append_getElem h, List.flatten_append, List.flatten_singleton]
theorem flat_le {ls : List (List UInt8)} (i : Nat) : (ls.take i).flatten.length ≤ ls.flatten.length := by
  have : ls.flatten = (ls.take i).flatten ++ (ls.drop i).flatten := by rw [← List.flatten_append, List.take_append_drop]
  rw [this, List.length_append]; omega
theorem flat_mem {ls : List (List UInt8)} {p : List UInt8} (h : p ∈ ls) : p.length ≤ ls.flatten.length := by
  obtain ⟨i, hi, rfl⟩ := List.getElem_of_mem h
  have := flat_le (ls := ls) (i + 1)
  rw [flat_take hi, List.length_append] at this
  omega
theorem sizeT_ge (t : Term) : 16 ≤ sizeT t := by
  unfold sizeT; split
  · omega
  · split <;> omega
theorem nameT_length (t : Term) (n : Nat) : (nameT t n).length = sizeT t := by
  have := sizeT_ge t
  simp [nameT, lowL_length]; omega
theorem okT_3 {t : Term} (h : okT t) (hk : t.kind = 98) : ∃ p, t.parts[3]? = some p ∧ (t.parts.map bytesV)[3]? = some (.imm 0 (encB p) p.length) ∧ sizeT t = p.length + 16 ∧ p.length ≤ 1000000000000 := by
  have h3 : 3 < t.parts.length := by have := h.1 hk; omega
  refine ⟨t.parts[3], by simp [h3], by simp [h3], ?_, Nat.le_trans (flat_mem (List.getElem_mem h3)) h.2.2⟩
  unfold sizeT
  rw [if_neg (by rw [hk]; decide), if_pos hk]
  simp [List.getD, h3]
theorem sizeT_le {t : Term} (h : okT t) : sizeT t ≤ 1000000000016 := by
  by_cases hk : t.kind = 98
  · obtain ⟨p, _, _, h3, h4⟩ := okT_3 h hk; omega
  · unfold sizeT
    rw [if_neg hk]
    split <;> omega

theorem size_pure (t : Term) (h : okT t) : APure Try.prog 51 [termV t] (.sc (.int .i64 (sizeT t))) := by
  obtain ⟨kd, parts⟩ := t
  refine apure_of_cwp (c := ⟨Try.prog, 15, [(1000000, [1])], [], []⟩) (rs := [ResultVar.tmp 2]) Try.mixed Try.func51 rfl rfl rfl (Nat.le_of_ble_eq_true rfl) (by kernel_rfl) fun H => ?_
  by_cases h1 : kd = 103
  · subst h1
    have e : sizeT ⟨103, parts⟩ = 64 := by simp [sizeT]
    have hk : ((103 : UInt8).toNat : Int) = 103 := rfl
    rw [e]
    simp (disch := omega) only [↓runPre, runPost, fieldO, ixA, cutA, lenA, aggA, rowA, appA, mkA, indA, bnd, srcA, sameOp, funcA, cvO, partA, aggD, ↓PostP, resV, resAll, resOne, resVF, resAllF, resOneF, fitsAll, fitsR, fits, frz, Post, Nat.reduceBEq, Nat.reduceLT, reduceCtorEq, ↓reduceIte, initS, AV.cellsOf, AV.fine, AV.one, repA, Nat.reduceMul, Nat.reduceAdd, Nat.reduceLeDiff, Nat.reduceEqDiff, Int.reduceToNat, Nat.reduceSub, Nat.reduceMod, Nat.reduceDiv, indexK.aggOf, Int.reducePow, Int.reduceLE, Int.reduceNeg, Int.reduceLT, Int.reduceBEq, Int.reduceBNe, Int.reduceEq, ownA, nilA, Try.facts, hk]
    exact fun k hk0 hk => Sub.box hk
  · by_cases h2 : kd = 98
    · subst h2
      obtain ⟨p, h3, h4, h5, h6⟩ := okT_3 h rfl
      rw [h5]
      have hk : ((98 : UInt8).toNat : Int) = 98 := rfl
      have hp : 3 < parts.length := by have := h.1 rfl; simp at this; omega
      simp (disch := omega) only [↓runPre, runPost, fieldO, ixA, cutA, lenA, aggA, rowA, appA, mkA, indA, bnd, srcA, sameOp, funcA, cvO, partA, aggD, ↓PostP, resV, resAll, resOne, resVF, resAllF, resOneF, fitsAll, fitsR, fits, frz, Post, Nat.reduceBEq, Nat.reduceLT, reduceCtorEq, ↓reduceIte, initS, AV.cellsOf, AV.fine, AV.one, repA, Nat.reduceMul, Nat.reduceAdd, Nat.reduceLeDiff, Nat.reduceEqDiff, Int.reduceToNat, Nat.reduceSub, Nat.reduceMod, Nat.reduceDiv, indexK.aggOf, Int.reducePow, Int.reduceLE, Int.reduceNeg, Int.reduceLT, Int.reduceBEq, Int.reduceBNe, Int.reduceEq, ownA, nilA, Try.facts, hk]
      intro k hk0 hk
      simp (disch := omega) only [↓runPre, runPost, fieldO, ixA, cutA, lenA, aggA, rowA, appA, mkA, indA, bnd, srcA, sameOp, funcA, cvO, partA, aggD, ↓PostP, resV, resAll, resOne, resVF, resAllF, resOneF, fitsAll, fitsR, fits, frz, Post, Nat.reduceBEq, Nat.reduceLT, reduceCtorEq, ↓reduceIte, initS, AV.cellsOf, AV.fine, AV.one, repA, Nat.reduceMul, Nat.reduceAdd, Nat.reduceLeDiff, Nat.reduceEqDiff, Int.reduceToNat, Nat.reduceSub, Nat.reduceMod, Nat.reduceDiv, indexK.aggOf, Int.reducePow, Int.reduceLE, Int.reduceNeg, Int.reduceLT, Int.reduceBEq, Int.reduceBNe, Int.reduceEq, ownA, nilA, Try.facts, kill_box hk, h4]
      exact Abs.Sub.refl _
    · have e : sizeT ⟨kd, parts⟩ = 32 := by simp [sizeT, h1, h2]
      rw [e]
      have b1 : ((kd.toNat : Int) == 103) = false := by rw [show (103 : Int) = ((103 : UInt8).toNat : Int) from rfl, n8eq]; simpa using h1
      have b2 : ((kd.toNat : Int) == 98) = false := by rw [show (98 : Int) = ((98 : UInt8).toNat : Int) from rfl, n8eq]; simpa using h2
      simp (disch := omega) only [↓runPre, runPost, fieldO, ixA, cutA, lenA, aggA, rowA, appA, mkA, indA, bnd, srcA, sameOp, funcA, cvO, partA, aggD, ↓PostP, resV, resAll, resOne, resVF, resAllF, resOneF, fitsAll, fitsR, fits, frz, Post, Nat.reduceBEq, Nat.reduceLT, reduceCtorEq, ↓reduceIte, initS, AV.cellsOf, AV.fine, AV.one, repA, Nat.reduceMul, Nat.reduceAdd, Nat.reduceLeDiff, Nat.reduceEqDiff, Int.reduceToNat, Nat.reduceSub, Nat.reduceMod, Nat.reduceDiv, indexK.aggOf, Int.reducePow, Int.reduceLE, Int.reduceNeg, Int.reduceLT, Int.reduceBEq, Int.reduceBNe, Int.reduceEq, ownA, nilA, Try.facts, b1, b2]
      exact fun k hk0 hk => Sub.box hk

theorem called_live (t : Term) (n : Nat) (h : okT t) (hn : n < 9223372036854775808) (H : AH) : ACalls Try.prog 44 [termV t, .sc (.int .i64 n)] H (OwnB (nameT t n) H) := by
  have he := eight_pure n hn
  have hz := size_pure t h
  have hsz := sizeT_le h
  have hsg := sizeT_ge t
  have hlen := lowL_length 8 n
  have hnl := nameT_length t n
  have hnm : nameT t n = t.kind :: lowL 8 n ++ List.replicate (sizeT t - 9) 0 := rfl
  obtain ⟨kd, parts⟩ := t
  generalize sizeT ⟨kd, parts⟩ = s at *
  generalize nameT ⟨kd, parts⟩ n = L at *
  generalize lowL 8 n = E at *
  refine acalls_of_cwp (c := ⟨Try.prog, 17, [(2000001, [0, 1, 3, 4, 2, 5, 6]), (1, [0, 1, 0, 0, 2, 2, 0]), (1000000, [2])], [1000008, 1000011, 1000016], []⟩) (rs := [ResultVar.tmp 4]) Try.mixed Try.func44 rfl rfl rfl (Nat.le_of_ble_eq_true rfl) (by kernel_rfl) ?_
  simp (disch := omega) only [↓runPre, runPost, fieldO, ixA, cutA, lenA, aggA, rowA, appA, mkA, indA, bnd, srcA, sameOp, funcA, cvO, partA, aggD, ↓PostP, resV, resAll, resOne, resVF, resAllF, resOneF, fitsAll, fitsR, fits, frz, Post, Nat.reduceBEq, Nat.reduceLT, reduceCtorEq, ↓reduceIte, initS, AV.cellsOf, AV.fine, AV.one, repA, Nat.reduceMul, Nat.reduceAdd, Nat.reduceLeDiff, Nat.reduceEqDiff, Int.reduceToNat, Nat.reduceSub, Nat.reduceMod, Nat.reduceDiv, indexK.aggOf, Int.reducePow, Int.reduceLE, Int.reduceNeg, Int.reduceLT, Int.reduceBEq, Int.reduceBNe, Int.reduceEq, ownA, nilA, Try.facts]
  intro k hk0 hk
  have hc : (AV.sc (.int .u8 kd.toNat) :: encB E) = encB (kd :: E) := rfl
  first | refine CallK.p (he) ?_ | refine CallP.i (he) ?_
  simp (disch := omega) only [↓runPre, runPost, fieldO, ixA, cutA, lenA, aggA, rowA, appA, mkA, indA, bnd, srcA, sameOp, funcA, cvO, partA, aggD, ↓PostP, resV, resAll, resOne, resVF, resAllF, resOneF, fitsAll, fitsR, fits, frz, Post, Nat.reduceBEq, Nat.reduceLT, reduceCtorEq, ↓reduceIte, initS, AV.cellsOf, AV.fine, AV.one, repA, Nat.reduceMul, Nat.reduceAdd, Nat.reduceLeDiff, Nat.reduceEqDiff, Int.reduceToNat, Nat.reduceSub, Nat.reduceMod, Nat.reduceDiv, indexK.aggOf, Int.reducePow, Int.reduceLE, Int.reduceNeg, Int.reduceLT, Int.reduceBEq, Int.reduceBNe, Int.reduceEq, ownA, nilA, Try.facts, kill_box hk]
  intro k1 hk10 hk1 k2 hk2
  obtain ⟨hk20, hk2⟩ := own_next hk10 hk1 hk2
  have hs9 : ((s : Int) - 9).toNat = s - 9 := by omega
  have hl9 : (kd :: E).length = 9 := by simp [hlen]
  first | refine CallK.p (hz) ?_ | refine CallP.i (hz) ?_
  simp (disch := omega) only [↓runPre, runPost, fieldO, ixA, cutA, lenA, aggA, rowA, appA, mkA, indA, bnd, srcA, sameOp, funcA, cvO, partA, aggD, ↓PostP, resV, resAll, resOne, resVF, resAllF, resOneF, fitsAll, fitsR, fits, frz, Post, Nat.reduceBEq, Nat.reduceLT, reduceCtorEq, ↓reduceIte, initS, AV.cellsOf, AV.fine, AV.one, repA, Nat.reduceMul, Nat.reduceAdd, Nat.reduceLeDiff, Nat.reduceEqDiff, Int.reduceToNat, Nat.reduceSub, Nat.reduceMod, Nat.reduceDiv, indexK.aggOf, Int.reducePow, Int.reduceLE, Int.reduceNeg, Int.reduceLT, Int.reduceBEq, Int.reduceBNe, Int.reduceEq, ownA, nilA, Try.facts, kill_box hk1, hc, hlen, hs9, hl9]
  intro k3 hk3
  obtain ⟨hk30, hk3⟩ := own_next hk20 hk2 hk3
  refine ⟨_, rfl, _, Abs.Sub.refl _, k3, hk30, hk3, ?_, ?_⟩
  · show AV.own k3 0 (9 + (s - 9)) = _
    rw [hnl]; congr 1; omega
  · rw [List.take_of_length_le (by rw [encB_length, hl9]; omega), encB_append, hnm]
theorem called_pure (t : Term) (n : Nat) (h : okT t) (hn : n < 9223372036854775808) : APure Try.prog 44 [termV t, .sc (.int .i64 n)] (bytesV (nameT t n)) := OwnB.pure (called_live t n h hn)

/-- the document's name -/
theorem rcalled_pure (t : Term) (n : Nat) (h : okT t) (hn : n < 9223372036854775808) : APure Try.prog 53 [termV t, .sc (.int .i64 n)] (bytesV (nameT t n)) := by
  have he := Eight_pure n hn
  have hsz := sizeT_le h
  have hsg := sizeT_ge t
  have hlen := lowL_length 8 n
  have hnl := nameT_length t n
  have hnm : nameT t n = t.kind :: lowL 8 n ++ List.replicate (sizeT t - 9) 0 := rfl
  have h103 : t.kind = 103 → sizeT t = 64 := fun e => by simp [sizeT, e]
  have h0 : t.kind ≠ 103 → t.kind ≠ 98 → sizeT t = 32 := fun e f => by simp [sizeT, e, f]
  have h98 : t.kind = 98 → ∃ p, t.parts[3]? = some p ∧ (t.parts.map bytesV)[3]? = some (.imm 0 (encB p) p.length) ∧ sizeT t = p.length + 16 ∧ p.length ≤ 1000000000000 := okT_3 h
  have h4 := h.1
  obtain ⟨kd, parts⟩ := t
  generalize sizeT ⟨kd, parts⟩ = s at *
  generalize nameT ⟨kd, parts⟩ n = L at *
  generalize lowL 8 n = E at *
  simp only [] at h103 h98 h0 h4
  have hc : (AV.sc (.int .u8 kd.toNat) :: encB E) = encB (kd :: E) := rfl
  have hl9 : (kd :: E).length = 9 := by simp [hlen]
  refine apure_of_cwp (c := ⟨Try.prog, 33, [(2000006, [0, 1, 3, 4, 2, 5, 6]), (6, [0, 1, 0, 0, 2, 2, 0]), (1000000, [2])], [21], []⟩) (rs := [ResultVar.tmp 4]) Try.mixed Try.func53 rfl rfl rfl (Nat.le_of_ble_eq_true rfl) (by kernel_rfl) fun H => ?_
  have t103 : (103 : Int) = ((103 : UInt8).toNat : Int) := rfl
  have t98 : (98 : Int) = ((98 : UInt8).toNat : Int) := rfl
  by_cases h1 : kd = 103
  · have hs := h103 h1
    have b1 : ((kd.toNat : Int) == 103) = true := by rw [t103, n8eq]; simpa using h1
    have b2 : ((kd.toNat : Int) == 98) = false := by rw [t98, n8eq, h1]; rfl
    simp (disch := omega) only [↓runPre, runPost, fieldO, ixA, cutA, lenA, aggA, rowA, appA, mkA, indA, bnd, srcA, sameOp, funcA, cvO, partA, aggD, ↓PostP, resV, resAll, resOne, resVF, resAllF, resOneF, fitsAll, fitsR, fits, frz, Post, Nat.reduceBEq, Nat.reduceLT, reduceCtorEq, ↓reduceIte, initS, AV.cellsOf, AV.fine, AV.one, repA, Nat.reduceMul, Nat.reduceAdd, Nat.reduceLeDiff, Nat.reduceEqDiff, Int.reduceToNat, Nat.reduceSub, Nat.reduceMod, Nat.reduceDiv, indexK.aggOf, Int.reducePow, Int.reduceLE, Int.reduceNeg, Int.reduceLT, Int.reduceBEq, Int.reduceBNe, Int.reduceEq, ownA, nilA, Try.facts, b1, b2]
    intro k hk0 hk
    first | refine CallK.p (he) ?_ | refine CallP.i (he) ?_
    simp (disch := omega) only [↓runPre, runPost, fieldO, ixA, cutA, lenA, aggA, rowA, appA, mkA, indA, bnd, srcA, sameOp, funcA, cvO, partA, aggD, ↓PostP, resV, resAll, resOne, resVF, resAllF, resOneF, fitsAll, fitsR, fits, frz, Post, Nat.reduceBEq, Nat.reduceLT, reduceCtorEq, ↓reduceIte, initS, AV.cellsOf, AV.fine, AV.one, repA, Nat.reduceMul, Nat.reduceAdd, Nat.reduceLeDiff, Nat.reduceEqDiff, Int.reduceToNat, Nat.reduceSub, Nat.reduceMod, Nat.reduceDiv, indexK.aggOf, Int.reducePow, Int.reduceLE, Int.reduceNeg, Int.reduceLT, Int.reduceBEq, Int.reduceBNe, Int.reduceEq, ownA, nilA, Try.facts, kill_box hk, hc, hlen, b1, b2]
    intro k1 hk10 hk1
    simp (disch := omega) only [↓runPre, runPost, fieldO, ixA, cutA, lenA, aggA, rowA, appA, mkA, indA, bnd, srcA, sameOp, funcA, cvO, partA, aggD, ↓PostP, resV, resAll, resOne, resVF, resAllF, resOneF, fitsAll, fitsR, fits, frz, Post, Nat.reduceBEq, Nat.reduceLT, reduceCtorEq, ↓reduceIte, initS, AV.cellsOf, AV.fine, AV.one, repA, Nat.reduceMul, Nat.reduceAdd, Nat.reduceLeDiff, Nat.reduceEqDiff, Int.reduceToNat, Nat.reduceSub, Nat.reduceMod, Nat.reduceDiv, indexK.aggOf, Int.reducePow, Int.reduceLE, Int.reduceNeg, Int.reduceLT, Int.reduceBEq, Int.reduceBNe, Int.reduceEq, ownA, nilA, Try.facts, kill_box hk, hc, hlen, b1, b2]
    intro k2 o2 hk20 hk2 ho2
    replace hk2 := subset_set hk2
    refine loop_t (c := ⟨Try.prog, 33, [(2000006, [0, 1, 3, 4, 2, 5, 6]), (6, [0, 1, 0, 0, 2, 2, 0]), (1000000, [2])], [21], []⟩) Try.mixed (by kernel_rfl) (fun m σ H' => ∃ j, 9 + j + m = s ∧ σ 5 = .sc (.int .i64 s) ∧ ∃ k o, k ≠ 0 ∧ H k = none ∧ H' = H.set k o ∧ TokO 5 1 o (9 + j) ∧ σ 6 = .imm k (encB (kd :: E ++ List.replicate j 0)) (9 + j)) (s - 9) ?_ ?_
    · refine ⟨0, by omega, ?_⟩
      simp (disch := omega) only [↓runPre, runPost, fieldO, ixA, cutA, lenA, aggA, rowA, appA, mkA, indA, bnd, srcA, sameOp, funcA, cvO, partA, aggD, ↓PostP, resV, resAll, resOne, resVF, resAllF, resOneF, fitsAll, fitsR, fits, frz, Post, Nat.reduceBEq, Nat.reduceLT, reduceCtorEq, ↓reduceIte, initS, AV.cellsOf, AV.fine, AV.one, repA, Nat.reduceMul, Nat.reduceAdd, Nat.reduceLeDiff, Nat.reduceEqDiff, Int.reduceToNat, Nat.reduceSub, Nat.reduceMod, Nat.reduceDiv, indexK.aggOf, Int.reducePow, Int.reduceLE, Int.reduceNeg, Int.reduceLT, Int.reduceBEq, Int.reduceBNe, Int.reduceEq, ownA, nilA, Try.facts, b1, b2]
      exact ⟨by first | (rw [hs]; done) | (rw [hs]; rfl), k2, o2, hk20, hk2, rfl, ho2, by rw [List.replicate_zero, List.append_nil]⟩
    · rintro m σ H' ⟨j, hj, h5, k, o, hk0, hk, rfl, ho, h6⟩
      have hlj : (kd :: E ++ List.replicate j 0).length = 9 + j := by simp [hlen]; omega
      have hrj : (kd :: E ++ List.replicate (j + 1) 0) = (kd :: E ++ List.replicate j 0) ++ [0] := by rw [List.replicate_succ', List.append_assoc]
      have hfin : 9 + j = s → L = kd :: E ++ List.replicate j 0 := fun e => by rw [hnm]; congr 2; omega
      generalize kd :: E ++ List.replicate j 0 = acc at *
      by_cases hlt : 9 + j < s
      · have hb1 : decide (((9 + j : Nat) : Int) < (s : Int)) = true := by simp only [decide_eq_true_eq]; omega
        simp (disch := omega) only [↓runPre, runPost, fieldO, ixA, cutA, lenA, aggA, rowA, appA, mkA, indA, bnd, srcA, sameOp, funcA, cvO, partA, aggD, ↓PostP, resV, resAll, resOne, resVF, resAllF, resOneF, fitsAll, fitsR, fits, frz, Post, Nat.reduceBEq, Nat.reduceLT, reduceCtorEq, ↓reduceIte, initS, AV.cellsOf, AV.fine, AV.one, repA, Nat.reduceMul, Nat.reduceAdd, Nat.reduceLeDiff, Nat.reduceEqDiff, Int.reduceToNat, Nat.reduceSub, Nat.reduceMod, Nat.reduceDiv, indexK.aggOf, Int.reducePow, Int.reduceLE, Int.reduceNeg, Int.reduceLT, Int.reduceBEq, Int.reduceBNe, Int.reduceEq, ownA, nilA, Try.facts, h5, h6, hb1, hlj, ho]
        intro k' o' hk0' hk' ho'
        exact ⟨m - 1, by omega, j + 1, by omega, k', o', hk0', subset_set hk', rfl, ho', by rw [← List.cons_append, hrj, ← encB_snoc]; rfl⟩
      · have hb1 : decide (((9 + j : Nat) : Int) < (s : Int)) = false := by simp only [decide_eq_false_iff_not]; omega
        have hfin := hfin (by omega)
        simp (disch := omega) only [↓runPre, runPost, fieldO, ixA, cutA, lenA, aggA, rowA, appA, mkA, indA, bnd, srcA, sameOp, funcA, cvO, partA, aggD, ↓PostP, resV, resAll, resOne, resVF, resAllF, resOneF, fitsAll, fitsR, fits, frz, Post, Nat.reduceBEq, Nat.reduceLT, reduceCtorEq, ↓reduceIte, initS, AV.cellsOf, AV.fine, AV.one, repA, Nat.reduceMul, Nat.reduceAdd, Nat.reduceLeDiff, Nat.reduceEqDiff, Int.reduceToNat, Nat.reduceSub, Nat.reduceMod, Nat.reduceDiv, indexK.aggOf, Int.reducePow, Int.reduceLE, Int.reduceNeg, Int.reduceLT, Int.reduceBEq, Int.reduceBNe, Int.reduceEq, ownA, nilA, Try.facts, h5, h6, hb1, hlj, ho]
        rw [hfin]
        exact ⟨by rw [bytesV, hlj], Sub.set_new hk⟩
  · have b1 : ((kd.toNat : Int) == 103) = false := by rw [t103, n8eq]; simpa using h1
    by_cases h2 : kd = 98
    · obtain ⟨p, h3, h5, hs, h6⟩ := h98 h2
      have b2 : ((kd.toNat : Int) == 98) = true := by rw [t98, n8eq]; simpa using h2
      have h4' := h4 h2
      simp (disch := omega) only [↓runPre, runPost, fieldO, ixA, cutA, lenA, aggA, rowA, appA, mkA, indA, bnd, srcA, sameOp, funcA, cvO, partA, aggD, ↓PostP, resV, resAll, resOne, resVF, resAllF, resOneF, fitsAll, fitsR, fits, frz, Post, Nat.reduceBEq, Nat.reduceLT, reduceCtorEq, ↓reduceIte, initS, AV.cellsOf, AV.fine, AV.one, repA, Nat.reduceMul, Nat.reduceAdd, Nat.reduceLeDiff, Nat.reduceEqDiff, Int.reduceToNat, Nat.reduceSub, Nat.reduceMod, Nat.reduceDiv, indexK.aggOf, Int.reducePow, Int.reduceLE, Int.reduceNeg, Int.reduceLT, Int.reduceBEq, Int.reduceBNe, Int.reduceEq, ownA, nilA, Try.facts, b1, b2]
      intro k hk0 hk
      simp (disch := omega) only [↓runPre, runPost, fieldO, ixA, cutA, lenA, aggA, rowA, appA, mkA, indA, bnd, srcA, sameOp, funcA, cvO, partA, aggD, ↓PostP, resV, resAll, resOne, resVF, resAllF, resOneF, fitsAll, fitsR, fits, frz, Post, Nat.reduceBEq, Nat.reduceLT, reduceCtorEq, ↓reduceIte, initS, AV.cellsOf, AV.fine, AV.one, repA, Nat.reduceMul, Nat.reduceAdd, Nat.reduceLeDiff, Nat.reduceEqDiff, Int.reduceToNat, Nat.reduceSub, Nat.reduceMod, Nat.reduceDiv, indexK.aggOf, Int.reducePow, Int.reduceLE, Int.reduceNeg, Int.reduceLT, Int.reduceBEq, Int.reduceBNe, Int.reduceEq, ownA, nilA, Try.facts, kill_box hk, h5]
      first | refine CallK.p (he) ?_ | refine CallP.i (he) ?_
      simp (disch := omega) only [↓runPre, runPost, fieldO, ixA, cutA, lenA, aggA, rowA, appA, mkA, indA, bnd, srcA, sameOp, funcA, cvO, partA, aggD, ↓PostP, resV, resAll, resOne, resVF, resAllF, resOneF, fitsAll, fitsR, fits, frz, Post, Nat.reduceBEq, Nat.reduceLT, reduceCtorEq, ↓reduceIte, initS, AV.cellsOf, AV.fine, AV.one, repA, Nat.reduceMul, Nat.reduceAdd, Nat.reduceLeDiff, Nat.reduceEqDiff, Int.reduceToNat, Nat.reduceSub, Nat.reduceMod, Nat.reduceDiv, indexK.aggOf, Int.reducePow, Int.reduceLE, Int.reduceNeg, Int.reduceLT, Int.reduceBEq, Int.reduceBNe, Int.reduceEq, ownA, nilA, Try.facts, kill_box hk, hc, hlen, b1, b2]
      intro k1 hk10 hk1
      simp (disch := omega) only [↓runPre, runPost, fieldO, ixA, cutA, lenA, aggA, rowA, appA, mkA, indA, bnd, srcA, sameOp, funcA, cvO, partA, aggD, ↓PostP, resV, resAll, resOne, resVF, resAllF, resOneF, fitsAll, fitsR, fits, frz, Post, Nat.reduceBEq, Nat.reduceLT, reduceCtorEq, ↓reduceIte, initS, AV.cellsOf, AV.fine, AV.one, repA, Nat.reduceMul, Nat.reduceAdd, Nat.reduceLeDiff, Nat.reduceEqDiff, Int.reduceToNat, Nat.reduceSub, Nat.reduceMod, Nat.reduceDiv, indexK.aggOf, Int.reducePow, Int.reduceLE, Int.reduceNeg, Int.reduceLT, Int.reduceBEq, Int.reduceBNe, Int.reduceEq, ownA, nilA, Try.facts, kill_box hk, hc, hlen, b1, b2]
      intro k2 o2 hk20 hk2 ho2
      replace hk2 := subset_set hk2
      refine loop_t (c := ⟨Try.prog, 33, [(2000006, [0, 1, 3, 4, 2, 5, 6]), (6, [0, 1, 0, 0, 2, 2, 0]), (1000000, [2])], [21], []⟩) Try.mixed (by kernel_rfl) (fun m σ H' => ∃ j, 9 + j + m = s ∧ σ 5 = .sc (.int .i64 s) ∧ ∃ k o, k ≠ 0 ∧ H k = none ∧ H' = H.set k o ∧ TokO 5 1 o (9 + j) ∧ σ 6 = .imm k (encB (kd :: E ++ List.replicate j 0)) (9 + j)) (s - 9) ?_ ?_
      · refine ⟨0, by omega, ?_⟩
        simp (disch := omega) only [↓runPre, runPost, fieldO, ixA, cutA, lenA, aggA, rowA, appA, mkA, indA, bnd, srcA, sameOp, funcA, cvO, partA, aggD, ↓PostP, resV, resAll, resOne, resVF, resAllF, resOneF, fitsAll, fitsR, fits, frz, Post, Nat.reduceBEq, Nat.reduceLT, reduceCtorEq, ↓reduceIte, initS, AV.cellsOf, AV.fine, AV.one, repA, Nat.reduceMul, Nat.reduceAdd, Nat.reduceLeDiff, Nat.reduceEqDiff, Int.reduceToNat, Nat.reduceSub, Nat.reduceMod, Nat.reduceDiv, indexK.aggOf, Int.reducePow, Int.reduceLE, Int.reduceNeg, Int.reduceLT, Int.reduceBEq, Int.reduceBNe, Int.reduceEq, ownA, nilA, Try.facts, b1, b2]
        exact ⟨by first | (rw [hs]; done) | (rw [hs]; rfl), k2, o2, hk20, hk2, rfl, ho2, by rw [List.replicate_zero, List.append_nil]⟩
      · rintro m σ H' ⟨j, hj, h5, k, o, hk0, hk, rfl, ho, h6⟩
        have hlj : (kd :: E ++ List.replicate j 0).length = 9 + j := by simp [hlen]; omega
        have hrj : (kd :: E ++ List.replicate (j + 1) 0) = (kd :: E ++ List.replicate j 0) ++ [0] := by rw [List.replicate_succ', List.append_assoc]
        have hfin : 9 + j = s → L = kd :: E ++ List.replicate j 0 := fun e => by rw [hnm]; congr 2; omega
        generalize kd :: E ++ List.replicate j 0 = acc at *
        by_cases hlt : 9 + j < s
        · have hb1 : decide (((9 + j : Nat) : Int) < (s : Int)) = true := by simp only [decide_eq_true_eq]; omega
          simp (disch := omega) only [↓runPre, runPost, fieldO, ixA, cutA, lenA, aggA, rowA, appA, mkA, indA, bnd, srcA, sameOp, funcA, cvO, partA, aggD, ↓PostP, resV, resAll, resOne, resVF, resAllF, resOneF, fitsAll, fitsR, fits, frz, Post, Nat.reduceBEq, Nat.reduceLT, reduceCtorEq, ↓reduceIte, initS, AV.cellsOf, AV.fine, AV.one, repA, Nat.reduceMul, Nat.reduceAdd, Nat.reduceLeDiff, Nat.reduceEqDiff, Int.reduceToNat, Nat.reduceSub, Nat.reduceMod, Nat.reduceDiv, indexK.aggOf, Int.reducePow, Int.reduceLE, Int.reduceNeg, Int.reduceLT, Int.reduceBEq, Int.reduceBNe, Int.reduceEq, ownA, nilA, Try.facts, h5, h6, hb1, hlj, ho]
          intro k' o' hk0' hk' ho'
          exact ⟨m - 1, by omega, j + 1, by omega, k', o', hk0', subset_set hk', rfl, ho', by rw [← List.cons_append, hrj, ← encB_snoc]; rfl⟩
        · have hb1 : decide (((9 + j : Nat) : Int) < (s : Int)) = false := by simp only [decide_eq_false_iff_not]; omega
          have hfin := hfin (by omega)
          simp (disch := omega) only [↓runPre, runPost, fieldO, ixA, cutA, lenA, aggA, rowA, appA, mkA, indA, bnd, srcA, sameOp, funcA, cvO, partA, aggD, ↓PostP, resV, resAll, resOne, resVF, resAllF, resOneF, fitsAll, fitsR, fits, frz, Post, Nat.reduceBEq, Nat.reduceLT, reduceCtorEq, ↓reduceIte, initS, AV.cellsOf, AV.fine, AV.one, repA, Nat.reduceMul, Nat.reduceAdd, Nat.reduceLeDiff, Nat.reduceEqDiff, Int.reduceToNat, Nat.reduceSub, Nat.reduceMod, Nat.reduceDiv, indexK.aggOf, Int.reducePow, Int.reduceLE, Int.reduceNeg, Int.reduceLT, Int.reduceBEq, Int.reduceBNe, Int.reduceEq, ownA, nilA, Try.facts, h5, h6, hb1, hlj, ho]
          rw [hfin]
          exact ⟨by rw [bytesV, hlj], Sub.set_new hk⟩
    · have hs := h0 h1 h2
      have b2 : ((kd.toNat : Int) == 98) = false := by rw [t98, n8eq]; simpa using h2
      simp (disch := omega) only [↓runPre, runPost, fieldO, ixA, cutA, lenA, aggA, rowA, appA, mkA, indA, bnd, srcA, sameOp, funcA, cvO, partA, aggD, ↓PostP, resV, resAll, resOne, resVF, resAllF, resOneF, fitsAll, fitsR, fits, frz, Post, Nat.reduceBEq, Nat.reduceLT, reduceCtorEq, ↓reduceIte, initS, AV.cellsOf, AV.fine, AV.one, repA, Nat.reduceMul, Nat.reduceAdd, Nat.reduceLeDiff, Nat.reduceEqDiff, Int.reduceToNat, Nat.reduceSub, Nat.reduceMod, Nat.reduceDiv, indexK.aggOf, Int.reducePow, Int.reduceLE, Int.reduceNeg, Int.reduceLT, Int.reduceBEq, Int.reduceBNe, Int.reduceEq, ownA, nilA, Try.facts, b1, b2]
      intro k hk0 hk
      first | refine CallK.p (he) ?_ | refine CallP.i (he) ?_
      simp (disch := omega) only [↓runPre, runPost, fieldO, ixA, cutA, lenA, aggA, rowA, appA, mkA, indA, bnd, srcA, sameOp, funcA, cvO, partA, aggD, ↓PostP, resV, resAll, resOne, resVF, resAllF, resOneF, fitsAll, fitsR, fits, frz, Post, Nat.reduceBEq, Nat.reduceLT, reduceCtorEq, ↓reduceIte, initS, AV.cellsOf, AV.fine, AV.one, repA, Nat.reduceMul, Nat.reduceAdd, Nat.reduceLeDiff, Nat.reduceEqDiff, Int.reduceToNat, Nat.reduceSub, Nat.reduceMod, Nat.reduceDiv, indexK.aggOf, Int.reducePow, Int.reduceLE, Int.reduceNeg, Int.reduceLT, Int.reduceBEq, Int.reduceBNe, Int.reduceEq, ownA, nilA, Try.facts, kill_box hk, hc, hlen, b1, b2]
      intro k1 hk10 hk1
      simp (disch := omega) only [↓runPre, runPost, fieldO, ixA, cutA, lenA, aggA, rowA, appA, mkA, indA, bnd, srcA, sameOp, funcA, cvO, partA, aggD, ↓PostP, resV, resAll, resOne, resVF, resAllF, resOneF, fitsAll, fitsR, fits, frz, Post, Nat.reduceBEq, Nat.reduceLT, reduceCtorEq, ↓reduceIte, initS, AV.cellsOf, AV.fine, AV.one, repA, Nat.reduceMul, Nat.reduceAdd, Nat.reduceLeDiff, Nat.reduceEqDiff, Int.reduceToNat, Nat.reduceSub, Nat.reduceMod, Nat.reduceDiv, indexK.aggOf, Int.reducePow, Int.reduceLE, Int.reduceNeg, Int.reduceLT, Int.reduceBEq, Int.reduceBNe, Int.reduceEq, ownA, nilA, Try.facts, kill_box hk, hc, hlen, b1, b2]
      intro k2 o2 hk20 hk2 ho2
      replace hk2 := subset_set hk2
      refine loop_t (c := ⟨Try.prog, 33, [(2000006, [0, 1, 3, 4, 2, 5, 6]), (6, [0, 1, 0, 0, 2, 2, 0]), (1000000, [2])], [21], []⟩) Try.mixed (by kernel_rfl) (fun m σ H' => ∃ j, 9 + j + m = s ∧ σ 5 = .sc (.int .i64 s) ∧ ∃ k o, k ≠ 0 ∧ H k = none ∧ H' = H.set k o ∧ TokO 5 1 o (9 + j) ∧ σ 6 = .imm k (encB (kd :: E ++ List.replicate j 0)) (9 + j)) (s - 9) ?_ ?_
      · refine ⟨0, by omega, ?_⟩
        simp (disch := omega) only [↓runPre, runPost, fieldO, ixA, cutA, lenA, aggA, rowA, appA, mkA, indA, bnd, srcA, sameOp, funcA, cvO, partA, aggD, ↓PostP, resV, resAll, resOne, resVF, resAllF, resOneF, fitsAll, fitsR, fits, frz, Post, Nat.reduceBEq, Nat.reduceLT, reduceCtorEq, ↓reduceIte, initS, AV.cellsOf, AV.fine, AV.one, repA, Nat.reduceMul, Nat.reduceAdd, Nat.reduceLeDiff, Nat.reduceEqDiff, Int.reduceToNat, Nat.reduceSub, Nat.reduceMod, Nat.reduceDiv, indexK.aggOf, Int.reducePow, Int.reduceLE, Int.reduceNeg, Int.reduceLT, Int.reduceBEq, Int.reduceBNe, Int.reduceEq, ownA, nilA, Try.facts, b1, b2]
        exact ⟨by first | (rw [hs]; done) | (rw [hs]; rfl), k2, o2, hk20, hk2, rfl, ho2, by rw [List.replicate_zero, List.append_nil]⟩
      · rintro m σ H' ⟨j, hj, h5, k, o, hk0, hk, rfl, ho, h6⟩
        have hlj : (kd :: E ++ List.replicate j 0).length = 9 + j := by simp [hlen]; omega
        have hrj : (kd :: E ++ List.replicate (j + 1) 0) = (kd :: E ++ List.replicate j 0) ++ [0] := by rw [List.replicate_succ', List.append_assoc]
        have hfin : 9 + j = s → L = kd :: E ++ List.replicate j 0 := fun e => by rw [hnm]; congr 2; omega
        generalize kd :: E ++ List.replicate j 0 = acc at *
        by_cases hlt : 9 + j < s
        · have hb1 : decide (((9 + j : Nat) : Int) < (s : Int)) = true := by simp only [decide_eq_true_eq]; omega
          simp (disch := omega) only [↓runPre, runPost, fieldO, ixA, cutA, lenA, aggA, rowA, appA, mkA, indA, bnd, srcA, sameOp, funcA, cvO, partA, aggD, ↓PostP, resV, resAll, resOne, resVF, resAllF, resOneF, fitsAll, fitsR, fits, frz, Post, Nat.reduceBEq, Nat.reduceLT, reduceCtorEq, ↓reduceIte, initS, AV.cellsOf, AV.fine, AV.one, repA, Nat.reduceMul, Nat.reduceAdd, Nat.reduceLeDiff, Nat.reduceEqDiff, Int.reduceToNat, Nat.reduceSub, Nat.reduceMod, Nat.reduceDiv, indexK.aggOf, Int.reducePow, Int.reduceLE, Int.reduceNeg, Int.reduceLT, Int.reduceBEq, Int.reduceBNe, Int.reduceEq, ownA, nilA, Try.facts, h5, h6, hb1, hlj, ho]
          intro k' o' hk0' hk' ho'
          exact ⟨m - 1, by omega, j + 1, by omega, k', o', hk0', subset_set hk', rfl, ho', by rw [← List.cons_append, hrj, ← encB_snoc]; rfl⟩
        · have hb1 : decide (((9 + j : Nat) : Int) < (s : Int)) = false := by simp only [decide_eq_false_iff_not]; omega
          have hfin := hfin (by omega)
          simp (disch := omega) only [↓runPre, runPost, fieldO, ixA, cutA, lenA, aggA, rowA, appA, mkA, indA, bnd, srcA, sameOp, funcA, cvO, partA, aggD, ↓PostP, resV, resAll, resOne, resVF, resAllF, resOneF, fitsAll, fitsR, fits, frz, Post, Nat.reduceBEq, Nat.reduceLT, reduceCtorEq, ↓reduceIte, initS, AV.cellsOf, AV.fine, AV.one, repA, Nat.reduceMul, Nat.reduceAdd, Nat.reduceLeDiff, Nat.reduceEqDiff, Int.reduceToNat, Nat.reduceSub, Nat.reduceMod, Nat.reduceDiv, indexK.aggOf, Int.reducePow, Int.reduceLE, Int.reduceNeg, Int.reduceLT, Int.reduceBEq, Int.reduceBNe, Int.reduceEq, ownA, nilA, Try.facts, h5, h6, hb1, hlj, ho]
          rw [hfin]
          exact ⟨by rw [bytesV, hlj], Sub.set_new hk⟩
end Go.Proofs.Ytmgbcjnhmgfhkaa
