/-
  The walks of the suite layer: a term's key; the document's comparison.
  Conditions: none. Lemmas only.
-/
import Derived.Test.YtmgbcjnhmgfhkaaSuiB
set_option linter.all false
set_option linter.unusedSimpArgs false
set_option linter.unusedVariables false
namespace Go.Proofs.Ytmgbcjnhmgfhkaa
open Go Go.Abs Go.Proofs

/-- a term as one text -/
def keyP (ps : List (List UInt8)) : List UInt8 := ps.flatMap fun p => lowL 8 p.length ++ p
def keyT (t : Term) : List UInt8 := t.kind :: keyP t.parts
theorem keyP_take {ls : List (List UInt8)} {i : Nat} (h : i < ls.length) : keyP (ls.take (i + 1)) = keyP (ls.take i) ++ (lowL 8 ls[i].length ++ ls[i]) := by
  rw [List.take_succ_eq_append_getElem h, keyP, List.flatMap_append, List.flatMap_singleton]; rfl
theorem keyP_length (ls : List (List UInt8)) : (keyP ls).length = 8 * ls.length + ls.flatten.length := by
  induction ls with
  | nil => rfl
  | cons p r ih =>
    have : keyP (p :: r) = lowL 8 p.length ++ p ++ keyP r := rfl
    rw [this, List.length_append, List.length_append, lowL_length, ih]; simp; omega

theorem key_pure (t : Term) (h : okT t) : APure Try.prog 49 [termV t] (strV (keyT t)) := by
  obtain ⟨kd, ps⟩ := t
  have h1 : ps.length ≤ 1000000 := h.2.1
  have h2 : ps.flatten.length ≤ 1000000000000 := h.2.2
  refine apure_of_cwp (c := ⟨Try.prog, 26, [(1000000, [1])], [8], []⟩) (rs := [ResultVar.tmp 2]) Try.mixed Try.func49 rfl rfl rfl (Nat.le_of_ble_eq_true rfl) (by kernel_rfl) fun H => ?_
  simp (disch := omega) only [↓runPre, runPost, fieldO, ixA, cutA, lenA, aggA, rowA, appA, mkA, indA, bnd, srcA, sameOp, funcA, cvO, partA, aggD, ↓PostP, resV, resAll, resOne, resVF, resAllF, resOneF, fitsAll, fitsR, fits, frz, Post, Nat.reduceBEq, Nat.reduceLT, reduceCtorEq, ↓reduceIte, initS, AV.cellsOf, AV.fine, AV.one, repA, Nat.reduceMul, Nat.reduceAdd, Nat.reduceLeDiff, Nat.reduceEqDiff, Int.reduceToNat, Nat.reduceSub, Nat.reduceMod, Nat.reduceDiv, indexK.aggOf, Int.reducePow, Int.reduceLE, Int.reduceNeg, Int.reduceLT, Int.reduceBEq, Int.reduceBNe, Int.reduceEq, ownA, nilA, Try.facts]
  intro k hk0 hk k1 hk10 hk1
  simp (disch := omega) only [↓runPre, runPost, fieldO, ixA, cutA, lenA, aggA, rowA, appA, mkA, indA, bnd, srcA, sameOp, funcA, cvO, partA, aggD, ↓PostP, resV, resAll, resOne, resVF, resAllF, resOneF, fitsAll, fitsR, fits, frz, Post, Nat.reduceBEq, Nat.reduceLT, reduceCtorEq, ↓reduceIte, initS, AV.cellsOf, AV.fine, AV.one, repA, Nat.reduceMul, Nat.reduceAdd, Nat.reduceLeDiff, Nat.reduceEqDiff, Int.reduceToNat, Nat.reduceSub, Nat.reduceMod, Nat.reduceDiv, indexK.aggOf, Int.reducePow, Int.reduceLE, Int.reduceNeg, Int.reduceLT, Int.reduceBEq, Int.reduceBNe, Int.reduceEq, ownA, nilA, Try.facts, kill_box hk]
  rw [kill_box hk] at hk1
  refine loop_t (c := ⟨Try.prog, 26, [(1000000, [1])], [8], []⟩) Try.mixed (by kernel_rfl) (fun m σ H' => ∃ i acc, i + m = ps.length ∧ acc = kd :: keyP (ps.take i) ∧ σ 10 = rowsV ps ∧ σ 11 = .sc (.int .i64 ps.length) ∧ σ 12 = .sc (.int .i64 i) ∧ ∃ k o, k ≠ 0 ∧ H k = none ∧ H' = H.set k o ∧ TokO 5 1 o acc.length ∧ σ 3 = .imm k (encB acc) acc.length) ps.length ?_ ?_
  · refine ⟨0, _, by omega, rfl, ?_⟩
    simp (disch := omega) only [↓runPre, runPost, fieldO, ixA, cutA, lenA, aggA, rowA, appA, mkA, indA, bnd, srcA, sameOp, funcA, cvO, partA, aggD, ↓PostP, resV, resAll, resOne, resVF, resAllF, resOneF, fitsAll, fitsR, fits, frz, Post, Nat.reduceBEq, Nat.reduceLT, reduceCtorEq, ↓reduceIte, initS, AV.cellsOf, AV.fine, AV.one, repA, Nat.reduceMul, Nat.reduceAdd, Nat.reduceLeDiff, Nat.reduceEqDiff, Int.reduceToNat, Nat.reduceSub, Nat.reduceMod, Nat.reduceDiv, indexK.aggOf, Int.reducePow, Int.reduceLE, Int.reduceNeg, Int.reduceLT, Int.reduceBEq, Int.reduceBNe, Int.reduceEq, ownA, nilA, Try.facts, kill_box hk]
    exact ⟨k1, _, hk10, hk1, rfl, .inl rfl, rfl⟩
  · rintro m σ H' ⟨i, acc, hi, hacc, h10, h11, h12, k, o, hk0, hk, rfl, ho, h3⟩
    have hal : acc.length = 1 + (8 * i + (ps.take i).flatten.length) := by rw [hacc, List.length_cons, keyP_length, List.length_take, Nat.min_eq_left (by omega)]; omega
    have hfl := flat_le (ls := ps) i
    by_cases hlt : i < ps.length
    · have hb1 : decide ((i : Int) < (ps.length : Int)) = true := by simp; omega
      have g1 := getR hlt
      have hz := keyP_take hlt
      have hpl := flat_mem (List.getElem_mem hlt)
      have he := eight_pure ps[i].length (by omega)
      have hel := lowL_length 8 ps[i].length
      generalize ps[i] = p at *
      generalize lowL 8 p.length = E at *
      simp (disch := omega) only [↓runPre, runPost, fieldO, ixA, cutA, lenA, aggA, rowA, appA, mkA, indA, bnd, srcA, sameOp, funcA, cvO, partA, aggD, ↓PostP, resV, resAll, resOne, resVF, resAllF, resOneF, fitsAll, fitsR, fits, frz, Post, Nat.reduceBEq, Nat.reduceLT, reduceCtorEq, ↓reduceIte, initS, AV.cellsOf, AV.fine, AV.one, repA, Nat.reduceMul, Nat.reduceAdd, Nat.reduceLeDiff, Nat.reduceEqDiff, Int.reduceToNat, Nat.reduceSub, Nat.reduceMod, Nat.reduceDiv, indexK.aggOf, Int.reducePow, Int.reduceLE, Int.reduceNeg, Int.reduceLT, Int.reduceBEq, Int.reduceBNe, Int.reduceEq, ownA, nilA, Try.facts, h3, h10, h11, h12, hb1, g1, ho]
      first | refine CallK.p (he) ?_ | refine CallP.i (he) ?_
      simp (disch := omega) only [↓runPre, runPost, fieldO, ixA, cutA, lenA, aggA, rowA, appA, mkA, indA, bnd, srcA, sameOp, funcA, cvO, partA, aggD, ↓PostP, resV, resAll, resOne, resVF, resAllF, resOneF, fitsAll, fitsR, fits, frz, Post, Nat.reduceBEq, Nat.reduceLT, reduceCtorEq, ↓reduceIte, initS, AV.cellsOf, AV.fine, AV.one, repA, Nat.reduceMul, Nat.reduceAdd, Nat.reduceLeDiff, Nat.reduceEqDiff, Int.reduceToNat, Nat.reduceSub, Nat.reduceMod, Nat.reduceDiv, indexK.aggOf, Int.reducePow, Int.reduceLE, Int.reduceNeg, Int.reduceLT, Int.reduceBEq, Int.reduceBNe, Int.reduceEq, ownA, nilA, Try.facts, h3, h10, h11, h12, hb1, g1, ho, hel]
      intro k2 o2 hk20 hk2 ho2
      replace hk2 := subset_set hk2
      have hap : encB acc ++ encB E ++ encB p = encB (acc ++ (E ++ p)) := by rw [encB_append, encB_append, List.append_assoc]
      simp (disch := omega) only [↓runPre, runPost, fieldO, ixA, cutA, lenA, aggA, rowA, appA, mkA, indA, bnd, srcA, sameOp, funcA, cvO, partA, aggD, ↓PostP, resV, resAll, resOne, resVF, resAllF, resOneF, fitsAll, fitsR, fits, frz, Post, Nat.reduceBEq, Nat.reduceLT, reduceCtorEq, ↓reduceIte, initS, AV.cellsOf, AV.fine, AV.one, repA, Nat.reduceMul, Nat.reduceAdd, Nat.reduceLeDiff, Nat.reduceEqDiff, Int.reduceToNat, Nat.reduceSub, Nat.reduceMod, Nat.reduceDiv, indexK.aggOf, Int.reducePow, Int.reduceLE, Int.reduceNeg, Int.reduceLT, Int.reduceBEq, Int.reduceBNe, Int.reduceEq, ownA, nilA, Try.facts, h3, h10, h11, h12, hb1, g1, ho2, hel, hap]
      intro k3 o3 hk30 hk3 ho3
      have hzz : acc ++ (E ++ p) = kd :: keyP (ps.take (i + 1)) := by rw [hz, hacc]; rfl
      have hll : (acc ++ (E ++ p)).length = acc.length + 8 + p.length := by rw [List.length_append, List.length_append, hel]; omega
      have hll' : acc.length + (8 + p.length) = acc.length + 8 + p.length := by omega
      try rw [hll'] at ho3
      exact ⟨m - 1, by omega, i + 1, acc ++ (E ++ p), by omega, hzz, rfl, k3, o3, hk30, subset_set hk3, rfl, by rw [hll]; exact ho3, by rw [hll]⟩
    · have hb1 : decide ((i : Int) < (ps.length : Int)) = false := by simp; omega
      obtain rfl : i = ps.length := by omega
      rw [List.take_length] at hacc
      simp (disch := omega) only [↓runPre, runPost, fieldO, ixA, cutA, lenA, aggA, rowA, appA, mkA, indA, bnd, srcA, sameOp, funcA, cvO, partA, aggD, ↓PostP, resV, resAll, resOne, resVF, resAllF, resOneF, fitsAll, fitsR, fits, frz, Post, Nat.reduceBEq, Nat.reduceLT, reduceCtorEq, ↓reduceIte, initS, AV.cellsOf, AV.fine, AV.one, repA, Nat.reduceMul, Nat.reduceAdd, Nat.reduceLeDiff, Nat.reduceEqDiff, Int.reduceToNat, Nat.reduceSub, Nat.reduceMod, Nat.reduceDiv, indexK.aggOf, Int.reducePow, Int.reduceLE, Int.reduceNeg, Int.reduceLT, Int.reduceBEq, Int.reduceBNe, Int.reduceEq, ownA, nilA, Try.facts, h3, h10, h11, h12, hb1]
      rw [hacc]
      exact ⟨rfl, Sub.set_new hk⟩

/-- the document's comparison -/
theorem same_pure (a b : Term) (ha : okT a) (hb : okT b) : APure Try.prog 52 [termV a, termV b] (.sc (.bool (decide (a = b)))) := by
  obtain ⟨k1, p1⟩ := a
  obtain ⟨k2, p2⟩ := b
  have h1 : p1.length ≤ 1000000 := ha.2.1
  have h2 : p2.length ≤ 1000000 := hb.2.1
  refine apure_of_cwp (c := ⟨Try.prog, 40, [(6, [0, 1, 0, 0, 1, 0, 0, 1, 0, 0, 1, 0, 0]), (1000000, [3, 2])], [], []⟩) (rs := [ResultVar.tmp 4]) Try.mixed Try.func52 rfl rfl rfl (Nat.le_of_ble_eq_true rfl) (by kernel_rfl) fun H => ?_
  by_cases hk : k1 = k2
  · have hkk := hk
    have b1 : ((k1.toNat : Int) != (k2.toNat : Int)) = false := by simp [hk]
    by_cases hl : p1.length = p2.length
    · have b2 : ((p1.length : Int) != (p2.length : Int)) = false := by simp [hl]
      simp (disch := omega) only [↓runPre, runPost, fieldO, ixA, cutA, lenA, aggA, rowA, appA, mkA, indA, bnd, srcA, sameOp, funcA, cvO, partA, aggD, ↓PostP, resV, resAll, resOne, resVF, resAllF, resOneF, fitsAll, fitsR, fits, frz, Post, Nat.reduceBEq, Nat.reduceLT, reduceCtorEq, ↓reduceIte, initS, AV.cellsOf, AV.fine, AV.one, repA, Nat.reduceMul, Nat.reduceAdd, Nat.reduceLeDiff, Nat.reduceEqDiff, Int.reduceToNat, Nat.reduceSub, Nat.reduceMod, Nat.reduceDiv, indexK.aggOf, Int.reducePow, Int.reduceLE, Int.reduceNeg, Int.reduceLT, Int.reduceBEq, Int.reduceBNe, Int.reduceEq, ownA, nilA, Try.facts]
      intro k hk0 hk k' hk0' hk'
      simp (disch := omega) only [↓runPre, runPost, fieldO, ixA, cutA, lenA, aggA, rowA, appA, mkA, indA, bnd, srcA, sameOp, funcA, cvO, partA, aggD, ↓PostP, resV, resAll, resOne, resVF, resAllF, resOneF, fitsAll, fitsR, fits, frz, Post, Nat.reduceBEq, Nat.reduceLT, reduceCtorEq, ↓reduceIte, initS, AV.cellsOf, AV.fine, AV.one, repA, Nat.reduceMul, Nat.reduceAdd, Nat.reduceLeDiff, Nat.reduceEqDiff, Int.reduceToNat, Nat.reduceSub, Nat.reduceMod, Nat.reduceDiv, indexK.aggOf, Int.reducePow, Int.reduceLE, Int.reduceNeg, Int.reduceLT, Int.reduceBEq, Int.reduceBNe, Int.reduceEq, ownA, nilA, Try.facts, b1, b2, kill_box hk, kill_box hk']
      refine loop_t (c := ⟨Try.prog, 40, [(6, [0, 1, 0, 0, 1, 0, 0, 1, 0, 0, 1, 0, 0]), (1000000, [3, 2])], [], []⟩) Try.mixed (by kernel_rfl) (fun m σ H' => H' = H ∧ ∃ i, i + m = p1.length ∧ p1.take i = p2.take i ∧ σ 2 = .ip [.sc (.int .u8 k1.toNat), rowsV p1] 0 ∧ σ 3 = .ip [.sc (.int .u8 k2.toNat), rowsV p2] 0 ∧ σ 5 = .sc (.int .i64 i)) p1.length ?_ ?_
      · refine ⟨rfl, 0, by omega, rfl, ?_⟩
        simp (disch := omega) only [↓runPre, runPost, fieldO, ixA, cutA, lenA, aggA, rowA, appA, mkA, indA, bnd, srcA, sameOp, funcA, cvO, partA, aggD, ↓PostP, resV, resAll, resOne, resVF, resAllF, resOneF, fitsAll, fitsR, fits, frz, Post, Nat.reduceBEq, Nat.reduceLT, reduceCtorEq, ↓reduceIte, initS, AV.cellsOf, AV.fine, AV.one, repA, Nat.reduceMul, Nat.reduceAdd, Nat.reduceLeDiff, Nat.reduceEqDiff, Int.reduceToNat, Nat.reduceSub, Nat.reduceMod, Nat.reduceDiv, indexK.aggOf, Int.reducePow, Int.reduceLE, Int.reduceNeg, Int.reduceLT, Int.reduceBEq, Int.reduceBNe, Int.reduceEq, ownA, nilA, Try.facts]
      · rintro m σ H' ⟨rfl, i, hi, ht, h2, h3, h5⟩
        by_cases hlt : i < p1.length
        · have hb1 : decide ((i : Int) < (p1.length : Int)) = true := by simp; omega
          have g1 := getR hlt
          have g2 := getR (ls := p2) (i := i) (by omega)
          by_cases he : p1[i] = p2[i]
          · have hb2 : (p1[i] == p2[i]) = true := by simpa using he
            simp (disch := omega) only [↓runPre, runPost, fieldO, ixA, cutA, lenA, aggA, rowA, appA, mkA, indA, bnd, srcA, sameOp, funcA, cvO, partA, aggD, ↓PostP, resV, resAll, resOne, resVF, resAllF, resOneF, fitsAll, fitsR, fits, frz, Post, Nat.reduceBEq, Nat.reduceLT, reduceCtorEq, ↓reduceIte, initS, AV.cellsOf, AV.fine, AV.one, repA, Nat.reduceMul, Nat.reduceAdd, Nat.reduceLeDiff, Nat.reduceEqDiff, Int.reduceToNat, Nat.reduceSub, Nat.reduceMod, Nat.reduceDiv, indexK.aggOf, Int.reducePow, Int.reduceLE, Int.reduceNeg, Int.reduceLT, Int.reduceBEq, Int.reduceBNe, Int.reduceEq, ownA, nilA, Try.facts, h2, h3, h5, hb1, g1, g2, hb2, baToList]
            exact ⟨m - 1, by omega, i + 1, by omega, by rw [List.take_succ_eq_append_getElem hlt, List.take_succ_eq_append_getElem (by omega), ht, he], rfl⟩
          · have hb2 : (p1[i] == p2[i]) = false := by simpa using he
            have hr : decide ((⟨k1, p1⟩ : Term) = ⟨k2, p2⟩) = false := by
              simp only [decide_eq_false_iff_not, Term.mk.injEq]
              rintro ⟨-, rfl⟩
              exact he rfl
            simp (disch := omega) only [↓runPre, runPost, fieldO, ixA, cutA, lenA, aggA, rowA, appA, mkA, indA, bnd, srcA, sameOp, funcA, cvO, partA, aggD, ↓PostP, resV, resAll, resOne, resVF, resAllF, resOneF, fitsAll, fitsR, fits, frz, Post, Nat.reduceBEq, Nat.reduceLT, reduceCtorEq, ↓reduceIte, initS, AV.cellsOf, AV.fine, AV.one, repA, Nat.reduceMul, Nat.reduceAdd, Nat.reduceLeDiff, Nat.reduceEqDiff, Int.reduceToNat, Nat.reduceSub, Nat.reduceMod, Nat.reduceDiv, indexK.aggOf, Int.reducePow, Int.reduceLE, Int.reduceNeg, Int.reduceLT, Int.reduceBEq, Int.reduceBNe, Int.reduceEq, ownA, nilA, Try.facts, h2, h3, h5, hb1, g1, g2, hb2, baToList, hr]
            exact Abs.Sub.refl _
        · have hb1 : decide ((i : Int) < (p1.length : Int)) = false := by simp; omega
          have hr : decide ((⟨k1, p1⟩ : Term) = ⟨k2, p2⟩) = true := by
            obtain rfl : i = p1.length := by omega
            rw [List.take_length, hl, List.take_length] at ht
            simp [hkk, ht]
          simp (disch := omega) only [↓runPre, runPost, fieldO, ixA, cutA, lenA, aggA, rowA, appA, mkA, indA, bnd, srcA, sameOp, funcA, cvO, partA, aggD, ↓PostP, resV, resAll, resOne, resVF, resAllF, resOneF, fitsAll, fitsR, fits, frz, Post, Nat.reduceBEq, Nat.reduceLT, reduceCtorEq, ↓reduceIte, initS, AV.cellsOf, AV.fine, AV.one, repA, Nat.reduceMul, Nat.reduceAdd, Nat.reduceLeDiff, Nat.reduceEqDiff, Int.reduceToNat, Nat.reduceSub, Nat.reduceMod, Nat.reduceDiv, indexK.aggOf, Int.reducePow, Int.reduceLE, Int.reduceNeg, Int.reduceLT, Int.reduceBEq, Int.reduceBNe, Int.reduceEq, ownA, nilA, Try.facts, h2, h3, h5, hb1, hr]
          exact Abs.Sub.refl _
    · have b2 : ((p1.length : Int) != (p2.length : Int)) = true := by simp; omega
      simp (disch := omega) only [↓runPre, runPost, fieldO, ixA, cutA, lenA, aggA, rowA, appA, mkA, indA, bnd, srcA, sameOp, funcA, cvO, partA, aggD, ↓PostP, resV, resAll, resOne, resVF, resAllF, resOneF, fitsAll, fitsR, fits, frz, Post, Nat.reduceBEq, Nat.reduceLT, reduceCtorEq, ↓reduceIte, initS, AV.cellsOf, AV.fine, AV.one, repA, Nat.reduceMul, Nat.reduceAdd, Nat.reduceLeDiff, Nat.reduceEqDiff, Int.reduceToNat, Nat.reduceSub, Nat.reduceMod, Nat.reduceDiv, indexK.aggOf, Int.reducePow, Int.reduceLE, Int.reduceNeg, Int.reduceLT, Int.reduceBEq, Int.reduceBNe, Int.reduceEq, ownA, nilA, Try.facts]
      intro k hk0 hk k' hk0' hk'
      have hr : decide ((⟨k1, p1⟩ : Term) = ⟨k2, p2⟩) = false := by
        simp only [decide_eq_false_iff_not, Term.mk.injEq]
        rintro ⟨-, rfl⟩
        exact hl rfl
      simp (disch := omega) only [↓runPre, runPost, fieldO, ixA, cutA, lenA, aggA, rowA, appA, mkA, indA, bnd, srcA, sameOp, funcA, cvO, partA, aggD, ↓PostP, resV, resAll, resOne, resVF, resAllF, resOneF, fitsAll, fitsR, fits, frz, Post, Nat.reduceBEq, Nat.reduceLT, reduceCtorEq, ↓reduceIte, initS, AV.cellsOf, AV.fine, AV.one, repA, Nat.reduceMul, Nat.reduceAdd, Nat.reduceLeDiff, Nat.reduceEqDiff, Int.reduceToNat, Nat.reduceSub, Nat.reduceMod, Nat.reduceDiv, indexK.aggOf, Int.reducePow, Int.reduceLE, Int.reduceNeg, Int.reduceLT, Int.reduceBEq, Int.reduceBNe, Int.reduceEq, ownA, nilA, Try.facts, b1, b2, kill_box hk, kill_box hk', hr]
      exact Abs.Sub.refl _
  · have b1 : ((k1.toNat : Int) != (k2.toNat : Int)) = true := by
      simp only [bne_iff_ne, ne_eq]; exact fun e => hk (UInt8.toNat_inj.1 (by omega))
    have hne := hk
    simp (disch := omega) only [↓runPre, runPost, fieldO, ixA, cutA, lenA, aggA, rowA, appA, mkA, indA, bnd, srcA, sameOp, funcA, cvO, partA, aggD, ↓PostP, resV, resAll, resOne, resVF, resAllF, resOneF, fitsAll, fitsR, fits, frz, Post, Nat.reduceBEq, Nat.reduceLT, reduceCtorEq, ↓reduceIte, initS, AV.cellsOf, AV.fine, AV.one, repA, Nat.reduceMul, Nat.reduceAdd, Nat.reduceLeDiff, Nat.reduceEqDiff, Int.reduceToNat, Nat.reduceSub, Nat.reduceMod, Nat.reduceDiv, indexK.aggOf, Int.reducePow, Int.reduceLE, Int.reduceNeg, Int.reduceLT, Int.reduceBEq, Int.reduceBNe, Int.reduceEq, ownA, nilA, Try.facts]
    intro k hk0 hk k' hk0' hk'
    have hr : decide ((⟨k1, p1⟩ : Term) = ⟨k2, p2⟩) = false := by
      simp only [decide_eq_false_iff_not, Term.mk.injEq]
      exact fun e => hne e.1
    simp (disch := omega) only [↓runPre, runPost, fieldO, ixA, cutA, lenA, aggA, rowA, appA, mkA, indA, bnd, srcA, sameOp, funcA, cvO, partA, aggD, ↓PostP, resV, resAll, resOne, resVF, resAllF, resOneF, fitsAll, fitsR, fits, frz, Post, Nat.reduceBEq, Nat.reduceLT, reduceCtorEq, ↓reduceIte, initS, AV.cellsOf, AV.fine, AV.one, repA, Nat.reduceMul, Nat.reduceAdd, Nat.reduceLeDiff, Nat.reduceEqDiff, Int.reduceToNat, Nat.reduceSub, Nat.reduceMod, Nat.reduceDiv, indexK.aggOf, Int.reducePow, Int.reduceLE, Int.reduceNeg, Int.reduceLT, Int.reduceBEq, Int.reduceBNe, Int.reduceEq, ownA, nilA, Try.facts, b1, kill_box hk, kill_box hk', hr]
    exact Abs.Sub.refl _
end Go.Proofs.Ytmgbcjnhmgfhkaa
