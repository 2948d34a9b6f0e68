/-
  The walks of the references' Hex, worth, Unhex, Number, Low, Bytes, Pick.
  Conditions: none. Lemmas only.
-/
import Derived.Test.YtjglpngjpiflhaaOctF
set_option linter.all false
set_option linter.unusedSimpArgs false
set_option linter.unusedVariables false
namespace Go.Proofs.Ytjglpngjpiflhaa
open Go Go.Abs Go.Proofs

theorem all_nat : ∀ n, n < 16 → ([48, 49, 50, 51, 52, 53, 54, 55, 56, 57, 97, 98, 99, 100, 101, 102] : List UInt8).getD n 0 = dg (UInt8.ofNat n) := by decide
theorem all_get (n : UInt8) (h : n.toNat < 16) : ([48, 49, 50, 51, 52, 53, 54, 55, 56, 57, 97, 98, 99, 100, 101, 102] : List UInt8).getD n.toNat 0 = dg n := by
  rw [all_nat _ h]; simp
theorem wd_dg : ∀ c, c < 256 → ∀ n, n < 16 → (dg (UInt8.ofNat n) == UInt8.ofNat c) = (wd (UInt8.ofNat c) == UInt8.ofNat n) := by decide +kernel
theorem dg_eq (c : UInt8) (n : Nat) (h : n < 16) : (dg (UInt8.ofNat n) == c) = ((wd c).toNat == n) := by
  have := wd_dg c.toNat c.toNat_lt n h
  rw [UInt8.ofNat_toNat] at this
  rw [this, Bool.eq_iff_iff]
  simp only [beq_iff_eq]
  constructor
  · intro e; rw [e, UInt8.toNat_ofNat']; omega
  · intro e; apply UInt8.toNat_inj.1; rw [e, UInt8.toNat_ofNat']; omega

theorem rhex_pure (xs : List UInt8) (h : 2 * xs.length ≤ 140737488355328) : APure Try.prog 19 [bytesV xs] (strV (hexL xs)) := by
  refine apure_of_cwp (c := ⟨Try.prog, 28, [(5, [0, 0, 0, 0, 1, 0, 0, 0, 0, 0, 1, 0, 0, 0, 2, 0])], []⟩) (rs := [ResultVar.tmp 2]) Try.mixed Try.func19 rfl rfl rfl (Nat.le_of_ble_eq_true rfl) (by kernel_rfl) fun H => ?_
  simp (disch := omega) only [↓runPre, runPost, fieldO, ixA, cutA, lenA, aggA, rowA, appA, mkA, indA, bnd, srcA, sameOp, funcA, partA, aggD, ↓PostP, resV, resAll, resOne, resVF, resAllF, resOneF, fitsAll, fitsR, fits, frz, Post, Nat.reduceBEq, Nat.reduceLT, reduceCtorEq, ↓reduceIte, initS, AV.cellsOf, AV.fine, AV.one, repA, Nat.reduceMul, Nat.reduceAdd, Nat.reduceLeDiff, Nat.reduceEqDiff, Int.reduceToNat, Nat.reduceSub, Nat.reduceMod, Nat.reduceDiv, indexK.aggOf, Int.reducePow, Int.reduceLE, Int.reduceNeg, Int.reduceLT, Int.reduceBEq, Int.reduceBNe, Int.reduceEq, ownA, Try.facts]
  refine tok_t 3 (by simp (disch := omega) only [↓runPre, runPost, fieldO, ixA, cutA, lenA, aggA, rowA, appA, mkA, indA, bnd, srcA, sameOp, funcA, partA, aggD, ↓PostP, resV, resAll, resOne, resVF, resAllF, resOneF, fitsAll, fitsR, fits, frz, Post, Nat.reduceBEq, Nat.reduceLT, reduceCtorEq, ↓reduceIte, initS, AV.cellsOf, AV.fine, AV.one, repA, Nat.reduceMul, Nat.reduceAdd, Nat.reduceLeDiff, Nat.reduceEqDiff, Int.reduceToNat, Nat.reduceSub, Nat.reduceMod, Nat.reduceDiv, indexK.aggOf, Int.reducePow, Int.reduceLE, Int.reduceNeg, Int.reduceLT, Int.reduceBEq, Int.reduceBNe, Int.reduceEq, ownA, Try.facts]) fun k hk0 hk => ?_
  refine loop_t (c := ⟨Try.prog, 28, [(5, [0, 0, 0, 0, 1, 0, 0, 0, 0, 0, 1, 0, 0, 0, 2, 0])], []⟩) Try.mixed (by kernel_rfl) (fun m σ H' => ∃ i, i + m = xs.length ∧ σ 0 = bytesV xs ∧ σ 4 = .sc (.int .i64 i) ∧ ∃ k o, k ≠ 0 ∧ H k = none ∧ H' = H.set k o ∧ TokO 5 1 o (2 * i) ∧ σ 3 = .imm k (encB (hexL (xs.take i))) (2 * i)) xs.length ?_ ?_
  · refine ⟨0, by omega, ?_⟩
    simp (disch := omega) only [↓runPre, runPost, fieldO, ixA, cutA, lenA, aggA, rowA, appA, mkA, indA, bnd, srcA, sameOp, funcA, partA, aggD, ↓PostP, resV, resAll, resOne, resVF, resAllF, resOneF, fitsAll, fitsR, fits, frz, Post, Nat.reduceBEq, Nat.reduceLT, reduceCtorEq, ↓reduceIte, initS, AV.cellsOf, AV.fine, AV.one, repA, Nat.reduceMul, Nat.reduceAdd, Nat.reduceLeDiff, Nat.reduceEqDiff, Int.reduceToNat, Nat.reduceSub, Nat.reduceMod, Nat.reduceDiv, indexK.aggOf, Int.reducePow, Int.reduceLE, Int.reduceNeg, Int.reduceLT, Int.reduceBEq, Int.reduceBNe, Int.reduceEq, ownA, Try.facts]
    exact ⟨k, _, hk0, hk, rfl, .inr ⟨rfl, rfl⟩, by simp [hexL, encB]⟩
  · rintro m σ H' ⟨i, hi, h0, h4, k, o, hk0, hk, rfl, ho, h3⟩
    by_cases hlt : i < xs.length
    · have hb1 : decide ((i : Int) < (xs.length : Int)) = true := by simp; omega
      have g1 := getB hlt
      have l1 : (xs[i] / 16).toNat < 16 := by have := xs[i].toNat_lt; rw [UInt8.toNat_div]; simp; omega
      have l2 : (xs[i] % 16).toNat < 16 := by have := xs[i].toNat_lt; rw [UInt8.toNat_mod]; simp; omega
      have d1 := all_get _ l1
      have d2 := all_get _ l2
      have hz := hexL_take xs i hlt
      have hzl : (hexL (xs.take i)).length = 2 * i := by rw [hexL_length]; simp; omega
      generalize hexL (xs.take i) = z at *
      simp (disch := omega) only [↓runPre, runPost, fieldO, ixA, cutA, lenA, aggA, rowA, appA, mkA, indA, bnd, srcA, sameOp, funcA, partA, aggD, ↓PostP, resV, resAll, resOne, resVF, resAllF, resOneF, fitsAll, fitsR, fits, frz, Post, Nat.reduceBEq, Nat.reduceLT, reduceCtorEq, ↓reduceIte, initS, AV.cellsOf, AV.fine, AV.one, repA, Nat.reduceMul, Nat.reduceAdd, Nat.reduceLeDiff, Nat.reduceEqDiff, Int.reduceToNat, Nat.reduceSub, Nat.reduceMod, Nat.reduceDiv, indexK.aggOf, Int.reducePow, Int.reduceLE, Int.reduceNeg, Int.reduceLT, Int.reduceBEq, Int.reduceBNe, Int.reduceEq, ownA, Try.facts, h0, h3, h4, hb1, g1, d1, d2, ho, hzl]
      intro k' o' hk0' hk' ho'
      refine ⟨m - 1, by omega, i + 1, by omega, rfl, k', o', hk0', subset_set hk', rfl, ho', ?_⟩
      rw [hz]; rfl
    · have hb1 : decide ((i : Int) < (xs.length : Int)) = false := by simp; omega
      obtain rfl : m = 0 := by omega
      obtain rfl : i = xs.length := by omega
      rw [List.take_length] at h3
      have hzl := hexL_length xs
      simp (disch := omega) only [↓runPre, runPost, fieldO, ixA, cutA, lenA, aggA, rowA, appA, mkA, indA, bnd, srcA, sameOp, funcA, partA, aggD, ↓PostP, resV, resAll, resOne, resVF, resAllF, resOneF, fitsAll, fitsR, fits, frz, Post, Nat.reduceBEq, Nat.reduceLT, reduceCtorEq, ↓reduceIte, initS, AV.cellsOf, AV.fine, AV.one, repA, Nat.reduceMul, Nat.reduceAdd, Nat.reduceLeDiff, Nat.reduceEqDiff, Int.reduceToNat, Nat.reduceSub, Nat.reduceMod, Nat.reduceDiv, indexK.aggOf, Int.reducePow, Int.reduceLE, Int.reduceNeg, Int.reduceLT, Int.reduceBEq, Int.reduceBNe, Int.reduceEq, ownA, Try.facts, h0, h3, h4, hb1, hzl]
      exact Sub.set_new hk

/-- of which byte these are the digits -/
def worthN (a b : UInt8) : Nat := if (wd a).toNat < 16 ∧ (wd b).toNat < 16 then 16 * (wd a).toNat + (wd b).toNat else 256

theorem worth_pure (a b : UInt8) : APure Try.prog 31 [.sc (.int .u8 a.toNat), .sc (.int .u8 b.toNat)] (.sc (.int .i64 (worthN a b))) := by
  refine apure_of_cwp (c := ⟨Try.prog, 23, [], []⟩) (rs := [ResultVar.tmp 4]) Try.mixed Try.func31 rfl rfl rfl (Nat.le_of_ble_eq_true rfl) (by kernel_rfl) fun H => ?_
  simp (disch := omega) only [↓runPre, runPost, fieldO, ixA, cutA, lenA, aggA, rowA, appA, mkA, indA, bnd, srcA, sameOp, funcA, partA, aggD, ↓PostP, resV, resAll, resOne, resVF, resAllF, resOneF, fitsAll, fitsR, fits, frz, Post, Nat.reduceBEq, Nat.reduceLT, reduceCtorEq, ↓reduceIte, initS, AV.cellsOf, AV.fine, AV.one, repA, Nat.reduceMul, Nat.reduceAdd, Nat.reduceLeDiff, Nat.reduceEqDiff, Int.reduceToNat, Nat.reduceSub, Nat.reduceMod, Nat.reduceDiv, indexK.aggOf, Int.reducePow, Int.reduceLE, Int.reduceNeg, Int.reduceLT, Int.reduceBEq, Int.reduceBNe, Int.reduceEq, ownA, Try.facts]
  refine loop_t (c := ⟨Try.prog, 23, [], []⟩) Try.mixed (by kernel_rfl) (fun m σ H' => H' = H ∧ ∃ n, n + m = 256 ∧ (∀ x, x < n → ¬ ((wd a).toNat = x / 16 ∧ (wd b).toNat = x % 16)) ∧ σ 0 = .sc (.int .u8 a.toNat) ∧ σ 1 = .sc (.int .u8 b.toNat) ∧ σ 5 = .sc (.int .i64 n)) 256 ?_ ?_
  · refine ⟨rfl, 0, by omega, fun x hx => absurd hx (by omega), ?_⟩
    simp (disch := omega) only [↓runPre, runPost, fieldO, ixA, cutA, lenA, aggA, rowA, appA, mkA, indA, bnd, srcA, sameOp, funcA, partA, aggD, ↓PostP, resV, resAll, resOne, resVF, resAllF, resOneF, fitsAll, fitsR, fits, frz, Post, Nat.reduceBEq, Nat.reduceLT, reduceCtorEq, ↓reduceIte, initS, AV.cellsOf, AV.fine, AV.one, repA, Nat.reduceMul, Nat.reduceAdd, Nat.reduceLeDiff, Nat.reduceEqDiff, Int.reduceToNat, Nat.reduceSub, Nat.reduceMod, Nat.reduceDiv, indexK.aggOf, Int.reducePow, Int.reduceLE, Int.reduceNeg, Int.reduceLT, Int.reduceBEq, Int.reduceBNe, Int.reduceEq, ownA, Try.facts]
  · rintro m σ H' ⟨rfl, n, hn, hno, h0, h1, h5⟩
    by_cases hlt : n < 256
    · have hb1 : decide ((n : Int) < 256) = true := by simp; omega
      have d1 := all_nat (n / 16) (by omega)
      have d2 := all_nat (n % 16) (by omega)
      have e1 := dg_eq a (n / 16) (by omega)
      have e2 := dg_eq b (n % 16) (by omega)
      have k1 : (((dg (UInt8.ofNat (n / 16))).toNat : Int) == (a.toNat : Int)) = ((wd a).toNat == n / 16) := by rw [n8eq, e1]
      have k2 : (((dg (UInt8.ofNat (n % 16))).toNat : Int) == (b.toNat : Int)) = ((wd b).toNat == n % 16) := by rw [n8eq, e2]
      have hno2 : ¬ ((wd a).toNat = n / 16 ∧ (wd b).toNat = n % 16) → ∀ x, x < n + 1 → ¬ ((wd a).toNat = x / 16 ∧ (wd b).toNat = x % 16) := by
        intro hn0 x hx
        rcases Nat.lt_or_ge x n with h | h
        · exact hno x h
        · obtain rfl : x = n := by omega
          exact hn0
      by_cases c1 : (wd a).toNat = n / 16
      · have b1 : ((wd a).toNat == n / 16) = true := by simpa using c1
        rw [b1] at k1
        by_cases c2 : (wd b).toNat = n % 16
        · have b2 : ((wd b).toNat == n % 16) = true := by simpa using c2
          rw [b2] at k2
          simp (disch := omega) only [↓runPre, runPost, fieldO, ixA, cutA, lenA, aggA, rowA, appA, mkA, indA, bnd, srcA, sameOp, funcA, partA, aggD, ↓PostP, resV, resAll, resOne, resVF, resAllF, resOneF, fitsAll, fitsR, fits, frz, Post, Nat.reduceBEq, Nat.reduceLT, reduceCtorEq, ↓reduceIte, initS, AV.cellsOf, AV.fine, AV.one, repA, Nat.reduceMul, Nat.reduceAdd, Nat.reduceLeDiff, Nat.reduceEqDiff, Int.reduceToNat, Nat.reduceSub, Nat.reduceMod, Nat.reduceDiv, indexK.aggOf, Int.reducePow, Int.reduceLE, Int.reduceNeg, Int.reduceLT, Int.reduceBEq, Int.reduceBNe, Int.reduceEq, ownA, Try.facts, h0, h1, h5, hb1, d1, d2, ↓k1, ↓k2, tmodN, tdivN, ↓wcast64]
          have : worthN a b = n := by rw [worthN, if_pos (by omega)]; omega
          rw [this]
          exact ⟨rfl, Abs.Sub.refl _⟩
        · have b2 : ((wd b).toNat == n % 16) = false := by simpa using c2
          rw [b2] at k2
          simp (disch := omega) only [↓runPre, runPost, fieldO, ixA, cutA, lenA, aggA, rowA, appA, mkA, indA, bnd, srcA, sameOp, funcA, partA, aggD, ↓PostP, resV, resAll, resOne, resVF, resAllF, resOneF, fitsAll, fitsR, fits, frz, Post, Nat.reduceBEq, Nat.reduceLT, reduceCtorEq, ↓reduceIte, initS, AV.cellsOf, AV.fine, AV.one, repA, Nat.reduceMul, Nat.reduceAdd, Nat.reduceLeDiff, Nat.reduceEqDiff, Int.reduceToNat, Nat.reduceSub, Nat.reduceMod, Nat.reduceDiv, indexK.aggOf, Int.reducePow, Int.reduceLE, Int.reduceNeg, Int.reduceLT, Int.reduceBEq, Int.reduceBNe, Int.reduceEq, ownA, Try.facts, h0, h1, h5, hb1, d1, d2, ↓k1, ↓k2, tmodN, tdivN, ↓wcast64]
          exact ⟨m - 1, by omega, n + 1, by omega, hno2 (by omega), rfl⟩
      · have b1 : ((wd a).toNat == n / 16) = false := by simpa using c1
        rw [b1] at k1
        simp (disch := omega) only [↓runPre, runPost, fieldO, ixA, cutA, lenA, aggA, rowA, appA, mkA, indA, bnd, srcA, sameOp, funcA, partA, aggD, ↓PostP, resV, resAll, resOne, resVF, resAllF, resOneF, fitsAll, fitsR, fits, frz, Post, Nat.reduceBEq, Nat.reduceLT, reduceCtorEq, ↓reduceIte, initS, AV.cellsOf, AV.fine, AV.one, repA, Nat.reduceMul, Nat.reduceAdd, Nat.reduceLeDiff, Nat.reduceEqDiff, Int.reduceToNat, Nat.reduceSub, Nat.reduceMod, Nat.reduceDiv, indexK.aggOf, Int.reducePow, Int.reduceLE, Int.reduceNeg, Int.reduceLT, Int.reduceBEq, Int.reduceBNe, Int.reduceEq, ownA, Try.facts, h0, h1, h5, hb1, d1, d2, ↓k1, ↓k2, tmodN, tdivN, ↓wcast64]
        exact ⟨m - 1, by omega, n + 1, by omega, hno2 (by omega), rfl⟩
    · have hb1 : decide ((n : Int) < 256) = false := by simp; omega
      obtain rfl : n = 256 := by omega
      simp (disch := omega) only [↓runPre, runPost, fieldO, ixA, cutA, lenA, aggA, rowA, appA, mkA, indA, bnd, srcA, sameOp, funcA, partA, aggD, ↓PostP, resV, resAll, resOne, resVF, resAllF, resOneF, fitsAll, fitsR, fits, frz, Post, Nat.reduceBEq, Nat.reduceLT, reduceCtorEq, ↓reduceIte, initS, AV.cellsOf, AV.fine, AV.one, repA, Nat.reduceMul, Nat.reduceAdd, Nat.reduceLeDiff, Nat.reduceEqDiff, Int.reduceToNat, Nat.reduceSub, Nat.reduceMod, Nat.reduceDiv, indexK.aggOf, Int.reducePow, Int.reduceLE, Int.reduceNeg, Int.reduceLT, Int.reduceBEq, Int.reduceBNe, Int.reduceEq, ownA, Try.facts, h0, h1, h5, hb1]
      have : worthN a b = 256 := by
        rw [worthN, if_neg]
        rintro ⟨ha, hb⟩
        exact hno (16 * (wd a).toNat + (wd b).toNat) (by omega) ⟨by omega, by omega⟩
      rw [this]
      exact ⟨rfl, Abs.Sub.refl _⟩

theorem byte_or (x y : UInt8) (hx : x.toNat < 16) (hy : y.toNat < 16) : UInt8.ofNat (16 * x.toNat + y.toNat) = (x * 16 ||| y) := by
  have key : ∀ a, a < 16 → ∀ b, b < 16 → UInt8.ofNat (16 * a + b) = (UInt8.ofNat a * 16 ||| UInt8.ofNat b) := by decide +kernel
  have := key _ hx _ hy
  simpa using this

set_option maxHeartbeats 1000000 in
theorem runhex_pure (l : List UInt8) (h : l.length ≤ 140737488355328) : APure Try.prog 17 [strV l] (unhexV (unhexL l)) := by
  refine apure_of_cwp (c := ⟨Try.prog, 33, [(7, [0, 0, 0, 0, 0, 0, 0, 0, 0])], []⟩) (rs := [ResultVar.tmp 2, ResultVar.tmp 3]) Try.mixed Try.func17 rfl rfl rfl (Nat.le_of_ble_eq_true rfl) (by kernel_rfl) fun H => ?_
  by_cases ho : l.length % 2 = 1
  · have hb : (((l.length % 2 : Nat) : Int) == 1) = true := by simp; omega
    simp (disch := omega) only [↓runPre, runPost, fieldO, ixA, cutA, lenA, aggA, rowA, appA, mkA, indA, bnd, srcA, sameOp, funcA, partA, aggD, ↓PostP, resV, resAll, resOne, resVF, resAllF, resOneF, fitsAll, fitsR, fits, frz, Post, Nat.reduceBEq, Nat.reduceLT, reduceCtorEq, ↓reduceIte, initS, AV.cellsOf, AV.fine, AV.one, repA, Nat.reduceMul, Nat.reduceAdd, Nat.reduceLeDiff, Nat.reduceEqDiff, Int.reduceToNat, Nat.reduceSub, Nat.reduceMod, Nat.reduceDiv, indexK.aggOf, Int.reducePow, Int.reduceLE, Int.reduceNeg, Int.reduceLT, Int.reduceBEq, Int.reduceBNe, Int.reduceEq, ownA, Try.facts, hb, tmodN, tdivN]
    rw [unhexL_odd l ho]
    exact ⟨rfl, Abs.Sub.refl _⟩
  · have hb : (((l.length % 2 : Nat) : Int) == 1) = false := by simp; omega
    simp (disch := omega) only [↓runPre, runPost, fieldO, ixA, cutA, lenA, aggA, rowA, appA, mkA, indA, bnd, srcA, sameOp, funcA, partA, aggD, ↓PostP, resV, resAll, resOne, resVF, resAllF, resOneF, fitsAll, fitsR, fits, frz, Post, Nat.reduceBEq, Nat.reduceLT, reduceCtorEq, ↓reduceIte, initS, AV.cellsOf, AV.fine, AV.one, repA, Nat.reduceMul, Nat.reduceAdd, Nat.reduceLeDiff, Nat.reduceEqDiff, Int.reduceToNat, Nat.reduceSub, Nat.reduceMod, Nat.reduceDiv, indexK.aggOf, Int.reducePow, Int.reduceLE, Int.reduceNeg, Int.reduceLT, Int.reduceBEq, Int.reduceBNe, Int.reduceEq, ownA, Try.facts, hb, tmodN, tdivN]
    refine tok_t 4 (by simp (disch := omega) only [↓runPre, runPost, fieldO, ixA, cutA, lenA, aggA, rowA, appA, mkA, indA, bnd, srcA, sameOp, funcA, partA, aggD, ↓PostP, resV, resAll, resOne, resVF, resAllF, resOneF, fitsAll, fitsR, fits, frz, Post, Nat.reduceBEq, Nat.reduceLT, reduceCtorEq, ↓reduceIte, initS, AV.cellsOf, AV.fine, AV.one, repA, Nat.reduceMul, Nat.reduceAdd, Nat.reduceLeDiff, Nat.reduceEqDiff, Int.reduceToNat, Nat.reduceSub, Nat.reduceMod, Nat.reduceDiv, indexK.aggOf, Int.reducePow, Int.reduceLE, Int.reduceNeg, Int.reduceLT, Int.reduceBEq, Int.reduceBNe, Int.reduceEq, ownA, Try.facts]) fun k hk0 hk => ?_
    refine loop_t (c := ⟨Try.prog, 33, [(7, [0, 0, 0, 0, 0, 0, 0, 0, 0])], []⟩) Try.mixed (by kernel_rfl) (fun m σ H' => ∃ i acc, i + m = l.length / 2 ∧ acc.length = i ∧ unhexL l = (unhexL (l.drop (2 * i))).map (acc ++ ·) ∧ σ 0 = strV l ∧ σ 5 = .sc (.int .i64 (2 * i : Nat)) ∧ ∃ k o, k ≠ 0 ∧ H k = none ∧ H' = H.set k o ∧ TokO 5 1 o i ∧ σ 4 = .imm k (encB acc) i) (l.length / 2) ?_ ?_
    · refine ⟨0, [], by omega, rfl, by simp, ?_⟩
      simp (disch := omega) only [↓runPre, runPost, fieldO, ixA, cutA, lenA, aggA, rowA, appA, mkA, indA, bnd, srcA, sameOp, funcA, partA, aggD, ↓PostP, resV, resAll, resOne, resVF, resAllF, resOneF, fitsAll, fitsR, fits, frz, Post, Nat.reduceBEq, Nat.reduceLT, reduceCtorEq, ↓reduceIte, initS, AV.cellsOf, AV.fine, AV.one, repA, Nat.reduceMul, Nat.reduceAdd, Nat.reduceLeDiff, Nat.reduceEqDiff, Int.reduceToNat, Nat.reduceSub, Nat.reduceMod, Nat.reduceDiv, indexK.aggOf, Int.reducePow, Int.reduceLE, Int.reduceNeg, Int.reduceLT, Int.reduceBEq, Int.reduceBNe, Int.reduceEq, ownA, Try.facts]
      exact ⟨k, _, hk0, hk, rfl, .inr ⟨rfl, rfl⟩, rfl⟩
    · rintro m σ H' ⟨i, acc, hi, hacc, hu, h0, h5, k, o, hk0, hk, rfl, hto, h4⟩
      by_cases hlt : i < l.length / 2
      · have hb1 : decide (((2 * i : Nat) : Int) < (l.length : Int)) = true := by simp; omega
        obtain ⟨a, b, r, hd⟩ : ∃ a b r, l.drop (2 * i) = a :: b :: r := by
          match hdr : l.drop (2 * i) with
          | a :: b :: r => exact ⟨a, b, r, rfl⟩
          | [a] => have := congrArg List.length hdr; simp at this; omega
          | [] => have := congrArg List.length hdr; simp at this; omega
        have ga : l.getD (2 * i) 0 = a := by
          have : (l.drop (2 * i))[0]? = some a := by rw [hd]; rfl
          simp [List.getElem?_drop] at this
          simp [List.getD, this]
        have gb : l.getD (2 * i + 1) 0 = b := by
          have : (l.drop (2 * i))[1]? = some b := by rw [hd]; rfl
          simp [List.getElem?_drop] at this
          simp [List.getD, this]
        have hr : l.drop (2 * (i + 1)) = r := by
          have : (l.drop (2 * i)).drop 2 = r := by rw [hd]; rfl
          rw [List.drop_drop] at this
          rw [← this]; congr 1
        have hu2 : unhexL (l.drop (2 * i)) = if 15 < (wd a).toNat ∨ 15 < (wd b).toNat then none else (unhexL r).map ((wd a * 16 ||| wd b) :: ·) := by rw [hd]; rfl
        simp (disch := omega) only [↓runPre, runPost, fieldO, ixA, cutA, lenA, aggA, rowA, appA, mkA, indA, bnd, srcA, sameOp, funcA, partA, aggD, ↓PostP, resV, resAll, resOne, resVF, resAllF, resOneF, fitsAll, fitsR, fits, frz, Post, Nat.reduceBEq, Nat.reduceLT, reduceCtorEq, ↓reduceIte, initS, AV.cellsOf, AV.fine, AV.one, repA, Nat.reduceMul, Nat.reduceAdd, Nat.reduceLeDiff, Nat.reduceEqDiff, Int.reduceToNat, Nat.reduceSub, Nat.reduceMod, Nat.reduceDiv, indexK.aggOf, Int.reducePow, Int.reduceLE, Int.reduceNeg, Int.reduceLT, Int.reduceBEq, Int.reduceBNe, Int.reduceEq, ownA, Try.facts, h0, h5, h4, ga, gb, hb1]
        by_cases h1 : 15 < (wd a).toNat ∨ 15 < (wd b).toNat
        · rw [if_pos h1] at hu2
          have hw : worthN a b = 256 := by rw [worthN, if_neg (by omega)]
          first | refine CallK.p (hw ▸ worth_pure a b) ?_ | refine CallP.i (hw ▸ worth_pure a b) ?_
          simp (disch := omega) only [↓runPre, runPost, fieldO, ixA, cutA, lenA, aggA, rowA, appA, mkA, indA, bnd, srcA, sameOp, funcA, partA, aggD, ↓PostP, resV, resAll, resOne, resVF, resAllF, resOneF, fitsAll, fitsR, fits, frz, Post, Nat.reduceBEq, Nat.reduceLT, reduceCtorEq, ↓reduceIte, initS, AV.cellsOf, AV.fine, AV.one, repA, Nat.reduceMul, Nat.reduceAdd, Nat.reduceLeDiff, Nat.reduceEqDiff, Int.reduceToNat, Nat.reduceSub, Nat.reduceMod, Nat.reduceDiv, indexK.aggOf, Int.reducePow, Int.reduceLE, Int.reduceNeg, Int.reduceLT, Int.reduceBEq, Int.reduceBNe, Int.reduceEq, ownA, Try.facts, h0, h5, h4]
          rw [hu, hu2]
          exact ⟨rfl, Sub.set_new hk⟩
        · rw [if_neg h1] at hu2
          have hw : worthN a b = 16 * (wd a).toNat + (wd b).toNat := by rw [worthN, if_pos (by omega)]
          have hb2 : (((16 * (wd a).toNat + (wd b).toNat : Nat) : Int) == 256) = false := by simp; omega
          have hor := byte_or (wd a) (wd b) (by omega) (by omega)
          first | refine CallK.p (hw ▸ worth_pure a b) ?_ | refine CallP.i (hw ▸ worth_pure a b) ?_
          simp (disch := omega) only [↓runPre, runPost, fieldO, ixA, cutA, lenA, aggA, rowA, appA, mkA, indA, bnd, srcA, sameOp, funcA, partA, aggD, ↓PostP, resV, resAll, resOne, resVF, resAllF, resOneF, fitsAll, fitsR, fits, frz, Post, Nat.reduceBEq, Nat.reduceLT, reduceCtorEq, ↓reduceIte, initS, AV.cellsOf, AV.fine, AV.one, repA, Nat.reduceMul, Nat.reduceAdd, Nat.reduceLeDiff, Nat.reduceEqDiff, Int.reduceToNat, Nat.reduceSub, Nat.reduceMod, Nat.reduceDiv, indexK.aggOf, Int.reducePow, Int.reduceLE, Int.reduceNeg, Int.reduceLT, Int.reduceBEq, Int.reduceBNe, Int.reduceEq, ownA, Try.facts, h0, h5, h4, hb2, ↓wcast8, hor, hto, hacc]
          intro k' o' hk0' hk' ho'
          refine ⟨m - 1, by omega, i + 1, acc ++ [wd a * 16 ||| wd b], by omega, by simp [hacc], ?_, by rw [Nat.mul_add], k', o', hk0', subset_set hk', rfl, ho', rfl⟩
          rw [hu, hu2, hr]
          cases unhexL r <;> simp
      · have hb1 : decide (((2 * i : Nat) : Int) < (l.length : Int)) = false := by simp; omega
        have hd : l.drop (2 * i) = [] := List.drop_eq_nil_of_le (by omega)
        rw [hd] at hu
        rw [hu]
        simp (disch := omega) only [↓runPre, runPost, fieldO, ixA, cutA, lenA, aggA, rowA, appA, mkA, indA, bnd, srcA, sameOp, funcA, partA, aggD, ↓PostP, resV, resAll, resOne, resVF, resAllF, resOneF, fitsAll, fitsR, fits, frz, Post, Nat.reduceBEq, Nat.reduceLT, reduceCtorEq, ↓reduceIte, initS, AV.cellsOf, AV.fine, AV.one, repA, Nat.reduceMul, Nat.reduceAdd, Nat.reduceLeDiff, Nat.reduceEqDiff, Int.reduceToNat, Nat.reduceSub, Nat.reduceMod, Nat.reduceDiv, indexK.aggOf, Int.reducePow, Int.reduceLE, Int.reduceNeg, Int.reduceLT, Int.reduceBEq, Int.reduceBNe, Int.reduceEq, ownA, Try.facts, h0, h5, h4, hb1]
        exact ⟨by simp [unhexL, unhexV, hacc], Sub.set_new hk⟩

theorem rnumber_pure (l : List UInt8) (hl : l.length ≤ 140737488355328) : APure Try.prog 25 [bytesV l] (numA l) := by
  refine apure_of_cwp (c := ⟨Try.prog, 25, [], []⟩) (rs := [ResultVar.tmp 2, ResultVar.tmp 3]) Try.mixed Try.func25 rfl rfl rfl (Nat.le_of_ble_eq_true rfl) (by kernel_rfl) fun H => ?_
  by_cases h1 : 8 < l.length
  · have hb1 : decide ((8 : Int) < l.length) = true := by simp; omega
    simp (disch := omega) only [↓runPre, runPost, fieldO, ixA, cutA, lenA, aggA, rowA, appA, mkA, indA, bnd, srcA, sameOp, funcA, partA, aggD, ↓PostP, resV, resAll, resOne, resVF, resAllF, resOneF, fitsAll, fitsR, fits, frz, Post, Nat.reduceBEq, Nat.reduceLT, reduceCtorEq, ↓reduceIte, initS, AV.cellsOf, AV.fine, AV.one, repA, Nat.reduceMul, Nat.reduceAdd, Nat.reduceLeDiff, Nat.reduceEqDiff, Int.reduceToNat, Nat.reduceSub, Nat.reduceMod, Nat.reduceDiv, indexK.aggOf, Int.reducePow, Int.reduceLE, Int.reduceNeg, Int.reduceLT, Int.reduceBEq, Int.reduceBNe, Int.reduceEq, ownA, Try.facts, hb1]
    rw [numA, if_pos h1]
    exact ⟨rfl, Abs.Sub.refl _⟩
  · have hb1 : decide ((8 : Int) < l.length) = false := by simp; omega
    simp (disch := omega) only [↓runPre, runPost, fieldO, ixA, cutA, lenA, aggA, rowA, appA, mkA, indA, bnd, srcA, sameOp, funcA, partA, aggD, ↓PostP, resV, resAll, resOne, resVF, resAllF, resOneF, fitsAll, fitsR, fits, frz, Post, Nat.reduceBEq, Nat.reduceLT, reduceCtorEq, ↓reduceIte, initS, AV.cellsOf, AV.fine, AV.one, repA, Nat.reduceMul, Nat.reduceAdd, Nat.reduceLeDiff, Nat.reduceEqDiff, Int.reduceToNat, Nat.reduceSub, Nat.reduceMod, Nat.reduceDiv, indexK.aggOf, Int.reducePow, Int.reduceLE, Int.reduceNeg, Int.reduceLT, Int.reduceBEq, Int.reduceBNe, Int.reduceEq, ownA, Try.facts, hb1, ↓wrapI]
    refine loop_t (c := ⟨Try.prog, 25, [], []⟩) Try.mixed (by kernel_rfl) (fun m σ H' => H' = H ∧ m ≤ l.length ∧ σ 4 = .sc (.int .u64 (worthL (l.drop m))) ∧ σ 0 = bytesV l ∧ σ 5 = .sc (.int .i64 ((m : Int) - 1))) l.length ?_ ?_
    · refine ⟨rfl, Nat.le_refl _, ?_⟩
      simp (disch := omega) only [↓runPre, runPost, fieldO, ixA, cutA, lenA, aggA, rowA, appA, mkA, indA, bnd, srcA, sameOp, funcA, partA, aggD, ↓PostP, resV, resAll, resOne, resVF, resAllF, resOneF, fitsAll, fitsR, fits, frz, Post, Nat.reduceBEq, Nat.reduceLT, reduceCtorEq, ↓reduceIte, initS, AV.cellsOf, AV.fine, AV.one, repA, Nat.reduceMul, Nat.reduceAdd, Nat.reduceLeDiff, Nat.reduceEqDiff, Int.reduceToNat, Nat.reduceSub, Nat.reduceMod, Nat.reduceDiv, indexK.aggOf, Int.reducePow, Int.reduceLE, Int.reduceNeg, Int.reduceLT, Int.reduceBEq, Int.reduceBNe, Int.reduceEq, ownA, Try.facts, List.drop_length, worthL]
    · rintro m σ H' ⟨rfl, hm, h4, h0, h5⟩
      by_cases hlt : 0 < m
      · obtain ⟨m, rfl⟩ : ∃ m', m = m' + 1 := ⟨m - 1, by omega⟩
        have e1 : (((m + 1 : Nat) : Int) - 1) = (m : Int) := by omega
        rw [e1] at h5
        have hb2 : decide ((0 : Int) ≤ (m : Int)) = true := by simp
        have g1 := getB (l := l) (i := m) (by omega)
        have hw := worthL_lt (l.drop (m + 1))
        have hdl : (l.drop (m + 1)).length ≤ 7 := by simp; omega
        have hp : 256 ^ (l.drop (m + 1)).length ≤ 256 ^ 7 := Nat.pow_le_pow_right (by omega) hdl
        have hs : worthL (l.drop m) = worthL (l.drop (m + 1)) * 256 + l[m].toNat := by
          rw [List.drop_eq_getElem_cons (by omega), worthL]; omega
        have hb := l[m].toNat_lt
        generalize worthL (l.drop (m + 1)) = x at *
        simp (disch := omega) only [↓runPre, runPost, fieldO, ixA, cutA, lenA, aggA, rowA, appA, mkA, indA, bnd, srcA, sameOp, funcA, partA, aggD, ↓PostP, resV, resAll, resOne, resVF, resAllF, resOneF, fitsAll, fitsR, fits, frz, Post, Nat.reduceBEq, Nat.reduceLT, reduceCtorEq, ↓reduceIte, initS, AV.cellsOf, AV.fine, AV.one, repA, Nat.reduceMul, Nat.reduceAdd, Nat.reduceLeDiff, Nat.reduceEqDiff, Int.reduceToNat, Nat.reduceSub, Nat.reduceMod, Nat.reduceDiv, indexK.aggOf, Int.reducePow, Int.reduceLE, Int.reduceNeg, Int.reduceLT, Int.reduceBEq, Int.reduceBNe, Int.reduceEq, ownA, Try.facts, h4, h0, h5, hb2, g1, ↓wrapI, ↓umul64n, ↓wcastU, ↓uadd64]
        exact ⟨m, by omega, by omega, by rw [hs], rfl⟩
      · obtain rfl : m = 0 := by omega
        have hb2 : decide ((0 : Int) ≤ (-1 : Int)) = false := by decide
        have e1 : (((0 : Nat) : Int) - 1) = -1 := by omega
        rw [e1] at h5
        rw [List.drop_zero] at h4
        simp (disch := omega) only [↓runPre, runPost, fieldO, ixA, cutA, lenA, aggA, rowA, appA, mkA, indA, bnd, srcA, sameOp, funcA, partA, aggD, ↓PostP, resV, resAll, resOne, resVF, resAllF, resOneF, fitsAll, fitsR, fits, frz, Post, Nat.reduceBEq, Nat.reduceLT, reduceCtorEq, ↓reduceIte, initS, AV.cellsOf, AV.fine, AV.one, repA, Nat.reduceMul, Nat.reduceAdd, Nat.reduceLeDiff, Nat.reduceEqDiff, Int.reduceToNat, Nat.reduceSub, Nat.reduceMod, Nat.reduceDiv, indexK.aggOf, Int.reducePow, Int.reduceLE, Int.reduceNeg, Int.reduceLT, Int.reduceBEq, Int.reduceBNe, Int.reduceEq, ownA, Try.facts, h4, h5, hb2]
        rw [numA, if_neg h1]
        exact ⟨rfl, Abs.Sub.refl _⟩

theorem low_pure (n s : Nat) (hn : n < 18446744073709551616) (hs : s ≤ 8) : APure Try.prog 33 [.sc (.int .u64 n), .sc (.int .i64 s)] (.imm 0 (encB (lowL s n)) s) := by
  refine apure_of_cwp (c := ⟨Try.prog, 21, [], []⟩) (rs := [ResultVar.tmp 4]) Try.mixed Try.func33 rfl rfl rfl (Nat.le_of_ble_eq_true rfl) (by kernel_rfl) fun H => ?_
  simp (disch := omega) only [↓runPre, runPost, fieldO, ixA, cutA, lenA, aggA, rowA, appA, mkA, indA, bnd, srcA, sameOp, funcA, partA, aggD, ↓PostP, resV, resAll, resOne, resVF, resAllF, resOneF, fitsAll, fitsR, fits, frz, Post, Nat.reduceBEq, Nat.reduceLT, reduceCtorEq, ↓reduceIte, initS, AV.cellsOf, AV.fine, AV.one, repA, Nat.reduceMul, Nat.reduceAdd, Nat.reduceLeDiff, Nat.reduceEqDiff, Int.reduceToNat, Nat.reduceSub, Nat.reduceMod, Nat.reduceDiv, indexK.aggOf, Int.reducePow, Int.reduceLE, Int.reduceNeg, Int.reduceLT, Int.reduceBEq, Int.reduceBNe, Int.reduceEq, ownA, Try.facts]
  refine tok_t 5 (by simp (disch := omega) only [↓runPre, runPost, fieldO, ixA, cutA, lenA, aggA, rowA, appA, mkA, indA, bnd, srcA, sameOp, funcA, partA, aggD, ↓PostP, resV, resAll, resOne, resVF, resAllF, resOneF, fitsAll, fitsR, fits, frz, Post, Nat.reduceBEq, Nat.reduceLT, reduceCtorEq, ↓reduceIte, initS, AV.cellsOf, AV.fine, AV.one, repA, Nat.reduceMul, Nat.reduceAdd, Nat.reduceLeDiff, Nat.reduceEqDiff, Int.reduceToNat, Nat.reduceSub, Nat.reduceMod, Nat.reduceDiv, indexK.aggOf, Int.reducePow, Int.reduceLE, Int.reduceNeg, Int.reduceLT, Int.reduceBEq, Int.reduceBNe, Int.reduceEq, ownA, Try.facts]) fun k hk0 hk => ?_
  refine loop_t (c := ⟨Try.prog, 21, [], []⟩) Try.mixed (by kernel_rfl) (fun m σ H' => ∃ i acc, i + m = s ∧ acc.length = i ∧ acc ++ lowL m (n / 256 ^ i) = lowL s n ∧ σ 0 = .sc (.int .u64 (n / 256 ^ i : Nat)) ∧ σ 1 = .sc (.int .i64 s) ∧ σ 6 = .sc (.int .i64 i) ∧ ∃ k o, k ≠ 0 ∧ H k = none ∧ H' = H.set k o ∧ TokO 5 1 o i ∧ σ 5 = .imm k (encB acc) i) s ?_ ?_
  · refine ⟨0, [], by omega, rfl, by simp, ?_⟩
    simp (disch := omega) only [↓runPre, runPost, fieldO, ixA, cutA, lenA, aggA, rowA, appA, mkA, indA, bnd, srcA, sameOp, funcA, partA, aggD, ↓PostP, resV, resAll, resOne, resVF, resAllF, resOneF, fitsAll, fitsR, fits, frz, Post, Nat.reduceBEq, Nat.reduceLT, reduceCtorEq, ↓reduceIte, initS, AV.cellsOf, AV.fine, AV.one, repA, Nat.reduceMul, Nat.reduceAdd, Nat.reduceLeDiff, Nat.reduceEqDiff, Int.reduceToNat, Nat.reduceSub, Nat.reduceMod, Nat.reduceDiv, indexK.aggOf, Int.reducePow, Int.reduceLE, Int.reduceNeg, Int.reduceLT, Int.reduceBEq, Int.reduceBNe, Int.reduceEq, ownA, Try.facts, Nat.pow_zero, Nat.div_one]
    exact ⟨k, _, hk0, hk, rfl, .inr ⟨rfl, rfl⟩, rfl⟩
  · rintro m σ H' ⟨i, acc, hi, hacc, hu, h0, h1, h6, k, o, hk0, hk, rfl, hto, h5⟩
    have hle : n / 256 ^ i ≤ n := Nat.div_le_self _ _
    have hdd : n / 256 ^ i / 256 = n / 256 ^ (i + 1) := by rw [Nat.div_div_eq_div_mul, Nat.pow_succ]
    generalize hnn : n / 256 ^ i = nn at *
    by_cases hlt : i < s
    · have hb3 : decide ((i : Int) < (s : Int)) = true := by simp; omega
      obtain ⟨m, rfl⟩ : ∃ m', m = m' + 1 := ⟨m - 1, by omega⟩
      have hm : UInt8.ofNat (nn % 256) = UInt8.ofNat nn := by apply UInt8.toNat_inj.1; simp [UInt8.toNat_ofNat']
      simp (disch := omega) only [↓runPre, runPost, fieldO, ixA, cutA, lenA, aggA, rowA, appA, mkA, indA, bnd, srcA, sameOp, funcA, partA, aggD, ↓PostP, resV, resAll, resOne, resVF, resAllF, resOneF, fitsAll, fitsR, fits, frz, Post, Nat.reduceBEq, Nat.reduceLT, reduceCtorEq, ↓reduceIte, initS, AV.cellsOf, AV.fine, AV.one, repA, Nat.reduceMul, Nat.reduceAdd, Nat.reduceLeDiff, Nat.reduceEqDiff, Int.reduceToNat, Nat.reduceSub, Nat.reduceMod, Nat.reduceDiv, indexK.aggOf, Int.reducePow, Int.reduceLE, Int.reduceNeg, Int.reduceLT, Int.reduceBEq, Int.reduceBNe, Int.reduceEq, ownA, Try.facts, h0, h1, h6, h5, hb3, hto, hacc, ↓wcast8, ↓wcastU, tmodN, tdivN, hm]
      intro k' o' hk0' hk' ho'
      exact ⟨m, by omega, i + 1, acc ++ [UInt8.ofNat nn], by omega, by simp [hacc], by rw [← hu, ← hdd]; simp [lowL], by rw [hdd], rfl, k', o', hk0', subset_set hk', rfl, ho', rfl⟩
    · have hb3 : decide ((i : Int) < (s : Int)) = false := by simp; omega
      obtain rfl : m = 0 := by omega
      obtain rfl : i = s := by omega
      simp (disch := omega) only [↓runPre, runPost, fieldO, ixA, cutA, lenA, aggA, rowA, appA, mkA, indA, bnd, srcA, sameOp, funcA, partA, aggD, ↓PostP, resV, resAll, resOne, resVF, resAllF, resOneF, fitsAll, fitsR, fits, frz, Post, Nat.reduceBEq, Nat.reduceLT, reduceCtorEq, ↓reduceIte, initS, AV.cellsOf, AV.fine, AV.one, repA, Nat.reduceMul, Nat.reduceAdd, Nat.reduceLeDiff, Nat.reduceEqDiff, Int.reduceToNat, Nat.reduceSub, Nat.reduceMod, Nat.reduceDiv, indexK.aggOf, Int.reducePow, Int.reduceLE, Int.reduceNeg, Int.reduceLT, Int.reduceBEq, Int.reduceBNe, Int.reduceEq, ownA, Try.facts, h0, h1, h6, h5, hb3]
      rw [← hu]
      exact ⟨by simp [lowL], Sub.set_new hk⟩

theorem worthL_low (s n : Nat) : worthL (lowL s n) = n % 256 ^ s := by
  induction s generalizing n with
  | zero => simp [lowL, worthL, Nat.mod_one]
  | succ s ih =>
    simp only [lowL, worthL, ih, UInt8.toNat_ofNat']
    have e : 256 ^ (s + 1) = 256 * 256 ^ s := by rw [Nat.pow_succ, Nat.mul_comm]
    rw [e, Nat.mod_mul]

theorem rbytes_pure (n : Nat) (size : Int) (hn : n < 18446744073709551616) : APure Try.prog 27 [.sc (.int .u64 n), .sc (.int .i64 size)] (bytesA n size) := by
  refine apure_of_cwp (c := ⟨Try.prog, 27, [], []⟩) (rs := [ResultVar.tmp 4, ResultVar.tmp 5]) Try.mixed Try.func27 rfl rfl rfl (Nat.le_of_ble_eq_true rfl) (by kernel_rfl) fun H => ?_
  by_cases h1 : size < 0
  · have hb1 : decide (size < 0) = true := by simpa using h1
    simp (disch := omega) only [↓runPre, runPost, fieldO, ixA, cutA, lenA, aggA, rowA, appA, mkA, indA, bnd, srcA, sameOp, funcA, partA, aggD, ↓PostP, resV, resAll, resOne, resVF, resAllF, resOneF, fitsAll, fitsR, fits, frz, Post, Nat.reduceBEq, Nat.reduceLT, reduceCtorEq, ↓reduceIte, initS, AV.cellsOf, AV.fine, AV.one, repA, Nat.reduceMul, Nat.reduceAdd, Nat.reduceLeDiff, Nat.reduceEqDiff, Int.reduceToNat, Nat.reduceSub, Nat.reduceMod, Nat.reduceDiv, indexK.aggOf, Int.reducePow, Int.reduceLE, Int.reduceNeg, Int.reduceLT, Int.reduceBEq, Int.reduceBNe, Int.reduceEq, ownA, Try.facts, hb1]
    rw [bytesA, if_pos (.inl h1)]
    exact ⟨rfl, Abs.Sub.refl _⟩
  · have hb1 : decide (size < 0) = false := by simpa using h1
    by_cases h2 : 8 < size
    · have hb2 : decide (8 < size) = true := by simpa using h2
      simp (disch := omega) only [↓runPre, runPost, fieldO, ixA, cutA, lenA, aggA, rowA, appA, mkA, indA, bnd, srcA, sameOp, funcA, partA, aggD, ↓PostP, resV, resAll, resOne, resVF, resAllF, resOneF, fitsAll, fitsR, fits, frz, Post, Nat.reduceBEq, Nat.reduceLT, reduceCtorEq, ↓reduceIte, initS, AV.cellsOf, AV.fine, AV.one, repA, Nat.reduceMul, Nat.reduceAdd, Nat.reduceLeDiff, Nat.reduceEqDiff, Int.reduceToNat, Nat.reduceSub, Nat.reduceMod, Nat.reduceDiv, indexK.aggOf, Int.reducePow, Int.reduceLE, Int.reduceNeg, Int.reduceLT, Int.reduceBEq, Int.reduceBNe, Int.reduceEq, ownA, Try.facts, hb1, hb2]
      rw [bytesA, if_pos (.inr h2)]
      exact ⟨rfl, Abs.Sub.refl _⟩
    · have hb2 : decide (8 < size) = false := by simpa using h2
      obtain ⟨s, rfl⟩ : ∃ s : Nat, size = s := ⟨size.toNat, by omega⟩
      have hll := lowL_length s n
      have hnum : APure Try.prog 25 [.imm 0 (encB (lowL s n)) s] (.tup [.sc (.int .u64 (n % 256 ^ s : Nat)), .sc (.int .i64 0)]) := by
        have := rnumber_pure (lowL s n) (by omega)
        rw [numA, if_neg (by omega), worthL_low, bytesV, hll] at this
        exact this
      simp (disch := omega) only [↓runPre, runPost, fieldO, ixA, cutA, lenA, aggA, rowA, appA, mkA, indA, bnd, srcA, sameOp, funcA, partA, aggD, ↓PostP, resV, resAll, resOne, resVF, resAllF, resOneF, fitsAll, fitsR, fits, frz, Post, Nat.reduceBEq, Nat.reduceLT, reduceCtorEq, ↓reduceIte, initS, AV.cellsOf, AV.fine, AV.one, repA, Nat.reduceMul, Nat.reduceAdd, Nat.reduceLeDiff, Nat.reduceEqDiff, Int.reduceToNat, Nat.reduceSub, Nat.reduceMod, Nat.reduceDiv, indexK.aggOf, Int.reducePow, Int.reduceLE, Int.reduceNeg, Int.reduceLT, Int.reduceBEq, Int.reduceBNe, Int.reduceEq, ownA, Try.facts, hb1, hb2]
      first | refine CallK.p (low_pure n s hn (by omega)) ?_ | refine CallP.i (low_pure n s hn (by omega)) ?_
      simp (disch := omega) only [↓runPre, runPost, fieldO, ixA, cutA, lenA, aggA, rowA, appA, mkA, indA, bnd, srcA, sameOp, funcA, partA, aggD, ↓PostP, resV, resAll, resOne, resVF, resAllF, resOneF, fitsAll, fitsR, fits, frz, Post, Nat.reduceBEq, Nat.reduceLT, reduceCtorEq, ↓reduceIte, initS, AV.cellsOf, AV.fine, AV.one, repA, Nat.reduceMul, Nat.reduceAdd, Nat.reduceLeDiff, Nat.reduceEqDiff, Int.reduceToNat, Nat.reduceSub, Nat.reduceMod, Nat.reduceDiv, indexK.aggOf, Int.reducePow, Int.reduceLE, Int.reduceNeg, Int.reduceLT, Int.reduceBEq, Int.reduceBNe, Int.reduceEq, ownA, Try.facts]
      by_cases h3 : n / 256 ^ s = 0
      · have e : n % 256 ^ s = n := by have := Nat.div_add_mod n (256 ^ s); rw [h3] at this; simpa using this
        rw [e] at hnum
        have hb3 : ((n : Int) != (n : Int)) = false := by simp
        first | refine CallK.p (hnum) ?_ | refine CallP.i (hnum) ?_
        simp (disch := omega) only [↓runPre, runPost, fieldO, ixA, cutA, lenA, aggA, rowA, appA, mkA, indA, bnd, srcA, sameOp, funcA, partA, aggD, ↓PostP, resV, resAll, resOne, resVF, resAllF, resOneF, fitsAll, fitsR, fits, frz, Post, Nat.reduceBEq, Nat.reduceLT, reduceCtorEq, ↓reduceIte, initS, AV.cellsOf, AV.fine, AV.one, repA, Nat.reduceMul, Nat.reduceAdd, Nat.reduceLeDiff, Nat.reduceEqDiff, Int.reduceToNat, Nat.reduceSub, Nat.reduceMod, Nat.reduceDiv, indexK.aggOf, Int.reducePow, Int.reduceLE, Int.reduceNeg, Int.reduceLT, Int.reduceBEq, Int.reduceBNe, Int.reduceEq, ownA, Try.facts, hb3]
        rw [bytesA, if_neg (by omega), if_neg (by simpa using h3), Int.toNat_natCast, bytesV, hll]
        exact ⟨rfl, Abs.Sub.refl _⟩
      · have hb3 : (((n % 256 ^ s : Nat) : Int) != (n : Int)) = true := by
          have h4 := Nat.div_add_mod n (256 ^ s)
          have h5 : 0 < 256 ^ s * (n / 256 ^ s) := Nat.mul_pos (Nat.pow_pos (by omega)) (Nat.pos_of_ne_zero h3)
          have h6 : n % 256 ^ s ≠ n := by omega
          rw [bne_iff_ne]
          exact fun e => h6 (Int.ofNat.inj e)
        first | refine CallK.p (hnum) ?_ | refine CallP.i (hnum) ?_
        simp (disch := omega) only [↓runPre, runPost, fieldO, ixA, cutA, lenA, aggA, rowA, appA, mkA, indA, bnd, srcA, sameOp, funcA, partA, aggD, ↓PostP, resV, resAll, resOne, resVF, resAllF, resOneF, fitsAll, fitsR, fits, frz, Post, Nat.reduceBEq, Nat.reduceLT, reduceCtorEq, ↓reduceIte, initS, AV.cellsOf, AV.fine, AV.one, repA, Nat.reduceMul, Nat.reduceAdd, Nat.reduceLeDiff, Nat.reduceEqDiff, Int.reduceToNat, Nat.reduceSub, Nat.reduceMod, Nat.reduceDiv, indexK.aggOf, Int.reducePow, Int.reduceLE, Int.reduceNeg, Int.reduceLT, Int.reduceBEq, Int.reduceBNe, Int.reduceEq, ownA, Try.facts, hb3]
        rw [bytesA, if_neg (by omega), if_pos (by simpa using h3)]
        exact ⟨rfl, Abs.Sub.refl _⟩

def pickA (bit : Int) (xs ys : List UInt8) : AV :=
  if xs.length ≠ ys.length ∨ (bit ≠ 0 ∧ bit ≠ 1) then .tup [.imm 0 [] 0, .sc (.int .i64 1)] else .tup [bytesV (if bit = 0 then xs else ys), .sc (.int .i64 0)]
theorem rpick_pure (bit : Int) (xs ys : List UInt8) : APure Try.prog 29 [.sc (.int .i64 bit), bytesV xs, bytesV ys] (pickA bit xs ys) := by
  refine apure_of_cwp (c := ⟨Try.prog, 19, [], []⟩) (rs := [ResultVar.tmp 6, ResultVar.tmp 7]) Try.mixed Try.func29 rfl rfl rfl (Nat.le_of_ble_eq_true rfl) (by kernel_rfl) fun H => ?_
  by_cases h1 : xs.length = ys.length
  · have hb1 : ((xs.length : Int) != (ys.length : Int)) = false := by simp [h1]
    by_cases h2 : bit = 0
    · subst h2
      simp (disch := omega) only [↓runPre, runPost, fieldO, ixA, cutA, lenA, aggA, rowA, appA, mkA, indA, bnd, srcA, sameOp, funcA, partA, aggD, ↓PostP, resV, resAll, resOne, resVF, resAllF, resOneF, fitsAll, fitsR, fits, frz, Post, Nat.reduceBEq, Nat.reduceLT, reduceCtorEq, ↓reduceIte, initS, AV.cellsOf, AV.fine, AV.one, repA, Nat.reduceMul, Nat.reduceAdd, Nat.reduceLeDiff, Nat.reduceEqDiff, Int.reduceToNat, Nat.reduceSub, Nat.reduceMod, Nat.reduceDiv, indexK.aggOf, Int.reducePow, Int.reduceLE, Int.reduceNeg, Int.reduceLT, Int.reduceBEq, Int.reduceBNe, Int.reduceEq, ownA, Try.facts, hb1]
      rw [pickA, if_neg (by omega), if_pos rfl]
      exact ⟨rfl, Abs.Sub.refl _⟩
    · have hb2 : (bit == 0) = false := by simpa using h2
      by_cases h3 : bit = 1
      · subst h3
        simp (disch := omega) only [↓runPre, runPost, fieldO, ixA, cutA, lenA, aggA, rowA, appA, mkA, indA, bnd, srcA, sameOp, funcA, partA, aggD, ↓PostP, resV, resAll, resOne, resVF, resAllF, resOneF, fitsAll, fitsR, fits, frz, Post, Nat.reduceBEq, Nat.reduceLT, reduceCtorEq, ↓reduceIte, initS, AV.cellsOf, AV.fine, AV.one, repA, Nat.reduceMul, Nat.reduceAdd, Nat.reduceLeDiff, Nat.reduceEqDiff, Int.reduceToNat, Nat.reduceSub, Nat.reduceMod, Nat.reduceDiv, indexK.aggOf, Int.reducePow, Int.reduceLE, Int.reduceNeg, Int.reduceLT, Int.reduceBEq, Int.reduceBNe, Int.reduceEq, ownA, Try.facts, hb1, hb2]
        rw [pickA, if_neg (by omega), if_neg (by omega)]
        exact ⟨rfl, Abs.Sub.refl _⟩
      · have hb3 : (bit == 1) = false := by simpa using h3
        simp (disch := omega) only [↓runPre, runPost, fieldO, ixA, cutA, lenA, aggA, rowA, appA, mkA, indA, bnd, srcA, sameOp, funcA, partA, aggD, ↓PostP, resV, resAll, resOne, resVF, resAllF, resOneF, fitsAll, fitsR, fits, frz, Post, Nat.reduceBEq, Nat.reduceLT, reduceCtorEq, ↓reduceIte, initS, AV.cellsOf, AV.fine, AV.one, repA, Nat.reduceMul, Nat.reduceAdd, Nat.reduceLeDiff, Nat.reduceEqDiff, Int.reduceToNat, Nat.reduceSub, Nat.reduceMod, Nat.reduceDiv, indexK.aggOf, Int.reducePow, Int.reduceLE, Int.reduceNeg, Int.reduceLT, Int.reduceBEq, Int.reduceBNe, Int.reduceEq, ownA, Try.facts, hb1, hb2, hb3]
        rw [pickA, if_pos (.inr ⟨h2, h3⟩)]
        exact ⟨rfl, Abs.Sub.refl _⟩
  · have hb1 : ((xs.length : Int) != (ys.length : Int)) = true := by simp; omega
    simp (disch := omega) only [↓runPre, runPost, fieldO, ixA, cutA, lenA, aggA, rowA, appA, mkA, indA, bnd, srcA, sameOp, funcA, partA, aggD, ↓PostP, resV, resAll, resOne, resVF, resAllF, resOneF, fitsAll, fitsR, fits, frz, Post, Nat.reduceBEq, Nat.reduceLT, reduceCtorEq, ↓reduceIte, initS, AV.cellsOf, AV.fine, AV.one, repA, Nat.reduceMul, Nat.reduceAdd, Nat.reduceLeDiff, Nat.reduceEqDiff, Int.reduceToNat, Nat.reduceSub, Nat.reduceMod, Nat.reduceDiv, indexK.aggOf, Int.reducePow, Int.reduceLE, Int.reduceNeg, Int.reduceLT, Int.reduceBEq, Int.reduceBNe, Int.reduceEq, ownA, Try.facts, hb1]
    rw [pickA, if_pos (.inl h1)]
    exact ⟨rfl, Abs.Sub.refl _⟩
end Go.Proofs.Ytjglpngjpiflhaa
