/-
  The walks of the suite layer: own, numbers in eight bytes, equality of bytes.
  Conditions: none. Lemmas only.
-/
import Derived.Test.YtmgbcjnhmgfhkaaSuiFacts
import Derived.Test.YtmgbcjnhmgfhkaaAbsU
set_option linter.all false
set_option linter.unusedSimpArgs false
set_option linter.unusedVariables false
namespace Go.Proofs.Ytmgbcjnhmgfhkaa
open Go Go.Abs Go.Proofs

theorem own_pure (xs : List UInt8) (h : xs.length ≤ 140737488355328) : APure Try.prog 9 [bytesV xs] (bytesV xs) := by
  refine apure_of_cwp (c := ⟨Try.prog, 6, [], [3], []⟩) (rs := [ResultVar.tmp 2]) Try.mixed Try.func9 rfl rfl rfl (Nat.le_of_ble_eq_true rfl) (by kernel_rfl) fun H => ?_
  simp (disch := omega) only [↓runPre, runPost, fieldO, ixA, cutA, lenA, aggA, rowA, appA, mkA, indA, bnd, srcA, sameOp, funcA, cvO, partA, aggD, ↓PostP, resV, resAll, resOne, resVF, resAllF, resOneF, fitsAll, fitsR, fits, frz, Post, Nat.reduceBEq, Nat.reduceLT, reduceCtorEq, ↓reduceIte, initS, AV.cellsOf, AV.fine, AV.one, repA, Nat.reduceMul, Nat.reduceAdd, Nat.reduceLeDiff, Nat.reduceEqDiff, Int.reduceToNat, Nat.reduceSub, Nat.reduceMod, Nat.reduceDiv, indexK.aggOf, Int.reducePow, Int.reduceLE, Int.reduceNeg, Int.reduceLT, Int.reduceBEq, Int.reduceBNe, Int.reduceEq, ownA, nilA, Try.facts]
  intro k hk0 hk
  simp (disch := omega) only [↓runPre, runPost, fieldO, ixA, cutA, lenA, aggA, rowA, appA, mkA, indA, bnd, srcA, sameOp, funcA, cvO, partA, aggD, ↓PostP, resV, resAll, resOne, resVF, resAllF, resOneF, fitsAll, fitsR, fits, frz, Post, Nat.reduceBEq, Nat.reduceLT, reduceCtorEq, ↓reduceIte, initS, AV.cellsOf, AV.fine, AV.one, repA, Nat.reduceMul, Nat.reduceAdd, Nat.reduceLeDiff, Nat.reduceEqDiff, Int.reduceToNat, Nat.reduceSub, Nat.reduceMod, Nat.reduceDiv, indexK.aggOf, Int.reducePow, Int.reduceLE, Int.reduceNeg, Int.reduceLT, Int.reduceBEq, Int.reduceBNe, Int.reduceEq, ownA, nilA, Try.facts]
  intro k' o' _ hk' _
  exact Sub.set_new (subset_set hk')

theorem beq_pure (xs ys : List UInt8) : APure Try.prog 30 [bytesV xs, bytesV ys] (.sc (.bool (xs == ys))) := by
  refine apure_of_cwp (c := ⟨Try.prog, 10, [], [], []⟩) (rs := [ResultVar.tmp 4]) Try.mixed Try.func30 rfl rfl rfl (Nat.le_of_ble_eq_true rfl) (by kernel_rfl) fun H => ?_
  simp (disch := omega) only [↓runPre, runPost, fieldO, ixA, cutA, lenA, aggA, rowA, appA, mkA, indA, bnd, srcA, sameOp, funcA, cvO, partA, aggD, ↓PostP, resV, resAll, resOne, resVF, resAllF, resOneF, fitsAll, fitsR, fits, frz, Post, Nat.reduceBEq, Nat.reduceLT, reduceCtorEq, ↓reduceIte, initS, AV.cellsOf, AV.fine, AV.one, repA, Nat.reduceMul, Nat.reduceAdd, Nat.reduceLeDiff, Nat.reduceEqDiff, Int.reduceToNat, Nat.reduceSub, Nat.reduceMod, Nat.reduceDiv, indexK.aggOf, Int.reducePow, Int.reduceLE, Int.reduceNeg, Int.reduceLT, Int.reduceBEq, Int.reduceBNe, Int.reduceEq, ownA, nilA, Try.facts, baToList]
  exact Abs.Sub.refl _

theorem eight_pure (n : Nat) (hn : n < 9223372036854775808) : APure Try.prog 28 [.sc (.int .i64 n)] (bytesV (lowL 8 n)) := by
  have hl := lowL_length 8 n
  have ht := lowL_take 8 n
  generalize lowL 8 n = L at *
  refine apure_of_cwp (c := ⟨Try.prog, 19, [], [], []⟩) (rs := [ResultVar.tmp 2]) Try.mixed Try.func28 rfl rfl rfl (Nat.le_of_ble_eq_true rfl) (by kernel_rfl) fun H => ?_
  simp (disch := omega) only [↓runPre, runPost, fieldO, ixA, cutA, lenA, aggA, rowA, appA, mkA, indA, bnd, srcA, sameOp, funcA, cvO, partA, aggD, ↓PostP, resV, resAll, resOne, resVF, resAllF, resOneF, fitsAll, fitsR, fits, frz, Post, Nat.reduceBEq, Nat.reduceLT, reduceCtorEq, ↓reduceIte, initS, AV.cellsOf, AV.fine, AV.one, repA, Nat.reduceMul, Nat.reduceAdd, Nat.reduceLeDiff, Nat.reduceEqDiff, Int.reduceToNat, Nat.reduceSub, Nat.reduceMod, Nat.reduceDiv, indexK.aggOf, Int.reducePow, Int.reduceLE, Int.reduceNeg, Int.reduceLT, Int.reduceBEq, Int.reduceBNe, Int.reduceEq, ownA, nilA, Try.facts]
  refine tok_t 3 (by simp (disch := omega) only [↓runPre, runPost, fieldO, ixA, cutA, lenA, aggA, rowA, appA, mkA, indA, bnd, srcA, sameOp, funcA, cvO, partA, aggD, ↓PostP, resV, resAll, resOne, resVF, resAllF, resOneF, fitsAll, fitsR, fits, frz, Post, Nat.reduceBEq, Nat.reduceLT, reduceCtorEq, ↓reduceIte, initS, AV.cellsOf, AV.fine, AV.one, repA, Nat.reduceMul, Nat.reduceAdd, Nat.reduceLeDiff, Nat.reduceEqDiff, Int.reduceToNat, Nat.reduceSub, Nat.reduceMod, Nat.reduceDiv, indexK.aggOf, Int.reducePow, Int.reduceLE, Int.reduceNeg, Int.reduceLT, Int.reduceBEq, Int.reduceBNe, Int.reduceEq, ownA, nilA, Try.facts]) fun k hk0 hk => ?_
  refine loop_t (c := ⟨Try.prog, 19, [], [], []⟩) Try.mixed (by kernel_rfl) (fun m σ H' => ∃ i, i + m = 8 ∧ σ 0 = .sc (.int .i64 n) ∧ σ 5 = .sc (.int .i64 i) ∧ ∃ k o, k ≠ 0 ∧ H k = none ∧ H' = H.set k o ∧ TokO 5 1 o i ∧ σ 3 = .imm k (encB (L.take i)) i) 8 ?_ ?_
  · refine ⟨0, by omega, ?_⟩
    simp (disch := omega) only [↓runPre, runPost, fieldO, ixA, cutA, lenA, aggA, rowA, appA, mkA, indA, bnd, srcA, sameOp, funcA, cvO, partA, aggD, ↓PostP, resV, resAll, resOne, resVF, resAllF, resOneF, fitsAll, fitsR, fits, frz, Post, Nat.reduceBEq, Nat.reduceLT, reduceCtorEq, ↓reduceIte, initS, AV.cellsOf, AV.fine, AV.one, repA, Nat.reduceMul, Nat.reduceAdd, Nat.reduceLeDiff, Nat.reduceEqDiff, Int.reduceToNat, Nat.reduceSub, Nat.reduceMod, Nat.reduceDiv, indexK.aggOf, Int.reducePow, Int.reduceLE, Int.reduceNeg, Int.reduceLT, Int.reduceBEq, Int.reduceBNe, Int.reduceEq, ownA, nilA, Try.facts]
    exact ⟨k, _, hk0, hk, rfl, .inr ⟨rfl, rfl⟩, by simp [encB]⟩
  · rintro m σ H' ⟨i, hi, h0, h5, k, o, hk0, hk, rfl, ho, h3⟩
    by_cases hlt : i < 8
    · have hb1 : decide ((i : Int) < 8) = true := by simp; omega
      have hz := ht i hlt
      have hli : (L.take i).length = i := by simp; omega
      generalize L.take i = l at *
      have hs : ((n : Int)).fdiv (2 ^ min (8 * i) 64) = ((n / 256 ^ i : Nat) : Int) := by
        rw [Nat.min_eq_left (by omega), show (256 : Nat) = 2 ^ 8 from rfl, ← Nat.pow_mul, Int.fdiv_eq_ediv_of_nonneg _ (by exact_mod_cast Nat.zero_le _)]
        simp
      simp (disch := omega) only [↓runPre, runPost, fieldO, ixA, cutA, lenA, aggA, rowA, appA, mkA, indA, bnd, srcA, sameOp, funcA, cvO, partA, aggD, ↓PostP, resV, resAll, resOne, resVF, resAllF, resOneF, fitsAll, fitsR, fits, frz, Post, Nat.reduceBEq, Nat.reduceLT, reduceCtorEq, ↓reduceIte, initS, AV.cellsOf, AV.fine, AV.one, repA, Nat.reduceMul, Nat.reduceAdd, Nat.reduceLeDiff, Nat.reduceEqDiff, Int.reduceToNat, Nat.reduceSub, Nat.reduceMod, Nat.reduceDiv, indexK.aggOf, Int.reducePow, Int.reduceLE, Int.reduceNeg, Int.reduceLT, Int.reduceBEq, Int.reduceBNe, Int.reduceEq, ownA, nilA, Try.facts, h0, h3, h5, hb1, ho, hli, ↓wcastU, ↓wcast8, hs]
      intro k' o' hk0' hk' ho'
      exact ⟨m - 1, by omega, i + 1, by omega, rfl, k', o', hk0', subset_set hk', rfl, ho', by rw [hz]⟩
    · have hb1 : decide ((i : Int) < 8) = false := by simp; omega
      obtain rfl : m = 0 := by omega
      obtain rfl : i = 8 := by omega
      simp (disch := omega) only [↓runPre, runPost, fieldO, ixA, cutA, lenA, aggA, rowA, appA, mkA, indA, bnd, srcA, sameOp, funcA, cvO, partA, aggD, ↓PostP, resV, resAll, resOne, resVF, resAllF, resOneF, fitsAll, fitsR, fits, frz, Post, Nat.reduceBEq, Nat.reduceLT, reduceCtorEq, ↓reduceIte, initS, AV.cellsOf, AV.fine, AV.one, repA, Nat.reduceMul, Nat.reduceAdd, Nat.reduceLeDiff, Nat.reduceEqDiff, Int.reduceToNat, Nat.reduceSub, Nat.reduceMod, Nat.reduceDiv, indexK.aggOf, Int.reducePow, Int.reduceLE, Int.reduceNeg, Int.reduceLT, Int.reduceBEq, Int.reduceBNe, Int.reduceEq, ownA, nilA, Try.facts, h0, h3, h5, hb1]
      rw [List.take_of_length_le (by omega), bytesV, hl]
      exact ⟨rfl, Sub.set_new hk⟩

theorem low_pure (n s : Nat) (hn : n < 18446744073709551616) (hs : s ≤ 8) : APure Try.prog 54 [.sc (.int .u64 n), .sc (.int .i64 s)] (.imm 0 (encB (lowL s n)) s) := by
  refine apure_of_cwp (c := ⟨Try.prog, 21, [], [], []⟩) (rs := [ResultVar.tmp 4]) Try.mixed Try.func54 rfl rfl rfl (Nat.le_of_ble_eq_true rfl) (by kernel_rfl) fun H => ?_
  simp (disch := omega) only [↓runPre, runPost, fieldO, ixA, cutA, lenA, aggA, rowA, appA, mkA, indA, bnd, srcA, sameOp, funcA, cvO, partA, aggD, ↓PostP, resV, resAll, resOne, resVF, resAllF, resOneF, fitsAll, fitsR, fits, frz, Post, Nat.reduceBEq, Nat.reduceLT, reduceCtorEq, ↓reduceIte, initS, AV.cellsOf, AV.fine, AV.one, repA, Nat.reduceMul, Nat.reduceAdd, Nat.reduceLeDiff, Nat.reduceEqDiff, Int.reduceToNat, Nat.reduceSub, Nat.reduceMod, Nat.reduceDiv, indexK.aggOf, Int.reducePow, Int.reduceLE, Int.reduceNeg, Int.reduceLT, Int.reduceBEq, Int.reduceBNe, Int.reduceEq, ownA, nilA, Try.facts]
  refine tok_t 5 (by simp (disch := omega) only [↓runPre, runPost, fieldO, ixA, cutA, lenA, aggA, rowA, appA, mkA, indA, bnd, srcA, sameOp, funcA, cvO, partA, aggD, ↓PostP, resV, resAll, resOne, resVF, resAllF, resOneF, fitsAll, fitsR, fits, frz, Post, Nat.reduceBEq, Nat.reduceLT, reduceCtorEq, ↓reduceIte, initS, AV.cellsOf, AV.fine, AV.one, repA, Nat.reduceMul, Nat.reduceAdd, Nat.reduceLeDiff, Nat.reduceEqDiff, Int.reduceToNat, Nat.reduceSub, Nat.reduceMod, Nat.reduceDiv, indexK.aggOf, Int.reducePow, Int.reduceLE, Int.reduceNeg, Int.reduceLT, Int.reduceBEq, Int.reduceBNe, Int.reduceEq, ownA, nilA, Try.facts]) fun k hk0 hk => ?_
  refine loop_t (c := ⟨Try.prog, 21, [], [], []⟩) Try.mixed (by kernel_rfl) (fun m σ H' => ∃ i acc, i + m = s ∧ acc.length = i ∧ acc ++ lowL m (n / 256 ^ i) = lowL s n ∧ σ 0 = .sc (.int .u64 (n / 256 ^ i : Nat)) ∧ σ 1 = .sc (.int .i64 s) ∧ σ 6 = .sc (.int .i64 i) ∧ ∃ k o, k ≠ 0 ∧ H k = none ∧ H' = H.set k o ∧ TokO 5 1 o i ∧ σ 5 = .imm k (encB acc) i) s ?_ ?_
  · refine ⟨0, [], by omega, rfl, by simp, ?_⟩
    simp (disch := omega) only [↓runPre, runPost, fieldO, ixA, cutA, lenA, aggA, rowA, appA, mkA, indA, bnd, srcA, sameOp, funcA, cvO, partA, aggD, ↓PostP, resV, resAll, resOne, resVF, resAllF, resOneF, fitsAll, fitsR, fits, frz, Post, Nat.reduceBEq, Nat.reduceLT, reduceCtorEq, ↓reduceIte, initS, AV.cellsOf, AV.fine, AV.one, repA, Nat.reduceMul, Nat.reduceAdd, Nat.reduceLeDiff, Nat.reduceEqDiff, Int.reduceToNat, Nat.reduceSub, Nat.reduceMod, Nat.reduceDiv, indexK.aggOf, Int.reducePow, Int.reduceLE, Int.reduceNeg, Int.reduceLT, Int.reduceBEq, Int.reduceBNe, Int.reduceEq, ownA, nilA, Try.facts, Nat.pow_zero, Nat.div_one]
    exact ⟨k, _, hk0, hk, rfl, .inr ⟨rfl, rfl⟩, rfl⟩
  · rintro m σ H' ⟨i, acc, hi, hacc, hu, h0, h1, h6, k, o, hk0, hk, rfl, hto, h5⟩
    have hle : n / 256 ^ i ≤ n := Nat.div_le_self _ _
    have hdd : n / 256 ^ i / 256 = n / 256 ^ (i + 1) := by rw [Nat.div_div_eq_div_mul, Nat.pow_succ]
    generalize hnn : n / 256 ^ i = nn at *
    by_cases hlt : i < s
    · have hb3 : decide ((i : Int) < (s : Int)) = true := by simp; omega
      obtain ⟨m, rfl⟩ : ∃ m', m = m' + 1 := ⟨m - 1, by omega⟩
      have hm : UInt8.ofNat (nn % 256) = UInt8.ofNat nn := by apply UInt8.toNat_inj.1; simp [UInt8.toNat_ofNat']
      simp (disch := omega) only [↓runPre, runPost, fieldO, ixA, cutA, lenA, aggA, rowA, appA, mkA, indA, bnd, srcA, sameOp, funcA, cvO, partA, aggD, ↓PostP, resV, resAll, resOne, resVF, resAllF, resOneF, fitsAll, fitsR, fits, frz, Post, Nat.reduceBEq, Nat.reduceLT, reduceCtorEq, ↓reduceIte, initS, AV.cellsOf, AV.fine, AV.one, repA, Nat.reduceMul, Nat.reduceAdd, Nat.reduceLeDiff, Nat.reduceEqDiff, Int.reduceToNat, Nat.reduceSub, Nat.reduceMod, Nat.reduceDiv, indexK.aggOf, Int.reducePow, Int.reduceLE, Int.reduceNeg, Int.reduceLT, Int.reduceBEq, Int.reduceBNe, Int.reduceEq, ownA, nilA, Try.facts, h0, h1, h6, h5, hb3, hto, hacc, ↓wcast8, ↓wcastU, tmodN, tdivN, hm]
      intro k' o' hk0' hk' ho'
      exact ⟨m, by omega, i + 1, acc ++ [UInt8.ofNat nn], by omega, by simp [hacc], by rw [← hu, ← hdd]; simp [lowL], by rw [hdd], rfl, k', o', hk0', subset_set hk', rfl, ho', rfl⟩
    · have hb3 : decide ((i : Int) < (s : Int)) = false := by simp; omega
      obtain rfl : m = 0 := by omega
      obtain rfl : i = s := by omega
      simp (disch := omega) only [↓runPre, runPost, fieldO, ixA, cutA, lenA, aggA, rowA, appA, mkA, indA, bnd, srcA, sameOp, funcA, cvO, partA, aggD, ↓PostP, resV, resAll, resOne, resVF, resAllF, resOneF, fitsAll, fitsR, fits, frz, Post, Nat.reduceBEq, Nat.reduceLT, reduceCtorEq, ↓reduceIte, initS, AV.cellsOf, AV.fine, AV.one, repA, Nat.reduceMul, Nat.reduceAdd, Nat.reduceLeDiff, Nat.reduceEqDiff, Int.reduceToNat, Nat.reduceSub, Nat.reduceMod, Nat.reduceDiv, indexK.aggOf, Int.reducePow, Int.reduceLE, Int.reduceNeg, Int.reduceLT, Int.reduceBEq, Int.reduceBNe, Int.reduceEq, ownA, nilA, Try.facts, h0, h1, h6, h5, hb3]
      rw [← hu]
      exact ⟨by simp [lowL], Sub.set_new hk⟩

theorem Eight_pure (n : Nat) (hn : n < 9223372036854775808) : APure Try.prog 46 [.sc (.int .i64 n)] (bytesV (lowL 8 n)) := by
  have hl := low_pure n 8 (by omega) (by omega)
  have e : bytesV (lowL 8 n) = .imm 0 (encB (lowL 8 n)) 8 := by rw [bytesV, lowL_length]
  rw [e]
  generalize lowL 8 n = L at *
  refine apure_of_cwp (c := ⟨Try.prog, 6, [], [], []⟩) (rs := [ResultVar.tmp 2]) Try.mixed Try.func46 rfl rfl rfl (Nat.le_of_ble_eq_true rfl) (by kernel_rfl) fun H => ?_
  simp (disch := omega) only [↓runPre, runPost, fieldO, ixA, cutA, lenA, aggA, rowA, appA, mkA, indA, bnd, srcA, sameOp, funcA, cvO, partA, aggD, ↓PostP, resV, resAll, resOne, resVF, resAllF, resOneF, fitsAll, fitsR, fits, frz, Post, Nat.reduceBEq, Nat.reduceLT, reduceCtorEq, ↓reduceIte, initS, AV.cellsOf, AV.fine, AV.one, repA, Nat.reduceMul, Nat.reduceAdd, Nat.reduceLeDiff, Nat.reduceEqDiff, Int.reduceToNat, Nat.reduceSub, Nat.reduceMod, Nat.reduceDiv, indexK.aggOf, Int.reducePow, Int.reduceLE, Int.reduceNeg, Int.reduceLT, Int.reduceBEq, Int.reduceBNe, Int.reduceEq, ownA, nilA, Try.facts, ↓wcastU]
  first | refine CallK.p (hl) ?_ | refine CallP.i (hl) ?_
  simp (disch := omega) only [↓runPre, runPost, fieldO, ixA, cutA, lenA, aggA, rowA, appA, mkA, indA, bnd, srcA, sameOp, funcA, cvO, partA, aggD, ↓PostP, resV, resAll, resOne, resVF, resAllF, resOneF, fitsAll, fitsR, fits, frz, Post, Nat.reduceBEq, Nat.reduceLT, reduceCtorEq, ↓reduceIte, initS, AV.cellsOf, AV.fine, AV.one, repA, Nat.reduceMul, Nat.reduceAdd, Nat.reduceLeDiff, Nat.reduceEqDiff, Int.reduceToNat, Nat.reduceSub, Nat.reduceMod, Nat.reduceDiv, indexK.aggOf, Int.reducePow, Int.reduceLE, Int.reduceNeg, Int.reduceLT, Int.reduceBEq, Int.reduceBNe, Int.reduceEq, ownA, nilA, Try.facts]
  exact Abs.Sub.refl _
end Go.Proofs.Ytmgbcjnhmgfhkaa
