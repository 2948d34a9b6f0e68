/-
  The walks of octet.Bytes, octet.Number, octet.Xor.
  Conditions: none. Lemmas only.
-/
import Derived.Test.YtjglpngjpiflhaaOctD
set_option linter.all false
set_option linter.unusedSimpArgs false
set_option linter.unusedVariables false
namespace Go.Proofs.Ytjglpngjpiflhaa
open Go Go.Abs Go.Proofs

def lowL : Nat → Nat → List UInt8
  | 0, _ => []
  | k + 1, n => UInt8.ofNat n :: lowL k (n / 256)
theorem lowL_length (k n : Nat) : (lowL k n).length = k := by
  induction k generalizing n with
  | zero => rfl
  | succ k ih => simp [lowL, ih]
/-- what Bytes answers -/
def bytesA (n : Nat) (size : Int) : AV :=
  if size < 0 ∨ 8 < size then .tup [.imm 0 [] 0, .sc (.int .i64 1)]
  else if n / 256 ^ size.toNat ≠ 0 then .tup [.imm 0 [] 0, .sc (.int .i64 6)]
  else .tup [bytesV (lowL size.toNat n), .sc (.int .i64 0)]

set_option maxHeartbeats 1000000 in
theorem bytes_pure (n : Nat) (size : Int) (hn : n < 18446744073709551616) : APure Try.prog 26 [.sc (.int .u64 n), .sc (.int .i64 size)] (bytesA n size) := by
  refine apure_of_cwp (c := ⟨Try.prog, 27, [], []⟩) (rs := [ResultVar.tmp 4, ResultVar.tmp 5]) Try.mixed Try.func26 rfl rfl rfl (Nat.le_of_ble_eq_true rfl) (by kernel_rfl) fun H => ?_
  by_cases h1 : size < 0
  · have hb1 : decide (size < 0) = true := by simpa using h1
    simp (disch := omega) only [↓runPre, runPost, fieldO, ixA, cutA, lenA, aggA, rowA, appA, mkA, indA, bnd, srcA, sameOp, funcA, partA, aggD, ↓PostP, resV, resAll, resOne, resVF, resAllF, resOneF, fitsAll, fitsR, fits, frz, Post, Nat.reduceBEq, Nat.reduceLT, reduceCtorEq, ↓reduceIte, initS, AV.cellsOf, AV.fine, AV.one, repA, Nat.reduceMul, Nat.reduceAdd, Nat.reduceLeDiff, Nat.reduceEqDiff, Int.reduceToNat, Nat.reduceSub, Nat.reduceMod, Nat.reduceDiv, indexK.aggOf, Int.reducePow, Int.reduceLE, Int.reduceNeg, Int.reduceLT, Int.reduceBEq, Int.reduceBNe, Int.reduceEq, ownA, Try.facts, hb1]
    rw [bytesA, if_pos (.inl h1)]
    exact ⟨rfl, Abs.Sub.refl _⟩
  · have hb1 : decide (size < 0) = false := by simpa using h1
    by_cases h2 : 8 < size
    · have hb2 : decide (8 < size) = true := by simpa using h2
      simp (disch := omega) only [↓runPre, runPost, fieldO, ixA, cutA, lenA, aggA, rowA, appA, mkA, indA, bnd, srcA, sameOp, funcA, partA, aggD, ↓PostP, resV, resAll, resOne, resVF, resAllF, resOneF, fitsAll, fitsR, fits, frz, Post, Nat.reduceBEq, Nat.reduceLT, reduceCtorEq, ↓reduceIte, initS, AV.cellsOf, AV.fine, AV.one, repA, Nat.reduceMul, Nat.reduceAdd, Nat.reduceLeDiff, Nat.reduceEqDiff, Int.reduceToNat, Nat.reduceSub, Nat.reduceMod, Nat.reduceDiv, indexK.aggOf, Int.reducePow, Int.reduceLE, Int.reduceNeg, Int.reduceLT, Int.reduceBEq, Int.reduceBNe, Int.reduceEq, ownA, Try.facts, hb1, hb2]
      rw [bytesA, if_pos (.inr h2)]
      exact ⟨rfl, Abs.Sub.refl _⟩
    · have hb2 : decide (8 < size) = false := by simpa using h2
      obtain ⟨s, rfl⟩ : ∃ s : Nat, size = s := ⟨size.toNat, by omega⟩
      simp (disch := omega) only [↓runPre, runPost, fieldO, ixA, cutA, lenA, aggA, rowA, appA, mkA, indA, bnd, srcA, sameOp, funcA, partA, aggD, ↓PostP, resV, resAll, resOne, resVF, resAllF, resOneF, fitsAll, fitsR, fits, frz, Post, Nat.reduceBEq, Nat.reduceLT, reduceCtorEq, ↓reduceIte, initS, AV.cellsOf, AV.fine, AV.one, repA, Nat.reduceMul, Nat.reduceAdd, Nat.reduceLeDiff, Nat.reduceEqDiff, Int.reduceToNat, Nat.reduceSub, Nat.reduceMod, Nat.reduceDiv, indexK.aggOf, Int.reducePow, Int.reduceLE, Int.reduceNeg, Int.reduceLT, Int.reduceBEq, Int.reduceBNe, Int.reduceEq, ownA, Try.facts, hb1, hb2]
      refine tok_t 6 (by simp (disch := omega) only [↓runPre, runPost, fieldO, ixA, cutA, lenA, aggA, rowA, appA, mkA, indA, bnd, srcA, sameOp, funcA, partA, aggD, ↓PostP, resV, resAll, resOne, resVF, resAllF, resOneF, fitsAll, fitsR, fits, frz, Post, Nat.reduceBEq, Nat.reduceLT, reduceCtorEq, ↓reduceIte, initS, AV.cellsOf, AV.fine, AV.one, repA, Nat.reduceMul, Nat.reduceAdd, Nat.reduceLeDiff, Nat.reduceEqDiff, Int.reduceToNat, Nat.reduceSub, Nat.reduceMod, Nat.reduceDiv, indexK.aggOf, Int.reducePow, Int.reduceLE, Int.reduceNeg, Int.reduceLT, Int.reduceBEq, Int.reduceBNe, Int.reduceEq, ownA, Try.facts]) fun k hk0 hk => ?_
      refine loop_t (c := ⟨Try.prog, 27, [], []⟩) Try.mixed (by kernel_rfl) (fun m σ H' => ∃ i acc, i + m = s ∧ acc.length = i ∧ acc ++ lowL m (n / 256 ^ i) = lowL s n ∧ σ 0 = .sc (.int .u64 (n / 256 ^ i : Nat)) ∧ σ 13 = .sc (.int .i64 s) ∧ σ 14 = .sc (.int .i64 i) ∧ ∃ k o, k ≠ 0 ∧ H k = none ∧ H' = H.set k o ∧ TokO 5 1 o i ∧ σ 6 = .imm k (encB acc) i) s ?_ ?_
      · refine ⟨0, [], by omega, rfl, by simp, ?_⟩
        simp (disch := omega) only [↓runPre, runPost, fieldO, ixA, cutA, lenA, aggA, rowA, appA, mkA, indA, bnd, srcA, sameOp, funcA, partA, aggD, ↓PostP, resV, resAll, resOne, resVF, resAllF, resOneF, fitsAll, fitsR, fits, frz, Post, Nat.reduceBEq, Nat.reduceLT, reduceCtorEq, ↓reduceIte, initS, AV.cellsOf, AV.fine, AV.one, repA, Nat.reduceMul, Nat.reduceAdd, Nat.reduceLeDiff, Nat.reduceEqDiff, Int.reduceToNat, Nat.reduceSub, Nat.reduceMod, Nat.reduceDiv, indexK.aggOf, Int.reducePow, Int.reduceLE, Int.reduceNeg, Int.reduceLT, Int.reduceBEq, Int.reduceBNe, Int.reduceEq, ownA, Try.facts, Nat.pow_zero, Nat.div_one]
        exact ⟨k, _, hk0, hk, rfl, .inr ⟨rfl, rfl⟩, rfl⟩
      · rintro m σ H' ⟨i, acc, hi, hacc, hu, h0, h13, h14, k, o, hk0, hk, rfl, hto, h6⟩
        have hle : n / 256 ^ i ≤ n := Nat.div_le_self _ _
        have hdd : n / 256 ^ i / 256 = n / 256 ^ (i + 1) := by rw [Nat.div_div_eq_div_mul, Nat.pow_succ]
        generalize hnn : n / 256 ^ i = nn at *
        by_cases hlt : i < s
        · have hb3 : decide ((i : Int) < (s : Int)) = true := by simp; omega
          obtain ⟨m, rfl⟩ : ∃ m', m = m' + 1 := ⟨m - 1, by omega⟩
          simp (disch := omega) only [↓runPre, runPost, fieldO, ixA, cutA, lenA, aggA, rowA, appA, mkA, indA, bnd, srcA, sameOp, funcA, partA, aggD, ↓PostP, resV, resAll, resOne, resVF, resAllF, resOneF, fitsAll, fitsR, fits, frz, Post, Nat.reduceBEq, Nat.reduceLT, reduceCtorEq, ↓reduceIte, initS, AV.cellsOf, AV.fine, AV.one, repA, Nat.reduceMul, Nat.reduceAdd, Nat.reduceLeDiff, Nat.reduceEqDiff, Int.reduceToNat, Nat.reduceSub, Nat.reduceMod, Nat.reduceDiv, indexK.aggOf, Int.reducePow, Int.reduceLE, Int.reduceNeg, Int.reduceLT, Int.reduceBEq, Int.reduceBNe, Int.reduceEq, ownA, Try.facts, h0, h13, h14, h6, hb3, hto, hacc, ↓wcast8, fdivN]
          intro k' o' hk0' hk' ho'
          exact ⟨m, by omega, i + 1, acc ++ [UInt8.ofNat nn], by omega, by simp [hacc], by rw [← hu, ← hdd]; simp [lowL], by rw [hdd], rfl, k', o', hk0', subset_set hk', rfl, ho', rfl⟩
        · have hb3 : decide ((i : Int) < (s : Int)) = false := by simp; omega
          obtain rfl : m = 0 := by omega
          obtain rfl : i = s := by omega
          by_cases hz : nn = 0
          · have hb4 : ((nn : Int) != 0) = false := by simp [hz]
            simp (disch := omega) only [↓runPre, runPost, fieldO, ixA, cutA, lenA, aggA, rowA, appA, mkA, indA, bnd, srcA, sameOp, funcA, partA, aggD, ↓PostP, resV, resAll, resOne, resVF, resAllF, resOneF, fitsAll, fitsR, fits, frz, Post, Nat.reduceBEq, Nat.reduceLT, reduceCtorEq, ↓reduceIte, initS, AV.cellsOf, AV.fine, AV.one, repA, Nat.reduceMul, Nat.reduceAdd, Nat.reduceLeDiff, Nat.reduceEqDiff, Int.reduceToNat, Nat.reduceSub, Nat.reduceMod, Nat.reduceDiv, indexK.aggOf, Int.reducePow, Int.reduceLE, Int.reduceNeg, Int.reduceLT, Int.reduceBEq, Int.reduceBNe, Int.reduceEq, ownA, Try.facts, h0, h13, h14, h6, hb3, hb4]
            rw [bytesA, if_neg (by omega), if_neg (by simp [hnn, hz]), show ((i : Int)).toNat = i by simp, ← hu]
            exact ⟨by simp [lowL, hacc], Sub.set_new hk⟩
          · have hb4 : ((nn : Int) != 0) = true := by simp [hz]
            simp (disch := omega) only [↓runPre, runPost, fieldO, ixA, cutA, lenA, aggA, rowA, appA, mkA, indA, bnd, srcA, sameOp, funcA, partA, aggD, ↓PostP, resV, resAll, resOne, resVF, resAllF, resOneF, fitsAll, fitsR, fits, frz, Post, Nat.reduceBEq, Nat.reduceLT, reduceCtorEq, ↓reduceIte, initS, AV.cellsOf, AV.fine, AV.one, repA, Nat.reduceMul, Nat.reduceAdd, Nat.reduceLeDiff, Nat.reduceEqDiff, Int.reduceToNat, Nat.reduceSub, Nat.reduceMod, Nat.reduceDiv, indexK.aggOf, Int.reducePow, Int.reduceLE, Int.reduceNeg, Int.reduceLT, Int.reduceBEq, Int.reduceBNe, Int.reduceEq, ownA, Try.facts, h0, h13, h14, h6, hb3, hb4]
            rw [bytesA, if_neg (by omega), if_pos (by simp [hnn, hz])]
            exact ⟨rfl, Sub.set_new hk⟩

/-- what bytes are worth, the lowest first -/
def worthL : List UInt8 → Nat
  | [] => 0
  | b :: r => b.toNat + 256 * worthL r
theorem worthL_lt (l : List UInt8) : worthL l < 256 ^ l.length := by
  induction l with
  | nil => simp [worthL]
  | cons b r ih =>
    have := b.toNat_lt
    simp only [worthL, List.length_cons, Nat.pow_succ]
    omega
theorem worthL_snoc (l : List UInt8) (b : UInt8) : worthL (l ++ [b]) = worthL l + 256 ^ l.length * b.toNat := by
  induction l with
  | nil => simp [worthL]
  | cons c r ih => simp only [List.cons_append, worthL, ih, List.length_cons, Nat.pow_succ]; rw [Nat.mul_add, Nat.mul_comm (256 ^ r.length) 256, Nat.mul_assoc]; omega
theorem or_add (a b i : Nat) (h : a < 256 ^ i) : a ||| b * 2 ^ (8 * i) = a + 256 ^ i * b := by
  have e : (256 : Nat) ^ i = 2 ^ (8 * i) := by rw [show (256 : Nat) = 2 ^ 8 from rfl, ← Nat.pow_mul]
  rw [e] at h ⊢
  rw [Nat.or_comm, Nat.mul_comm b, ← Nat.two_pow_add_eq_or_of_lt h b]; omega
def numA (l : List UInt8) : AV := if 8 < l.length then .tup [.sc (.int .u64 0), .sc (.int .i64 2)] else .tup [.sc (.int .u64 (worthL l)), .sc (.int .i64 0)]

set_option maxHeartbeats 1000000 in
theorem number_pure (l : List UInt8) (hl : l.length ≤ 140737488355328) : APure Try.prog 24 [bytesV l] (numA l) := by
  refine apure_of_cwp (c := ⟨Try.prog, 26, [], []⟩) (rs := [ResultVar.tmp 2, ResultVar.tmp 3]) Try.mixed Try.func24 rfl rfl rfl (Nat.le_of_ble_eq_true rfl) (by kernel_rfl) fun H => ?_
  by_cases h1 : 8 < l.length
  · have hb1 : decide ((8 : Int) < l.length) = true := by simp; omega
    simp (disch := omega) only [↓runPre, runPost, fieldO, ixA, cutA, lenA, aggA, rowA, appA, mkA, indA, bnd, srcA, sameOp, funcA, partA, aggD, ↓PostP, resV, resAll, resOne, resVF, resAllF, resOneF, fitsAll, fitsR, fits, frz, Post, Nat.reduceBEq, Nat.reduceLT, reduceCtorEq, ↓reduceIte, initS, AV.cellsOf, AV.fine, AV.one, repA, Nat.reduceMul, Nat.reduceAdd, Nat.reduceLeDiff, Nat.reduceEqDiff, Int.reduceToNat, Nat.reduceSub, Nat.reduceMod, Nat.reduceDiv, indexK.aggOf, Int.reducePow, Int.reduceLE, Int.reduceNeg, Int.reduceLT, Int.reduceBEq, Int.reduceBNe, Int.reduceEq, ownA, Try.facts, hb1]
    rw [numA, if_pos h1]
    exact ⟨rfl, Abs.Sub.refl _⟩
  · have hb1 : decide ((8 : Int) < l.length) = false := by simp; omega
    simp (disch := omega) only [↓runPre, runPost, fieldO, ixA, cutA, lenA, aggA, rowA, appA, mkA, indA, bnd, srcA, sameOp, funcA, partA, aggD, ↓PostP, resV, resAll, resOne, resVF, resAllF, resOneF, fitsAll, fitsR, fits, frz, Post, Nat.reduceBEq, Nat.reduceLT, reduceCtorEq, ↓reduceIte, initS, AV.cellsOf, AV.fine, AV.one, repA, Nat.reduceMul, Nat.reduceAdd, Nat.reduceLeDiff, Nat.reduceEqDiff, Int.reduceToNat, Nat.reduceSub, Nat.reduceMod, Nat.reduceDiv, indexK.aggOf, Int.reducePow, Int.reduceLE, Int.reduceNeg, Int.reduceLT, Int.reduceBEq, Int.reduceBNe, Int.reduceEq, ownA, Try.facts, hb1]
    refine loop_t (c := ⟨Try.prog, 26, [], []⟩) Try.mixed (by kernel_rfl) (fun m σ H' => H' = H ∧ ∃ i, i + m = l.length ∧ σ 4 = .sc (.int .u64 (worthL (l.take i))) ∧ σ 10 = bytesV l ∧ σ 11 = .sc (.int .i64 l.length) ∧ σ 12 = .sc (.int .i64 i)) l.length ?_ ?_
    · refine ⟨rfl, 0, by omega, ?_⟩
      simp (disch := omega) only [↓runPre, runPost, fieldO, ixA, cutA, lenA, aggA, rowA, appA, mkA, indA, bnd, srcA, sameOp, funcA, partA, aggD, ↓PostP, resV, resAll, resOne, resVF, resAllF, resOneF, fitsAll, fitsR, fits, frz, Post, Nat.reduceBEq, Nat.reduceLT, reduceCtorEq, ↓reduceIte, initS, AV.cellsOf, AV.fine, AV.one, repA, Nat.reduceMul, Nat.reduceAdd, Nat.reduceLeDiff, Nat.reduceEqDiff, Int.reduceToNat, Nat.reduceSub, Nat.reduceMod, Nat.reduceDiv, indexK.aggOf, Int.reducePow, Int.reduceLE, Int.reduceNeg, Int.reduceLT, Int.reduceBEq, Int.reduceBNe, Int.reduceEq, ownA, Try.facts, worthL]
    · rintro m σ H' ⟨rfl, i, hi, h4, h10, h11, h12⟩
      have hw := worthL_lt (l.take i)
      have htl : (l.take i).length = i := by simp; omega
      rw [htl] at hw
      by_cases hlt : i < l.length
      · have hb2 : decide ((i : Int) < (l.length : Int)) = true := by simp; omega
        have g1 := getB hlt
        have hs : worthL (l.take (i + 1)) = worthL (l.take i) ||| l[i].toNat * 2 ^ (8 * i) := by
          rw [or_add _ _ _ hw, List.take_succ_eq_append_getElem hlt, worthL_snoc, htl]
        have hw2 := worthL_lt (l.take (i + 1))
        have htl2 : (l.take (i + 1)).length = i + 1 := by simp; omega
        rw [htl2] at hw2
        generalize worthL (l.take i) = x at *
        simp (disch := omega) only [↓runPre, runPost, fieldO, ixA, cutA, lenA, aggA, rowA, appA, mkA, indA, bnd, srcA, sameOp, funcA, partA, aggD, ↓PostP, resV, resAll, resOne, resVF, resAllF, resOneF, fitsAll, fitsR, fits, frz, Post, Nat.reduceBEq, Nat.reduceLT, reduceCtorEq, ↓reduceIte, initS, AV.cellsOf, AV.fine, AV.one, repA, Nat.reduceMul, Nat.reduceAdd, Nat.reduceLeDiff, Nat.reduceEqDiff, Int.reduceToNat, Nat.reduceSub, Nat.reduceMod, Nat.reduceDiv, indexK.aggOf, Int.reducePow, Int.reduceLE, Int.reduceNeg, Int.reduceLT, Int.reduceBEq, Int.reduceBNe, Int.reduceEq, ownA, Try.facts, h4, h10, h11, h12, hb2, g1]
        refine ⟨m - 1, by omega, i + 1, by omega, ?_, rfl⟩
        have hb := l[i].toNat_lt
        have hp : 2 ^ (8 * i) ≤ 2 ^ 56 := Nat.pow_le_pow_right (by omega) (by omega)
        have hp2 : 256 ^ i ≤ 256 ^ 7 := Nat.pow_le_pow_right (by omega) (by omega)
        have hmul : l[i].toNat * 2 ^ (8 * i) < 2 ^ 64 := Nat.lt_of_le_of_lt (Nat.mul_le_mul (Nat.le_of_lt_succ hb) hp) (by omega)
        have hc : ((l[i].toNat : Nat) : Int) * 2 ^ (8 * i) = ((l[i].toNat * 2 ^ (8 * i) : Nat) : Int) := by rw [Int.natCast_mul, Int.natCast_pow]; rfl
        rw [hs, wcastU (by omega), Nat.min_eq_left (by omega), hc, wcastU hmul, bits_orU (by omega) hmul]
      · have hb2 : decide ((i : Int) < (l.length : Int)) = false := by simp; omega
        obtain rfl : i = l.length := by omega
        rw [List.take_length] at h4
        simp (disch := omega) only [↓runPre, runPost, fieldO, ixA, cutA, lenA, aggA, rowA, appA, mkA, indA, bnd, srcA, sameOp, funcA, partA, aggD, ↓PostP, resV, resAll, resOne, resVF, resAllF, resOneF, fitsAll, fitsR, fits, frz, Post, Nat.reduceBEq, Nat.reduceLT, reduceCtorEq, ↓reduceIte, initS, AV.cellsOf, AV.fine, AV.one, repA, Nat.reduceMul, Nat.reduceAdd, Nat.reduceLeDiff, Nat.reduceEqDiff, Int.reduceToNat, Nat.reduceSub, Nat.reduceMod, Nat.reduceDiv, indexK.aggOf, Int.reducePow, Int.reduceLE, Int.reduceNeg, Int.reduceLT, Int.reduceBEq, Int.reduceBNe, Int.reduceEq, ownA, Try.facts, h4, h10, h11, h12, hb2]
        rw [numA, if_neg h1]
        exact ⟨rfl, Abs.Sub.refl _⟩
end Go.Proofs.Ytjglpngjpiflhaa
