/-
  The walks of the octet layer: own, Same, Equal, bits, Mixed, both Xor.
  Conditions: none. Lemmas only.
-/
import Derived.Test.YtjglpngjpiflhaaOctFacts
set_option linter.all false
set_option linter.unusedSimpArgs false
set_option linter.unusedVariables false
namespace Go.Proofs.Ytjglpngjpiflhaa
open Go Go.Abs Go.Proofs

theorem same_pure (xs ys : List UInt8) : APure Try.prog 14 [bytesV xs, bytesV ys] (.sc (.bool (xs == ys))) := by
  refine apure_of_cwp (c := ⟨Try.prog, 10, [], []⟩) (rs := [ResultVar.tmp 4]) Try.mixed Try.func14 rfl rfl rfl (Nat.le_of_ble_eq_true rfl) (by kernel_rfl) fun H => ?_
  simp (disch := omega) only [↓runPre, runPost, fieldO, ixA, cutA, lenA, aggA, rowA, appA, mkA, indA, bnd, srcA, sameOp, funcA, partA, aggD, ↓PostP, resV, resAll, resOne, resVF, resAllF, resOneF, fitsAll, fitsR, fits, frz, Post, Nat.reduceBEq, Nat.reduceLT, reduceCtorEq, ↓reduceIte, initS, AV.cellsOf, AV.fine, AV.one, repA, Nat.reduceMul, Nat.reduceAdd, Nat.reduceLeDiff, Nat.reduceEqDiff, Int.reduceToNat, Nat.reduceSub, Nat.reduceMod, Nat.reduceDiv, indexK.aggOf, Int.reducePow, Int.reduceLE, Int.reduceNeg, Int.reduceLT, Int.reduceBEq, Int.reduceBNe, Int.reduceEq, ownA, Try.facts, baToList]
  simp [Abs.Sub.refl]

theorem own_pure (xs : List UInt8) (h : xs.length ≤ 140737488355328) : APure Try.prog 13 [bytesV xs] (bytesV xs) := by
  refine apure_of_cwp (c := ⟨Try.prog, 6, [], [3]⟩) (rs := [ResultVar.tmp 2]) Try.mixed Try.func13 rfl rfl rfl (Nat.le_of_ble_eq_true rfl) (by kernel_rfl) fun H => ?_
  simp (disch := omega) only [↓runPre, runPost, fieldO, ixA, cutA, lenA, aggA, rowA, appA, mkA, indA, bnd, srcA, sameOp, funcA, partA, aggD, ↓PostP, resV, resAll, resOne, resVF, resAllF, resOneF, fitsAll, fitsR, fits, frz, Post, Nat.reduceBEq, Nat.reduceLT, reduceCtorEq, ↓reduceIte, initS, AV.cellsOf, AV.fine, AV.one, repA, Nat.reduceMul, Nat.reduceAdd, Nat.reduceLeDiff, Nat.reduceEqDiff, Int.reduceToNat, Nat.reduceSub, Nat.reduceMod, Nat.reduceDiv, indexK.aggOf, Int.reducePow, Int.reduceLE, Int.reduceNeg, Int.reduceLT, Int.reduceBEq, Int.reduceBNe, Int.reduceEq, ownA, Try.facts]
  intro k hk0 hk
  simp (disch := omega) only [↓runPre, runPost, fieldO, ixA, cutA, lenA, aggA, rowA, appA, mkA, indA, bnd, srcA, sameOp, funcA, partA, aggD, ↓PostP, resV, resAll, resOne, resVF, resAllF, resOneF, fitsAll, fitsR, fits, frz, Post, Nat.reduceBEq, Nat.reduceLT, reduceCtorEq, ↓reduceIte, initS, AV.cellsOf, AV.fine, AV.one, repA, Nat.reduceMul, Nat.reduceAdd, Nat.reduceLeDiff, Nat.reduceEqDiff, Int.reduceToNat, Nat.reduceSub, Nat.reduceMod, Nat.reduceDiv, indexK.aggOf, Int.reducePow, Int.reduceLE, Int.reduceNeg, Int.reduceLT, Int.reduceBEq, Int.reduceBNe, Int.reduceEq, ownA, Try.facts]
  intro k' o' _ hk' _
  exact Sub.set_new (subset_set hk')

/-- what Equal gathers -/
def unlike (xs ys : List UInt8) : UInt8 := (xs.zip ys).foldl (fun u p => u ||| (p.1 ^^^ p.2)) 0

theorem unlike_take (xs ys : List UInt8) (i : Nat) (h : i < xs.length) (h' : i < ys.length) : unlike (xs.take (i + 1)) (ys.take (i + 1)) = unlike (xs.take i) (ys.take i) ||| (xs[i] ^^^ ys[i]) := by
  unfold unlike
  rw [List.take_succ_eq_append_getElem h, List.take_succ_eq_append_getElem h', List.zip_append (by simp; omega), List.foldl_append]
  rfl

theorem equal_pure0 (xs ys : List UInt8) (h : xs.length ≤ 140737488355328) : APure Try.prog 12 [bytesV xs, bytesV ys] (.sc (.bool (xs.length == ys.length && unlike xs ys == 0))) := by
  refine apure_of_cwp (c := ⟨Try.prog, 31, [(7, [0, 0, 0, 0, 1, 0, 0, 0, 1, 0, 0, 0])], []⟩) (rs := [ResultVar.tmp 4]) Try.mixed Try.func12 rfl rfl rfl (Nat.le_of_ble_eq_true rfl) (by kernel_rfl) fun H => ?_
  by_cases hl : xs.length = ys.length
  · have hb : ((xs.length : Int) != (ys.length : Int)) = false := by simp [hl]
    simp (disch := omega) only [↓runPre, runPost, fieldO, ixA, cutA, lenA, aggA, rowA, appA, mkA, indA, bnd, srcA, sameOp, funcA, partA, aggD, ↓PostP, resV, resAll, resOne, resVF, resAllF, resOneF, fitsAll, fitsR, fits, frz, Post, Nat.reduceBEq, Nat.reduceLT, reduceCtorEq, ↓reduceIte, initS, AV.cellsOf, AV.fine, AV.one, repA, Nat.reduceMul, Nat.reduceAdd, Nat.reduceLeDiff, Nat.reduceEqDiff, Int.reduceToNat, Nat.reduceSub, Nat.reduceMod, Nat.reduceDiv, indexK.aggOf, Int.reducePow, Int.reduceLE, Int.reduceNeg, Int.reduceLT, Int.reduceBEq, Int.reduceBNe, Int.reduceEq, ownA, Try.facts, hb]
    refine loop_t (c := ⟨Try.prog, 31, [(7, [0, 0, 0, 0, 1, 0, 0, 0, 1, 0, 0, 0])], []⟩) Try.mixed (by kernel_rfl) (fun m σ H' => H' = H ∧ ∃ i, i ≤ xs.length ∧ m = xs.length - i ∧ σ 0 = bytesV xs ∧ σ 1 = bytesV ys ∧ σ 13 = .sc (.int .i64 xs.length) ∧ σ 14 = .sc (.int .i64 i) ∧ σ 5 = .sc (.int .u8 (unlike (xs.take i) (ys.take i)).toNat)) xs.length ?_ ?_
    · refine ⟨rfl, 0, Nat.zero_le _, by omega, ?_⟩
      simp (disch := omega) only [↓runPre, runPost, fieldO, ixA, cutA, lenA, aggA, rowA, appA, mkA, indA, bnd, srcA, sameOp, funcA, partA, aggD, ↓PostP, resV, resAll, resOne, resVF, resAllF, resOneF, fitsAll, fitsR, fits, frz, Post, Nat.reduceBEq, Nat.reduceLT, reduceCtorEq, ↓reduceIte, initS, AV.cellsOf, AV.fine, AV.one, repA, Nat.reduceMul, Nat.reduceAdd, Nat.reduceLeDiff, Nat.reduceEqDiff, Int.reduceToNat, Nat.reduceSub, Nat.reduceMod, Nat.reduceDiv, indexK.aggOf, Int.reducePow, Int.reduceLE, Int.reduceNeg, Int.reduceLT, Int.reduceBEq, Int.reduceBNe, Int.reduceEq, ownA, Try.facts]
      simp [unlike]
    · rintro m σ H' ⟨rfl, i, hi, rfl, h0, h1, h13, h14, h5⟩
      by_cases hlt : i < xs.length
      · have hb1 : decide ((i : Int) < (xs.length : Int)) = true := by simp; omega
        have g1 := getB hlt
        have g2 := getB (l := ys) (i := i) (by omega)
        have hu := unlike_take xs ys i hlt (by omega)
        simp (disch := omega) only [↓runPre, runPost, fieldO, ixA, cutA, lenA, aggA, rowA, appA, mkA, indA, bnd, srcA, sameOp, funcA, partA, aggD, ↓PostP, resV, resAll, resOne, resVF, resAllF, resOneF, fitsAll, fitsR, fits, frz, Post, Nat.reduceBEq, Nat.reduceLT, reduceCtorEq, ↓reduceIte, initS, AV.cellsOf, AV.fine, AV.one, repA, Nat.reduceMul, Nat.reduceAdd, Nat.reduceLeDiff, Nat.reduceEqDiff, Int.reduceToNat, Nat.reduceSub, Nat.reduceMod, Nat.reduceDiv, indexK.aggOf, Int.reducePow, Int.reduceLE, Int.reduceNeg, Int.reduceLT, Int.reduceBEq, Int.reduceBNe, Int.reduceEq, ownA, Try.facts, h0, h1, h13, h14, h5, hb1, g1, g2]
        exact ⟨_, by omega, i + 1, hlt, rfl, by simp, by rw [hu]⟩
      · have hb1 : decide ((i : Int) < (xs.length : Int)) = false := by simp; omega
        obtain rfl : i = xs.length := by omega
        rw [List.take_length, hl, List.take_length] at h5
        simp (disch := omega) only [↓runPre, runPost, fieldO, ixA, cutA, lenA, aggA, rowA, appA, mkA, indA, bnd, srcA, sameOp, funcA, partA, aggD, ↓PostP, resV, resAll, resOne, resVF, resAllF, resOneF, fitsAll, fitsR, fits, frz, Post, Nat.reduceBEq, Nat.reduceLT, reduceCtorEq, ↓reduceIte, initS, AV.cellsOf, AV.fine, AV.one, repA, Nat.reduceMul, Nat.reduceAdd, Nat.reduceLeDiff, Nat.reduceEqDiff, Int.reduceToNat, Nat.reduceSub, Nat.reduceMod, Nat.reduceDiv, indexK.aggOf, Int.reducePow, Int.reduceLE, Int.reduceNeg, Int.reduceLT, Int.reduceBEq, Int.reduceBNe, Int.reduceEq, ownA, Try.facts, h0, h1, h13, h14, h5, hb1]
        first | done | simp [hl, Abs.Sub.refl]
  · have hb : ((xs.length : Int) != (ys.length : Int)) = true := by simp; omega
    simp (disch := omega) only [↓runPre, runPost, fieldO, ixA, cutA, lenA, aggA, rowA, appA, mkA, indA, bnd, srcA, sameOp, funcA, partA, aggD, ↓PostP, resV, resAll, resOne, resVF, resAllF, resOneF, fitsAll, fitsR, fits, frz, Post, Nat.reduceBEq, Nat.reduceLT, reduceCtorEq, ↓reduceIte, initS, AV.cellsOf, AV.fine, AV.one, repA, Nat.reduceMul, Nat.reduceAdd, Nat.reduceLeDiff, Nat.reduceEqDiff, Int.reduceToNat, Nat.reduceSub, Nat.reduceMod, Nat.reduceDiv, indexK.aggOf, Int.reducePow, Int.reduceLE, Int.reduceNeg, Int.reduceLT, Int.reduceBEq, Int.reduceBNe, Int.reduceEq, ownA, Try.facts, hb]
    simp [hl, Abs.Sub.refl]

theorem unlike_zero (xs ys : List UInt8) (h : xs.length = ys.length) : (unlike xs ys == 0) = (xs == ys) := by
  have key : ∀ (xs ys : List UInt8) (u : UInt8), xs.length = ys.length → ((xs.zip ys).foldl (fun u p => u ||| (p.1 ^^^ p.2)) u = 0 ↔ u = 0 ∧ xs = ys) := by
    intro xs
    induction xs with
    | nil => intro ys u h; cases ys with | nil => simp | cons _ _ => simp at h
    | cons x xs ih =>
      intro ys u h
      cases ys with
      | nil => simp at h
      | cons y ys =>
        simp only [List.zip_cons_cons, List.foldl_cons]
        rw [ih ys _ (by simpa using h)]
        have e : (u ||| (x ^^^ y)) = 0 ↔ u = 0 ∧ x = y := by
          rw [UInt8.or_eq_zero_iff, UInt8.xor_eq_zero_iff]
        rw [e]
        simp [and_assoc]
  rw [Bool.eq_iff_iff]
  simp only [beq_iff_eq]
  have := key xs ys 0 h
  simpa [unlike] using this

theorem equal_pure (xs ys : List UInt8) (h : xs.length ≤ 140737488355328) : APure Try.prog 12 [bytesV xs, bytesV ys] (.sc (.bool (xs == ys))) := by
  have e : (xs.length == ys.length && unlike xs ys == 0) = (xs == ys) := by
    by_cases hl : xs.length = ys.length
    · simp [hl, unlike_zero xs ys hl]
    · have h2 : (xs == ys) = false := by simp; exact fun e => hl (by rw [e])
      have h1 : (xs.length == ys.length) = false := by simp [hl]
      rw [h1, h2]; rfl
  rw [← e]
  exact equal_pure0 xs ys h

/-- a byte's bits, the lowest first -/
def bitsL : Nat → UInt8 → List UInt8
  | 0, _ => []
  | n + 1, x => x % 2 :: bitsL n (x / 2)
theorem bitsL_length (n : Nat) (x : UInt8) : (bitsL n x).length = n := by
  induction n generalizing x with
  | zero => rfl
  | succ n ih => simp [bitsL, ih]

theorem bits_pure (x : UInt8) : APure Try.prog 34 [.sc (.int .u8 x.toNat)] (.imm 0 (encB (bitsL 8 x)) 8) := by
  refine apure_of_cwp (c := ⟨Try.prog, 17, [], []⟩) (rs := [ResultVar.tmp 2]) Try.mixed Try.func34 rfl rfl rfl (Nat.le_of_ble_eq_true rfl) (by kernel_rfl) fun H => ?_
  simp (disch := omega) only [↓runPre, runPost, fieldO, ixA, cutA, lenA, aggA, rowA, appA, mkA, indA, bnd, srcA, sameOp, funcA, partA, aggD, ↓PostP, resV, resAll, resOne, resVF, resAllF, resOneF, fitsAll, fitsR, fits, frz, Post, Nat.reduceBEq, Nat.reduceLT, reduceCtorEq, ↓reduceIte, initS, AV.cellsOf, AV.fine, AV.one, repA, Nat.reduceMul, Nat.reduceAdd, Nat.reduceLeDiff, Nat.reduceEqDiff, Int.reduceToNat, Nat.reduceSub, Nat.reduceMod, Nat.reduceDiv, indexK.aggOf, Int.reducePow, Int.reduceLE, Int.reduceNeg, Int.reduceLT, Int.reduceBEq, Int.reduceBNe, Int.reduceEq, ownA, Try.facts]
  refine tok_t 3 (by simp (disch := omega) only [↓runPre, runPost, fieldO, ixA, cutA, lenA, aggA, rowA, appA, mkA, indA, bnd, srcA, sameOp, funcA, partA, aggD, ↓PostP, resV, resAll, resOne, resVF, resAllF, resOneF, fitsAll, fitsR, fits, frz, Post, Nat.reduceBEq, Nat.reduceLT, reduceCtorEq, ↓reduceIte, initS, AV.cellsOf, AV.fine, AV.one, repA, Nat.reduceMul, Nat.reduceAdd, Nat.reduceLeDiff, Nat.reduceEqDiff, Int.reduceToNat, Nat.reduceSub, Nat.reduceMod, Nat.reduceDiv, indexK.aggOf, Int.reducePow, Int.reduceLE, Int.reduceNeg, Int.reduceLT, Int.reduceBEq, Int.reduceBNe, Int.reduceEq, ownA, Try.facts]) fun k hk0 hk => ?_
  refine loop_t (c := ⟨Try.prog, 17, [], []⟩) Try.mixed (by kernel_rfl) (fun m σ H' => ∃ l y, l.length + m = 8 ∧ l ++ bitsL m y = bitsL 8 x ∧ σ 0 = .sc (.int .u8 y.toNat) ∧ σ 4 = .sc (.int .i64 l.length) ∧ ∃ k o, k ≠ 0 ∧ H k = none ∧ H' = H.set k o ∧ TokO 5 1 o l.length ∧ σ 3 = .imm k (encB l) l.length) 8 ?_ ?_
  · refine ⟨[], x, rfl, rfl, ?_⟩
    simp (disch := omega) only [↓runPre, runPost, fieldO, ixA, cutA, lenA, aggA, rowA, appA, mkA, indA, bnd, srcA, sameOp, funcA, partA, aggD, ↓PostP, resV, resAll, resOne, resVF, resAllF, resOneF, fitsAll, fitsR, fits, frz, Post, Nat.reduceBEq, Nat.reduceLT, reduceCtorEq, ↓reduceIte, initS, AV.cellsOf, AV.fine, AV.one, repA, Nat.reduceMul, Nat.reduceAdd, Nat.reduceLeDiff, Nat.reduceEqDiff, Int.reduceToNat, Nat.reduceSub, Nat.reduceMod, Nat.reduceDiv, indexK.aggOf, Int.reducePow, Int.reduceLE, Int.reduceNeg, Int.reduceLT, Int.reduceBEq, Int.reduceBNe, Int.reduceEq, ownA, Try.facts]
    exact ⟨k, _, hk0, hk, rfl, .inr ⟨rfl, rfl⟩, rfl⟩
  · rintro m σ H' ⟨l, y, hl, he, h0, h4, k, o, hk0, hk, rfl, ho, h3⟩
    by_cases hlt : l.length < 8
    · have hb1 : decide ((l.length : Int) < 8) = true := by simp; omega
      obtain ⟨m, rfl⟩ : ∃ m', m = m' + 1 := ⟨m - 1, by omega⟩
      simp (disch := omega) only [↓runPre, runPost, fieldO, ixA, cutA, lenA, aggA, rowA, appA, mkA, indA, bnd, srcA, sameOp, funcA, partA, aggD, ↓PostP, resV, resAll, resOne, resVF, resAllF, resOneF, fitsAll, fitsR, fits, frz, Post, Nat.reduceBEq, Nat.reduceLT, reduceCtorEq, ↓reduceIte, initS, AV.cellsOf, AV.fine, AV.one, repA, Nat.reduceMul, Nat.reduceAdd, Nat.reduceLeDiff, Nat.reduceEqDiff, Int.reduceToNat, Nat.reduceSub, Nat.reduceMod, Nat.reduceDiv, indexK.aggOf, Int.reducePow, Int.reduceLE, Int.reduceNeg, Int.reduceLT, Int.reduceBEq, Int.reduceBNe, Int.reduceEq, ownA, Try.facts, h0, h3, h4, hb1, ho]
      intro k' o' hk0' hk' ho'
      exact ⟨m, by omega, l ++ [y % 2], y / 2, by simp; omega, by rw [← he]; simp [bitsL], rfl, by simp, k', o', hk0', subset_set hk', rfl, by simpa using ho', by simp⟩
    · have hb1 : decide ((l.length : Int) < 8) = false := by simp; omega
      obtain rfl : m = 0 := by omega
      have hl8 : l.length = 8 := by omega
      rw [show bitsL 0 y = [] from rfl, List.append_nil] at he
      simp (disch := omega) only [↓runPre, runPost, fieldO, ixA, cutA, lenA, aggA, rowA, appA, mkA, indA, bnd, srcA, sameOp, funcA, partA, aggD, ↓PostP, resV, resAll, resOne, resVF, resAllF, resOneF, fitsAll, fitsR, fits, frz, Post, Nat.reduceBEq, Nat.reduceLT, reduceCtorEq, ↓reduceIte, initS, AV.cellsOf, AV.fine, AV.one, repA, Nat.reduceMul, Nat.reduceAdd, Nat.reduceLeDiff, Nat.reduceEqDiff, Int.reduceToNat, Nat.reduceSub, Nat.reduceMod, Nat.reduceDiv, indexK.aggOf, Int.reducePow, Int.reduceLE, Int.reduceNeg, Int.reduceLT, Int.reduceBEq, Int.reduceBNe, Int.reduceEq, ownA, Try.facts, h0, h3, h4, hb1]
      exact ⟨by rw [he, bitsL_length], Sub.set_new hk⟩

/-- what Mixed gathers, from the highest bit down -/
def mixF (l : List (UInt8 × UInt8)) : UInt8 := l.foldr (fun p r => r * 2 + (p.1 + p.2) % 2) 0

theorem mixF_nat (n : Nat) (hn : n ≤ 8) (x y : UInt8) : (mixF ((bitsL n x).zip (bitsL n y))).toNat = (x.toNat ^^^ y.toNat) % 2 ^ n := by
  induction n generalizing x y with
  | zero => simp [bitsL, mixF, Nat.mod_one]
  | succ n ih =>
    have ih' := ih (by omega) (x / 2) (y / 2)
    simp only [bitsL, List.zip_cons_cons]
    show (mixF ((bitsL n (x / 2)).zip (bitsL n (y / 2))) * 2 + (x % 2 + y % 2) % 2).toNat = _
    have e2 : (2 : UInt8).toNat = 2 := rfl
    simp only [UInt8.toNat_add, UInt8.toNat_mul, UInt8.toNat_mod, UInt8.toNat_div, e2] at ih' ⊢
    rw [ih']
    have d : (x.toNat ^^^ y.toNat) / 2 = x.toNat / 2 ^^^ y.toNat / 2 := Nat.xor_div_two
    have m : (x.toNat ^^^ y.toNat) % 2 = (x.toNat + y.toNat) % 2 := by
      have h1 : (x.toNat ^^^ y.toNat) % 2 ^ 1 = (x.toNat % 2 ^ 1) ^^^ (y.toNat % 2 ^ 1) := Nat.xor_mod_two_pow
      simp only [Nat.pow_one] at h1
      rw [h1]
      rcases Nat.mod_two_eq_zero_or_one x.toNat with h2 | h2 <;> rcases Nat.mod_two_eq_zero_or_one y.toNat with h3 | h3 <;> rw [h2, h3] <;> simp <;> omega
    rw [← d]
    have hlt : 2 ^ n ≤ 2 ^ 7 := Nat.pow_le_pow_right (by omega) (by omega)
    have hp : 2 ^ (n + 1) = 2 * 2 ^ n := by rw [Nat.pow_succ]; omega
    have hm : (x.toNat ^^^ y.toNat) % (2 * 2 ^ n) = (x.toNat ^^^ y.toNat) % 2 + 2 * ((x.toNat ^^^ y.toNat) / 2 % 2 ^ n) := Nat.mod_mul
    rw [hp, hm, m]
    have hb : (x.toNat ^^^ y.toNat) / 2 % 2 ^ n < 2 ^ n := Nat.mod_lt _ (Nat.two_pow_pos n)
    generalize (x.toNat ^^^ y.toNat) / 2 % 2 ^ n = z at *
    omega

theorem mixF_xor (x y : UInt8) : mixF ((bitsL 8 x).zip (bitsL 8 y)) = x ^^^ y := by
  apply UInt8.toNat_inj.1
  rw [mixF_nat 8 (Nat.le_refl _), UInt8.toNat_xor]
  have : x.toNat ^^^ y.toNat < 2 ^ 8 := Nat.xor_lt_two_pow x.toNat_lt y.toNat_lt
  omega

theorem mixed_pure (x y : UInt8) : APure Try.prog 32 [.sc (.int .u8 x.toNat), .sc (.int .u8 y.toNat)] (.sc (.int .u8 (x ^^^ y).toNat)) := by
  have hx := bits_pure x
  have hy := bits_pure y
  have hxy := mixF_xor x y
  have lx := bitsL_length 8 x
  have ly := bitsL_length 8 y
  generalize bitsL 8 x = bx at *
  generalize bitsL 8 y = bz at *
  refine apure_of_cwp (c := ⟨Try.prog, 31, [(7, [0, 0, 0, 0, 0, 1, 0, 0, 0, 1, 0, 0, 0, 0])], []⟩) (rs := [ResultVar.tmp 4]) Try.mixed Try.func32 rfl rfl rfl (Nat.le_of_ble_eq_true rfl) (by kernel_rfl) fun H => ?_
  simp (disch := omega) only [↓runPre, runPost, fieldO, ixA, cutA, lenA, aggA, rowA, appA, mkA, indA, bnd, srcA, sameOp, funcA, partA, aggD, ↓PostP, resV, resAll, resOne, resVF, resAllF, resOneF, fitsAll, fitsR, fits, frz, Post, Nat.reduceBEq, Nat.reduceLT, reduceCtorEq, ↓reduceIte, initS, AV.cellsOf, AV.fine, AV.one, repA, Nat.reduceMul, Nat.reduceAdd, Nat.reduceLeDiff, Nat.reduceEqDiff, Int.reduceToNat, Nat.reduceSub, Nat.reduceMod, Nat.reduceDiv, indexK.aggOf, Int.reducePow, Int.reduceLE, Int.reduceNeg, Int.reduceLT, Int.reduceBEq, Int.reduceBNe, Int.reduceEq, ownA, Try.facts]
  refine CallK.p hx ?_
  simp (disch := omega) only [↓runPre, runPost, fieldO, ixA, cutA, lenA, aggA, rowA, appA, mkA, indA, bnd, srcA, sameOp, funcA, partA, aggD, ↓PostP, resV, resAll, resOne, resVF, resAllF, resOneF, fitsAll, fitsR, fits, frz, Post, Nat.reduceBEq, Nat.reduceLT, reduceCtorEq, ↓reduceIte, initS, AV.cellsOf, AV.fine, AV.one, repA, Nat.reduceMul, Nat.reduceAdd, Nat.reduceLeDiff, Nat.reduceEqDiff, Int.reduceToNat, Nat.reduceSub, Nat.reduceMod, Nat.reduceDiv, indexK.aggOf, Int.reducePow, Int.reduceLE, Int.reduceNeg, Int.reduceLT, Int.reduceBEq, Int.reduceBNe, Int.reduceEq, ownA, Try.facts]
  refine CallK.p hy ?_
  simp (disch := omega) only [↓runPre, runPost, fieldO, ixA, cutA, lenA, aggA, rowA, appA, mkA, indA, bnd, srcA, sameOp, funcA, partA, aggD, ↓PostP, resV, resAll, resOne, resVF, resAllF, resOneF, fitsAll, fitsR, fits, frz, Post, Nat.reduceBEq, Nat.reduceLT, reduceCtorEq, ↓reduceIte, initS, AV.cellsOf, AV.fine, AV.one, repA, Nat.reduceMul, Nat.reduceAdd, Nat.reduceLeDiff, Nat.reduceEqDiff, Int.reduceToNat, Nat.reduceSub, Nat.reduceMod, Nat.reduceDiv, indexK.aggOf, Int.reducePow, Int.reduceLE, Int.reduceNeg, Int.reduceLT, Int.reduceBEq, Int.reduceBNe, Int.reduceEq, ownA, Try.facts]
  refine loop_t (c := ⟨Try.prog, 31, [(7, [0, 0, 0, 0, 0, 1, 0, 0, 0, 1, 0, 0, 0, 0])], []⟩) Try.mixed (by kernel_rfl) (fun m σ H' => H' = H ∧ m ≤ 8 ∧ σ 5 = .imm 0 (encB (bx)) 8 ∧ σ 6 = .imm 0 (encB (bz)) 8 ∧ σ 8 = .sc (.int .i64 ((m : Int) - 1)) ∧ σ 7 = .sc (.int .u8 (mixF (((bx).zip (bz)).drop m)).toNat)) 8 ?_ ?_
  · refine ⟨rfl, Nat.le_refl _, ?_⟩
    simp (disch := omega) only [↓runPre, runPost, fieldO, ixA, cutA, lenA, aggA, rowA, appA, mkA, indA, bnd, srcA, sameOp, funcA, partA, aggD, ↓PostP, resV, resAll, resOne, resVF, resAllF, resOneF, fitsAll, fitsR, fits, frz, Post, Nat.reduceBEq, Nat.reduceLT, reduceCtorEq, ↓reduceIte, initS, AV.cellsOf, AV.fine, AV.one, repA, Nat.reduceMul, Nat.reduceAdd, Nat.reduceLeDiff, Nat.reduceEqDiff, Int.reduceToNat, Nat.reduceSub, Nat.reduceMod, Nat.reduceDiv, indexK.aggOf, Int.reducePow, Int.reduceLE, Int.reduceNeg, Int.reduceLT, Int.reduceBEq, Int.reduceBNe, Int.reduceEq, ownA, Try.facts]
    rw [List.drop_eq_nil_of_le (by simp [lx, ly])]
    exact ⟨rfl, rfl⟩
  · rintro m σ H' ⟨rfl, hm, h5, h6, h8, h7⟩
    by_cases hlt : 0 < m
    · obtain ⟨m, rfl⟩ : ∃ m', m = m' + 1 := ⟨m - 1, by omega⟩
      have e1 : (((m + 1 : Nat) : Int) - 1) = (m : Int) := by omega
      rw [e1] at h8
      have hb1 : decide ((m : Int) ≥ 0) = true := by simp
      have g1 := getB (l := bx) (i := m) (by omega)
      have g2 := getB (l := bz) (i := m) (by omega)
      simp (disch := omega) only [↓runPre, runPost, fieldO, ixA, cutA, lenA, aggA, rowA, appA, mkA, indA, bnd, srcA, sameOp, funcA, partA, aggD, ↓PostP, resV, resAll, resOne, resVF, resAllF, resOneF, fitsAll, fitsR, fits, frz, Post, Nat.reduceBEq, Nat.reduceLT, reduceCtorEq, ↓reduceIte, initS, AV.cellsOf, AV.fine, AV.one, repA, Nat.reduceMul, Nat.reduceAdd, Nat.reduceLeDiff, Nat.reduceEqDiff, Int.reduceToNat, Nat.reduceSub, Nat.reduceMod, Nat.reduceDiv, indexK.aggOf, Int.reducePow, Int.reduceLE, Int.reduceNeg, Int.reduceLT, Int.reduceBEq, Int.reduceBNe, Int.reduceEq, ownA, Try.facts, h5, h6, h8, h7, hb1, g1, g2, lx, ly]
      refine ⟨m, by omega, by omega, rfl, ?_⟩
      have hm' : m < ((bx).zip (bz)).length := by simp only [List.length_zip, lx, ly]; omega
      rw [List.drop_eq_getElem_cons hm']
      simp only [mixF, List.foldr_cons, List.getElem_zip]
    · obtain rfl : m = 0 := by omega
      have hb1 : decide ((-1 : Int) ≥ 0) = false := by decide
      have e1 : (((0 : Nat) : Int) - 1) = -1 := by omega
      rw [e1] at h8
      rw [List.drop_zero, hxy] at h7
      simp (disch := omega) only [↓runPre, runPost, fieldO, ixA, cutA, lenA, aggA, rowA, appA, mkA, indA, bnd, srcA, sameOp, funcA, partA, aggD, ↓PostP, resV, resAll, resOne, resVF, resAllF, resOneF, fitsAll, fitsR, fits, frz, Post, Nat.reduceBEq, Nat.reduceLT, reduceCtorEq, ↓reduceIte, initS, AV.cellsOf, AV.fine, AV.one, repA, Nat.reduceMul, Nat.reduceAdd, Nat.reduceLeDiff, Nat.reduceEqDiff, Int.reduceToNat, Nat.reduceSub, Nat.reduceMod, Nat.reduceDiv, indexK.aggOf, Int.reducePow, Int.reduceLE, Int.reduceNeg, Int.reduceLT, Int.reduceBEq, Int.reduceBNe, Int.reduceEq, ownA, Try.facts, h8, h7, hb1]
      exact Abs.Sub.refl _
end Go.Proofs.Ytjglpngjpiflhaa
