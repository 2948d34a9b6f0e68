/-
  The walks of the octet layer: both Xor, both Number, both Bytes, Low.
  Conditions: none. Lemmas only.
-/
import Derived.Test.YtjglpngjpiflhaaOctA
set_option linter.all false
set_option linter.unusedSimpArgs false
set_option linter.unusedVariables false
namespace Go.Proofs.Ytjglpngjpiflhaa
open Go Go.Abs Go.Proofs

def zipX (xs ys : List UInt8) : List UInt8 := List.zipWith (· ^^^ ·) xs ys

theorem rxor_no (xs ys : List UInt8) (h : xs.length ≠ ys.length) : APure Try.prog 23 [bytesV xs, bytesV ys] (.tup [.imm 0 [] 0, .sc (.int .i64 1)]) := by
  have hb : ((xs.length : Int) != (ys.length : Int)) = true := by simp; omega
  refine apure_of_cwp (c := ⟨Try.prog, 32, [(7, [0, 0, 0, 0, 1, 0, 0, 0, 1, 0, 0, 2, 0])], []⟩) (rs := [ResultVar.tmp 4, ResultVar.tmp 5]) Try.mixed Try.func23 rfl rfl rfl (Nat.le_of_ble_eq_true rfl) (by kernel_rfl) fun H => ?_
  simp (disch := omega) only [↓runPre, runPost, fieldO, ixA, cutA, lenA, aggA, rowA, appA, mkA, indA, bnd, srcA, sameOp, funcA, partA, aggD, ↓PostP, resV, resAll, resOne, resVF, resAllF, resOneF, fitsAll, fitsR, fits, frz, Post, Nat.reduceBEq, Nat.reduceLT, reduceCtorEq, ↓reduceIte, initS, AV.cellsOf, AV.fine, AV.one, repA, Nat.reduceMul, Nat.reduceAdd, Nat.reduceLeDiff, Nat.reduceEqDiff, Int.reduceToNat, Nat.reduceSub, Nat.reduceMod, Nat.reduceDiv, indexK.aggOf, Int.reducePow, Int.reduceLE, Int.reduceNeg, Int.reduceLT, Int.reduceBEq, Int.reduceBNe, Int.reduceEq, ownA, Try.facts, hb]
  exact Abs.Sub.refl _

theorem zipX_take (xs ys : List UInt8) (i : Nat) (h : i < xs.length) (h' : i < ys.length) : zipX (xs.take (i + 1)) (ys.take (i + 1)) = zipX (xs.take i) (ys.take i) ++ [xs[i] ^^^ ys[i]] := by
  unfold zipX
  rw [List.take_succ_eq_append_getElem h, List.take_succ_eq_append_getElem h', List.zipWith_append (by simp; omega)]
  rfl
theorem zipX_length (xs ys : List UInt8) (h : xs.length = ys.length) : (zipX xs ys).length = xs.length := by simp [zipX, h]

theorem rxor_yes (xs ys : List UInt8) (h : xs.length = ys.length) (hl : xs.length ≤ 140737488355328) : APure Try.prog 23 [bytesV xs, bytesV ys] (.tup [bytesV (zipX xs ys), .sc (.int .i64 0)]) := by
  have hb : ((xs.length : Int) != (ys.length : Int)) = false := by simp [h]
  refine apure_of_cwp (c := ⟨Try.prog, 32, [(7, [0, 0, 0, 0, 1, 0, 0, 0, 1, 0, 0, 2, 0])], []⟩) (rs := [ResultVar.tmp 4, ResultVar.tmp 5]) Try.mixed Try.func23 rfl rfl rfl (Nat.le_of_ble_eq_true rfl) (by kernel_rfl) fun H => ?_
  simp (disch := omega) only [↓runPre, runPost, fieldO, ixA, cutA, lenA, aggA, rowA, appA, mkA, indA, bnd, srcA, sameOp, funcA, partA, aggD, ↓PostP, resV, resAll, resOne, resVF, resAllF, resOneF, fitsAll, fitsR, fits, frz, Post, Nat.reduceBEq, Nat.reduceLT, reduceCtorEq, ↓reduceIte, initS, AV.cellsOf, AV.fine, AV.one, repA, Nat.reduceMul, Nat.reduceAdd, Nat.reduceLeDiff, Nat.reduceEqDiff, Int.reduceToNat, Nat.reduceSub, Nat.reduceMod, Nat.reduceDiv, indexK.aggOf, Int.reducePow, Int.reduceLE, Int.reduceNeg, Int.reduceLT, Int.reduceBEq, Int.reduceBNe, Int.reduceEq, ownA, Try.facts, hb]
  refine tok_t 6 (by simp (disch := omega) only [↓runPre, runPost, fieldO, ixA, cutA, lenA, aggA, rowA, appA, mkA, indA, bnd, srcA, sameOp, funcA, partA, aggD, ↓PostP, resV, resAll, resOne, resVF, resAllF, resOneF, fitsAll, fitsR, fits, frz, Post, Nat.reduceBEq, Nat.reduceLT, reduceCtorEq, ↓reduceIte, initS, AV.cellsOf, AV.fine, AV.one, repA, Nat.reduceMul, Nat.reduceAdd, Nat.reduceLeDiff, Nat.reduceEqDiff, Int.reduceToNat, Nat.reduceSub, Nat.reduceMod, Nat.reduceDiv, indexK.aggOf, Int.reducePow, Int.reduceLE, Int.reduceNeg, Int.reduceLT, Int.reduceBEq, Int.reduceBNe, Int.reduceEq, ownA, Try.facts]) fun k hk0 hk => ?_
  refine loop_t (c := ⟨Try.prog, 32, [(7, [0, 0, 0, 0, 1, 0, 0, 0, 1, 0, 0, 2, 0])], []⟩) Try.mixed (by kernel_rfl) (fun m σ H' => ∃ i, i + m = xs.length ∧ σ 0 = bytesV xs ∧ σ 1 = bytesV ys ∧ σ 7 = .sc (.int .i64 i) ∧ ∃ k o, k ≠ 0 ∧ H k = none ∧ H' = H.set k o ∧ TokO 5 1 o i ∧ σ 6 = .imm k (encB (zipX (xs.take i) (ys.take i))) i) xs.length ?_ ?_
  · refine ⟨0, by omega, ?_⟩
    simp (disch := omega) only [↓runPre, runPost, fieldO, ixA, cutA, lenA, aggA, rowA, appA, mkA, indA, bnd, srcA, sameOp, funcA, partA, aggD, ↓PostP, resV, resAll, resOne, resVF, resAllF, resOneF, fitsAll, fitsR, fits, frz, Post, Nat.reduceBEq, Nat.reduceLT, reduceCtorEq, ↓reduceIte, initS, AV.cellsOf, AV.fine, AV.one, repA, Nat.reduceMul, Nat.reduceAdd, Nat.reduceLeDiff, Nat.reduceEqDiff, Int.reduceToNat, Nat.reduceSub, Nat.reduceMod, Nat.reduceDiv, indexK.aggOf, Int.reducePow, Int.reduceLE, Int.reduceNeg, Int.reduceLT, Int.reduceBEq, Int.reduceBNe, Int.reduceEq, ownA, Try.facts]
    exact ⟨k, _, hk0, hk, rfl, .inr ⟨rfl, rfl⟩, by simp [zipX, encB]⟩
  · rintro m σ H' ⟨i, hi, h0, h1, h7, k, o, hk0, hk, rfl, ho, h6⟩
    by_cases hlt : i < xs.length
    · have hb1 : decide ((i : Int) < (xs.length : Int)) = true := by simp; omega
      have g1 := getB hlt
      have g2 := getB (l := ys) (i := i) (by omega)
      have hz := zipX_take xs ys i hlt (by omega)
      have hzl : (zipX (xs.take i) (ys.take i)).length = i := by rw [zipX_length _ _ (by simp; omega)]; simp; omega
      have hmx := mixed_pure xs[i] ys[i]
      generalize hzz : zipX (xs.take i) (ys.take i) = z at *
      simp (disch := omega) only [↓runPre, runPost, fieldO, ixA, cutA, lenA, aggA, rowA, appA, mkA, indA, bnd, srcA, sameOp, funcA, partA, aggD, ↓PostP, resV, resAll, resOne, resVF, resAllF, resOneF, fitsAll, fitsR, fits, frz, Post, Nat.reduceBEq, Nat.reduceLT, reduceCtorEq, ↓reduceIte, initS, AV.cellsOf, AV.fine, AV.one, repA, Nat.reduceMul, Nat.reduceAdd, Nat.reduceLeDiff, Nat.reduceEqDiff, Int.reduceToNat, Nat.reduceSub, Nat.reduceMod, Nat.reduceDiv, indexK.aggOf, Int.reducePow, Int.reduceLE, Int.reduceNeg, Int.reduceLT, Int.reduceBEq, Int.reduceBNe, Int.reduceEq, ownA, Try.facts, h0, h1, h6, h7, hb1, g1, g2, ho, hzl]
      refine CallP.i hmx ?_
      simp (disch := omega) only [↓runPre, runPost, fieldO, ixA, cutA, lenA, aggA, rowA, appA, mkA, indA, bnd, srcA, sameOp, funcA, partA, aggD, ↓PostP, resV, resAll, resOne, resVF, resAllF, resOneF, fitsAll, fitsR, fits, frz, Post, Nat.reduceBEq, Nat.reduceLT, reduceCtorEq, ↓reduceIte, initS, AV.cellsOf, AV.fine, AV.one, repA, Nat.reduceMul, Nat.reduceAdd, Nat.reduceLeDiff, Nat.reduceEqDiff, Int.reduceToNat, Nat.reduceSub, Nat.reduceMod, Nat.reduceDiv, indexK.aggOf, Int.reducePow, Int.reduceLE, Int.reduceNeg, Int.reduceLT, Int.reduceBEq, Int.reduceBNe, Int.reduceEq, ownA, Try.facts, h0, h1, h6, h7, hb1, g1, g2, ho, hzl]
      intro k' o' hk0' hk' ho'
      exact ⟨m - 1, by omega, i + 1, by omega, by simp, k', o', hk0', subset_set hk', rfl, ho', by rw [hz]⟩
    · have hb1 : decide ((i : Int) < (xs.length : Int)) = false := by simp; omega
      obtain rfl : m = 0 := by omega
      obtain rfl : i = xs.length := by omega
      rw [List.take_length, h, List.take_length] at h6
      have hzl := zipX_length xs ys h
      simp (disch := omega) only [↓runPre, runPost, fieldO, ixA, cutA, lenA, aggA, rowA, appA, mkA, indA, bnd, srcA, sameOp, funcA, partA, aggD, ↓PostP, resV, resAll, resOne, resVF, resAllF, resOneF, fitsAll, fitsR, fits, frz, Post, Nat.reduceBEq, Nat.reduceLT, reduceCtorEq, ↓reduceIte, initS, AV.cellsOf, AV.fine, AV.one, repA, Nat.reduceMul, Nat.reduceAdd, Nat.reduceLeDiff, Nat.reduceEqDiff, Int.reduceToNat, Nat.reduceSub, Nat.reduceMod, Nat.reduceDiv, indexK.aggOf, Int.reducePow, Int.reduceLE, Int.reduceNeg, Int.reduceLT, Int.reduceBEq, Int.reduceBNe, Int.reduceEq, ownA, Try.facts, h0, h1, h6, h7, hb1]
      exact ⟨by rw [bytesV, hzl, h], Sub.set_new hk⟩

/-- a digit's byte -/
def dg (n : UInt8) : UInt8 := if n < 10 then n + 48 else n + 87
def hexL (l : List UInt8) : List UInt8 := l.flatMap fun b => [dg (b / 16), dg (b % 16)]
theorem hexL_take (l : List UInt8) (i : Nat) (h : i < l.length) : hexL (l.take (i + 1)) = hexL (l.take i) ++ [dg (l[i] / 16), dg (l[i] % 16)] := by
  rw [List.take_succ_eq_append_getElem h, hexL, List.flatMap_append]; rfl
theorem hexL_length (l : List UInt8) : (hexL l).length = 2 * l.length := by
  induction l with
  | nil => rfl
  | cons b l ih => simp [hexL] at ih ⊢; omega
def digs : List AV := [.sc (.int .u8 48), .sc (.int .u8 49), .sc (.int .u8 50), .sc (.int .u8 51), .sc (.int .u8 52), .sc (.int .u8 53), .sc (.int .u8 54), .sc (.int .u8 55), .sc (.int .u8 56), .sc (.int .u8 57), .sc (.int .u8 97), .sc (.int .u8 98), .sc (.int .u8 99), .sc (.int .u8 100), .sc (.int .u8 101), .sc (.int .u8 102)]
theorem digs_get (n : UInt8) (h : n.toNat < 16) : digs[n.toNat]? = some (.sc (.int .u8 (dg n).toNat)) := by
  have key : ∀ m : Fin 16, digs[m.val]? = some (.sc (.int .u8 (dg (UInt8.ofNat m.val)).toNat)) := by
    intro m
    obtain ⟨m, hm⟩ := m
    rcases m with _|_|_|_|_|_|_|_|_|_|_|_|_|_|_|_|m <;> first | rfl | omega
  have := key ⟨n.toNat, h⟩
  simpa using this

set_option maxHeartbeats 1000000 in
theorem hex_pure (xs : List UInt8) (h : 2 * xs.length ≤ 140737488355328) : APure Try.prog 18 [bytesV xs] (.sc (.string ⟨(hexL xs).toArray⟩)) := by
  refine apure_of_cwp (c := ⟨Try.prog, 32, [(6, [0, 0, 0, 0, 1, 0, 0, 0, 1, 0, 2, 0])], []⟩) (rs := [ResultVar.tmp 2]) Try.mixed Try.func18 rfl rfl rfl (Nat.le_of_ble_eq_true rfl) (by kernel_rfl) fun H => ?_
  simp (disch := omega) only [↓runPre, runPost, fieldO, ixA, cutA, lenA, aggA, rowA, appA, mkA, indA, bnd, srcA, sameOp, funcA, partA, aggD, ↓PostP, resV, resAll, resOne, resVF, resAllF, resOneF, fitsAll, fitsR, fits, frz, Post, Nat.reduceBEq, Nat.reduceLT, reduceCtorEq, ↓reduceIte, initS, AV.cellsOf, AV.fine, AV.one, repA, Nat.reduceMul, Nat.reduceAdd, Nat.reduceLeDiff, Nat.reduceEqDiff, Int.reduceToNat, Nat.reduceSub, Nat.reduceMod, Nat.reduceDiv, indexK.aggOf, Int.reducePow, Int.reduceLE, Int.reduceNeg, Int.reduceLT, Int.reduceBEq, Int.reduceBNe, Int.reduceEq, ownA, Try.facts, putCells_eq]
  intro k1 hk1 hn1 k2 hk2 hn2
  have hne := set_ne hn2
  have hd : (H.set k1 (.cells digs 47 16)) k1 = some (.cells digs 47 16) := set_get
  simp only [← digs.eq_1] at hn2 ⊢
  generalize hG : H.set k1 (.cells digs 47 16) = G at *
  refine loop_t (c := ⟨Try.prog, 32, [(6, [0, 0, 0, 0, 1, 0, 0, 0, 1, 0, 2, 0])], []⟩) Try.mixed (by kernel_rfl) (fun m σ H' => ∃ i, i + m = xs.length ∧ σ 12 = bytesV xs ∧ σ 13 = .sc (.int .i64 xs.length) ∧ σ 14 = .sc (.int .i64 i) ∧ σ 3 = .ptr k1 0 ∧ ∃ k o, k ≠ 0 ∧ G k = none ∧ H' = G.set k o ∧ TokO 5 1 o (2 * i) ∧ σ 4 = .imm k (encB (hexL (xs.take i))) (2 * i)) xs.length ?_ ?_
  · refine ⟨0, by omega, ?_⟩
    simp (disch := omega) only [↓runPre, runPost, fieldO, ixA, cutA, lenA, aggA, rowA, appA, mkA, indA, bnd, srcA, sameOp, funcA, partA, aggD, ↓PostP, resV, resAll, resOne, resVF, resAllF, resOneF, fitsAll, fitsR, fits, frz, Post, Nat.reduceBEq, Nat.reduceLT, reduceCtorEq, ↓reduceIte, initS, AV.cellsOf, AV.fine, AV.one, repA, Nat.reduceMul, Nat.reduceAdd, Nat.reduceLeDiff, Nat.reduceEqDiff, Int.reduceToNat, Nat.reduceSub, Nat.reduceMod, Nat.reduceDiv, indexK.aggOf, Int.reducePow, Int.reduceLE, Int.reduceNeg, Int.reduceLT, Int.reduceBEq, Int.reduceBNe, Int.reduceEq, ownA, Try.facts]
    exact ⟨k2, _, hk2, hn2, rfl, .inl rfl, by simp [hexL, encB]⟩
  · rintro m σ H' ⟨i, hi, h12, h13, h14, h3, k, o, hk0, hk, rfl, ho, h4⟩
    by_cases hlt : i < xs.length
    · have hb1 : decide ((i : Int) < (xs.length : Int)) = true := by simp; omega
      have g1 := getB hlt
      have d1 := digs_get (xs[i] / 16) (by have := xs[i].toNat_lt; rw [UInt8.toNat_div]; simp; omega)
      have d2 := digs_get (xs[i] % 16) (by have := xs[i].toNat_lt; rw [UInt8.toNat_mod]; simp; omega)
      have hz := hexL_take xs i hlt
      have hzl : (hexL (xs.take i)).length = 2 * i := by rw [hexL_length]; simp; omega
      have hdl : digs.length = 16 := rfl
      have hd3 : (G.set k o) k1 = some (.cells digs 47 16) := (set_other (by rintro rfl; rw [hd] at hk; cases hk)).trans hd
      generalize hexL (xs.take i) = z at *
      have l1 : (xs[i] / 16).toNat < 16 := by have := xs[i].toNat_lt; rw [UInt8.toNat_div]; simp; omega
      have l2 : (xs[i] % 16).toNat < 16 := by have := xs[i].toNat_lt; rw [UInt8.toNat_mod]; simp; omega
      simp (disch := omega) only [↓runPre, runPost, fieldO, ixA, cutA, lenA, aggA, rowA, appA, mkA, indA, bnd, srcA, sameOp, funcA, partA, aggD, ↓PostP, resV, resAll, resOne, resVF, resAllF, resOneF, fitsAll, fitsR, fits, frz, Post, Nat.reduceBEq, Nat.reduceLT, reduceCtorEq, ↓reduceIte, initS, AV.cellsOf, AV.fine, AV.one, repA, Nat.reduceMul, Nat.reduceAdd, Nat.reduceLeDiff, Nat.reduceEqDiff, Int.reduceToNat, Nat.reduceSub, Nat.reduceMod, Nat.reduceDiv, indexK.aggOf, Int.reducePow, Int.reduceLE, Int.reduceNeg, Int.reduceLT, Int.reduceBEq, Int.reduceBNe, Int.reduceEq, ownA, Try.facts, h12, h13, h14, h3, h4, hb1, g1, d1, d2, ho, hzl, hdl, hd3]
      intro k' o' hk0' hk' ho'
      refine ⟨m - 1, by omega, i + 1, by omega, by simp, k', o', hk0', subset_set hk', rfl, ho', ?_⟩
      rw [hz]; rfl
    · have hb1 : decide ((i : Int) < (xs.length : Int)) = false := by simp; omega
      obtain rfl : m = 0 := by omega
      obtain rfl : i = xs.length := by omega
      rw [List.take_length] at h4
      have hzl := hexL_length xs
      simp (disch := omega) only [↓runPre, runPost, fieldO, ixA, cutA, lenA, aggA, rowA, appA, mkA, indA, bnd, srcA, sameOp, funcA, partA, aggD, ↓PostP, resV, resAll, resOne, resVF, resAllF, resOneF, fitsAll, fitsR, fits, frz, Post, Nat.reduceBEq, Nat.reduceLT, reduceCtorEq, ↓reduceIte, initS, AV.cellsOf, AV.fine, AV.one, repA, Nat.reduceMul, Nat.reduceAdd, Nat.reduceLeDiff, Nat.reduceEqDiff, Int.reduceToNat, Nat.reduceSub, Nat.reduceMod, Nat.reduceDiv, indexK.aggOf, Int.reducePow, Int.reduceLE, Int.reduceNeg, Int.reduceLT, Int.reduceBEq, Int.reduceBNe, Int.reduceEq, ownA, Try.facts, h12, h13, h14, h3, h4, hb1, hzl]
      rw [← hG]
      exact (Sub.set_new hn1).trans (Sub.set_new (by rw [hG]; exact hk))
end Go.Proofs.Ytjglpngjpiflhaa
