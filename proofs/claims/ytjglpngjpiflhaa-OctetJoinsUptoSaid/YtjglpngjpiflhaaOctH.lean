/-
  The walks of octet.Xor, octet.Pick.
  Conditions: none. Lemmas only.
-/
import Derived.Test.YtjglpngjpiflhaaOctG
set_option linter.all false
set_option linter.unusedSimpArgs false
set_option linter.unusedVariables false
namespace Go.Proofs.Ytjglpngjpiflhaa
open Go Go.Abs Go.Proofs

def xorA (xs ys : List UInt8) : AV := if xs.length = ys.length then .tup [bytesV (zipX xs ys), .sc (.int .i64 0)] else .tup [.imm 0 [] 0, .sc (.int .i64 1)]

theorem repA_bytes (n : Nat) : repA [.sc (.int .u8 0)] n = encB (List.replicate n 0) := by
  induction n with
  | zero => rfl
  | succ n ih => rw [repA, ih, List.replicate_succ]; rfl
theorem put_bytes {l : List UInt8} {i : Nat} {b : UInt8} (h : i < l.length) : putCells (encB l) i [.sc (.int .u8 b.toNat)] = encB (l.set i b) := by
  rw [putCells, List.set_eq_take_append_cons_drop, if_pos h]
  simp [encB]

/-- a row that is filled from the front -/
def fillR (f : List UInt8) (n : Nat) : List UInt8 := f ++ List.replicate (n - f.length) 0
theorem fillR_set {f : List UInt8} {n : Nat} {b : UInt8} (h : f.length < n) : (fillR f n).set f.length b = fillR (f ++ [b]) n := by
  unfold fillR
  rw [List.set_append_right _ _ (Nat.le_refl _), Nat.sub_self]
  obtain ⟨m, hm⟩ : ∃ m, n - f.length = m + 1 := ⟨n - f.length - 1, by omega⟩
  rw [hm, List.replicate_succ]
  simp only [List.set_cons_zero, List.length_append, List.length_singleton, List.append_assoc, List.singleton_append]
  congr 3; omega
theorem fillR_length {f : List UInt8} {n : Nat} (h : f.length ≤ n) : (fillR f n).length = n := by simp [fillR]; omega
theorem fillR_full {f : List UInt8} : fillR f f.length = f := by simp [fillR]

theorem xor_pure (xs ys : List UInt8) (hl : xs.length ≤ 140737488355328) : APure Try.prog 22 [bytesV xs, bytesV ys] (xorA xs ys) := by
  refine apure_of_cwp (c := ⟨Try.prog, 35, [(7, [0, 0, 0, 0, 0, 1, 0, 0, 0, 1, 0, 0, 2])], []⟩) (rs := [ResultVar.tmp 4, ResultVar.tmp 5]) Try.mixed Try.func22 rfl rfl rfl (Nat.le_of_ble_eq_true rfl) (by kernel_rfl) fun H => ?_
  by_cases h1 : xs.length = ys.length
  · have hb1 : ((xs.length : Int) != (ys.length : Int)) = false := by simp [h1]
    simp (disch := omega) only [↓runPre, runPost, fieldO, ixA, cutA, lenA, aggA, rowA, appA, mkA, indA, bnd, srcA, sameOp, funcA, partA, aggD, ↓PostP, resV, resAll, resOne, resVF, resAllF, resOneF, fitsAll, fitsR, fits, frz, Post, Nat.reduceBEq, Nat.reduceLT, reduceCtorEq, ↓reduceIte, initS, AV.cellsOf, AV.fine, AV.one, repA, Nat.reduceMul, Nat.reduceAdd, Nat.reduceLeDiff, Nat.reduceEqDiff, Int.reduceToNat, Nat.reduceSub, Nat.reduceMod, Nat.reduceDiv, indexK.aggOf, Int.reducePow, Int.reduceLE, Int.reduceNeg, Int.reduceLT, Int.reduceBEq, Int.reduceBNe, Int.reduceEq, ownA, Try.facts, hb1]
    intro k hk0 hk
    refine loop_t (c := ⟨Try.prog, 35, [(7, [0, 0, 0, 0, 0, 1, 0, 0, 0, 1, 0, 0, 2])], []⟩) Try.mixed (by kernel_rfl) (fun m σ H' => ∃ i, i + m = xs.length ∧ σ 0 = bytesV xs ∧ σ 1 = bytesV ys ∧ σ 17 = .sc (.int .i64 xs.length) ∧ σ 18 = .sc (.int .i64 i) ∧ σ 6 = .own k 0 xs.length ∧ H' = H.set k (.cells (encB (fillR (zipX (xs.take i) (ys.take i)) xs.length)) 5 1)) xs.length ?_ ?_
    · refine ⟨0, by omega, ?_⟩
      simp (disch := omega) only [↓runPre, runPost, fieldO, ixA, cutA, lenA, aggA, rowA, appA, mkA, indA, bnd, srcA, sameOp, funcA, partA, aggD, ↓PostP, resV, resAll, resOne, resVF, resAllF, resOneF, fitsAll, fitsR, fits, frz, Post, Nat.reduceBEq, Nat.reduceLT, reduceCtorEq, ↓reduceIte, initS, AV.cellsOf, AV.fine, AV.one, repA, Nat.reduceMul, Nat.reduceAdd, Nat.reduceLeDiff, Nat.reduceEqDiff, Int.reduceToNat, Nat.reduceSub, Nat.reduceMod, Nat.reduceDiv, indexK.aggOf, Int.reducePow, Int.reduceLE, Int.reduceNeg, Int.reduceLT, Int.reduceBEq, Int.reduceBNe, Int.reduceEq, ownA, Try.facts, repA_bytes, List.take_zero, fillR, zipX, List.zipWith_nil_left, List.length_nil, Nat.sub_zero]
    · rintro m σ H' ⟨i, hi, h0, h1', h17, h18, h6, rfl⟩
      have hzl : (zipX (xs.take i) (ys.take i)).length = i := by rw [zipX_length _ _ (by simp; omega)]; simp; omega
      by_cases hlt : i < xs.length
      · have hb2 : decide ((i : Int) < (xs.length : Int)) = true := by simp; omega
        have g1 := getB hlt
        have g2 := getB (l := ys) (i := i) (by omega)
        have hz := zipX_take xs ys i hlt (by omega)
        generalize zipX (xs.take i) (ys.take i) = z at *
        have hfl := fillR_length (f := z) (n := xs.length) (by omega)
        have hp : putCells (encB (fillR z xs.length)) i [.sc (.int .u8 (xs[i] ^^^ ys[i]).toNat)] = encB (fillR (z ++ [xs[i] ^^^ ys[i]]) xs.length) := by
          rw [put_bytes (by omega), ← fillR_set (by omega), hzl]
        rw [← hz] at hp
        simp (disch := omega) only [↓runPre, runPost, fieldO, ixA, cutA, lenA, aggA, rowA, appA, mkA, indA, bnd, srcA, sameOp, funcA, partA, aggD, ↓PostP, resV, resAll, resOne, resVF, resAllF, resOneF, fitsAll, fitsR, fits, frz, Post, Nat.reduceBEq, Nat.reduceLT, reduceCtorEq, ↓reduceIte, initS, AV.cellsOf, AV.fine, AV.one, repA, Nat.reduceMul, Nat.reduceAdd, Nat.reduceLeDiff, Nat.reduceEqDiff, Int.reduceToNat, Nat.reduceSub, Nat.reduceMod, Nat.reduceDiv, indexK.aggOf, Int.reducePow, Int.reduceLE, Int.reduceNeg, Int.reduceLT, Int.reduceBEq, Int.reduceBNe, Int.reduceEq, ownA, Try.facts, h0, h1', h17, h18, h6, hb2, g1, g2, hp, hfl]
        exact ⟨m - 1, by omega, i + 1, by omega, rfl, rfl⟩
      · have hb2 : decide ((i : Int) < (xs.length : Int)) = false := by simp; omega
        obtain rfl : i = xs.length := by omega
        have e1 : xs.take xs.length = xs := List.take_length
        have e2 : ys.take xs.length = ys := by rw [h1, List.take_length]
        rw [e1, e2] at hzl ⊢
        have hfl : fillR (zipX xs ys) xs.length = zipX xs ys := by have := fillR_full (f := zipX xs ys); rwa [hzl] at this
        rw [hfl]
        simp (disch := omega) only [↓runPre, runPost, fieldO, ixA, cutA, lenA, aggA, rowA, appA, mkA, indA, bnd, srcA, sameOp, funcA, partA, aggD, ↓PostP, resV, resAll, resOne, resVF, resAllF, resOneF, fitsAll, fitsR, fits, frz, Post, Nat.reduceBEq, Nat.reduceLT, reduceCtorEq, ↓reduceIte, initS, AV.cellsOf, AV.fine, AV.one, repA, Nat.reduceMul, Nat.reduceAdd, Nat.reduceLeDiff, Nat.reduceEqDiff, Int.reduceToNat, Nat.reduceSub, Nat.reduceMod, Nat.reduceDiv, indexK.aggOf, Int.reducePow, Int.reduceLE, Int.reduceNeg, Int.reduceLT, Int.reduceBEq, Int.reduceBNe, Int.reduceEq, ownA, Try.facts, h0, h1', h17, h18, h6, hb2, hk, hzl]
        rw [xorA, if_pos h1, bytesV, hzl]
        refine ⟨?_, Nat.le_refl _, Sub.set_new hk⟩
        rw [List.take_of_length_le (by rw [encB_length, hzl]; omega)]
  · have hb1 : ((xs.length : Int) != (ys.length : Int)) = true := by simp; omega
    simp (disch := omega) only [↓runPre, runPost, fieldO, ixA, cutA, lenA, aggA, rowA, appA, mkA, indA, bnd, srcA, sameOp, funcA, partA, aggD, ↓PostP, resV, resAll, resOne, resVF, resAllF, resOneF, fitsAll, fitsR, fits, frz, Post, Nat.reduceBEq, Nat.reduceLT, reduceCtorEq, ↓reduceIte, initS, AV.cellsOf, AV.fine, AV.one, repA, Nat.reduceMul, Nat.reduceAdd, Nat.reduceLeDiff, Nat.reduceEqDiff, Int.reduceToNat, Nat.reduceSub, Nat.reduceMod, Nat.reduceDiv, indexK.aggOf, Int.reducePow, Int.reduceLE, Int.reduceNeg, Int.reduceLT, Int.reduceBEq, Int.reduceBNe, Int.reduceEq, ownA, Try.facts, hb1]
    rw [xorA, if_neg h1]
    exact ⟨rfl, Abs.Sub.refl _⟩

/-- what Pick makes of a bit that may be -/
def pickL (b : Bool) (xs ys : List UInt8) : List UInt8 := List.zipWith (fun x y => x ^^^ ((if b then 255 else 0) &&& (x ^^^ y))) xs ys
theorem pickL_eq (b : Bool) (xs ys : List UInt8) (h : xs.length = ys.length) : pickL b xs ys = if b then ys else xs := by
  induction xs generalizing ys with
  | nil => cases ys with | nil => cases b <;> rfl | cons _ _ => simp at h
  | cons x xs ih =>
    cases ys with
    | nil => simp at h
    | cons y ys =>
      have := ih ys (by simpa using h)
      simp only [pickL, List.zipWith_cons_cons] at this ⊢
      rw [this]
      cases b
      · simp
      · have e : (255 : UInt8) &&& (x ^^^ y) = x ^^^ y := by
          apply UInt8.toBitVec_inj.1; simp; exact BitVec.allOnes_and
        simp [e, ← UInt8.xor_assoc]
theorem pickL_take (b : Bool) (xs ys : List UInt8) (i : Nat) (h : i < xs.length) (h' : i < ys.length) : pickL b (xs.take (i + 1)) (ys.take (i + 1)) = pickL b (xs.take i) (ys.take i) ++ [xs[i] ^^^ ((if b then 255 else 0) &&& (xs[i] ^^^ ys[i]))] := by
  unfold pickL
  rw [List.take_succ_eq_append_getElem h, List.take_succ_eq_append_getElem h', List.zipWith_append (by simp; omega)]
  rfl

def PickR (bit : Int) (xs ys : List UInt8) (H : AH) (v : AV) (H' : AH) : Prop :=
  if xs.length ≠ ys.length ∨ (bit ≠ 0 ∧ bit ≠ 1) then v = .tup [.imm 0 [] 0, .sc (.int .i64 1)] ∧ H' = H
  else ∃ k, k ≠ 0 ∧ H k = none ∧ v = .tup [.own k 0 xs.length, .sc (.int .i64 0)] ∧ H' = H.set k (.cells (encB (if bit = 0 then xs else ys)) 5 1)

set_option maxHeartbeats 1000000 in
theorem pick_live (bit : Int) (xs ys : List UInt8) (hl : xs.length ≤ 140737488355328) (H : AH) : ACalls Try.prog 28 [.sc (.int .i64 bit), bytesV xs, bytesV ys] H (PickR bit xs ys H) := by
  refine acalls_of_cwp (c := ⟨Try.prog, 56, [(8, [0, 0, 0, 0, 0, 1, 0, 0, 0, 0, 1, 0, 0, 0, 1, 0, 0, 0, 0, 2])], []⟩) (rs := [ResultVar.tmp 6, ResultVar.tmp 7]) Try.mixed Try.func28 rfl rfl rfl (Nat.le_of_ble_eq_true rfl) (by kernel_rfl) ?_
  by_cases h2 : bit = 0 ∨ bit = 1
  · by_cases h1 : xs.length = ys.length
    · obtain ⟨b, hb⟩ : ∃ b : Bool, bit = if b then 1 else 0 := by rcases h2 with h | h; exact ⟨false, by simp [h]⟩; exact ⟨true, by simp [h]⟩
      have hb1 : ((xs.length : Int) != (ys.length : Int)) = false := by simp [h1]
      have hb0 : (bit != 0) = b := by cases b <;> simp [hb]
      have hb3 : (bit != 1) = !b := by cases b <;> simp [hb]
      have hm : IntKind.u8.wrap (255 * bit) = (((if b then 255 else 0 : UInt8)).toNat : Int) := by cases b <;> simp [hb] <;> rfl
      have hR : ∀ H' v, (∃ k, k ≠ 0 ∧ H k = none ∧ v = .tup [.own k 0 xs.length, .sc (.int .i64 0)] ∧ H' = H.set k (.cells (encB (if bit = 0 then xs else ys)) 5 1)) → PickR bit xs ys H v H' := by
        intro H' v h
        rw [PickR, if_neg (by omega)]
        exact h
      have hq : (if bit = 0 then xs else ys) = pickL b xs ys := by rw [pickL_eq b xs ys h1]; cases b <;> simp [hb]
      generalize PickR bit xs ys H = R at *
      have hx : ∀ (x y : UInt8), bits .and .u8 (((if b then 255 else 0 : UInt8)).toNat : Int) ((x ^^^ y).toNat : Int) = ((((if b then 255 else 0 : UInt8)) &&& (x ^^^ y)).toNat : Int) := fun x y => n8and _ _
      have hft : ∀ i, (h : i < xs.length) → (h' : i < ys.length) → pickL b (xs.take (i + 1)) (ys.take (i + 1)) = pickL b (xs.take i) (ys.take i) ++ [xs[i] ^^^ ((if b then 255 else 0) &&& (xs[i] ^^^ ys[i]))] := pickL_take b xs ys
      have hfl : ∀ i, i ≤ xs.length → (pickL b (xs.take i) (ys.take i)).length = i := fun i hi => by rw [pickL, List.length_zipWith, List.length_take, List.length_take]; omega
      have hf0 : pickL b [] [] = [] := rfl
      generalize hmk : (if b then 255 else 0 : UInt8) = mk at *
      generalize pickL b = F at *
      cases b <;> simp only [Bool.not_true, Bool.not_false] at hb3
      all_goals
        simp (disch := omega) only [↓runPre, runPost, fieldO, ixA, cutA, lenA, aggA, rowA, appA, mkA, indA, bnd, srcA, sameOp, funcA, partA, aggD, ↓PostP, resV, resAll, resOne, resVF, resAllF, resOneF, fitsAll, fitsR, fits, frz, Post, Nat.reduceBEq, Nat.reduceLT, reduceCtorEq, ↓reduceIte, initS, AV.cellsOf, AV.fine, AV.one, repA, Nat.reduceMul, Nat.reduceAdd, Nat.reduceLeDiff, Nat.reduceEqDiff, Int.reduceToNat, Nat.reduceSub, Nat.reduceMod, Nat.reduceDiv, indexK.aggOf, Int.reducePow, Int.reduceLE, Int.reduceNeg, Int.reduceLT, Int.reduceBEq, Int.reduceBNe, Int.reduceEq, ownA, Try.facts, hb0, hb3, hb1, hm]
        intro k hk0 hk
        refine loop_t (c := ⟨Try.prog, 56, [(8, [0, 0, 0, 0, 0, 1, 0, 0, 0, 0, 1, 0, 0, 0, 1, 0, 0, 0, 0, 2])], []⟩) Try.mixed (by kernel_rfl) (fun m σ H' => ∃ i, i + m = xs.length ∧ σ 1 = bytesV xs ∧ σ 2 = bytesV ys ∧ σ 8 = .sc (.int .u8 mk.toNat) ∧ σ 31 = .sc (.int .i64 xs.length) ∧ σ 32 = .sc (.int .i64 i) ∧ σ 9 = .own k 0 xs.length ∧ H' = H.set k (.cells (encB (fillR (F (xs.take i) (ys.take i)) xs.length)) 5 1)) xs.length ?_ ?_
        · refine ⟨0, by omega, ?_⟩
          simp (disch := omega) only [↓runPre, runPost, fieldO, ixA, cutA, lenA, aggA, rowA, appA, mkA, indA, bnd, srcA, sameOp, funcA, partA, aggD, ↓PostP, resV, resAll, resOne, resVF, resAllF, resOneF, fitsAll, fitsR, fits, frz, Post, Nat.reduceBEq, Nat.reduceLT, reduceCtorEq, ↓reduceIte, initS, AV.cellsOf, AV.fine, AV.one, repA, Nat.reduceMul, Nat.reduceAdd, Nat.reduceLeDiff, Nat.reduceEqDiff, Int.reduceToNat, Nat.reduceSub, Nat.reduceMod, Nat.reduceDiv, indexK.aggOf, Int.reducePow, Int.reduceLE, Int.reduceNeg, Int.reduceLT, Int.reduceBEq, Int.reduceBNe, Int.reduceEq, ownA, Try.facts, repA_bytes, List.take_zero, fillR, hf0, List.length_nil, Nat.sub_zero]
        · rintro m σ H' ⟨i, hi, h1', h2', h8, h31, h32, h9, rfl⟩
          have hzl := hfl i (by omega)
          by_cases hlt : i < xs.length
          · have hb2 : decide ((i : Int) < (xs.length : Int)) = true := by simp; omega
            have g1 := getB hlt
            have g2 := getB (l := ys) (i := i) (by omega)
            have hz := hft i hlt (by omega)
            generalize F (xs.take i) (ys.take i) = z at *
            have hrl := fillR_length (f := z) (n := xs.length) (by omega)
            have hp : putCells (encB (fillR z xs.length)) i [.sc (.int .u8 (xs[i] ^^^ (mk &&& (xs[i] ^^^ ys[i]))).toNat)] = encB (fillR (z ++ [xs[i] ^^^ (mk &&& (xs[i] ^^^ ys[i]))]) xs.length) := by
              rw [put_bytes (by omega), ← fillR_set (by omega), hzl]
            rw [← hz] at hp
            simp (disch := omega) only [↓runPre, runPost, fieldO, ixA, cutA, lenA, aggA, rowA, appA, mkA, indA, bnd, srcA, sameOp, funcA, partA, aggD, ↓PostP, resV, resAll, resOne, resVF, resAllF, resOneF, fitsAll, fitsR, fits, frz, Post, Nat.reduceBEq, Nat.reduceLT, reduceCtorEq, ↓reduceIte, initS, AV.cellsOf, AV.fine, AV.one, repA, Nat.reduceMul, Nat.reduceAdd, Nat.reduceLeDiff, Nat.reduceEqDiff, Int.reduceToNat, Nat.reduceSub, Nat.reduceMod, Nat.reduceDiv, indexK.aggOf, Int.reducePow, Int.reduceLE, Int.reduceNeg, Int.reduceLT, Int.reduceBEq, Int.reduceBNe, Int.reduceEq, ownA, Try.facts, h1', h2', h8, h31, h32, h9, hb2, g1, g2, hp, hrl]
            exact ⟨m - 1, by omega, i + 1, by omega, rfl, rfl⟩
          · have hb2 : decide ((i : Int) < (xs.length : Int)) = false := by simp; omega
            obtain rfl : i = xs.length := by omega
            have e1 : xs.take xs.length = xs := List.take_length
            have e2 : ys.take xs.length = ys := by rw [h1, List.take_length]
            rw [e1, e2] at hzl ⊢
            have hfu : fillR (F xs ys) xs.length = F xs ys := by have := fillR_full (f := F xs ys); rwa [hzl] at this
            rw [hfu]
            simp (disch := omega) only [↓runPre, runPost, fieldO, ixA, cutA, lenA, aggA, rowA, appA, mkA, indA, bnd, srcA, sameOp, funcA, partA, aggD, ↓PostP, resV, resAll, resOne, resVF, resAllF, resOneF, fitsAll, fitsR, fits, frz, Post, Nat.reduceBEq, Nat.reduceLT, reduceCtorEq, ↓reduceIte, initS, AV.cellsOf, AV.fine, AV.one, repA, Nat.reduceMul, Nat.reduceAdd, Nat.reduceLeDiff, Nat.reduceEqDiff, Int.reduceToNat, Nat.reduceSub, Nat.reduceMod, Nat.reduceDiv, indexK.aggOf, Int.reducePow, Int.reduceLE, Int.reduceNeg, Int.reduceLT, Int.reduceBEq, Int.reduceBNe, Int.reduceEq, ownA, Try.facts, h1', h2', h8, h31, h32, h9, hb2, hk, hzl]
            exact ⟨_, rfl, _, Abs.Sub.refl _, hR _ _ ⟨k, hk0, hk, rfl, by rw [hq]⟩⟩
    · have hb1 : ((xs.length : Int) != (ys.length : Int)) = true := by simp; omega
      have hR : PickR bit xs ys H (.tup [.imm 0 [] 0, .sc (.int .i64 1)]) H := by rw [PickR, if_pos (.inl h1)]; exact ⟨rfl, rfl⟩
      rcases h2 with rfl | rfl
      · simp (disch := omega) only [↓runPre, runPost, fieldO, ixA, cutA, lenA, aggA, rowA, appA, mkA, indA, bnd, srcA, sameOp, funcA, partA, aggD, ↓PostP, resV, resAll, resOne, resVF, resAllF, resOneF, fitsAll, fitsR, fits, frz, Post, Nat.reduceBEq, Nat.reduceLT, reduceCtorEq, ↓reduceIte, initS, AV.cellsOf, AV.fine, AV.one, repA, Nat.reduceMul, Nat.reduceAdd, Nat.reduceLeDiff, Nat.reduceEqDiff, Int.reduceToNat, Nat.reduceSub, Nat.reduceMod, Nat.reduceDiv, indexK.aggOf, Int.reducePow, Int.reduceLE, Int.reduceNeg, Int.reduceLT, Int.reduceBEq, Int.reduceBNe, Int.reduceEq, ownA, Try.facts, hb1]
        exact ⟨_, rfl, _, Abs.Sub.refl _, hR⟩
      · simp (disch := omega) only [↓runPre, runPost, fieldO, ixA, cutA, lenA, aggA, rowA, appA, mkA, indA, bnd, srcA, sameOp, funcA, partA, aggD, ↓PostP, resV, resAll, resOne, resVF, resAllF, resOneF, fitsAll, fitsR, fits, frz, Post, Nat.reduceBEq, Nat.reduceLT, reduceCtorEq, ↓reduceIte, initS, AV.cellsOf, AV.fine, AV.one, repA, Nat.reduceMul, Nat.reduceAdd, Nat.reduceLeDiff, Nat.reduceEqDiff, Int.reduceToNat, Nat.reduceSub, Nat.reduceMod, Nat.reduceDiv, indexK.aggOf, Int.reducePow, Int.reduceLE, Int.reduceNeg, Int.reduceLT, Int.reduceBEq, Int.reduceBNe, Int.reduceEq, ownA, Try.facts, hb1]
        exact ⟨_, rfl, _, Abs.Sub.refl _, hR⟩
  · have hR : PickR bit xs ys H (.tup [.imm 0 [] 0, .sc (.int .i64 1)]) H := by rw [PickR, if_pos (.inr (by omega))]; exact ⟨rfl, rfl⟩
    have hb0 : (bit != 0) = true := by simp; omega
    have hb1 : (bit != 1) = true := by simp; omega
    simp (disch := omega) only [↓runPre, runPost, fieldO, ixA, cutA, lenA, aggA, rowA, appA, mkA, indA, bnd, srcA, sameOp, funcA, partA, aggD, ↓PostP, resV, resAll, resOne, resVF, resAllF, resOneF, fitsAll, fitsR, fits, frz, Post, Nat.reduceBEq, Nat.reduceLT, reduceCtorEq, ↓reduceIte, initS, AV.cellsOf, AV.fine, AV.one, repA, Nat.reduceMul, Nat.reduceAdd, Nat.reduceLeDiff, Nat.reduceEqDiff, Int.reduceToNat, Nat.reduceSub, Nat.reduceMod, Nat.reduceDiv, indexK.aggOf, Int.reducePow, Int.reduceLE, Int.reduceNeg, Int.reduceLT, Int.reduceBEq, Int.reduceBNe, Int.reduceEq, ownA, Try.facts, hb0, hb1]
    exact ⟨_, rfl, _, Abs.Sub.refl _, hR⟩
end Go.Proofs.Ytjglpngjpiflhaa
