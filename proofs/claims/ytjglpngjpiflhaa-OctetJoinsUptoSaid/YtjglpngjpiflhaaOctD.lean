/-
  The walks of octet.Unhex, octet.Bytes, octet.Number, octet.Xor.
  Conditions: none. Lemmas only.
-/
import Derived.Test.YtjglpngjpiflhaaOctC
set_option linter.all false
set_option linter.unusedSimpArgs false
set_option linter.unusedVariables false
namespace Go.Proofs.Ytjglpngjpiflhaa
open Go Go.Abs Go.Proofs

def unhexL : List UInt8 → Option (List UInt8)
  | [] => some []
  | [_] => none
  | a :: b :: r => if 15 < (wd a).toNat ∨ 15 < (wd b).toNat then none else (unhexL r).map ((wd a * 16 ||| wd b) :: ·)
/-- what Unhex answers -/
def unhexV (o : Option (List UInt8)) : AV := match o with
  | some l => .tup [bytesV l, .sc (.int .i64 0)]
  | none => .tup [.imm 0 [] 0, .sc (.int .i64 5)]

theorem unhexL_odd (l : List UInt8) (h : l.length % 2 = 1) : unhexL l = none := by
  induction l using unhexL.induct with
  | case1 => simp at h
  | case2 => rfl
  | case3 a b r hc => simp [unhexL, hc]
  | case4 a b r hc ih => simp only [unhexL, if_neg hc]; rw [ih (by simp at h; omega)]; rfl

set_option maxHeartbeats 1000000 in
theorem unhex_pure (l : List UInt8) (h : l.length ≤ 140737488355328) : APure Try.prog 16 [strV l] (unhexV (unhexL l)) := by
  refine apure_of_cwp (c := ⟨Try.prog, 44, [(7, [0, 0, 0, 0, 0, 0, 0, 0, 0, 0, 0, 0, 0])], []⟩) (rs := [ResultVar.tmp 2, ResultVar.tmp 3]) Try.mixed Try.func16 rfl rfl rfl (Nat.le_of_ble_eq_true rfl) (by kernel_rfl) fun H => ?_
  by_cases ho : l.length % 2 = 1
  · have hb : (((l.length % 2 : Nat) : Int) != 0) = true := by simp; omega
    simp (disch := omega) only [↓runPre, runPost, fieldO, ixA, cutA, lenA, aggA, rowA, appA, mkA, indA, bnd, srcA, sameOp, funcA, partA, aggD, ↓PostP, resV, resAll, resOne, resVF, resAllF, resOneF, fitsAll, fitsR, fits, frz, Post, Nat.reduceBEq, Nat.reduceLT, reduceCtorEq, ↓reduceIte, initS, AV.cellsOf, AV.fine, AV.one, repA, Nat.reduceMul, Nat.reduceAdd, Nat.reduceLeDiff, Nat.reduceEqDiff, Int.reduceToNat, Nat.reduceSub, Nat.reduceMod, Nat.reduceDiv, indexK.aggOf, Int.reducePow, Int.reduceLE, Int.reduceNeg, Int.reduceLT, Int.reduceBEq, Int.reduceBNe, Int.reduceEq, ownA, Try.facts, hb, tmodN, tdivN]
    rw [unhexL_odd l ho]
    exact ⟨rfl, Abs.Sub.refl _⟩
  · have hb : (((l.length % 2 : Nat) : Int) != 0) = false := by simp; omega
    simp (disch := omega) only [↓runPre, runPost, fieldO, ixA, cutA, lenA, aggA, rowA, appA, mkA, indA, bnd, srcA, sameOp, funcA, partA, aggD, ↓PostP, resV, resAll, resOne, resVF, resAllF, resOneF, fitsAll, fitsR, fits, frz, Post, Nat.reduceBEq, Nat.reduceLT, reduceCtorEq, ↓reduceIte, initS, AV.cellsOf, AV.fine, AV.one, repA, Nat.reduceMul, Nat.reduceAdd, Nat.reduceLeDiff, Nat.reduceEqDiff, Int.reduceToNat, Nat.reduceSub, Nat.reduceMod, Nat.reduceDiv, indexK.aggOf, Int.reducePow, Int.reduceLE, Int.reduceNeg, Int.reduceLT, Int.reduceBEq, Int.reduceBNe, Int.reduceEq, ownA, Try.facts, hb, tmodN, tdivN]
    refine tok_t 4 (by simp (disch := omega) only [↓runPre, runPost, fieldO, ixA, cutA, lenA, aggA, rowA, appA, mkA, indA, bnd, srcA, sameOp, funcA, partA, aggD, ↓PostP, resV, resAll, resOne, resVF, resAllF, resOneF, fitsAll, fitsR, fits, frz, Post, Nat.reduceBEq, Nat.reduceLT, reduceCtorEq, ↓reduceIte, initS, AV.cellsOf, AV.fine, AV.one, repA, Nat.reduceMul, Nat.reduceAdd, Nat.reduceLeDiff, Nat.reduceEqDiff, Int.reduceToNat, Nat.reduceSub, Nat.reduceMod, Nat.reduceDiv, indexK.aggOf, Int.reducePow, Int.reduceLE, Int.reduceNeg, Int.reduceLT, Int.reduceBEq, Int.reduceBNe, Int.reduceEq, ownA, Try.facts]) fun k hk0 hk => ?_
    refine loop_t (c := ⟨Try.prog, 44, [(7, [0, 0, 0, 0, 0, 0, 0, 0, 0, 0, 0, 0, 0])], []⟩) Try.mixed (by kernel_rfl) (fun m σ H' => ∃ i acc, i + m = l.length / 2 ∧ acc.length = i ∧ unhexL l = (unhexL (l.drop (2 * i))).map (acc ++ ·) ∧ σ 0 = strV l ∧ σ 14 = .sc (.int .i64 (l.length / 2 : Nat)) ∧ σ 15 = .sc (.int .i64 i) ∧ ∃ k o, k ≠ 0 ∧ H k = none ∧ H' = H.set k o ∧ TokO 5 1 o i ∧ σ 4 = .imm k (encB acc) i) (l.length / 2) ?_ ?_
    · refine ⟨0, [], by omega, rfl, by simp, ?_⟩
      simp (disch := omega) only [↓runPre, runPost, fieldO, ixA, cutA, lenA, aggA, rowA, appA, mkA, indA, bnd, srcA, sameOp, funcA, partA, aggD, ↓PostP, resV, resAll, resOne, resVF, resAllF, resOneF, fitsAll, fitsR, fits, frz, Post, Nat.reduceBEq, Nat.reduceLT, reduceCtorEq, ↓reduceIte, initS, AV.cellsOf, AV.fine, AV.one, repA, Nat.reduceMul, Nat.reduceAdd, Nat.reduceLeDiff, Nat.reduceEqDiff, Int.reduceToNat, Nat.reduceSub, Nat.reduceMod, Nat.reduceDiv, indexK.aggOf, Int.reducePow, Int.reduceLE, Int.reduceNeg, Int.reduceLT, Int.reduceBEq, Int.reduceBNe, Int.reduceEq, ownA, Try.facts]
      exact ⟨k, _, hk0, hk, rfl, .inr ⟨rfl, rfl⟩, rfl⟩
    · rintro m σ H' ⟨i, acc, hi, hacc, hu, h0, h14, h15, k, o, hk0, hk, rfl, hto, h4⟩
      by_cases hlt : i < l.length / 2
      · have hb1 : decide ((i : Int) < ((l.length / 2 : Nat) : Int)) = true := by simp; omega
        obtain ⟨a, b, r, hd⟩ : ∃ a b r, l.drop (2 * i) = a :: b :: r := by
          match hdr : l.drop (2 * i) with
          | a :: b :: r => exact ⟨a, b, r, rfl⟩
          | [a] => have := congrArg List.length hdr; simp at this; omega
          | [] => have := congrArg List.length hdr; simp at this; omega
        have ga : l.getD (2 * i) 0 = a := by
          have : (l.drop (2 * i))[0]? = some a := by rw [hd]; rfl
          simp [List.getElem?_drop] at this
          simp [List.getD, this]
        have gb : l.getD (2 * i + 1) 0 = b := by
          have : (l.drop (2 * i))[1]? = some b := by rw [hd]; rfl
          simp [List.getElem?_drop] at this
          simp [List.getD, this]
        have hr : l.drop (2 * (i + 1)) = r := by
          have : (l.drop (2 * i)).drop 2 = r := by rw [hd]; rfl
          rw [List.drop_drop] at this
          rw [← this]; congr 1
        simp (disch := omega) only [↓runPre, runPost, fieldO, ixA, cutA, lenA, aggA, rowA, appA, mkA, indA, bnd, srcA, sameOp, funcA, partA, aggD, ↓PostP, resV, resAll, resOne, resVF, resAllF, resOneF, fitsAll, fitsR, fits, frz, Post, Nat.reduceBEq, Nat.reduceLT, reduceCtorEq, ↓reduceIte, initS, AV.cellsOf, AV.fine, AV.one, repA, Nat.reduceMul, Nat.reduceAdd, Nat.reduceLeDiff, Nat.reduceEqDiff, Int.reduceToNat, Nat.reduceSub, Nat.reduceMod, Nat.reduceDiv, indexK.aggOf, Int.reducePow, Int.reduceLE, Int.reduceNeg, Int.reduceLT, Int.reduceBEq, Int.reduceBNe, Int.reduceEq, ownA, Try.facts, h0, h14, h15, h4, ga, gb, hb1]
        refine CallP.i (digit_pure _) ?_
        simp (disch := omega) only [↓runPre, runPost, fieldO, ixA, cutA, lenA, aggA, rowA, appA, mkA, indA, bnd, srcA, sameOp, funcA, partA, aggD, ↓PostP, resV, resAll, resOne, resVF, resAllF, resOneF, fitsAll, fitsR, fits, frz, Post, Nat.reduceBEq, Nat.reduceLT, reduceCtorEq, ↓reduceIte, initS, AV.cellsOf, AV.fine, AV.one, repA, Nat.reduceMul, Nat.reduceAdd, Nat.reduceLeDiff, Nat.reduceEqDiff, Int.reduceToNat, Nat.reduceSub, Nat.reduceMod, Nat.reduceDiv, indexK.aggOf, Int.reducePow, Int.reduceLE, Int.reduceNeg, Int.reduceLT, Int.reduceBEq, Int.reduceBNe, Int.reduceEq, ownA, Try.facts, h0, h14, h15, h4, ga, gb, hb1]
        refine CallP.i (digit_pure _) ?_

        have hu2 : unhexL (l.drop (2 * i)) = if 15 < (wd a).toNat ∨ 15 < (wd b).toNat then none else (unhexL r).map ((wd a * 16 ||| wd b) :: ·) := by rw [hd]; rfl
        by_cases h1 : 15 < (wd a).toNat
        · have hb2 : decide ((15 : Int) < (wd a).toNat) = true := by simp; omega
          rw [if_pos (.inl h1)] at hu2
          rw [hu, hu2]
          simp (disch := omega) only [↓runPre, runPost, fieldO, ixA, cutA, lenA, aggA, rowA, appA, mkA, indA, bnd, srcA, sameOp, funcA, partA, aggD, ↓PostP, resV, resAll, resOne, resVF, resAllF, resOneF, fitsAll, fitsR, fits, frz, Post, Nat.reduceBEq, Nat.reduceLT, reduceCtorEq, ↓reduceIte, initS, AV.cellsOf, AV.fine, AV.one, repA, Nat.reduceMul, Nat.reduceAdd, Nat.reduceLeDiff, Nat.reduceEqDiff, Int.reduceToNat, Nat.reduceSub, Nat.reduceMod, Nat.reduceDiv, indexK.aggOf, Int.reducePow, Int.reduceLE, Int.reduceNeg, Int.reduceLT, Int.reduceBEq, Int.reduceBNe, Int.reduceEq, ownA, Try.facts, h0, h14, h15, h4, ga, gb, hb1, hb2]
          exact ⟨rfl, Sub.set_new hk⟩
        · have hb2 : decide ((15 : Int) < (wd a).toNat) = false := by simp; omega
          by_cases h2 : 15 < (wd b).toNat
          · have hb3 : decide ((15 : Int) < (wd b).toNat) = true := by simp; omega
            rw [if_pos (.inr h2)] at hu2
            rw [hu, hu2]
            simp (disch := omega) only [↓runPre, runPost, fieldO, ixA, cutA, lenA, aggA, rowA, appA, mkA, indA, bnd, srcA, sameOp, funcA, partA, aggD, ↓PostP, resV, resAll, resOne, resVF, resAllF, resOneF, fitsAll, fitsR, fits, frz, Post, Nat.reduceBEq, Nat.reduceLT, reduceCtorEq, ↓reduceIte, initS, AV.cellsOf, AV.fine, AV.one, repA, Nat.reduceMul, Nat.reduceAdd, Nat.reduceLeDiff, Nat.reduceEqDiff, Int.reduceToNat, Nat.reduceSub, Nat.reduceMod, Nat.reduceDiv, indexK.aggOf, Int.reducePow, Int.reduceLE, Int.reduceNeg, Int.reduceLT, Int.reduceBEq, Int.reduceBNe, Int.reduceEq, ownA, Try.facts, h0, h14, h15, h4, ga, gb, hb1, hb2, hb3]
            exact ⟨rfl, Sub.set_new hk⟩
          · have hb3 : decide ((15 : Int) < (wd b).toNat) = false := by simp; omega
            rw [if_neg (by rintro (h | h) <;> contradiction)] at hu2
            simp (disch := omega) only [↓runPre, runPost, fieldO, ixA, cutA, lenA, aggA, rowA, appA, mkA, indA, bnd, srcA, sameOp, funcA, partA, aggD, ↓PostP, resV, resAll, resOne, resVF, resAllF, resOneF, fitsAll, fitsR, fits, frz, Post, Nat.reduceBEq, Nat.reduceLT, reduceCtorEq, ↓reduceIte, initS, AV.cellsOf, AV.fine, AV.one, repA, Nat.reduceMul, Nat.reduceAdd, Nat.reduceLeDiff, Nat.reduceEqDiff, Int.reduceToNat, Nat.reduceSub, Nat.reduceMod, Nat.reduceDiv, indexK.aggOf, Int.reducePow, Int.reduceLE, Int.reduceNeg, Int.reduceLT, Int.reduceBEq, Int.reduceBNe, Int.reduceEq, ownA, Try.facts, h0, h14, h15, h4, ga, gb, hb1, hb2, hb3, hto, hacc]
            intro k' o' hk0' hk' ho'
            refine ⟨m - 1, by omega, i + 1, acc ++ [wd a * 16 ||| wd b], by omega, by simp [hacc], ?_, rfl, k', o', hk0', subset_set hk', rfl, ho', rfl⟩
            rw [hu, hu2, hr]
            cases unhexL r <;> simp
      · have hb1 : decide ((i : Int) < ((l.length / 2 : Nat) : Int)) = false := by simp; omega
        have hd : l.drop (2 * i) = [] := List.drop_eq_nil_of_le (by omega)
        rw [hd] at hu
        rw [hu]
        simp (disch := omega) only [↓runPre, runPost, fieldO, ixA, cutA, lenA, aggA, rowA, appA, mkA, indA, bnd, srcA, sameOp, funcA, partA, aggD, ↓PostP, resV, resAll, resOne, resVF, resAllF, resOneF, fitsAll, fitsR, fits, frz, Post, Nat.reduceBEq, Nat.reduceLT, reduceCtorEq, ↓reduceIte, initS, AV.cellsOf, AV.fine, AV.one, repA, Nat.reduceMul, Nat.reduceAdd, Nat.reduceLeDiff, Nat.reduceEqDiff, Int.reduceToNat, Nat.reduceSub, Nat.reduceMod, Nat.reduceDiv, indexK.aggOf, Int.reducePow, Int.reduceLE, Int.reduceNeg, Int.reduceLT, Int.reduceBEq, Int.reduceBNe, Int.reduceEq, ownA, Try.facts, h0, h14, h15, h4, hb1]
        exact ⟨by simp [unhexL, unhexV, hacc], Sub.set_new hk⟩
end Go.Proofs.Ytjglpngjpiflhaa
