/-
  The walks of octet.digit, octet.Unhex, octet.Bytes, octet.Number.
  Conditions: none. Lemmas only.
-/
import Derived.Test.YtjglpngjpiflhaaOctB
set_option linter.all false
set_option linter.unusedSimpArgs false
set_option linter.unusedVariables false
namespace Go.Proofs.Ytjglpngjpiflhaa
open Go Go.Abs Go.Proofs

/-- what a digit is worth -/
def wd (c : UInt8) : UInt8 := if 48 ≤ c.toNat ∧ c.toNat ≤ 57 then c - 48 else if 97 ≤ c.toNat ∧ c.toNat ≤ 102 then c - 97 + 10 else 16
set_option maxHeartbeats 2000000 in
theorem digit_pure (c : UInt8) : APure Try.prog 30 [.sc (.int .u8 c.toNat)] (.sc (.int .u8 (wd c).toNat)) := by
  have e1 : IntKind.u8.wrap ((c.toNat : Int) - 48) = ((c - 48).toNat : Int) := n8wsub c 48
  have e2 : IntKind.u8.wrap ((c.toNat : Int) - 97) = ((c - 97).toNat : Int) := n8wsub c 97
  have e3 : IntKind.u8.wrap (((c - 97).toNat : Int) + 10) = ((c - 97 + 10).toNat : Int) := n8wadd (c - 97) 10
  have b1 : decide ((48 : Int) ≤ (c.toNat : Int)) = decide (48 ≤ c.toNat) := by simp; omega
  have b2 : decide ((c.toNat : Int) ≤ 57) = decide (c.toNat ≤ 57) := by simp; omega
  have b3 : decide ((97 : Int) ≤ (c.toNat : Int)) = decide (97 ≤ c.toNat) := by simp; omega
  have b4 : decide ((c.toNat : Int) ≤ 102) = decide (c.toNat ≤ 102) := by simp; omega
  have hw : wd c = bif decide (48 ≤ c.toNat) && decide (c.toNat ≤ 57) then c - 48 else bif decide (97 ≤ c.toNat) && decide (c.toNat ≤ 102) then c - 97 + 10 else 16 := by
    unfold wd; by_cases h1 : 48 ≤ c.toNat <;> by_cases h2 : c.toNat ≤ 57 <;> by_cases h3 : 97 ≤ c.toNat <;> by_cases h4 : c.toNat ≤ 102 <;> simp [h1, h2, h3, h4]
  rw [hw]
  generalize hd1 : decide (48 ≤ c.toNat) = d1 at *
  generalize hd2 : decide (c.toNat ≤ 57) = d2 at *
  generalize hd3 : decide (97 ≤ c.toNat) = d3 at *
  generalize hd4 : decide (c.toNat ≤ 102) = d4 at *
  refine apure_of_cwp (c := ⟨Try.prog, 22, [], []⟩) (rs := [ResultVar.tmp 2]) Try.mixed Try.func30 rfl rfl rfl (Nat.le_of_ble_eq_true rfl) (by kernel_rfl) fun H => ?_
  cases d1 <;> (try cases d2) <;> (try cases d3) <;> (try cases d4) <;> simp only [Bool.and_true, Bool.and_false, Bool.false_and, Bool.true_and, cond_true, cond_false] <;>
  (simp (disch := omega) only [↓runPre, runPost, fieldO, ixA, cutA, lenA, aggA, rowA, appA, mkA, indA, bnd, srcA, sameOp, funcA, partA, aggD, ↓PostP, resV, resAll, resOne, resVF, resAllF, resOneF, fitsAll, fitsR, fits, frz, Post, Nat.reduceBEq, Nat.reduceLT, reduceCtorEq, ↓reduceIte, initS, AV.cellsOf, AV.fine, AV.one, repA, Nat.reduceMul, Nat.reduceAdd, Nat.reduceLeDiff, Nat.reduceEqDiff, Int.reduceToNat, Nat.reduceSub, Nat.reduceMod, Nat.reduceDiv, indexK.aggOf, Int.reducePow, Int.reduceLE, Int.reduceNeg, Int.reduceLT, Int.reduceBEq, Int.reduceBNe, Int.reduceEq, ownA, Try.facts, b1, b2, b3, b4, ↓e1, ↓e2, ↓e3]
   first | exact ⟨rfl, Abs.Sub.refl _⟩ | exact Abs.Sub.refl _)
end Go.Proofs.Ytjglpngjpiflhaa
