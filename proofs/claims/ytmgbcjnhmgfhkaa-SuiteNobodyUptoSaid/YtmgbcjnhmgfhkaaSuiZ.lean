/-
  The walks of the suite layer: the law of a suite that nobody made: its walk.
  Conditions: none. Lemmas only.
-/
import Derived.Test.YtmgbcjnhmgfhkaaSuiY
set_option linter.all false
set_option linter.unusedSimpArgs false
set_option linter.unusedVariables false
set_option maxRecDepth 8000
set_option maxHeartbeats 4000000
namespace Go.Proofs.Ytmgbcjnhmgfhkaa
open Go Go.Abs Go.Proofs

theorem nobody_no (k : AskT) (ha : k.a.raw.length ≤ 100000000) (hb : k.b.raw.length ≤ 100000000) (hc : k.c.raw.length ≤ 100000000) (hkn : k.n < 9223372036854775808) :
    APure Try.prog 6 [.agg (askC k), .sc (.bool false)] (.sc (.bool true)) := by
  obtain ⟨kd, n, ⟨fa, a⟩, ⟨fb, b⟩, ⟨fc, c⟩⟩ := k
  simp only [askC] at *
  have oa := own_pure a (by omega)
  have ob := own_pure b (by omega)
  have oc := own_pure c (by omega)
  have haw := awake_pure
  have e0 : ((0 : Int) + 0 + 0 + 0 + 0 + 0 + 0 == 0) = true := rfl
  refine apure_of_cwp (c := ⟨Try.prog, 147, [(4, [0, 0, 1, 0, 0, 1, 0, 0, 1, 0, 0, 0]), (6, [0, 0, 0, 0, 1, 0, 0, 0, 0, 2, 0, 0, 0, 0, 0]), (2000007, [0, 3, 4, 9, 10, 15, 16, 18, 23, 24, 29, 30, 32, 37, 38, 40, 41, 42, 44, 1, 2, 5, 6, 7, 8, 11, 12, 13, 14, 17, 19, 20, 21, 22, 25, 26, 27, 28, 31, 33, 34, 35, 36, 39, 43, 45, 46, 47, 48, 49]), (7, [0, 0, 0, 0, 0, 0, 0, 0, 0, 0, 0, 0, 0, 0, 0, 0, 0, 0, 0, 2, 0, 0, 2, 0, 0, 0, 2, 0, 0, 0, 0, 2, 0, 0, 0, 2, 0, 0, 0, 0, 2, 0, 0, 0, 0, 0, 2, 0, 0, 0]), (1000000, [2]), (4000008, [4]), (4000007, [5, 6, 7, 8, 9, 10, 11, 12, 13]), (4000006, [2, 5, 6, 7, 8, 9, 10, 11, 12]), (4000005, [2, 5, 6, 7, 8, 9, 10]), (4000004, [2, 5, 6, 7, 8])], [], []⟩) (rs := [ResultVar.tmp 4]) Try.mixed Try.func6 rfl rfl rfl (Nat.le_of_ble_eq_true rfl) (by kernel_rfl) fun H => ?_
  have N : Nob H (.sc (.pointer none)) := .inl rfl
  simp (disch := omega) only [↓runPre, runPost, fieldO, ixA, cutA, lenA, aggA, rowA, appA, mkA, indA, bnd, srcA, sameOp, funcA, cvO, partA, aggD, ↓PostP, resV, resAll, resOne, resVF, resAllF, resOneF, fitsAll, fitsR, fits, frz, Post, Nat.reduceBEq, Nat.reduceLT, reduceCtorEq, ↓reduceIte, initS, AV.cellsOf, AV.fine, AV.one, repA, Nat.reduceMul, Nat.reduceAdd, Nat.reduceLeDiff, Nat.reduceEqDiff, Int.reduceToNat, Nat.reduceSub, Nat.reduceMod, Nat.reduceDiv, indexK.aggOf, Int.reducePow, Int.reduceLE, Int.reduceNeg, Int.reduceLT, Int.reduceBEq, Int.reduceBNe, Int.reduceEq, ownA, nilA, Try.facts]
  intro k2 hk20 hk2
  simp (disch := omega) only [↓runPre, runPost, fieldO, ixA, cutA, lenA, aggA, rowA, appA, mkA, indA, bnd, srcA, sameOp, funcA, cvO, partA, aggD, ↓PostP, resV, resAll, resOne, resVF, resAllF, resOneF, fitsAll, fitsR, fits, frz, Post, Nat.reduceBEq, Nat.reduceLT, reduceCtorEq, ↓reduceIte, initS, AV.cellsOf, AV.fine, AV.one, repA, Nat.reduceMul, Nat.reduceAdd, Nat.reduceLeDiff, Nat.reduceEqDiff, Int.reduceToNat, Nat.reduceSub, Nat.reduceMod, Nat.reduceDiv, indexK.aggOf, Int.reducePow, Int.reduceLE, Int.reduceNeg, Int.reduceLT, Int.reduceBEq, Int.reduceBNe, Int.reduceEq, ownA, nilA, Try.facts, kill_box hk2]
  repeat first
    | refine CallP.i oa ?_
    | refine CallP.i ob ?_
    | refine CallP.i oc ?_
    | refine CallP.i haw ?_
    | refine CallK.p oa ?_
    | refine CallK.p ob ?_
    | refine CallK.p oc ?_
    | refine CallK.p haw ?_
    | (refine CallK.i (shared_nobody _ _ a b N) ?_; rintro v H' ⟨rfl, rfl⟩)
    | (refine CallK.i (open_nobody _ _ a b c n N) ?_; rintro v H' ⟨rfl, rfl⟩)
    | (refine CallK.i (draw_nobody _ _ N) ?_; rintro v H' ⟨rfl, rfl⟩)
    | (refine CallK.i (hash_nobody _ _ a N) ?_; rintro v H' ⟨rfl, rfl⟩)
    | (refine CallK.i (public_nobody _ _ a N) ?_; rintro v H' ⟨rfl, rfl⟩)
    | (refine CallK.i (derive_nobody _ _ a b N) ?_; rintro v H' ⟨rfl, rfl⟩)
    | (refine CallK.i (signer_nobody _ _ a N) ?_; rintro v H' ⟨rfl, rfl⟩)
    | (refine CallK.i (sign_nobody _ _ a b N) ?_; rintro v H' ⟨rfl, rfl⟩)
    | (refine CallK.i (seal_nobody _ _ n a b c hkn N) ?_; rintro v H' ⟨rfl, rfl⟩)
    | (refine CallK.i (verify_nobody _ _ a b c N) ?_; rintro v H' ⟨rfl, rfl⟩)
    | (refine CallK.i (len_nobody _ _ N) ?_; rintro v H' ⟨rfl, rfl⟩)
    | (refine CallK.i (terms_nobody _ _ N) ?_; rintro v H' ⟨rfl, rfl⟩)
    | (refine CallK.i (clone_nobody _ _ N) ?_; rintro v H' ⟨rfl, rfl⟩)
    | simp (disch := omega) only [↓runPre, runPost, fieldO, ixA, cutA, lenA, aggA, rowA, appA, mkA, indA, bnd, srcA, sameOp, funcA, cvO, partA, aggD, ↓PostP, resV, resAll, resOne, resVF, resAllF, resOneF, fitsAll, fitsR, fits, frz, Post, Nat.reduceBEq, Nat.reduceLT, reduceCtorEq, ↓reduceIte, initS, AV.cellsOf, AV.fine, AV.one, repA, Nat.reduceMul, Nat.reduceAdd, Nat.reduceLeDiff, Nat.reduceEqDiff, Int.reduceToNat, Nat.reduceSub, Nat.reduceMod, Nat.reduceDiv, indexK.aggOf, Int.reducePow, Int.reduceLE, Int.reduceNeg, Int.reduceLT, Int.reduceBEq, Int.reduceBNe, Int.reduceEq, ownA, nilA, Try.facts, e0]
  exact Abs.Sub.refl _

theorem nobody_yes (k : AskT) (ha : k.a.raw.length ≤ 100000000) (hb : k.b.raw.length ≤ 100000000) (hc : k.c.raw.length ≤ 100000000) (hkn : k.n < 9223372036854775808) :
    APure Try.prog 6 [.agg (askC k), .sc (.bool true)] (.sc (.bool true)) := by
  obtain ⟨kd, n, ⟨fa, a⟩, ⟨fb, b⟩, ⟨fc, c⟩⟩ := k
  simp only [askC] at *
  have oa := own_pure a (by omega)
  have ob := own_pure b (by omega)
  have oc := own_pure c (by omega)
  have haw := awake_pure
  have e0 : ((0 : Int) + 0 + 0 + 0 + 0 + 0 + 0 == 0) = true := rfl
  refine apure_of_cwp (c := ⟨Try.prog, 147, [(4, [0, 0, 1, 0, 0, 1, 0, 0, 1, 0, 0, 0]), (6, [0, 0, 0, 0, 1, 0, 0, 0, 0, 2, 0, 0, 0, 0, 0]), (2000007, [0, 3, 4, 9, 10, 15, 16, 18, 23, 24, 29, 30, 32, 37, 38, 40, 41, 42, 44, 1, 2, 5, 6, 7, 8, 11, 12, 13, 14, 17, 19, 20, 21, 22, 25, 26, 27, 28, 31, 33, 34, 35, 36, 39, 43, 45, 46, 47, 48, 49]), (7, [0, 0, 0, 0, 0, 0, 0, 0, 0, 0, 0, 0, 0, 0, 0, 0, 0, 0, 0, 2, 0, 0, 2, 0, 0, 0, 2, 0, 0, 0, 0, 2, 0, 0, 0, 2, 0, 0, 0, 0, 2, 0, 0, 0, 0, 0, 2, 0, 0, 0]), (1000000, [2]), (4000008, [4]), (4000007, [5, 6, 7, 8, 9, 10, 11, 12, 13]), (4000006, [2, 5, 6, 7, 8, 9, 10, 11, 12]), (4000005, [2, 5, 6, 7, 8, 9, 10]), (4000004, [2, 5, 6, 7, 8])], [], []⟩) (rs := [ResultVar.tmp 4]) Try.mixed Try.func6 rfl rfl rfl (Nat.le_of_ble_eq_true rfl) (by kernel_rfl) fun H => ?_
  simp (disch := omega) only [↓runPre, runPost, fieldO, ixA, cutA, lenA, aggA, rowA, appA, mkA, indA, bnd, srcA, sameOp, funcA, cvO, partA, aggD, ↓PostP, resV, resAll, resOne, resVF, resAllF, resOneF, fitsAll, fitsR, fits, frz, Post, Nat.reduceBEq, Nat.reduceLT, reduceCtorEq, ↓reduceIte, initS, AV.cellsOf, AV.fine, AV.one, repA, Nat.reduceMul, Nat.reduceAdd, Nat.reduceLeDiff, Nat.reduceEqDiff, Int.reduceToNat, Nat.reduceSub, Nat.reduceMod, Nat.reduceDiv, indexK.aggOf, Int.reducePow, Int.reduceLE, Int.reduceNeg, Int.reduceLT, Int.reduceBEq, Int.reduceBNe, Int.reduceEq, ownA, nilA, Try.facts]
  intro k2 hk20 hk2
  simp (disch := omega) only [↓runPre, runPost, fieldO, ixA, cutA, lenA, aggA, rowA, appA, mkA, indA, bnd, srcA, sameOp, funcA, cvO, partA, aggD, ↓PostP, resV, resAll, resOne, resVF, resAllF, resOneF, fitsAll, fitsR, fits, frz, Post, Nat.reduceBEq, Nat.reduceLT, reduceCtorEq, ↓reduceIte, initS, AV.cellsOf, AV.fine, AV.one, repA, Nat.reduceMul, Nat.reduceAdd, Nat.reduceLeDiff, Nat.reduceEqDiff, Int.reduceToNat, Nat.reduceSub, Nat.reduceMod, Nat.reduceDiv, indexK.aggOf, Int.reducePow, Int.reduceLE, Int.reduceNeg, Int.reduceLT, Int.reduceBEq, Int.reduceBNe, Int.reduceEq, ownA, nilA, Try.facts, kill_box hk2]
  intro k5 hk50 hk5
  have N := (show Nob (H.set k5 (.cells [.sc (.slice none 0 0), .sc (.map none), .sc (.int .i64 0)] 57 3)) (.ptr k5 0) from .inr ⟨k5, rfl, set_get⟩)
  have S := Abs.Sub.set_new (o := .cells [.sc (.slice none 0 0), .sc (.map none), .sc (.int .i64 0)] 57 3) hk5
  repeat first
    | refine CallP.i oa ?_
    | refine CallP.i ob ?_
    | refine CallP.i oc ?_
    | refine CallP.i haw ?_
    | refine CallK.p oa ?_
    | refine CallK.p ob ?_
    | refine CallK.p oc ?_
    | refine CallK.p haw ?_
    | (refine CallK.i (shared_nobody _ _ a b N) ?_; rintro v H' ⟨rfl, rfl⟩)
    | (refine CallK.i (open_nobody _ _ a b c n N) ?_; rintro v H' ⟨rfl, rfl⟩)
    | (refine CallK.i (draw_nobody _ _ N) ?_; rintro v H' ⟨rfl, rfl⟩)
    | (refine CallK.i (hash_nobody _ _ a N) ?_; rintro v H' ⟨rfl, rfl⟩)
    | (refine CallK.i (public_nobody _ _ a N) ?_; rintro v H' ⟨rfl, rfl⟩)
    | (refine CallK.i (derive_nobody _ _ a b N) ?_; rintro v H' ⟨rfl, rfl⟩)
    | (refine CallK.i (signer_nobody _ _ a N) ?_; rintro v H' ⟨rfl, rfl⟩)
    | (refine CallK.i (sign_nobody _ _ a b N) ?_; rintro v H' ⟨rfl, rfl⟩)
    | (refine CallK.i (seal_nobody _ _ n a b c hkn N) ?_; rintro v H' ⟨rfl, rfl⟩)
    | (refine CallK.i (verify_nobody _ _ a b c N) ?_; rintro v H' ⟨rfl, rfl⟩)
    | (refine CallK.i (len_nobody _ _ N) ?_; rintro v H' ⟨rfl, rfl⟩)
    | (refine CallK.i (terms_nobody _ _ N) ?_; rintro v H' ⟨rfl, rfl⟩)
    | (refine CallK.i (clone_nobody _ _ N) ?_; rintro v H' ⟨rfl, rfl⟩)
    | simp (disch := omega) only [↓runPre, runPost, fieldO, ixA, cutA, lenA, aggA, rowA, appA, mkA, indA, bnd, srcA, sameOp, funcA, cvO, partA, aggD, ↓PostP, resV, resAll, resOne, resVF, resAllF, resOneF, fitsAll, fitsR, fits, frz, Post, Nat.reduceBEq, Nat.reduceLT, reduceCtorEq, ↓reduceIte, initS, AV.cellsOf, AV.fine, AV.one, repA, Nat.reduceMul, Nat.reduceAdd, Nat.reduceLeDiff, Nat.reduceEqDiff, Int.reduceToNat, Nat.reduceSub, Nat.reduceMod, Nat.reduceDiv, indexK.aggOf, Int.reducePow, Int.reduceLE, Int.reduceNeg, Int.reduceLT, Int.reduceBEq, Int.reduceBNe, Int.reduceEq, ownA, nilA, Try.facts, e0]
  exact S
end Go.Proofs.Ytmgbcjnhmgfhkaa
