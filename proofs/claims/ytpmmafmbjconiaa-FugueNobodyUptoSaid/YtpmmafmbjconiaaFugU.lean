/-
  The walks of the fugue layer: a text that is not there.
  Conditions: none. Lemmas only.
-/
import Derived.Test.YtpmmafmbjconiaaFugN
set_option linter.all false
set_option linter.unusedSimpArgs false
set_option linter.unusedVariables false
set_option maxRecDepth 8000
set_option maxHeartbeats 4000000
namespace Go.Proofs.Ytpmmafmbjconiaa
open Go Go.Abs Go.Proofs Go.Fug
abbrev nilP : AV := .sc (.pointer none)
theorem all_nil (H : AH) : ACalls Try.prog 15 [nilP] H fun r H' => r = .fn (.func 38) [] [.ip [nilP] 0] ∧ H' = H := by
  refine acalls_of_cwp (c := ⟨Try.prog, 4, [(1000000, [1])], [], []⟩) (rs := [ResultVar.tmp 2]) Try.mixed Try.func15 rfl rfl rfl (Nat.le_of_ble_eq_true rfl) (by kernel_rfl) ?_
  simp (disch := omega) only [↓runPre, runPost, fieldO, ixA, cutA, lenA, aggA, rowA, appA, mkA, indA, bnd, srcA, sameOp, funcA, cvO, partA, aggD, ↓PostP, resV, resAll, resOne, resVF, resAllF, resOneF, fitsAll, fitsR, fits, frz, Post, Nat.reduceBEq, Nat.reduceLT, reduceCtorEq, ↓reduceIte, initS, AV.cellsOf, AV.fine, AV.one, repA, Nat.reduceMul, Nat.reduceAdd, Nat.reduceLeDiff, Nat.reduceEqDiff, Int.reduceToNat, Nat.reduceSub, Nat.reduceMod, Nat.reduceDiv, indexK.aggOf, Int.reducePow, Int.reduceLE, Int.reduceNeg, Int.reduceLT, Int.reduceBEq, Int.reduceBNe, Int.reduceEq, ownA, nilA, Try.facts]
  intro k hk0 hk
  simp (disch := omega) only [↓runPre, runPost, fieldO, ixA, cutA, lenA, aggA, rowA, appA, mkA, indA, bnd, srcA, sameOp, funcA, cvO, partA, aggD, ↓PostP, resV, resAll, resOne, resVF, resAllF, resOneF, fitsAll, fitsR, fits, frz, Post, Nat.reduceBEq, Nat.reduceLT, reduceCtorEq, ↓reduceIte, initS, AV.cellsOf, AV.fine, AV.one, repA, Nat.reduceMul, Nat.reduceAdd, Nat.reduceLeDiff, Nat.reduceEqDiff, Int.reduceToNat, Nat.reduceSub, Nat.reduceMod, Nat.reduceDiv, indexK.aggOf, Int.reducePow, Int.reduceLE, Int.reduceNeg, Int.reduceLT, Int.reduceBEq, Int.reduceBNe, Int.reduceEq, ownA, nilA, Try.facts, kill_box hk]
  exact ⟨_, rfl, H, Abs.Sub.refl _, rfl, rfl⟩
theorem iter_nil : IterC Try.prog 38 [.ip [nilP] 0] encN (fun _ => True) (fun xs => xs = []) (fun _ => False) 0 := by
  intro y J Jx H hRes hy hJ0
  refine acalls_of_cwp (c := ⟨Try.prog, 87, [(4, [0, 0, 0, 0, 0, 0, 0, 2, 2]), (5, [0, 1, 0, 1, 0, 0, 1, 1, 0]), (7, [0, 0, 1, 0, 0, 1, 0, 1, 0, 1, 0, 0, 2, 0]), (1000003, [5]), (1000004, [6]), (4000013, [0, 1, 3, 4]), (4000012, [0, 1, 3, 4]), (4000010, [0, 1, 3, 4, 5, 68]), (4000007, [0, 1, 3, 4]), (4000006, [0, 1, 3, 4, 5, 6]), (4000005, [0, 1, 3, 4, 5, 6, 32]), (4000004, [0, 1, 3, 4, 5, 6]), (4000003, [0, 1, 3, 4, 5])], [], [(4, (.op 0 0 (.op 1 0 (.op 2 0 (.op 4 0 (.op 5 0 (.or (.op 3 2 (.or (.op 6 2 (.op 7 2 (.op 8 2 .nil))) (.op 7 2 (.op 6 2 (.op 8 2 .nil))))) (.op 7 2 (.op 3 2 (.op 6 2 (.op 8 2 .nil)))))))))))]⟩) (rs := []) Try.mixed Try.func38 rfl rfl rfl (Nat.le_of_ble_eq_true rfl) (by kernel_rfl) ?_
  simp (disch := omega) only [↓runPre, runPost, fieldO, ixA, cutA, lenA, aggA, rowA, appA, mkA, indA, bnd, srcA, sameOp, funcA, cvO, partA, aggD, ↓PostP, resV, resAll, resOne, resVF, resAllF, resOneF, fitsAll, fitsR, fits, frz, Post, Nat.reduceBEq, Nat.reduceLT, reduceCtorEq, ↓reduceIte, initS, AV.cellsOf, AV.fine, AV.one, repA, Nat.reduceMul, Nat.reduceAdd, Nat.reduceLeDiff, Nat.reduceEqDiff, Int.reduceToNat, Nat.reduceSub, Nat.reduceMod, Nat.reduceDiv, indexK.aggOf, Int.reducePow, Int.reduceLE, Int.reduceNeg, Int.reduceLT, Int.reduceBEq, Int.reduceBNe, Int.reduceEq, ownA, nilA, Try.facts]
  refine scope_t Try.mixed 0 (by kernel_rfl) (rest := _) rfl (by kernel_rfl) (fun _ _ _ => False) ?_ ?_
  · simp (disch := omega) only [↓runPre, runPost, fieldO, ixA, cutA, lenA, aggA, rowA, appA, mkA, indA, bnd, srcA, sameOp, funcA, cvO, partA, aggD, ↓PostP, resV, resAll, resOne, resVF, resAllF, resOneF, fitsAll, fitsR, fits, frz, Post, Nat.reduceBEq, Nat.reduceLT, reduceCtorEq, ↓reduceIte, initS, AV.cellsOf, AV.fine, AV.one, repA, Nat.reduceMul, Nat.reduceAdd, Nat.reduceLeDiff, Nat.reduceEqDiff, Int.reduceToNat, Nat.reduceSub, Nat.reduceMod, Nat.reduceDiv, indexK.aggOf, Int.reducePow, Int.reduceLE, Int.reduceNeg, Int.reduceLT, Int.reduceBEq, Int.reduceBNe, Int.reduceEq, ownA, nilA, Try.facts]
    exact ⟨_, rfl, H, Abs.Sub.refl _, .inl ⟨[], rfl, hJ0⟩⟩
  · intro _ _ _ hf
    exact hf.elim
theorem len_nil (H : AH) : ACalls Try.prog 21 [nilP] H fun v H' => v = .sc (.int .i64 0) ∧ H' = H := by
  refine acalls_of_cwp (c := ⟨Try.prog, 16, [(3, [0, 0, 0, 1, 1, 0, 0, 0, 0, 1, 0, 0])], [], []⟩) (rs := [ResultVar.tmp 2]) Try.mixed Try.func21 rfl rfl rfl (Nat.le_of_ble_eq_true rfl) (by kernel_rfl) ?_
  simp (disch := omega) only [↓runPre, runPost, fieldO, ixA, cutA, lenA, aggA, rowA, appA, mkA, indA, bnd, srcA, sameOp, funcA, cvO, partA, aggD, ↓PostP, resV, resAll, resOne, resVF, resAllF, resOneF, fitsAll, fitsR, fits, frz, Post, Nat.reduceBEq, Nat.reduceLT, reduceCtorEq, ↓reduceIte, initS, AV.cellsOf, AV.fine, AV.one, repA, Nat.reduceMul, Nat.reduceAdd, Nat.reduceLeDiff, Nat.reduceEqDiff, Int.reduceToNat, Nat.reduceSub, Nat.reduceMod, Nat.reduceDiv, indexK.aggOf, Int.reducePow, Int.reduceLE, Int.reduceNeg, Int.reduceLT, Int.reduceBEq, Int.reduceBNe, Int.reduceEq, ownA, nilA, Try.facts]
  exact ⟨_, rfl, H, Abs.Sub.refl _, rfl, rfl⟩
theorem has_nil (H : AH) (x : EId) : ACalls Try.prog 29 [nilP, idV x] H fun v H' => v = .sc (.bool false) ∧ H' = H := by
  refine acalls_of_cwp (c := ⟨Try.prog, 24, [(3, [0, 0, 0, 0, 0, 0, 0, 0, 0, 2, 2, 0]), (1000000, [3]), (1000003, [5])], [], [(3, (.op 0 0 (.op 1 0 (.op 2 0 (.op 4 0 (.or (.op 3 2 (.or (.op 5 2 (.op 6 0 (.op 7 0 (.op 8 0 (.op 9 2 (.op 10 2 (.op 11 0 .nil))))))) (.op 9 2 (.op 5 2 (.op 6 0 (.op 7 0 (.op 8 0 (.op 10 2 (.op 11 0 .nil))))))))) (.op 9 2 (.op 3 2 (.op 5 2 (.op 6 0 (.op 7 0 (.op 8 0 (.op 10 2 (.op 11 0 .nil))))))))))))))]⟩) (rs := [ResultVar.tmp 4]) Try.mixed Try.func29 rfl rfl rfl (Nat.le_of_ble_eq_true rfl) (by kernel_rfl) ?_
  simp (disch := omega) only [↓runPre, runPost, fieldO, ixA, cutA, lenA, aggA, rowA, appA, mkA, indA, bnd, srcA, sameOp, funcA, cvO, partA, aggD, ↓PostP, resV, resAll, resOne, resVF, resAllF, resOneF, fitsAll, fitsR, fits, frz, Post, Nat.reduceBEq, Nat.reduceLT, reduceCtorEq, ↓reduceIte, initS, AV.cellsOf, AV.fine, AV.one, repA, Nat.reduceMul, Nat.reduceAdd, Nat.reduceLeDiff, Nat.reduceEqDiff, Int.reduceToNat, Nat.reduceSub, Nat.reduceMod, Nat.reduceDiv, indexK.aggOf, Int.reducePow, Int.reduceLE, Int.reduceNeg, Int.reduceLT, Int.reduceBEq, Int.reduceBNe, Int.reduceEq, ownA, nilA, Try.facts]
  intro k hk0 hk
  simp (disch := omega) only [↓runPre, runPost, fieldO, ixA, cutA, lenA, aggA, rowA, appA, mkA, indA, bnd, srcA, sameOp, funcA, cvO, partA, aggD, ↓PostP, resV, resAll, resOne, resVF, resAllF, resOneF, fitsAll, fitsR, fits, frz, Post, Nat.reduceBEq, Nat.reduceLT, reduceCtorEq, ↓reduceIte, initS, AV.cellsOf, AV.fine, AV.one, repA, Nat.reduceMul, Nat.reduceAdd, Nat.reduceLeDiff, Nat.reduceEqDiff, Int.reduceToNat, Nat.reduceSub, Nat.reduceMod, Nat.reduceDiv, indexK.aggOf, Int.reducePow, Int.reduceLE, Int.reduceNeg, Int.reduceLT, Int.reduceBEq, Int.reduceBNe, Int.reduceEq, ownA, nilA, Try.facts, kill_box hk]
  exact ⟨_, rfl, H, Abs.Sub.refl _, rfl, rfl⟩
theorem add_nil (H : AH) (i : Ins) : ACalls Try.prog 31 [nilP, .agg (insC i)] H fun v H' => v = .sc (.int .i64 13) ∧ H' = H := by
  obtain ⟨⟨a, c⟩, ⟨pa, pc⟩, ri, ru⟩ := i
  simp only [insC]
  refine acalls_of_cwp (c := ⟨Try.prog, 78, [(7, [0, 0, 0, 0, 0, 0, 0, 0, 0, 0, 2, 2, 0]), (12, [0, 1, 0, 0, 1, 0, 0, 0, 1, 0, 1, 0, 0, 0, 2]), (13, [0, 0, 0, 1, 0, 1, 1, 2]), (14, [0, 0, 0, 1, 0, 1, 0, 1, 0, 1, 0, 0, 2]), (1000000, [3]), (4000013, [0, 3]), (4000012, [0, 3, 5]), (4000010, [0, 3, 5, 44]), (4000007, [0, 3, 5, 6]), (4000003, [0, 3, 22])], [], [(7, (.op 0 0 (.op 1 0 (.op 2 0 (.op 4 0 (.op 5 0 (.or (.op 3 2 (.or (.op 6 2 (.op 7 0 (.op 8 0 (.op 9 0 (.op 10 2 (.op 11 2 (.op 12 0 .nil))))))) (.op 10 2 (.op 6 2 (.op 7 0 (.op 8 0 (.op 9 0 (.op 11 2 (.op 12 0 .nil))))))))) (.op 10 2 (.op 3 2 (.op 6 2 (.op 7 0 (.op 8 0 (.op 9 0 (.op 11 2 (.op 12 0 .nil)))))))))))))))]⟩) (rs := [ResultVar.tmp 4]) Try.mixed Try.func31 rfl rfl rfl (Nat.le_of_ble_eq_true rfl) (by kernel_rfl) ?_
  simp (disch := omega) only [↓runPre, runPost, fieldO, ixA, cutA, lenA, aggA, rowA, appA, mkA, indA, bnd, srcA, sameOp, funcA, cvO, partA, aggD, ↓PostP, resV, resAll, resOne, resVF, resAllF, resOneF, fitsAll, fitsR, fits, frz, Post, Nat.reduceBEq, Nat.reduceLT, reduceCtorEq, ↓reduceIte, initS, AV.cellsOf, AV.fine, AV.one, repA, Nat.reduceMul, Nat.reduceAdd, Nat.reduceLeDiff, Nat.reduceEqDiff, Int.reduceToNat, Nat.reduceSub, Nat.reduceMod, Nat.reduceDiv, indexK.aggOf, Int.reducePow, Int.reduceLE, Int.reduceNeg, Int.reduceLT, Int.reduceBEq, Int.reduceBNe, Int.reduceEq, ownA, nilA, Try.facts]
  intro k hk0 hk
  simp (disch := omega) only [↓runPre, runPost, fieldO, ixA, cutA, lenA, aggA, rowA, appA, mkA, indA, bnd, srcA, sameOp, funcA, cvO, partA, aggD, ↓PostP, resV, resAll, resOne, resVF, resAllF, resOneF, fitsAll, fitsR, fits, frz, Post, Nat.reduceBEq, Nat.reduceLT, reduceCtorEq, ↓reduceIte, initS, AV.cellsOf, AV.fine, AV.one, repA, Nat.reduceMul, Nat.reduceAdd, Nat.reduceLeDiff, Nat.reduceEqDiff, Int.reduceToNat, Nat.reduceSub, Nat.reduceMod, Nat.reduceDiv, indexK.aggOf, Int.reducePow, Int.reduceLE, Int.reduceNeg, Int.reduceLT, Int.reduceBEq, Int.reduceBNe, Int.reduceEq, ownA, nilA, Try.facts, kill_box hk]
  exact ⟨_, rfl, H, Abs.Sub.refl _, rfl, rfl⟩
theorem drop_nil (H : AH) (x : EId) : ACalls Try.prog 33 [nilP, idV x] H fun v H' => v = .sc (.int .i64 13) ∧ H' = H := by
  have hh := fun H => has_nil H x
  refine acalls_of_cwp (c := ⟨Try.prog, 34, [(3, [0, 0, 0, 0, 0, 0, 2, 2]), (7, [0, 0, 0, 1, 1, 1, 2]), (1000000, [3])], [], [(3, (.op 0 0 (.op 1 0 (.op 2 0 (.op 4 0 (.or (.op 3 2 (.or (.op 5 2 (.op 6 2 (.op 7 2 .nil))) (.op 6 2 (.op 5 2 (.op 7 2 .nil))))) (.op 6 2 (.op 3 2 (.op 5 2 (.op 7 2 .nil))))))))))]⟩) (rs := [ResultVar.tmp 4]) Try.mixed Try.func33 rfl rfl rfl (Nat.le_of_ble_eq_true rfl) (by kernel_rfl) ?_
  simp (disch := omega) only [↓runPre, runPost, fieldO, ixA, cutA, lenA, aggA, rowA, appA, mkA, indA, bnd, srcA, sameOp, funcA, cvO, partA, aggD, ↓PostP, resV, resAll, resOne, resVF, resAllF, resOneF, fitsAll, fitsR, fits, frz, Post, Nat.reduceBEq, Nat.reduceLT, reduceCtorEq, ↓reduceIte, initS, AV.cellsOf, AV.fine, AV.one, repA, Nat.reduceMul, Nat.reduceAdd, Nat.reduceLeDiff, Nat.reduceEqDiff, Int.reduceToNat, Nat.reduceSub, Nat.reduceMod, Nat.reduceDiv, indexK.aggOf, Int.reducePow, Int.reduceLE, Int.reduceNeg, Int.reduceLT, Int.reduceBEq, Int.reduceBNe, Int.reduceEq, ownA, nilA, Try.facts]
  intro k hk0 hk
  try simp (disch := omega) only [↓runPre, runPost, fieldO, ixA, cutA, lenA, aggA, rowA, appA, mkA, indA, bnd, srcA, sameOp, funcA, cvO, partA, aggD, ↓PostP, resV, resAll, resOne, resVF, resAllF, resOneF, fitsAll, fitsR, fits, frz, Post, Nat.reduceBEq, Nat.reduceLT, reduceCtorEq, ↓reduceIte, initS, AV.cellsOf, AV.fine, AV.one, repA, Nat.reduceMul, Nat.reduceAdd, Nat.reduceLeDiff, Nat.reduceEqDiff, Int.reduceToNat, Nat.reduceSub, Nat.reduceMod, Nat.reduceDiv, indexK.aggOf, Int.reducePow, Int.reduceLE, Int.reduceNeg, Int.reduceLT, Int.reduceBEq, Int.reduceBNe, Int.reduceEq, ownA, nilA, Try.facts, kill_box hk]
  refine CallK.i (hh _) ?_
  rintro v E ⟨rfl, rfl⟩
  simp (disch := omega) only [↓runPre, runPost, fieldO, ixA, cutA, lenA, aggA, rowA, appA, mkA, indA, bnd, srcA, sameOp, funcA, cvO, partA, aggD, ↓PostP, resV, resAll, resOne, resVF, resAllF, resOneF, fitsAll, fitsR, fits, frz, Post, Nat.reduceBEq, Nat.reduceLT, reduceCtorEq, ↓reduceIte, initS, AV.cellsOf, AV.fine, AV.one, repA, Nat.reduceMul, Nat.reduceAdd, Nat.reduceLeDiff, Nat.reduceEqDiff, Int.reduceToNat, Nat.reduceSub, Nat.reduceMod, Nat.reduceDiv, indexK.aggOf, Int.reducePow, Int.reduceLE, Int.reduceNeg, Int.reduceLT, Int.reduceBEq, Int.reduceBNe, Int.reduceEq, ownA, nilA, Try.facts, kill_box hk]
  exact ⟨_, rfl, _, Abs.Sub.refl _, rfl, rfl⟩
theorem clone_nil (H : AH) : ACalls Try.prog 24 [nilP] H fun v H' => v = nilP ∧ H' = H := by
  refine acalls_of_cwp (c := ⟨Try.prog, 32, [(7, [0, 0, 0, 1, 1, 1, 2]), (1000006, [5, 4])], [], []⟩) (rs := [ResultVar.tmp 2]) Try.mixed Try.func24 rfl rfl rfl (Nat.le_of_ble_eq_true rfl) (by kernel_rfl) ?_
  simp (disch := omega) only [↓runPre, runPost, fieldO, ixA, cutA, lenA, aggA, rowA, appA, mkA, indA, bnd, srcA, sameOp, funcA, cvO, partA, aggD, ↓PostP, resV, resAll, resOne, resVF, resAllF, resOneF, fitsAll, fitsR, fits, frz, Post, Nat.reduceBEq, Nat.reduceLT, reduceCtorEq, ↓reduceIte, initS, AV.cellsOf, AV.fine, AV.one, repA, Nat.reduceMul, Nat.reduceAdd, Nat.reduceLeDiff, Nat.reduceEqDiff, Int.reduceToNat, Nat.reduceSub, Nat.reduceMod, Nat.reduceDiv, indexK.aggOf, Int.reducePow, Int.reduceLE, Int.reduceNeg, Int.reduceLT, Int.reduceBEq, Int.reduceBNe, Int.reduceEq, ownA, nilA, Try.facts]
  exact ⟨_, rfl, H, Abs.Sub.refl _, rfl, rfl⟩
theorem nodes_nil (H : AH) : ACalls Try.prog 18 [nilP] H fun v H' => v = .imm 0 [] 0 ∧ H' = H := by
  have hal := fun H' => all_nil H'
  refine acalls_of_cwp (c := ⟨Try.prog, 15, [(1000003, [5])], [], []⟩) (rs := [ResultVar.tmp 2]) Try.mixed Try.func18 rfl rfl rfl (Nat.le_of_ble_eq_true rfl) (by kernel_rfl) ?_
  simp (disch := omega) only [↓runPre, runPost, fieldO, ixA, cutA, lenA, aggA, rowA, appA, mkA, indA, bnd, srcA, sameOp, funcA, cvO, partA, aggD, ↓PostP, resV, resAll, resOne, resVF, resAllF, resOneF, fitsAll, fitsR, fits, frz, Post, Nat.reduceBEq, Nat.reduceLT, reduceCtorEq, ↓reduceIte, initS, AV.cellsOf, AV.fine, AV.one, repA, Nat.reduceMul, Nat.reduceAdd, Nat.reduceLeDiff, Nat.reduceEqDiff, Int.reduceToNat, Nat.reduceSub, Nat.reduceMod, Nat.reduceDiv, indexK.aggOf, Int.reducePow, Int.reduceLE, Int.reduceNeg, Int.reduceLT, Int.reduceBEq, Int.reduceBNe, Int.reduceEq, ownA, nilA, Try.facts]
  intro b hb0 hb
  refine CallK.i (hal _) ?_
  rintro v E ⟨rfl, rfl⟩
  try simp (disch := omega) only [↓runPre, runPost, fieldO, ixA, cutA, lenA, aggA, rowA, appA, mkA, indA, bnd, srcA, sameOp, funcA, cvO, partA, aggD, ↓PostP, resV, resAll, resOne, resVF, resAllF, resOneF, fitsAll, fitsR, fits, frz, Post, Nat.reduceBEq, Nat.reduceLT, reduceCtorEq, ↓reduceIte, initS, AV.cellsOf, AV.fine, AV.one, repA, Nat.reduceMul, Nat.reduceAdd, Nat.reduceLeDiff, Nat.reduceEqDiff, Int.reduceToNat, Nat.reduceSub, Nat.reduceMod, Nat.reduceDiv, indexK.aggOf, Int.reducePow, Int.reduceLE, Int.reduceNeg, Int.reduceLT, Int.reduceBEq, Int.reduceBNe, Int.reduceEq, ownA, nilA, Try.facts]
  refine range_t Try.mixed (by simp (disch := omega) only [↓runPre, runPost, fieldO, ixA, cutA, lenA, aggA, rowA, appA, mkA, indA, bnd, srcA, sameOp, funcA, cvO, partA, aggD, ↓PostP, resV, resAll, resOne, resVF, resAllF, resOneF, fitsAll, fitsR, fits, frz, Post, Nat.reduceBEq, Nat.reduceLT, reduceCtorEq, ↓reduceIte, initS, AV.cellsOf, AV.fine, AV.one, repA, Nat.reduceMul, Nat.reduceAdd, Nat.reduceLeDiff, Nat.reduceEqDiff, Int.reduceToNat, Nat.reduceSub, Nat.reduceMod, Nat.reduceDiv, indexK.aggOf, Int.reducePow, Int.reduceLE, Int.reduceNeg, Int.reduceLT, Int.reduceBEq, Int.reduceBNe, Int.reduceEq, ownA, nilA, Try.facts]) (by kernel_rfl) (fun _ => rfl) iter_nil
    (fun pre Hu => Hu = H.set b (.cells [.sc (.slice none 0 0)] 38 1)) (fun _ _ _ => False) ?_ ?_ ?_ ?_ ?_
  · intros; trivial
  · rfl
  · intro pre x Hu H1 _ _ hpl
    exact absurd hpl (by omega)
  · rintro xs Hu rfl rfl
    simp (disch := omega) only [↓runPre, runPost, fieldO, ixA, cutA, lenA, aggA, rowA, appA, mkA, indA, bnd, srcA, sameOp, funcA, cvO, partA, aggD, ↓PostP, resV, resAll, resOne, resVF, resAllF, resOneF, fitsAll, fitsR, fits, frz, Post, Nat.reduceBEq, Nat.reduceLT, reduceCtorEq, ↓reduceIte, initS, AV.cellsOf, AV.fine, AV.one, repA, Nat.reduceMul, Nat.reduceAdd, Nat.reduceLeDiff, Nat.reduceEqDiff, Int.reduceToNat, Nat.reduceSub, Nat.reduceMod, Nat.reduceDiv, indexK.aggOf, Int.reducePow, Int.reduceLE, Int.reduceNeg, Int.reduceLT, Int.reduceBEq, Int.reduceBNe, Int.reduceEq, ownA, nilA, Try.facts]
    exact ⟨_, rfl, H, Sub.set_new hb, rfl, rfl⟩
  · intro _ _ _ hf
    exact hf.elim
theorem text_nil (H : AH) : ACalls Try.prog 19 [nilP] H fun v H' => v = .sc (.string ⟨#[]⟩) ∧ H' = H := by
  have hal := fun H' => all_nil H'
  refine acalls_of_cwp (c := ⟨Try.prog, 20, [(1000003, [5])], [], []⟩) (rs := [ResultVar.tmp 2]) Try.mixed Try.func19 rfl rfl rfl (Nat.le_of_ble_eq_true rfl) (by kernel_rfl) ?_
  simp (disch := omega) only [↓runPre, runPost, fieldO, ixA, cutA, lenA, aggA, rowA, appA, mkA, indA, bnd, srcA, sameOp, funcA, cvO, partA, aggD, ↓PostP, resV, resAll, resOne, resVF, resAllF, resOneF, fitsAll, fitsR, fits, frz, Post, Nat.reduceBEq, Nat.reduceLT, reduceCtorEq, ↓reduceIte, initS, AV.cellsOf, AV.fine, AV.one, repA, Nat.reduceMul, Nat.reduceAdd, Nat.reduceLeDiff, Nat.reduceEqDiff, Int.reduceToNat, Nat.reduceSub, Nat.reduceMod, Nat.reduceDiv, indexK.aggOf, Int.reducePow, Int.reduceLE, Int.reduceNeg, Int.reduceLT, Int.reduceBEq, Int.reduceBNe, Int.reduceEq, ownA, nilA, Try.facts]
  intro b hb0 hb
  refine CallK.i (hal _) ?_
  rintro v E ⟨rfl, rfl⟩
  try simp (disch := omega) only [↓runPre, runPost, fieldO, ixA, cutA, lenA, aggA, rowA, appA, mkA, indA, bnd, srcA, sameOp, funcA, cvO, partA, aggD, ↓PostP, resV, resAll, resOne, resVF, resAllF, resOneF, fitsAll, fitsR, fits, frz, Post, Nat.reduceBEq, Nat.reduceLT, reduceCtorEq, ↓reduceIte, initS, AV.cellsOf, AV.fine, AV.one, repA, Nat.reduceMul, Nat.reduceAdd, Nat.reduceLeDiff, Nat.reduceEqDiff, Int.reduceToNat, Nat.reduceSub, Nat.reduceMod, Nat.reduceDiv, indexK.aggOf, Int.reducePow, Int.reduceLE, Int.reduceNeg, Int.reduceLT, Int.reduceBEq, Int.reduceBNe, Int.reduceEq, ownA, nilA, Try.facts]
  refine tok_r b 0 set_get rfl fun k hk0 hk => ?_
  simp only [List.set_cons_zero, set_set]
  have nb := set_ne hk
  have hkH := subset_set hk
  refine range_t Try.mixed (by simp (disch := omega) only [↓runPre, runPost, fieldO, ixA, cutA, lenA, aggA, rowA, appA, mkA, indA, bnd, srcA, sameOp, funcA, cvO, partA, aggD, ↓PostP, resV, resAll, resOne, resVF, resAllF, resOneF, fitsAll, fitsR, fits, frz, Post, Nat.reduceBEq, Nat.reduceLT, reduceCtorEq, ↓reduceIte, initS, AV.cellsOf, AV.fine, AV.one, repA, Nat.reduceMul, Nat.reduceAdd, Nat.reduceLeDiff, Nat.reduceEqDiff, Int.reduceToNat, Nat.reduceSub, Nat.reduceMod, Nat.reduceDiv, indexK.aggOf, Int.reducePow, Int.reduceLE, Int.reduceNeg, Int.reduceLT, Int.reduceBEq, Int.reduceBNe, Int.reduceEq, ownA, nilA, Try.facts]) (by kernel_rfl) (fun _ => rfl) iter_nil
    (fun pre Hu => Hu = ((H.set b (.cells [.sc (.slice none 0 0)] 82 1)).set k .nilt).set b (.cells [.imm k [] 0] 82 1)) (fun _ _ _ => False) ?_ ?_ ?_ ?_ ?_
  · intros; trivial
  · rfl
  · intro pre x Hu H1 _ _ hpl
    exact absurd hpl (by omega)
  · rintro xs Hu rfl rfl
    simp (disch := omega) only [↓runPre, runPost, fieldO, ixA, cutA, lenA, aggA, rowA, appA, mkA, indA, bnd, srcA, sameOp, funcA, cvO, partA, aggD, ↓PostP, resV, resAll, resOne, resVF, resAllF, resOneF, fitsAll, fitsR, fits, frz, Post, Nat.reduceBEq, Nat.reduceLT, reduceCtorEq, ↓reduceIte, initS, AV.cellsOf, AV.fine, AV.one, repA, Nat.reduceMul, Nat.reduceAdd, Nat.reduceLeDiff, Nat.reduceEqDiff, Int.reduceToNat, Nat.reduceSub, Nat.reduceMod, Nat.reduceDiv, indexK.aggOf, Int.reducePow, Int.reduceLE, Int.reduceNeg, Int.reduceLT, Int.reduceBEq, Int.reduceBNe, Int.reduceEq, ownA, nilA, Try.facts]
    refine ⟨_, rfl, H, ((Sub.set_new hb).set_free hkH).set_free hb, ?_, rfl⟩
    rfl
  · intro _ _ _ hf
    exact hf.elim

theorem plan_nil (H : AH) (i : Int) : ACalls Try.prog 27 [nilP, .sc (.int .i64 i)] H fun v H' => v = .tup [idV (0, 0), .sc (.bool false), .sc (.int .i64 6)] ∧ H' = H := by
  refine acalls_of_cwp (c := ⟨Try.prog, 68, [(6, [0, 0, 0, 1, 1, 1, 0, 0, 0]), (10, [0, 0, 0, 1, 1, 1, 0, 0, 1, 0]), (11, [0, 0, 0, 1, 1, 1, 0, 0, 0, 1, 2]), (4000011, [0, 4, 9]), (4000010, [0, 4, 9, 56]), (4000009, [0, 4, 9]), (4000006, [0, 4, 7, 8]), (4000005, [0, 4, 7]), (4000001, [0, 1, 4, 21])], [], []⟩) (rs := [ResultVar.cell 4 31, ResultVar.tmp 5, ResultVar.tmp 6]) Try.mixed Try.func27 rfl rfl rfl (Nat.le_of_ble_eq_true rfl) (by kernel_rfl) ?_
  simp (disch := omega) only [↓runPre, runPost, fieldO, ixA, cutA, lenA, aggA, rowA, appA, mkA, indA, bnd, srcA, sameOp, funcA, cvO, partA, aggD, ↓PostP, resV, resAll, resOne, resVF, resAllF, resOneF, fitsAll, fitsR, fits, frz, Post, Nat.reduceBEq, Nat.reduceLT, reduceCtorEq, ↓reduceIte, initS, AV.cellsOf, AV.fine, AV.one, repA, Nat.reduceMul, Nat.reduceAdd, Nat.reduceLeDiff, Nat.reduceEqDiff, Int.reduceToNat, Nat.reduceSub, Nat.reduceMod, Nat.reduceDiv, indexK.aggOf, Int.reducePow, Int.reduceLE, Int.reduceNeg, Int.reduceLT, Int.reduceBEq, Int.reduceBNe, Int.reduceEq, ownA, nilA, Try.facts]
  intro k hk0 hk
  simp (disch := omega) only [↓runPre, runPost, fieldO, ixA, cutA, lenA, aggA, rowA, appA, mkA, indA, bnd, srcA, sameOp, funcA, cvO, partA, aggD, ↓PostP, resV, resAll, resOne, resVF, resAllF, resOneF, fitsAll, fitsR, fits, frz, Post, Nat.reduceBEq, Nat.reduceLT, reduceCtorEq, ↓reduceIte, initS, AV.cellsOf, AV.fine, AV.one, repA, Nat.reduceMul, Nat.reduceAdd, Nat.reduceLeDiff, Nat.reduceEqDiff, Int.reduceToNat, Nat.reduceSub, Nat.reduceMod, Nat.reduceDiv, indexK.aggOf, Int.reducePow, Int.reduceLE, Int.reduceNeg, Int.reduceLT, Int.reduceBEq, Int.reduceBNe, Int.reduceEq, ownA, nilA, Try.facts, putCells_eq]
  exact ⟨_, rfl, H, Sub.set_new hk, rfl, rfl⟩
theorem at_nil (H : AH) (i : Int) : ACalls Try.prog 25 [nilP, .sc (.int .i64 i)] H fun v H' => v = .tup [idV (0, 0), .sc (.int .i64 6)] ∧ H' = H := by
  have hl := fun H => len_nil H
  refine acalls_of_cwp (c := ⟨Try.prog, 30, [(1, [1, 0, 0, 0, 0, 2, 0, 0]), (1000004, [7])], [], [(1, (.op 0 2 (.op 1 0 (.op 2 0 (.op 4 0 (.or (.op 3 2 (.op 5 2 (.op 6 0 (.op 7 0 .nil)))) (.op 5 2 (.op 3 2 (.op 6 0 (.op 7 0 .nil))))))))))]⟩) (rs := [ResultVar.cell 4 31, ResultVar.cell 5 57]) Try.mixed Try.func25 rfl rfl rfl (Nat.le_of_ble_eq_true rfl) (by kernel_rfl) ?_
  simp (disch := omega) only [↓runPre, runPost, fieldO, ixA, cutA, lenA, aggA, rowA, appA, mkA, indA, bnd, srcA, sameOp, funcA, cvO, partA, aggD, ↓PostP, resV, resAll, resOne, resVF, resAllF, resOneF, fitsAll, fitsR, fits, frz, Post, Nat.reduceBEq, Nat.reduceLT, reduceCtorEq, ↓reduceIte, initS, AV.cellsOf, AV.fine, AV.one, repA, Nat.reduceMul, Nat.reduceAdd, Nat.reduceLeDiff, Nat.reduceEqDiff, Int.reduceToNat, Nat.reduceSub, Nat.reduceMod, Nat.reduceDiv, indexK.aggOf, Int.reducePow, Int.reduceLE, Int.reduceNeg, Int.reduceLT, Int.reduceBEq, Int.reduceBNe, Int.reduceEq, ownA, nilA, Try.facts]
  intro k1 hk10 hk1 k2 hk20 hk2 k3 hk30 hk3
  have n23 := set_ne hk3
  have n13 := set_ne (subset_set hk3)
  have n12 := set_ne hk2
  have kH2 := subset_set hk2
  have kH3 := subset_set (subset_set hk3)
  refine draw_t (fun σ F => F = ((H.set k1 (.cells [.sc (.int .i64 i)] 3 1)).set k2 (.cells [.sc (.int .i64 0), .sc (.int .i64 0)] 31 2)).set k3 (.cells [.sc (.int .i64 0)] 57 1) ∧ σ 4 = .ptr k2 0 ∧ σ 5 = .ptr k3 0 ∧ σ 15 = .sc (.bool true)) ?_ ?_
  · by_cases hi : i < 0
    · simp (disch := omega) only [↓runPre, runPost, fieldO, ixA, cutA, lenA, aggA, rowA, appA, mkA, indA, bnd, srcA, sameOp, funcA, cvO, partA, aggD, ↓PostP, resV, resAll, resOne, resVF, resAllF, resOneF, fitsAll, fitsR, fits, frz, Post, Nat.reduceBEq, Nat.reduceLT, reduceCtorEq, ↓reduceIte, initS, AV.cellsOf, AV.fine, AV.one, repA, Nat.reduceMul, Nat.reduceAdd, Nat.reduceLeDiff, Nat.reduceEqDiff, Int.reduceToNat, Nat.reduceSub, Nat.reduceMod, Nat.reduceDiv, indexK.aggOf, Int.reducePow, Int.reduceLE, Int.reduceNeg, Int.reduceLT, Int.reduceBEq, Int.reduceBNe, Int.reduceEq, ownA, nilA, Try.facts, dT, dF, qT, qF, nT, nF, Bool.false_and, Bool.and_false, set_other]
      repeat' first
        | refine And.intro ?_ ?_
        | rfl
    · simp (disch := omega) only [↓runPre, runPost, fieldO, ixA, cutA, lenA, aggA, rowA, appA, mkA, indA, bnd, srcA, sameOp, funcA, cvO, partA, aggD, ↓PostP, resV, resAll, resOne, resVF, resAllF, resOneF, fitsAll, fitsR, fits, frz, Post, Nat.reduceBEq, Nat.reduceLT, reduceCtorEq, ↓reduceIte, initS, AV.cellsOf, AV.fine, AV.one, repA, Nat.reduceMul, Nat.reduceAdd, Nat.reduceLeDiff, Nat.reduceEqDiff, Int.reduceToNat, Nat.reduceSub, Nat.reduceMod, Nat.reduceDiv, indexK.aggOf, Int.reducePow, Int.reduceLE, Int.reduceNeg, Int.reduceLT, Int.reduceBEq, Int.reduceBNe, Int.reduceEq, ownA, nilA, Try.facts, dT, dF, qT, qF, nT, nF, Bool.false_and, Bool.and_false, set_other]
      repeat' first
        | refine And.intro ?_ ?_
        | (refine CallK.i (hl _) ?_; rintro v E ⟨rfl, rfl⟩; simp (disch := omega) only [↓runPre, runPost, fieldO, ixA, cutA, lenA, aggA, rowA, appA, mkA, indA, bnd, srcA, sameOp, funcA, cvO, partA, aggD, ↓PostP, resV, resAll, resOne, resVF, resAllF, resOneF, fitsAll, fitsR, fits, frz, Post, Nat.reduceBEq, Nat.reduceLT, reduceCtorEq, ↓reduceIte, initS, AV.cellsOf, AV.fine, AV.one, repA, Nat.reduceMul, Nat.reduceAdd, Nat.reduceLeDiff, Nat.reduceEqDiff, Int.reduceToNat, Nat.reduceSub, Nat.reduceMod, Nat.reduceDiv, indexK.aggOf, Int.reducePow, Int.reduceLE, Int.reduceNeg, Int.reduceLT, Int.reduceBEq, Int.reduceBNe, Int.reduceEq, ownA, nilA, Try.facts, dT, dF, qT, qF, nT, nF, Bool.false_and, Bool.and_false, set_other])
        | rfl
  · rintro σ F ⟨rfl, s4, s5, s15⟩
    simp (disch := omega) only [↓runPre, runPost, fieldO, ixA, cutA, lenA, aggA, rowA, appA, mkA, indA, bnd, srcA, sameOp, funcA, cvO, partA, aggD, ↓PostP, resV, resAll, resOne, resVF, resAllF, resOneF, fitsAll, fitsR, fits, frz, Post, Nat.reduceBEq, Nat.reduceLT, reduceCtorEq, ↓reduceIte, initS, AV.cellsOf, AV.fine, AV.one, repA, Nat.reduceMul, Nat.reduceAdd, Nat.reduceLeDiff, Nat.reduceEqDiff, Int.reduceToNat, Nat.reduceSub, Nat.reduceMod, Nat.reduceDiv, indexK.aggOf, Int.reducePow, Int.reduceLE, Int.reduceNeg, Int.reduceLT, Int.reduceBEq, Int.reduceBNe, Int.reduceEq, ownA, nilA, Try.facts, s4, s5, s15, putCells_eq, set_other]
    refine ⟨_, rfl, H, ?_, rfl, rfl⟩
    first | exact ((((Sub.set_new hk1).set_free kH2).set_free kH3).set_free kH2).set_free kH3 | trace_state
end Go.Proofs.Ytpmmafmbjconiaa
