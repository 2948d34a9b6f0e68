/-
  The walks of the marks layer: a book that is not there, a text that is not there.
  Conditions: none. Lemmas only.
-/
import Derived.Test.YtgkpidbeoccpnaaMarG6
set_option linter.all false
set_option linter.unusedSimpArgs false
set_option linter.unusedVariables false
set_option maxRecDepth 8000
set_option maxHeartbeats 4000000
namespace Go.Proofs.Ytgkpidbeoccpnaa
open Go Go.Abs Go.Proofs Go.Fug
abbrev nilP : AV := .sc (.pointer none)
theorem all_nil (H : AH) : ACalls Try.prog 47 [nilP] H fun r H' => r = .fn (.func 62) [] [.ip [nilP] 0] ∧ H' = H := by
  refine acalls_of_cwp (c := ⟨Try.prog, 4, [(1000000, [1])], [], []⟩) (rs := [ResultVar.tmp 2]) Try.mixed Try.func47 rfl rfl rfl (Nat.le_of_ble_eq_true rfl) (by kernel_rfl) ?_
  simp (disch := omega) only [↓runPre, runPost, fieldO, ixA, cutA, lenA, aggA, rowA, appA, mkA, indA, bnd, srcA, sameOp, funcA, cvO, partA, aggD, ↓PostP, resV, resAll, resOne, resVF, resAllF, resOneF, fitsAll, fitsR, fits, frz, Post, Nat.reduceBEq, Nat.reduceLT, reduceCtorEq, ↓reduceIte, initS, AV.cellsOf, AV.fine, AV.one, repA, Nat.reduceMul, Nat.reduceAdd, Nat.reduceLeDiff, Nat.reduceEqDiff, Int.reduceToNat, Nat.reduceSub, Nat.reduceMod, Nat.reduceDiv, indexK.aggOf, Int.reducePow, Int.reduceLE, Int.reduceNeg, Int.reduceLT, Int.reduceBEq, Int.reduceBNe, Int.reduceEq, ownA, nilA, Try.facts]
  intro k hk0 hk
  simp (disch := omega) only [↓runPre, runPost, fieldO, ixA, cutA, lenA, aggA, rowA, appA, mkA, indA, bnd, srcA, sameOp, funcA, cvO, partA, aggD, ↓PostP, resV, resAll, resOne, resVF, resAllF, resOneF, fitsAll, fitsR, fits, frz, Post, Nat.reduceBEq, Nat.reduceLT, reduceCtorEq, ↓reduceIte, initS, AV.cellsOf, AV.fine, AV.one, repA, Nat.reduceMul, Nat.reduceAdd, Nat.reduceLeDiff, Nat.reduceEqDiff, Int.reduceToNat, Nat.reduceSub, Nat.reduceMod, Nat.reduceDiv, indexK.aggOf, Int.reducePow, Int.reduceLE, Int.reduceNeg, Int.reduceLT, Int.reduceBEq, Int.reduceBNe, Int.reduceEq, ownA, nilA, Try.facts, kill_box hk]
  exact ⟨_, rfl, H, Abs.Sub.refl _, rfl, rfl⟩
theorem iterP_nil : IterP Try.prog 62 [.ip [nilP] 0] encN (fun _ => True) (fun xs => xs = ixd 0 []) (fun pre => ∃ n, 0 < n ∧ n ≤ ([] : List Nd).length ∧ pre = (ixd 0 []).take n) (fun pre x => ∃ r, pre ++ x :: r = ixd 0 []) := by
  intro y J Jx H hRes hy hJ0
  refine acalls_of_cwp (c := ⟨Try.prog, 87, [(4, [0, 0, 0, 0, 0, 0, 0, 2, 2]), (5, [0, 1, 0, 1, 0, 0, 1, 1, 0]), (7, [0, 0, 1, 0, 0, 1, 0, 1, 0, 1, 0, 0, 2, 0]), (1000003, [5]), (1000004, [6]), (4000013, [0, 1, 3, 4]), (4000012, [0, 1, 3, 4]), (4000010, [0, 1, 3, 4, 5, 68]), (4000007, [0, 1, 3, 4]), (4000006, [0, 1, 3, 4, 5, 6]), (4000005, [0, 1, 3, 4, 5, 6, 32]), (4000004, [0, 1, 3, 4, 5, 6]), (4000003, [0, 1, 3, 4, 5])], [], [(4, (.op 0 0 (.op 1 0 (.op 2 0 (.op 4 0 (.op 5 0 (.or (.op 3 2 (.or (.op 6 2 (.op 7 2 (.op 8 2 .nil))) (.op 7 2 (.op 6 2 (.op 8 2 .nil))))) (.op 7 2 (.op 3 2 (.op 6 2 (.op 8 2 .nil)))))))))))]⟩) (rs := []) Try.mixed Try.func62 rfl rfl rfl (Nat.le_of_ble_eq_true rfl) (by kernel_rfl) ?_
  simp (disch := omega) only [↓runPre, runPost, fieldO, ixA, cutA, lenA, aggA, rowA, appA, mkA, indA, bnd, srcA, sameOp, funcA, cvO, partA, aggD, ↓PostP, resV, resAll, resOne, resVF, resAllF, resOneF, fitsAll, fitsR, fits, frz, Post, Nat.reduceBEq, Nat.reduceLT, reduceCtorEq, ↓reduceIte, initS, AV.cellsOf, AV.fine, AV.one, repA, Nat.reduceMul, Nat.reduceAdd, Nat.reduceLeDiff, Nat.reduceEqDiff, Int.reduceToNat, Nat.reduceSub, Nat.reduceMod, Nat.reduceDiv, indexK.aggOf, Int.reducePow, Int.reduceLE, Int.reduceNeg, Int.reduceLT, Int.reduceBEq, Int.reduceBNe, Int.reduceEq, ownA, nilA, Try.facts]
  refine scope_t Try.mixed 0 (by kernel_rfl) (rest := _) rfl (by kernel_rfl) (fun _ _ _ => False) ?_ ?_
  · simp (disch := omega) only [↓runPre, runPost, fieldO, ixA, cutA, lenA, aggA, rowA, appA, mkA, indA, bnd, srcA, sameOp, funcA, cvO, partA, aggD, ↓PostP, resV, resAll, resOne, resVF, resAllF, resOneF, fitsAll, fitsR, fits, frz, Post, Nat.reduceBEq, Nat.reduceLT, reduceCtorEq, ↓reduceIte, initS, AV.cellsOf, AV.fine, AV.one, repA, Nat.reduceMul, Nat.reduceAdd, Nat.reduceLeDiff, Nat.reduceEqDiff, Int.reduceToNat, Nat.reduceSub, Nat.reduceMod, Nat.reduceDiv, indexK.aggOf, Int.reducePow, Int.reduceLE, Int.reduceNeg, Int.reduceLT, Int.reduceBEq, Int.reduceBNe, Int.reduceEq, ownA, nilA, Try.facts]
    exact ⟨_, rfl, H, Abs.Sub.refl _, .inl ⟨[], rfl, hJ0⟩⟩
  · intro _ _ _ hf
    exact hf.elim
theorem list_nil (H : AH) : ACalls Try.prog 17 [nilP] H fun v H' => v = mksV [] ∧ H' = H := by
  refine acalls_of_cwp (c := ⟨Try.prog, 10, [], [], []⟩) (rs := [ResultVar.tmp 2]) Try.mixed Try.func17 rfl rfl rfl (Nat.le_of_ble_eq_true rfl) (by kernel_rfl) ?_
  simp (disch := omega) only [↓runPre, runPost, fieldO, ixA, cutA, lenA, aggA, rowA, appA, mkA, indA, bnd, srcA, sameOp, funcA, cvO, partA, aggD, ↓PostP, resV, resAll, resOne, resVF, resAllF, resOneF, fitsAll, fitsR, fits, frz, Post, Nat.reduceBEq, Nat.reduceLT, reduceCtorEq, ↓reduceIte, initS, AV.cellsOf, AV.fine, AV.one, repA, Nat.reduceMul, Nat.reduceAdd, Nat.reduceLeDiff, Nat.reduceEqDiff, Int.reduceToNat, Nat.reduceSub, Nat.reduceMod, Nat.reduceDiv, indexK.aggOf, Int.reducePow, Int.reduceLE, Int.reduceNeg, Int.reduceLT, Int.reduceBEq, Int.reduceBNe, Int.reduceEq, ownA, nilA, Try.facts]
  exact ⟨_, rfl, H, Abs.Sub.refl _, rfl, rfl⟩
theorem last_nil (H : AH) : ACalls Try.prog 20 [nilP] H fun v H' => v = .sc (.int .i64 0) ∧ H' = H := by
  refine acalls_of_cwp (c := ⟨Try.prog, 26, [(3, [0, 0, 0, 1, 0, 0, 0, 1, 1, 0, 0, 0, 1, 0])], [], []⟩) (rs := [ResultVar.tmp 2]) Try.mixed Try.func20 rfl rfl rfl (Nat.le_of_ble_eq_true rfl) (by kernel_rfl) ?_
  simp (disch := omega) only [↓runPre, runPost, fieldO, ixA, cutA, lenA, aggA, rowA, appA, mkA, indA, bnd, srcA, sameOp, funcA, cvO, partA, aggD, ↓PostP, resV, resAll, resOne, resVF, resAllF, resOneF, fitsAll, fitsR, fits, frz, Post, Nat.reduceBEq, Nat.reduceLT, reduceCtorEq, ↓reduceIte, initS, AV.cellsOf, AV.fine, AV.one, repA, Nat.reduceMul, Nat.reduceAdd, Nat.reduceLeDiff, Nat.reduceEqDiff, Int.reduceToNat, Nat.reduceSub, Nat.reduceMod, Nat.reduceDiv, indexK.aggOf, Int.reducePow, Int.reduceLE, Int.reduceNeg, Int.reduceLT, Int.reduceBEq, Int.reduceBNe, Int.reduceEq, ownA, nilA, Try.facts]
  exact ⟨_, rfl, H, Abs.Sub.refl _, rfl, rfl⟩
theorem bhas_nil (H : AH) (c a : Int) : ACalls Try.prog 18 [nilP, .sc (.int .i64 c), .sc (.int .i64 a)] H fun v H' => v = .sc (.bool false) ∧ H' = H := by
  refine acalls_of_cwp (c := ⟨Try.prog, 35, [], [], []⟩) (rs := [ResultVar.tmp 6]) Try.mixed Try.func18 rfl rfl rfl (Nat.le_of_ble_eq_true rfl) (by kernel_rfl) ?_
  simp (disch := omega) only [↓runPre, runPost, fieldO, ixA, cutA, lenA, aggA, rowA, appA, mkA, indA, bnd, srcA, sameOp, funcA, cvO, partA, aggD, ↓PostP, resV, resAll, resOne, resVF, resAllF, resOneF, fitsAll, fitsR, fits, frz, Post, Nat.reduceBEq, Nat.reduceLT, reduceCtorEq, ↓reduceIte, initS, AV.cellsOf, AV.fine, AV.one, repA, Nat.reduceMul, Nat.reduceAdd, Nat.reduceLeDiff, Nat.reduceEqDiff, Int.reduceToNat, Nat.reduceSub, Nat.reduceMod, Nat.reduceDiv, indexK.aggOf, Int.reducePow, Int.reduceLE, Int.reduceNeg, Int.reduceLT, Int.reduceBEq, Int.reduceBNe, Int.reduceEq, ownA, nilA, Try.facts]
  exact ⟨_, rfl, H, Abs.Sub.refl _, rfl, rfl⟩
theorem badd_nil (H : AH) (m : Mk) : ACalls Try.prog 15 [nilP, .agg (mkC m)] H fun v H' => v = .sc (.int .i64 13) ∧ H' = H := by
  obtain ⟨mc, ma, ⟨f1, f2⟩, fb, ⟨t1, t2⟩, tb, nm, vl⟩ := m
  simp only [mkC]
  refine acalls_of_cwp (c := ⟨Try.prog, 40, [(10, [0, 0, 0, 0, 0, 2, 0, 0, 2, 2, 0, 0, 2]), (1000000, [3])], [], [(10, (.op 0 0 (.op 1 0 (.op 2 0 (.op 3 0 (.op 6 0 (.op 7 0 (.or (.op 4 2 (.or (.op 5 2 (.op 8 2 (.op 9 2 (.op 10 0 (.op 11 0 (.op 12 2 .nil)))))) (.op 8 2 (.op 5 2 (.op 9 2 (.op 10 0 (.op 11 0 (.op 12 2 .nil)))))))) (.op 8 2 (.op 4 2 (.op 5 2 (.op 9 2 (.op 10 0 (.op 11 0 (.op 12 2 .nil)))))))))))))))]⟩) (rs := [ResultVar.tmp 4]) Try.mixed Try.func15 rfl rfl rfl (Nat.le_of_ble_eq_true rfl) (by kernel_rfl) ?_
  simp (disch := omega) only [↓runPre, runPost, fieldO, ixA, cutA, lenA, aggA, rowA, appA, mkA, indA, bnd, srcA, sameOp, funcA, cvO, partA, aggD, ↓PostP, resV, resAll, resOne, resVF, resAllF, resOneF, fitsAll, fitsR, fits, frz, Post, Nat.reduceBEq, Nat.reduceLT, reduceCtorEq, ↓reduceIte, initS, AV.cellsOf, AV.fine, AV.one, repA, Nat.reduceMul, Nat.reduceAdd, Nat.reduceLeDiff, Nat.reduceEqDiff, Int.reduceToNat, Nat.reduceSub, Nat.reduceMod, Nat.reduceDiv, indexK.aggOf, Int.reducePow, Int.reduceLE, Int.reduceNeg, Int.reduceLT, Int.reduceBEq, Int.reduceBNe, Int.reduceEq, ownA, nilA, Try.facts]
  intro k hk0 hk
  simp (disch := omega) only [↓runPre, runPost, fieldO, ixA, cutA, lenA, aggA, rowA, appA, mkA, indA, bnd, srcA, sameOp, funcA, cvO, partA, aggD, ↓PostP, resV, resAll, resOne, resVF, resAllF, resOneF, fitsAll, fitsR, fits, frz, Post, Nat.reduceBEq, Nat.reduceLT, reduceCtorEq, ↓reduceIte, initS, AV.cellsOf, AV.fine, AV.one, repA, Nat.reduceMul, Nat.reduceAdd, Nat.reduceLeDiff, Nat.reduceEqDiff, Int.reduceToNat, Nat.reduceSub, Nat.reduceMod, Nat.reduceDiv, indexK.aggOf, Int.reducePow, Int.reduceLE, Int.reduceNeg, Int.reduceLT, Int.reduceBEq, Int.reduceBNe, Int.reduceEq, ownA, nilA, Try.facts, kill_box hk]
  exact ⟨_, rfl, H, Abs.Sub.refl _, rfl, rfl⟩
theorem bclone_nil (H : AH) : ACalls Try.prog 30 [nilP] H fun v H' => v = nilP ∧ H' = H := by
  refine acalls_of_cwp (c := ⟨Try.prog, 12, [], [], []⟩) (rs := [ResultVar.tmp 2]) Try.mixed Try.func30 rfl rfl rfl (Nat.le_of_ble_eq_true rfl) (by kernel_rfl) ?_
  simp (disch := omega) only [↓runPre, runPost, fieldO, ixA, cutA, lenA, aggA, rowA, appA, mkA, indA, bnd, srcA, sameOp, funcA, cvO, partA, aggD, ↓PostP, resV, resAll, resOne, resVF, resAllF, resOneF, fitsAll, fitsR, fits, frz, Post, Nat.reduceBEq, Nat.reduceLT, reduceCtorEq, ↓reduceIte, initS, AV.cellsOf, AV.fine, AV.one, repA, Nat.reduceMul, Nat.reduceAdd, Nat.reduceLeDiff, Nat.reduceEqDiff, Int.reduceToNat, Nat.reduceSub, Nat.reduceMod, Nat.reduceDiv, indexK.aggOf, Int.reducePow, Int.reduceLE, Int.reduceNeg, Int.reduceLT, Int.reduceBEq, Int.reduceBNe, Int.reduceEq, ownA, nilA, Try.facts]
  exact ⟨_, rfl, H, Abs.Sub.refl _, rfl, rfl⟩
theorem src_nt (H : AH) (hb : Nat) (l : List Mk) (hi : H hb = some (bookO l)) (g : GoodM l) : Src H (.ptr hb 0) nilP l [] [.ip [nilP] 0] (fun _ => True) where
  sb := strip_ptr _ _
  st := strip_pn
  g := g
  nd := List.nodup_nil
  small := by simp
  al := fun H' => all_nil H'
  it := iterP_nil
  res := fun _ _ => trivial
  li := fun H' hs => list_live H' hb l (hs _ _ hi) g.small
theorem src_nb (H : AH) (h m : Nat) (L : List Ins) (G : List EId) (t : IsT H h m L G) : Src H nilP (.ptr h 0) [] (nodes L G) [.ip [.ptr h 0] 0] (fun Hc => IsT Hc h m L G) where
  sb := strip_pn
  st := strip_ptr _ _
  g := GoodM.nil
  nd := nodes_nodup t.g G
  small := by rw [nodes_len t.g G]; exact t.small
  al := fun H' => all_live H' h
  it := all_iterP h m L G t.g t.small
  res := fun H' hs => t.mono hs
  li := fun H' hs => list_nil H'
theorem mnobody_walk (E : List Ins) (D : List EId) (M : List Mk) (q : Mk) : APure Try.prog 8 [pageV E D M, .agg (mkC q)] (.sc (.bool true)) := by
  have haw := awake_pure
  have hf := few_pure E D M
  cases few : fewP E D M with
  | false =>
    rw [few] at hf
    obtain ⟨mc, ma, ⟨f1, f2⟩, fb, ⟨t1, t2⟩, tb, nm, vl⟩ := q
    simp only [mkC]
    refine apure_of_cwp (c := ⟨Try.prog, 106, [(1000000, [3, 2]), (4000012, [4]), (4000011, [5, 7, 8, 9, 10, 11, 12]), (4000008, [3, 5, 7, 8, 9, 10, 11, 75]), (4000006, [3, 5, 6, 7, 8, 9, 10]), (4000005, [2, 3, 5, 6, 7, 8])], [], []⟩) (rs := [ResultVar.tmp 4]) Try.mixed Try.func8 rfl rfl rfl (Nat.le_of_ble_eq_true rfl) (by kernel_rfl) fun H => ?_
    simp (disch := omega) only [↓runPre, runPost, fieldO, ixA, cutA, lenA, aggA, rowA, appA, mkA, indA, bnd, srcA, sameOp, funcA, cvO, partA, aggD, ↓PostP, resV, resAll, resOne, resVF, resAllF, resOneF, fitsAll, fitsR, fits, frz, Post, Nat.reduceBEq, Nat.reduceLT, reduceCtorEq, ↓reduceIte, initS, AV.cellsOf, AV.fine, AV.one, repA, Nat.reduceMul, Nat.reduceAdd, Nat.reduceLeDiff, Nat.reduceEqDiff, Int.reduceToNat, Nat.reduceSub, Nat.reduceMod, Nat.reduceDiv, indexK.aggOf, Int.reducePow, Int.reduceLE, Int.reduceNeg, Int.reduceLT, Int.reduceBEq, Int.reduceBNe, Int.reduceEq, ownA, nilA, Try.facts]
    intro k1 hk10 hk1 k2 hk20 hk2
    have hk2H := subset_set hk2
    simp (disch := omega) only [↓runPre, runPost, fieldO, ixA, cutA, lenA, aggA, rowA, appA, mkA, indA, bnd, srcA, sameOp, funcA, cvO, partA, aggD, ↓PostP, resV, resAll, resOne, resVF, resAllF, resOneF, fitsAll, fitsR, fits, frz, Post, Nat.reduceBEq, Nat.reduceLT, reduceCtorEq, ↓reduceIte, initS, AV.cellsOf, AV.fine, AV.one, repA, Nat.reduceMul, Nat.reduceAdd, Nat.reduceLeDiff, Nat.reduceEqDiff, Int.reduceToNat, Nat.reduceSub, Nat.reduceMod, Nat.reduceDiv, indexK.aggOf, Int.reducePow, Int.reduceLE, Int.reduceNeg, Int.reduceLT, Int.reduceBEq, Int.reduceBNe, Int.reduceEq, ownA, nilA, Try.facts, kill_box hk1, kill_box hk2, putCells_eq]
    first | refine CallK.p (hf) ?_ | refine CallP.i (hf) ?_
    simp (disch := omega) only [↓runPre, runPost, fieldO, ixA, cutA, lenA, aggA, rowA, appA, mkA, indA, bnd, srcA, sameOp, funcA, cvO, partA, aggD, ↓PostP, resV, resAll, resOne, resVF, resAllF, resOneF, fitsAll, fitsR, fits, frz, Post, Nat.reduceBEq, Nat.reduceLT, reduceCtorEq, ↓reduceIte, initS, AV.cellsOf, AV.fine, AV.one, repA, Nat.reduceMul, Nat.reduceAdd, Nat.reduceLeDiff, Nat.reduceEqDiff, Int.reduceToNat, Nat.reduceSub, Nat.reduceMod, Nat.reduceDiv, indexK.aggOf, Int.reducePow, Int.reduceLE, Int.reduceNeg, Int.reduceLT, Int.reduceBEq, Int.reduceBNe, Int.reduceEq, ownA, nilA, Try.facts]
    first | refine CallK.p (haw) ?_ | refine CallP.i (haw) ?_
    simp (disch := omega) only [↓runPre, runPost, fieldO, ixA, cutA, lenA, aggA, rowA, appA, mkA, indA, bnd, srcA, sameOp, funcA, cvO, partA, aggD, ↓PostP, resV, resAll, resOne, resVF, resAllF, resOneF, fitsAll, fitsR, fits, frz, Post, Nat.reduceBEq, Nat.reduceLT, reduceCtorEq, ↓reduceIte, initS, AV.cellsOf, AV.fine, AV.one, repA, Nat.reduceMul, Nat.reduceAdd, Nat.reduceLeDiff, Nat.reduceEqDiff, Int.reduceToNat, Nat.reduceSub, Nat.reduceMod, Nat.reduceDiv, indexK.aggOf, Int.reducePow, Int.reduceLE, Int.reduceNeg, Int.reduceLT, Int.reduceBEq, Int.reduceBNe, Int.reduceEq, ownA, nilA, Try.facts]
    exact Abs.Sub.refl _
  | true =>
    rw [few] at hf
    obtain ⟨hE, hD, hM⟩ : E.length ≤ 40 ∧ D.length ≤ 40 ∧ M.length ≤ 20 := by unfold fewP at few; simpa using few
    have hpt := fun H => ptext_live H E D M hE hD
    have hpb := fun H => pbook_live H E D M (by omega)
    have hbl := bookL_le M
    have hbg := bookL_good M
    unfold PText at hpt
    unfold PBook at hpb
    generalize bookL M = l at *
    have hra := rmadd_pure l q hbg.small
    have hbd := fun H h2 h => badd_live H h2 l q h hbg
    have hbn := fun H => badd_nil H q
    have hgw := hbg.add q
    have hhn := fun H => bhas_nil H q.clock q.author
    obtain ⟨mc, ma, ⟨f1, f2⟩, fb, ⟨t1, t2⟩, tb, nm, vl⟩ := q
    generalize addM l _ = R at *
    obtain ⟨w, er⟩ := R
    simp only [mkC] at hra hbd hbn hhn hgw ⊢
    have hll := mksC_length l
    have hlw := mksC_length w
    have hs1 := msame_pure l l (by have := hbg.small; omega) (by have := hbg.small; omega)
    have hs2 := msame_pure w w (by have := hgw.small; omega) (by have := hgw.small; omega)
    rw [dT rfl] at hs1 hs2
    refine apure_of_cwp (c := ⟨Try.prog, 106, [(1000000, [3, 2]), (4000012, [4]), (4000011, [5, 7, 8, 9, 10, 11, 12]), (4000008, [3, 5, 7, 8, 9, 10, 11, 75]), (4000006, [3, 5, 6, 7, 8, 9, 10]), (4000005, [2, 3, 5, 6, 7, 8])], [], []⟩) (rs := [ResultVar.tmp 4]) Try.mixed Try.func8 rfl rfl rfl (Nat.le_of_ble_eq_true rfl) (by kernel_rfl) fun H => ?_
    simp (disch := omega) only [↓runPre, runPost, fieldO, ixA, cutA, lenA, aggA, rowA, appA, mkA, indA, bnd, srcA, sameOp, funcA, cvO, partA, aggD, ↓PostP, resV, resAll, resOne, resVF, resAllF, resOneF, fitsAll, fitsR, fits, frz, Post, Nat.reduceBEq, Nat.reduceLT, reduceCtorEq, ↓reduceIte, initS, AV.cellsOf, AV.fine, AV.one, repA, Nat.reduceMul, Nat.reduceAdd, Nat.reduceLeDiff, Nat.reduceEqDiff, Int.reduceToNat, Nat.reduceSub, Nat.reduceMod, Nat.reduceDiv, indexK.aggOf, Int.reducePow, Int.reduceLE, Int.reduceNeg, Int.reduceLT, Int.reduceBEq, Int.reduceBNe, Int.reduceEq, ownA, nilA, Try.facts]
    intro k1 hk10 hk1 k2 hk20 hk2
    have hk2H := subset_set hk2
    simp (disch := omega) only [↓runPre, runPost, fieldO, ixA, cutA, lenA, aggA, rowA, appA, mkA, indA, bnd, srcA, sameOp, funcA, cvO, partA, aggD, ↓PostP, resV, resAll, resOne, resVF, resAllF, resOneF, fitsAll, fitsR, fits, frz, Post, Nat.reduceBEq, Nat.reduceLT, reduceCtorEq, ↓reduceIte, initS, AV.cellsOf, AV.fine, AV.one, repA, Nat.reduceMul, Nat.reduceAdd, Nat.reduceLeDiff, Nat.reduceEqDiff, Int.reduceToNat, Nat.reduceSub, Nat.reduceMod, Nat.reduceDiv, indexK.aggOf, Int.reducePow, Int.reduceLE, Int.reduceNeg, Int.reduceLT, Int.reduceBEq, Int.reduceBNe, Int.reduceEq, ownA, nilA, Try.facts, kill_box hk1, kill_box hk2, putCells_eq]
    first | refine CallK.p (hf) ?_ | refine CallP.i (hf) ?_
    simp (disch := omega) only [↓runPre, runPost, fieldO, ixA, cutA, lenA, aggA, rowA, appA, mkA, indA, bnd, srcA, sameOp, funcA, cvO, partA, aggD, ↓PostP, resV, resAll, resOne, resVF, resAllF, resOneF, fitsAll, fitsR, fits, frz, Post, Nat.reduceBEq, Nat.reduceLT, reduceCtorEq, ↓reduceIte, initS, AV.cellsOf, AV.fine, AV.one, repA, Nat.reduceMul, Nat.reduceAdd, Nat.reduceLeDiff, Nat.reduceEqDiff, Int.reduceToNat, Nat.reduceSub, Nat.reduceMod, Nat.reduceDiv, indexK.aggOf, Int.reducePow, Int.reduceLE, Int.reduceNeg, Int.reduceLT, Int.reduceBEq, Int.reduceBNe, Int.reduceEq, ownA, nilA, Try.facts]
    refine CallK.i (hpt _) ?_
    rintro v H1 ⟨h, m, L, G, rfl, hh, hm, hsa, t, hLE⟩
    simp (disch := omega) only [↓runPre, runPost, fieldO, ixA, cutA, lenA, aggA, rowA, appA, mkA, indA, bnd, srcA, sameOp, funcA, cvO, partA, aggD, ↓PostP, resV, resAll, resOne, resVF, resAllF, resOneF, fitsAll, fitsR, fits, frz, Post, Nat.reduceBEq, Nat.reduceLT, reduceCtorEq, ↓reduceIte, initS, AV.cellsOf, AV.fine, AV.one, repA, Nat.reduceMul, Nat.reduceAdd, Nat.reduceLeDiff, Nat.reduceEqDiff, Int.reduceToNat, Nat.reduceSub, Nat.reduceMod, Nat.reduceDiv, indexK.aggOf, Int.reducePow, Int.reduceLE, Int.reduceNeg, Int.reduceLT, Int.reduceBEq, Int.reduceBNe, Int.reduceEq, ownA, nilA, Try.facts]
    refine CallK.i (hpb _) ?_
    rintro v H2 ⟨hb, rfl, hb0, hbf, hsb, vb⟩
    have t2' := t.mono hsb
    have hsab := hsa.trans hsb
    simp (disch := omega) only [↓runPre, runPost, fieldO, ixA, cutA, lenA, aggA, rowA, appA, mkA, indA, bnd, srcA, sameOp, funcA, cvO, partA, aggD, ↓PostP, resV, resAll, resOne, resVF, resAllF, resOneF, fitsAll, fitsR, fits, frz, Post, Nat.reduceBEq, Nat.reduceLT, reduceCtorEq, ↓reduceIte, initS, AV.cellsOf, AV.fine, AV.one, repA, Nat.reduceMul, Nat.reduceAdd, Nat.reduceLeDiff, Nat.reduceEqDiff, Int.reduceToNat, Nat.reduceSub, Nat.reduceMod, Nat.reduceDiv, indexK.aggOf, Int.reducePow, Int.reduceLE, Int.reduceNeg, Int.reduceLT, Int.reduceBEq, Int.reduceBNe, Int.reduceEq, ownA, nilA, Try.facts]
    refine CallK.i (mclone_live _ hb l vb hbg.small) ?_
    rintro v H3 ⟨h2, rfl, h20, h2f, rfl⟩
    have e1 := ne_live vb h2f
    have e2 := ne_live t2'.hi h2f
    have e3 := ne_live t2'.hm h2f
    have e4 := ne_live t2'.hi h2f
    have t3 := t2'.put (b := h2) (o := bookO l) e2 e3
    have vb3 : (H2.set h2 (bookO l)) hb = some (bookO l) := by rw [set_other e1]; exact vb
    have vc3 : (H2.set h2 (bookO l)) h2 = some (bookO l) := set_get
    have h2H := hsab.free h2f
    have hs3 : Abs.Sub H (H2.set h2 (bookO l)) := hsab.trans (Sub.set_new h2f)
    have c1 := styles_gen _ _ _ l _ _ _ (src_nt _ hb l vb3 hbg)
    have c2 := runs_gen _ _ _ l _ _ _ (src_nt _ hb l vb3 hbg)
    have hb1 := hbd _ h2 vc3
    have z1 : (rnsC (runsN [] l)) = [] := rfl
    have z2 : (runsN [] l).length = 0 := rfl
    simp only [List.length_nil] at c1
    rw [show rnsV (runsN [] l) = .imm 0 [] 0 from rfl] at c2
    generalize H2.set h2 (bookO l) = H3 at *
    simp (disch := omega) only [↓runPre, runPost, fieldO, ixA, cutA, lenA, aggA, rowA, appA, mkA, indA, bnd, srcA, sameOp, funcA, cvO, partA, aggD, ↓PostP, resV, resAll, resOne, resVF, resAllF, resOneF, fitsAll, fitsR, fits, frz, Post, Nat.reduceBEq, Nat.reduceLT, reduceCtorEq, ↓reduceIte, initS, AV.cellsOf, AV.fine, AV.one, repA, Nat.reduceMul, Nat.reduceAdd, Nat.reduceLeDiff, Nat.reduceEqDiff, Int.reduceToNat, Nat.reduceSub, Nat.reduceMod, Nat.reduceDiv, indexK.aggOf, Int.reducePow, Int.reduceLE, Int.reduceNeg, Int.reduceLT, Int.reduceBEq, Int.reduceBNe, Int.reduceEq, ownA, nilA, Try.facts]
    refine CallK.i c1 ?_
    rintro v E1 ⟨rfl, rfl⟩
    simp (disch := omega) only [↓runPre, runPost, fieldO, ixA, cutA, lenA, aggA, rowA, appA, mkA, indA, bnd, srcA, sameOp, funcA, cvO, partA, aggD, ↓PostP, resV, resAll, resOne, resVF, resAllF, resOneF, fitsAll, fitsR, fits, frz, Post, Nat.reduceBEq, Nat.reduceLT, reduceCtorEq, ↓reduceIte, initS, AV.cellsOf, AV.fine, AV.one, repA, Nat.reduceMul, Nat.reduceAdd, Nat.reduceLeDiff, Nat.reduceEqDiff, Int.reduceToNat, Nat.reduceSub, Nat.reduceMod, Nat.reduceDiv, indexK.aggOf, Int.reducePow, Int.reduceLE, Int.reduceNeg, Int.reduceLT, Int.reduceBEq, Int.reduceBNe, Int.reduceEq, ownA, nilA, Try.facts]
    refine CallK.i c2 ?_
    rintro v E1 ⟨rfl, rfl⟩
    simp (disch := omega) only [↓runPre, runPost, fieldO, ixA, cutA, lenA, aggA, rowA, appA, mkA, indA, bnd, srcA, sameOp, funcA, cvO, partA, aggD, ↓PostP, resV, resAll, resOne, resVF, resAllF, resOneF, fitsAll, fitsR, fits, frz, Post, Nat.reduceBEq, Nat.reduceLT, reduceCtorEq, ↓reduceIte, initS, AV.cellsOf, AV.fine, AV.one, repA, Nat.reduceMul, Nat.reduceAdd, Nat.reduceLeDiff, Nat.reduceEqDiff, Int.reduceToNat, Nat.reduceSub, Nat.reduceMod, Nat.reduceDiv, indexK.aggOf, Int.reducePow, Int.reduceLE, Int.reduceNeg, Int.reduceLT, Int.reduceBEq, Int.reduceBNe, Int.reduceEq, ownA, nilA, Try.facts]
    refine CallK.i (hbn _) ?_
    rintro v E1 ⟨rfl, rfl⟩
    simp (disch := omega) only [↓runPre, runPost, fieldO, ixA, cutA, lenA, aggA, rowA, appA, mkA, indA, bnd, srcA, sameOp, funcA, cvO, partA, aggD, ↓PostP, resV, resAll, resOne, resVF, resAllF, resOneF, fitsAll, fitsR, fits, frz, Post, Nat.reduceBEq, Nat.reduceLT, reduceCtorEq, ↓reduceIte, initS, AV.cellsOf, AV.fine, AV.one, repA, Nat.reduceMul, Nat.reduceAdd, Nat.reduceLeDiff, Nat.reduceEqDiff, Int.reduceToNat, Nat.reduceSub, Nat.reduceMod, Nat.reduceDiv, indexK.aggOf, Int.reducePow, Int.reduceLE, Int.reduceNeg, Int.reduceLT, Int.reduceBEq, Int.reduceBNe, Int.reduceEq, ownA, nilA, Try.facts, bne_self_eq_false]
    refine CallK.i (hhn _) ?_
    rintro v E1 ⟨rfl, rfl⟩
    simp (disch := omega) only [↓runPre, runPost, fieldO, ixA, cutA, lenA, aggA, rowA, appA, mkA, indA, bnd, srcA, sameOp, funcA, cvO, partA, aggD, ↓PostP, resV, resAll, resOne, resVF, resAllF, resOneF, fitsAll, fitsR, fits, frz, Post, Nat.reduceBEq, Nat.reduceLT, reduceCtorEq, ↓reduceIte, initS, AV.cellsOf, AV.fine, AV.one, repA, Nat.reduceMul, Nat.reduceAdd, Nat.reduceLeDiff, Nat.reduceEqDiff, Int.reduceToNat, Nat.reduceSub, Nat.reduceMod, Nat.reduceDiv, indexK.aggOf, Int.reducePow, Int.reduceLE, Int.reduceNeg, Int.reduceLT, Int.reduceBEq, Int.reduceBNe, Int.reduceEq, ownA, nilA, Try.facts]
    refine CallK.i (last_nil _) ?_
    rintro v E1 ⟨rfl, rfl⟩
    simp (disch := omega) only [↓runPre, runPost, fieldO, ixA, cutA, lenA, aggA, rowA, appA, mkA, indA, bnd, srcA, sameOp, funcA, cvO, partA, aggD, ↓PostP, resV, resAll, resOne, resVF, resAllF, resOneF, fitsAll, fitsR, fits, frz, Post, Nat.reduceBEq, Nat.reduceLT, reduceCtorEq, ↓reduceIte, initS, AV.cellsOf, AV.fine, AV.one, repA, Nat.reduceMul, Nat.reduceAdd, Nat.reduceLeDiff, Nat.reduceEqDiff, Int.reduceToNat, Nat.reduceSub, Nat.reduceMod, Nat.reduceDiv, indexK.aggOf, Int.reducePow, Int.reduceLE, Int.reduceNeg, Int.reduceLT, Int.reduceBEq, Int.reduceBNe, Int.reduceEq, ownA, nilA, Try.facts, bne_self_eq_false]
    refine CallK.i (list_nil _) ?_
    rintro v E1 ⟨rfl, rfl⟩
    simp (disch := omega) only [↓runPre, runPost, fieldO, ixA, cutA, lenA, aggA, rowA, appA, mkA, indA, bnd, srcA, sameOp, funcA, cvO, partA, aggD, ↓PostP, resV, resAll, resOne, resVF, resAllF, resOneF, fitsAll, fitsR, fits, frz, Post, Nat.reduceBEq, Nat.reduceLT, reduceCtorEq, ↓reduceIte, initS, AV.cellsOf, AV.fine, AV.one, repA, Nat.reduceMul, Nat.reduceAdd, Nat.reduceLeDiff, Nat.reduceEqDiff, Int.reduceToNat, Nat.reduceSub, Nat.reduceMod, Nat.reduceDiv, indexK.aggOf, Int.reducePow, Int.reduceLE, Int.reduceNeg, Int.reduceLT, Int.reduceBEq, Int.reduceBNe, Int.reduceEq, ownA, nilA, Try.facts, bne_self_eq_false]
    refine CallK.i (bclone_nil _) ?_
    rintro v E1 ⟨rfl, rfl⟩
    simp (disch := omega) only [↓runPre, runPost, fieldO, ixA, cutA, lenA, aggA, rowA, appA, mkA, indA, bnd, srcA, sameOp, funcA, cvO, partA, aggD, ↓PostP, resV, resAll, resOne, resVF, resAllF, resOneF, fitsAll, fitsR, fits, frz, Post, Nat.reduceBEq, Nat.reduceLT, reduceCtorEq, ↓reduceIte, initS, AV.cellsOf, AV.fine, AV.one, repA, Nat.reduceMul, Nat.reduceAdd, Nat.reduceLeDiff, Nat.reduceEqDiff, Int.reduceToNat, Nat.reduceSub, Nat.reduceMod, Nat.reduceDiv, indexK.aggOf, Int.reducePow, Int.reduceLE, Int.reduceNeg, Int.reduceLT, Int.reduceBEq, Int.reduceBNe, Int.reduceEq, ownA, nilA, Try.facts, bne_self_eq_false]
    refine CallK.i hb1 ?_
    rintro v H4 ⟨rfl, vw, fr⟩
    have hs4 : Abs.Sub H H4 := fun y o hy => fr y o (ne_live hy h2H) (hs3 _ _ hy)
    have vb4 := fr _ _ e1 vb3
    have t4 : IsT H4 h m L G := ⟨fr _ _ e2 t3.hi, ⟨t3.ord, t3.perm, fr _ _ e3 t3.hm⟩, t3.g, t3.gs, t3.gn, t3.small⟩
    have c3 := runs_gen H4 _ _ [] _ _ _ (src_nb H4 h m L G t4)
    have hnl := nodes_len t4.g G
    have hrr := rruns_pure (nodes L G) [] (by omega) (by simp)
    have hrn : (runsN (nodes L G) []).length ≤ 100000 := by
      have := runsR_len (styN (nodes L G) []) (ixd 0 (nodes L G))
      unfold runsN
      rw [List.length_reverse]
      rw [ixd_length] at this
      omega
    have hsm := rsame_pure (runsN (nodes L G) []) (runsN (nodes L G) []) hrn hrn
    rw [dT rfl] at hsm
    rw [show mksV [] = .imm 0 [] 0 from rfl] at hrr
    generalize runsN (nodes L G) [] = RR at *
    simp (disch := omega) only [↓runPre, runPost, fieldO, ixA, cutA, lenA, aggA, rowA, appA, mkA, indA, bnd, srcA, sameOp, funcA, cvO, partA, aggD, ↓PostP, resV, resAll, resOne, resVF, resAllF, resOneF, fitsAll, fitsR, fits, frz, Post, Nat.reduceBEq, Nat.reduceLT, reduceCtorEq, ↓reduceIte, initS, AV.cellsOf, AV.fine, AV.one, repA, Nat.reduceMul, Nat.reduceAdd, Nat.reduceLeDiff, Nat.reduceEqDiff, Int.reduceToNat, Nat.reduceSub, Nat.reduceMod, Nat.reduceDiv, indexK.aggOf, Int.reducePow, Int.reduceLE, Int.reduceNeg, Int.reduceLT, Int.reduceBEq, Int.reduceBNe, Int.reduceEq, ownA, nilA, Try.facts]
    first | refine CallK.p (hra) ?_ | refine CallP.i (hra) ?_
    simp (disch := omega) only [↓runPre, runPost, fieldO, ixA, cutA, lenA, aggA, rowA, appA, mkA, indA, bnd, srcA, sameOp, funcA, cvO, partA, aggD, ↓PostP, resV, resAll, resOne, resVF, resAllF, resOneF, fitsAll, fitsR, fits, frz, Post, Nat.reduceBEq, Nat.reduceLT, reduceCtorEq, ↓reduceIte, initS, AV.cellsOf, AV.fine, AV.one, repA, Nat.reduceMul, Nat.reduceAdd, Nat.reduceLeDiff, Nat.reduceEqDiff, Int.reduceToNat, Nat.reduceSub, Nat.reduceMod, Nat.reduceDiv, indexK.aggOf, Int.reducePow, Int.reduceLE, Int.reduceNeg, Int.reduceLT, Int.reduceBEq, Int.reduceBNe, Int.reduceEq, ownA, nilA, Try.facts]
    refine CallK.i (list_live _ hb l vb4 hbg.small) ?_
    rintro v E1 ⟨rfl, rfl⟩
    simp (disch := omega) only [↓runPre, runPost, fieldO, ixA, cutA, lenA, aggA, rowA, appA, mkA, indA, bnd, srcA, sameOp, funcA, cvO, partA, aggD, ↓PostP, resV, resAll, resOne, resVF, resAllF, resOneF, fitsAll, fitsR, fits, frz, Post, Nat.reduceBEq, Nat.reduceLT, reduceCtorEq, ↓reduceIte, initS, AV.cellsOf, AV.fine, AV.one, repA, Nat.reduceMul, Nat.reduceAdd, Nat.reduceLeDiff, Nat.reduceEqDiff, Int.reduceToNat, Nat.reduceSub, Nat.reduceMod, Nat.reduceDiv, indexK.aggOf, Int.reducePow, Int.reduceLE, Int.reduceNeg, Int.reduceLT, Int.reduceBEq, Int.reduceBNe, Int.reduceEq, ownA, nilA, Try.facts]
    first | refine CallK.p (hs1) ?_ | refine CallP.i (hs1) ?_
    simp (disch := omega) only [↓runPre, runPost, fieldO, ixA, cutA, lenA, aggA, rowA, appA, mkA, indA, bnd, srcA, sameOp, funcA, cvO, partA, aggD, ↓PostP, resV, resAll, resOne, resVF, resAllF, resOneF, fitsAll, fitsR, fits, frz, Post, Nat.reduceBEq, Nat.reduceLT, reduceCtorEq, ↓reduceIte, initS, AV.cellsOf, AV.fine, AV.one, repA, Nat.reduceMul, Nat.reduceAdd, Nat.reduceLeDiff, Nat.reduceEqDiff, Int.reduceToNat, Nat.reduceSub, Nat.reduceMod, Nat.reduceDiv, indexK.aggOf, Int.reducePow, Int.reduceLE, Int.reduceNeg, Int.reduceLT, Int.reduceBEq, Int.reduceBNe, Int.reduceEq, ownA, nilA, Try.facts]
    refine CallK.i (list_live _ h2 w vw hgw.small) ?_
    rintro v E1 ⟨rfl, rfl⟩
    simp (disch := omega) only [↓runPre, runPost, fieldO, ixA, cutA, lenA, aggA, rowA, appA, mkA, indA, bnd, srcA, sameOp, funcA, cvO, partA, aggD, ↓PostP, resV, resAll, resOne, resVF, resAllF, resOneF, fitsAll, fitsR, fits, frz, Post, Nat.reduceBEq, Nat.reduceLT, reduceCtorEq, ↓reduceIte, initS, AV.cellsOf, AV.fine, AV.one, repA, Nat.reduceMul, Nat.reduceAdd, Nat.reduceLeDiff, Nat.reduceEqDiff, Int.reduceToNat, Nat.reduceSub, Nat.reduceMod, Nat.reduceDiv, indexK.aggOf, Int.reducePow, Int.reduceLE, Int.reduceNeg, Int.reduceLT, Int.reduceBEq, Int.reduceBNe, Int.reduceEq, ownA, nilA, Try.facts]
    first | refine CallK.p (hs2) ?_ | refine CallP.i (hs2) ?_
    simp (disch := omega) only [↓runPre, runPost, fieldO, ixA, cutA, lenA, aggA, rowA, appA, mkA, indA, bnd, srcA, sameOp, funcA, cvO, partA, aggD, ↓PostP, resV, resAll, resOne, resVF, resAllF, resOneF, fitsAll, fitsR, fits, frz, Post, Nat.reduceBEq, Nat.reduceLT, reduceCtorEq, ↓reduceIte, initS, AV.cellsOf, AV.fine, AV.one, repA, Nat.reduceMul, Nat.reduceAdd, Nat.reduceLeDiff, Nat.reduceEqDiff, Int.reduceToNat, Nat.reduceSub, Nat.reduceMod, Nat.reduceDiv, indexK.aggOf, Int.reducePow, Int.reduceLE, Int.reduceNeg, Int.reduceLT, Int.reduceBEq, Int.reduceBNe, Int.reduceEq, ownA, nilA, Try.facts]
    refine CallK.i c3 ?_
    rintro v E1 ⟨rfl, rfl⟩
    simp (disch := omega) only [↓runPre, runPost, fieldO, ixA, cutA, lenA, aggA, rowA, appA, mkA, indA, bnd, srcA, sameOp, funcA, cvO, partA, aggD, ↓PostP, resV, resAll, resOne, resVF, resAllF, resOneF, fitsAll, fitsR, fits, frz, Post, Nat.reduceBEq, Nat.reduceLT, reduceCtorEq, ↓reduceIte, initS, AV.cellsOf, AV.fine, AV.one, repA, Nat.reduceMul, Nat.reduceAdd, Nat.reduceLeDiff, Nat.reduceEqDiff, Int.reduceToNat, Nat.reduceSub, Nat.reduceMod, Nat.reduceDiv, indexK.aggOf, Int.reducePow, Int.reduceLE, Int.reduceNeg, Int.reduceLT, Int.reduceBEq, Int.reduceBNe, Int.reduceEq, ownA, nilA, Try.facts]
    first | refine CallK.p (hrr) ?_ | refine CallP.i (hrr) ?_
    simp (disch := omega) only [↓runPre, runPost, fieldO, ixA, cutA, lenA, aggA, rowA, appA, mkA, indA, bnd, srcA, sameOp, funcA, cvO, partA, aggD, ↓PostP, resV, resAll, resOne, resVF, resAllF, resOneF, fitsAll, fitsR, fits, frz, Post, Nat.reduceBEq, Nat.reduceLT, reduceCtorEq, ↓reduceIte, initS, AV.cellsOf, AV.fine, AV.one, repA, Nat.reduceMul, Nat.reduceAdd, Nat.reduceLeDiff, Nat.reduceEqDiff, Int.reduceToNat, Nat.reduceSub, Nat.reduceMod, Nat.reduceDiv, indexK.aggOf, Int.reducePow, Int.reduceLE, Int.reduceNeg, Int.reduceLT, Int.reduceBEq, Int.reduceBNe, Int.reduceEq, ownA, nilA, Try.facts]
    first | refine CallK.p (hsm) ?_ | refine CallP.i (hsm) ?_
    simp (disch := omega) only [↓runPre, runPost, fieldO, ixA, cutA, lenA, aggA, rowA, appA, mkA, indA, bnd, srcA, sameOp, funcA, cvO, partA, aggD, ↓PostP, resV, resAll, resOne, resVF, resAllF, resOneF, fitsAll, fitsR, fits, frz, Post, Nat.reduceBEq, Nat.reduceLT, reduceCtorEq, ↓reduceIte, initS, AV.cellsOf, AV.fine, AV.one, repA, Nat.reduceMul, Nat.reduceAdd, Nat.reduceLeDiff, Nat.reduceEqDiff, Int.reduceToNat, Nat.reduceSub, Nat.reduceMod, Nat.reduceDiv, indexK.aggOf, Int.reducePow, Int.reduceLE, Int.reduceNeg, Int.reduceLT, Int.reduceBEq, Int.reduceBNe, Int.reduceEq, ownA, nilA, Try.facts]
    first | refine CallK.p (haw) ?_ | refine CallP.i (haw) ?_
    simp (disch := omega) only [↓runPre, runPost, fieldO, ixA, cutA, lenA, aggA, rowA, appA, mkA, indA, bnd, srcA, sameOp, funcA, cvO, partA, aggD, ↓PostP, resV, resAll, resOne, resVF, resAllF, resOneF, fitsAll, fitsR, fits, frz, Post, Nat.reduceBEq, Nat.reduceLT, reduceCtorEq, ↓reduceIte, initS, AV.cellsOf, AV.fine, AV.one, repA, Nat.reduceMul, Nat.reduceAdd, Nat.reduceLeDiff, Nat.reduceEqDiff, Int.reduceToNat, Nat.reduceSub, Nat.reduceMod, Nat.reduceDiv, indexK.aggOf, Int.reducePow, Int.reduceLE, Int.reduceNeg, Int.reduceLT, Int.reduceBEq, Int.reduceBNe, Int.reduceEq, ownA, nilA, Try.facts]
    exact hs4
end Go.Proofs.Ytgkpidbeoccpnaa
