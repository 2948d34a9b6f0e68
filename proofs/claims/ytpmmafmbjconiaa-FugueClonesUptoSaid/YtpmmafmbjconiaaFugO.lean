/-
  The walks of the fugue layer: the law of plays: its walk.
  Conditions: none. Lemmas only.
-/
import Derived.Test.YtpmmafmbjconiaaFugN
import Derived.Test.YtpmmafmbjconiaaFugT
set_option linter.all false
set_option linter.unusedSimpArgs false
set_option linter.unusedVariables false
set_option maxRecDepth 8000
set_option maxHeartbeats 4000000
namespace Go.Proofs.Ytpmmafmbjconiaa
open Go Go.Abs Go.Proofs Go.Fug
def dosC (l : List DoT) : List AV := l.flatMap doC
theorem dosC_length (l : List DoT) : (dosC l).length = l.length * 9 := by
  induction l with
  | nil => rfl
  | cons t r ih => simp only [dosC, List.flatMap_cons, List.length_append, List.length_cons] at *; rw [ih]; simp [doC, insC]; omega
theorem dosC_load {l : List DoT} {i : Nat} (h : i < l.length) : ((dosC l).drop (i * 9)).take 9 = doC l[i] := by
  have : ∀ (l : List DoT) (i : Nat) (h : i < l.length), (dosC l).drop (i * 9) = doC l[i] ++ dosC (l.drop (i + 1)) := by
    intro l
    induction l with
    | nil => intro i h; simp at h
    | cons t r ih =>
      intro i h
      cases i with
      | zero => simp [dosC]
      | succ i =>
        have e : (i + 1) * 9 = 9 + i * 9 := by omega
        have e1 : dosC (t :: r) = doC t ++ dosC r := rfl
        rw [e, ← List.drop_drop, e1, List.drop_left' (by simp [doC, insC]), ih i (by simpa using h)]
        rfl
  rw [this l i h, List.take_left' (by simp [doC, insC])]
theorem addL_le (L : List Ins) (i : Ins) : (addL L i).1.length ≤ L.length + 1 := by
  unfold addL
  split
  · simp
  · split
    · simp
    · split
      · simp
      · split
        · simp
        · simp
theorem stepL_le (k : DoT) (L : List Ins) (G : List EId) : (stepL k (L, G)).1.length ≤ L.length + 1 := by
  unfold stepL
  split
  · simp
  · exact addL_le L k.ins
theorem plays_no (l : List DoT) (hl : l.length ≤ 1048576) (h : ¬ l.length ≤ 60) : APure Try.prog 4 [.imm 0 (dosC l) l.length] (.sc (.bool true)) := by
  have haw := awake_pure
  refine apure_of_cwp (c := ⟨Try.prog, 56, [(9, [0, 0, 0, 0, 2, 0, 0, 0, 0, 0, 0, 0, 2, 0, 0, 0, 0, 0, 0, 2, 0, 0, 0, 0, 0]), (1000006, [6]), (1000007, [7])], [], [(9, (.op 0 0 (.op 1 0 (.op 2 0 (.op 3 0 (.or (.op 4 2 (.op 5 2 (.op 6 0 (.op 7 0 (.op 8 0 (.op 9 0 (.op 10 0 (.op 11 0 (.or (.op 12 2 (.op 13 2 (.op 14 0 (.op 15 0 (.op 16 0 (.op 17 0 (.op 18 0 (.or (.op 19 2 (.op 20 2 (.op 21 0 (.op 22 0 (.op 23 0 (.op 24 0 .nil)))))) (.op 20 2 (.op 19 2 (.op 21 0 (.op 22 0 (.op 23 0 (.op 24 0 .nil)))))))))))))) (.op 13 2 (.op 12 2 (.op 14 0 (.op 15 0 (.op 16 0 (.op 17 0 (.op 18 0 (.or (.op 19 2 (.op 20 2 (.op 21 0 (.op 22 0 (.op 23 0 (.op 24 0 .nil)))))) (.op 20 2 (.op 19 2 (.op 21 0 (.op 22 0 (.op 23 0 (.op 24 0 .nil))))))))))))))))))))))) (.op 5 2 (.op 4 2 (.op 6 0 (.op 7 0 (.op 8 0 (.op 9 0 (.op 10 0 (.op 11 0 (.or (.op 12 2 (.op 13 2 (.op 14 0 (.op 15 0 (.op 16 0 (.op 17 0 (.op 18 0 (.or (.op 19 2 (.op 20 2 (.op 21 0 (.op 22 0 (.op 23 0 (.op 24 0 .nil)))))) (.op 20 2 (.op 19 2 (.op 21 0 (.op 22 0 (.op 23 0 (.op 24 0 .nil)))))))))))))) (.op 13 2 (.op 12 2 (.op 14 0 (.op 15 0 (.op 16 0 (.op 17 0 (.op 18 0 (.or (.op 19 2 (.op 20 2 (.op 21 0 (.op 22 0 (.op 23 0 (.op 24 0 .nil)))))) (.op 20 2 (.op 19 2 (.op 21 0 (.op 22 0 (.op 23 0 (.op 24 0 .nil)))))))))))))))))))))))))))))]⟩) (rs := [ResultVar.tmp 2]) Try.mixed Try.func4 rfl rfl rfl (Nat.le_of_ble_eq_true rfl) (by kernel_rfl) fun H => ?_
  simp (disch := omega) only [↓runPre, runPost, fieldO, ixA, cutA, lenA, aggA, rowA, appA, mkA, indA, bnd, srcA, sameOp, funcA, cvO, partA, aggD, ↓PostP, resV, resAll, resOne, resVF, resAllF, resOneF, fitsAll, fitsR, fits, frz, Post, Nat.reduceBEq, Nat.reduceLT, reduceCtorEq, ↓reduceIte, initS, AV.cellsOf, AV.fine, AV.one, repA, Nat.reduceMul, Nat.reduceAdd, Nat.reduceLeDiff, Nat.reduceEqDiff, Int.reduceToNat, Nat.reduceSub, Nat.reduceMod, Nat.reduceDiv, indexK.aggOf, Int.reducePow, Int.reduceLE, Int.reduceNeg, Int.reduceLT, Int.reduceBEq, Int.reduceBNe, Int.reduceEq, ownA, nilA, Try.facts, dT, dF, qT, qF, nT, nF, Bool.false_and, Bool.and_false]
  first | refine CallK.p (haw) ?_ | refine CallP.i (haw) ?_
  simp (disch := omega) only [↓runPre, runPost, fieldO, ixA, cutA, lenA, aggA, rowA, appA, mkA, indA, bnd, srcA, sameOp, funcA, cvO, partA, aggD, ↓PostP, resV, resAll, resOne, resVF, resAllF, resOneF, fitsAll, fitsR, fits, frz, Post, Nat.reduceBEq, Nat.reduceLT, reduceCtorEq, ↓reduceIte, initS, AV.cellsOf, AV.fine, AV.one, repA, Nat.reduceMul, Nat.reduceAdd, Nat.reduceLeDiff, Nat.reduceEqDiff, Int.reduceToNat, Nat.reduceSub, Nat.reduceMod, Nat.reduceDiv, indexK.aggOf, Int.reducePow, Int.reduceLE, Int.reduceNeg, Int.reduceLT, Int.reduceBEq, Int.reduceBNe, Int.reduceEq, ownA, nilA, Try.facts]
  exact Abs.Sub.refl _
abbrev tBox (L : List Ins) (G : List EId) : AObj := .cells (treeC L G) 29 2
theorem plays_yes (l : List DoT) (hl : l.length ≤ 60) : APure Try.prog 4 [.imm 0 (dosC l) l.length] (.sc (.bool true)) := by
  have haw := awake_pure
  have hdl := dosC_length l
  refine apure_of_cwp (c := ⟨Try.prog, 56, [(9, [0, 0, 0, 0, 2, 0, 0, 0, 0, 0, 0, 0, 2, 0, 0, 0, 0, 0, 0, 2, 0, 0, 0, 0, 0]), (1000006, [6]), (1000007, [7])], [], [(9, (.op 0 0 (.op 1 0 (.op 2 0 (.op 3 0 (.or (.op 4 2 (.op 5 2 (.op 6 0 (.op 7 0 (.op 8 0 (.op 9 0 (.op 10 0 (.op 11 0 (.or (.op 12 2 (.op 13 2 (.op 14 0 (.op 15 0 (.op 16 0 (.op 17 0 (.op 18 0 (.or (.op 19 2 (.op 20 2 (.op 21 0 (.op 22 0 (.op 23 0 (.op 24 0 .nil)))))) (.op 20 2 (.op 19 2 (.op 21 0 (.op 22 0 (.op 23 0 (.op 24 0 .nil)))))))))))))) (.op 13 2 (.op 12 2 (.op 14 0 (.op 15 0 (.op 16 0 (.op 17 0 (.op 18 0 (.or (.op 19 2 (.op 20 2 (.op 21 0 (.op 22 0 (.op 23 0 (.op 24 0 .nil)))))) (.op 20 2 (.op 19 2 (.op 21 0 (.op 22 0 (.op 23 0 (.op 24 0 .nil))))))))))))))))))))))) (.op 5 2 (.op 4 2 (.op 6 0 (.op 7 0 (.op 8 0 (.op 9 0 (.op 10 0 (.op 11 0 (.or (.op 12 2 (.op 13 2 (.op 14 0 (.op 15 0 (.op 16 0 (.op 17 0 (.op 18 0 (.or (.op 19 2 (.op 20 2 (.op 21 0 (.op 22 0 (.op 23 0 (.op 24 0 .nil)))))) (.op 20 2 (.op 19 2 (.op 21 0 (.op 22 0 (.op 23 0 (.op 24 0 .nil)))))))))))))) (.op 13 2 (.op 12 2 (.op 14 0 (.op 15 0 (.op 16 0 (.op 17 0 (.op 18 0 (.or (.op 19 2 (.op 20 2 (.op 21 0 (.op 22 0 (.op 23 0 (.op 24 0 .nil)))))) (.op 20 2 (.op 19 2 (.op 21 0 (.op 22 0 (.op 23 0 (.op 24 0 .nil)))))))))))))))))))))))))))))]⟩) (rs := [ResultVar.tmp 2]) Try.mixed Try.func4 rfl rfl rfl (Nat.le_of_ble_eq_true rfl) (by kernel_rfl) fun H => ?_
  simp (disch := omega) only [↓runPre, runPost, fieldO, ixA, cutA, lenA, aggA, rowA, appA, mkA, indA, bnd, srcA, sameOp, funcA, cvO, partA, aggD, ↓PostP, resV, resAll, resOne, resVF, resAllF, resOneF, fitsAll, fitsR, fits, frz, Post, Nat.reduceBEq, Nat.reduceLT, reduceCtorEq, ↓reduceIte, initS, AV.cellsOf, AV.fine, AV.one, repA, Nat.reduceMul, Nat.reduceAdd, Nat.reduceLeDiff, Nat.reduceEqDiff, Int.reduceToNat, Nat.reduceSub, Nat.reduceMod, Nat.reduceDiv, indexK.aggOf, Int.reducePow, Int.reduceLE, Int.reduceNeg, Int.reduceLT, Int.reduceBEq, Int.reduceBNe, Int.reduceEq, ownA, nilA, Try.facts, dT, dF, qT, qF, nT, nF, Bool.false_and, Bool.and_false]
  refine CallK.i (new_live H) ?_
  rintro v H1 ⟨h, m, rfl, hh, hm, hs, t⟩
  simp (disch := omega) only [↓runPre, runPost, fieldO, ixA, cutA, lenA, aggA, rowA, appA, mkA, indA, bnd, srcA, sameOp, funcA, cvO, partA, aggD, ↓PostP, resV, resAll, resOne, resVF, resAllF, resOneF, fitsAll, fitsR, fits, frz, Post, Nat.reduceBEq, Nat.reduceLT, reduceCtorEq, ↓reduceIte, initS, AV.cellsOf, AV.fine, AV.one, repA, Nat.reduceMul, Nat.reduceAdd, Nat.reduceLeDiff, Nat.reduceEqDiff, Int.reduceToNat, Nat.reduceSub, Nat.reduceMod, Nat.reduceDiv, indexK.aggOf, Int.reducePow, Int.reduceLE, Int.reduceNeg, Int.reduceLT, Int.reduceBEq, Int.reduceBNe, Int.reduceEq, ownA, nilA, Try.facts]
  intro k4 hk40 hk4
  simp (disch := omega) only [↓runPre, runPost, fieldO, ixA, cutA, lenA, aggA, rowA, appA, mkA, indA, bnd, srcA, sameOp, funcA, cvO, partA, aggD, ↓PostP, resV, resAll, resOne, resVF, resAllF, resOneF, fitsAll, fitsR, fits, frz, Post, Nat.reduceBEq, Nat.reduceLT, reduceCtorEq, ↓reduceIte, initS, AV.cellsOf, AV.fine, AV.one, repA, Nat.reduceMul, Nat.reduceAdd, Nat.reduceLeDiff, Nat.reduceEqDiff, Int.reduceToNat, Nat.reduceSub, Nat.reduceMod, Nat.reduceDiv, indexK.aggOf, Int.reducePow, Int.reduceLE, Int.reduceNeg, Int.reduceLT, Int.reduceBEq, Int.reduceBNe, Int.reduceEq, ownA, nilA, Try.facts, putCells_eq]
  refine nil_t k4 0 set_get rfl ?_
  refine nil_t k4 1 set_get rfl ?_
  simp only [List.set_cons_zero, List.set_cons_succ, set_set]
  have n4 := hs.free hk4
  have nh4 := ne_live t.hi hk4
  have nm4 := ne_live t.hm hk4
  refine loop_t (c := ⟨Try.prog, 56, [(9, [0, 0, 0, 0, 2, 0, 0, 0, 0, 0, 0, 0, 2, 0, 0, 0, 0, 0, 0, 2, 0, 0, 0, 0, 0]), (1000006, [6]), (1000007, [7])], [], [(9, (.op 0 0 (.op 1 0 (.op 2 0 (.op 3 0 (.or (.op 4 2 (.op 5 2 (.op 6 0 (.op 7 0 (.op 8 0 (.op 9 0 (.op 10 0 (.op 11 0 (.or (.op 12 2 (.op 13 2 (.op 14 0 (.op 15 0 (.op 16 0 (.op 17 0 (.op 18 0 (.or (.op 19 2 (.op 20 2 (.op 21 0 (.op 22 0 (.op 23 0 (.op 24 0 .nil)))))) (.op 20 2 (.op 19 2 (.op 21 0 (.op 22 0 (.op 23 0 (.op 24 0 .nil)))))))))))))) (.op 13 2 (.op 12 2 (.op 14 0 (.op 15 0 (.op 16 0 (.op 17 0 (.op 18 0 (.or (.op 19 2 (.op 20 2 (.op 21 0 (.op 22 0 (.op 23 0 (.op 24 0 .nil)))))) (.op 20 2 (.op 19 2 (.op 21 0 (.op 22 0 (.op 23 0 (.op 24 0 .nil))))))))))))))))))))))) (.op 5 2 (.op 4 2 (.op 6 0 (.op 7 0 (.op 8 0 (.op 9 0 (.op 10 0 (.op 11 0 (.or (.op 12 2 (.op 13 2 (.op 14 0 (.op 15 0 (.op 16 0 (.op 17 0 (.op 18 0 (.or (.op 19 2 (.op 20 2 (.op 21 0 (.op 22 0 (.op 23 0 (.op 24 0 .nil)))))) (.op 20 2 (.op 19 2 (.op 21 0 (.op 22 0 (.op 23 0 (.op 24 0 .nil)))))))))))))) (.op 13 2 (.op 12 2 (.op 14 0 (.op 15 0 (.op 16 0 (.op 17 0 (.op 18 0 (.or (.op 19 2 (.op 20 2 (.op 21 0 (.op 22 0 (.op 23 0 (.op 24 0 .nil)))))) (.op 20 2 (.op 19 2 (.op 21 0 (.op 22 0 (.op 23 0 (.op 24 0 .nil)))))))))))))))))))))))))))))]⟩) Try.mixed (by kernel_rfl) (fun mm σ H' => ∃ (i : Nat) (L : List Ins) (G : List EId), i + mm = l.length ∧ L.length ≤ i ∧ Abs.Sub H H' ∧ IsT H' h m L G ∧ H' k4 = some (tBox L G) ∧
    σ 3 = .ptr h 0 ∧ σ 4 = .ptr k4 0 ∧ σ 15 = .imm 0 (dosC l) l.length ∧ σ 16 = .sc (.int .i64 l.length) ∧ σ 17 = .sc (.int .i64 (i : Nat))) l.length ?_ ?_
  · refine ⟨0, [], [], by omega, by simp, hs.trans (Sub.set_new hk4), t.put nh4 nm4, set_get, ?_⟩
    simp (disch := omega) only [↓runPre, runPost, fieldO, ixA, cutA, lenA, aggA, rowA, appA, mkA, indA, bnd, srcA, sameOp, funcA, cvO, partA, aggD, ↓PostP, resV, resAll, resOne, resVF, resAllF, resOneF, fitsAll, fitsR, fits, frz, Post, Nat.reduceBEq, Nat.reduceLT, reduceCtorEq, ↓reduceIte, initS, AV.cellsOf, AV.fine, AV.one, repA, Nat.reduceMul, Nat.reduceAdd, Nat.reduceLeDiff, Nat.reduceEqDiff, Int.reduceToNat, Nat.reduceSub, Nat.reduceMod, Nat.reduceDiv, indexK.aggOf, Int.reducePow, Int.reduceLE, Int.reduceNeg, Int.reduceLT, Int.reduceBEq, Int.reduceBNe, Int.reduceEq, ownA, nilA, Try.facts]
    try rfl
  · clear hs t hk4
    rintro mm σ H' ⟨i, L, G, him, hLi, hs, t, v4, s3, s4, s15, s16, s17⟩
    by_cases hlt : i < l.length
    · have hld := dosC_load hlt
      have hle : i * 9 + 9 ≤ l.length * 9 := by omega
      have hbo := fun (k : DoT) => both_live H' h m L G k t
      have hst := stepL_le l[i] L G
      have hb1 := hbo l[i]
      generalize l[i] = q at *
      obtain ⟨kd, ⟨⟨a, c⟩, ⟨pa, pc⟩, ri, ru⟩, ⟨x1, x2⟩⟩ := q
      simp only [doC, insC, List.cons_append, List.nil_append] at hld hb1
      generalize stepL _ (L, G) = R at *
      obtain ⟨L2, G2⟩ := R
      unfold BothR at hb1
      simp only [] at hb1 hst
      simp (disch := omega) only [↓runPre, runPost, fieldO, ixA, cutA, lenA, aggA, rowA, appA, mkA, indA, bnd, srcA, sameOp, funcA, cvO, partA, aggD, ↓PostP, resV, resAll, resOne, resVF, resAllF, resOneF, fitsAll, fitsR, fits, frz, Post, Nat.reduceBEq, Nat.reduceLT, reduceCtorEq, ↓reduceIte, initS, AV.cellsOf, AV.fine, AV.one, repA, Nat.reduceMul, Nat.reduceAdd, Nat.reduceLeDiff, Nat.reduceEqDiff, Int.reduceToNat, Nat.reduceSub, Nat.reduceMod, Nat.reduceDiv, indexK.aggOf, Int.reducePow, Int.reduceLE, Int.reduceNeg, Int.reduceLT, Int.reduceBEq, Int.reduceBNe, Int.reduceEq, ownA, nilA, Try.facts, s3, s4, s15, s16, s17, dT, dF, qT, qF, nT, nF, Bool.false_and, Bool.and_false, hld, hle, hdl]
      intro b1 hb10 hb1f
      simp (disch := omega) only [↓runPre, runPost, fieldO, ixA, cutA, lenA, aggA, rowA, appA, mkA, indA, bnd, srcA, sameOp, funcA, cvO, partA, aggD, ↓PostP, resV, resAll, resOne, resVF, resAllF, resOneF, fitsAll, fitsR, fits, frz, Post, Nat.reduceBEq, Nat.reduceLT, reduceCtorEq, ↓reduceIte, initS, AV.cellsOf, AV.fine, AV.one, repA, Nat.reduceMul, Nat.reduceAdd, Nat.reduceLeDiff, Nat.reduceEqDiff, Int.reduceToNat, Nat.reduceSub, Nat.reduceMod, Nat.reduceDiv, indexK.aggOf, Int.reducePow, Int.reduceLE, Int.reduceNeg, Int.reduceLT, Int.reduceBEq, Int.reduceBNe, Int.reduceEq, ownA, nilA, Try.facts, s3, s4, s15, s16, s17, dT, dF, qT, qF, nT, nF, Bool.false_and, Bool.and_false, hld, hle, hdl, kill_box hb1f, putCells_eq, v4]
      refine CallK.i hb1 ?_
      rintro v H2 ⟨rfl, t2, fr⟩
      have w4 := fr k4 (fun e => nh4 e.symm) (fun e => nm4 e.symm) _ v4
      have hs2 : Abs.Sub H H2 := fun y o hy => fr y (ne_live hy hh) (ne_live hy hm) _ (hs _ _ hy)
      simp (disch := omega) only [↓runPre, runPost, fieldO, ixA, cutA, lenA, aggA, rowA, appA, mkA, indA, bnd, srcA, sameOp, funcA, cvO, partA, aggD, ↓PostP, resV, resAll, resOne, resVF, resAllF, resOneF, fitsAll, fitsR, fits, frz, Post, Nat.reduceBEq, Nat.reduceLT, reduceCtorEq, ↓reduceIte, initS, AV.cellsOf, AV.fine, AV.one, repA, Nat.reduceMul, Nat.reduceAdd, Nat.reduceLeDiff, Nat.reduceEqDiff, Int.reduceToNat, Nat.reduceSub, Nat.reduceMod, Nat.reduceDiv, indexK.aggOf, Int.reducePow, Int.reduceLE, Int.reduceNeg, Int.reduceLT, Int.reduceBEq, Int.reduceBNe, Int.reduceEq, ownA, nilA, Try.facts, s3, s4, s15, s16, s17]
      intro b2 hb20 hb2f
      simp (disch := omega) only [↓runPre, runPost, fieldO, ixA, cutA, lenA, aggA, rowA, appA, mkA, indA, bnd, srcA, sameOp, funcA, cvO, partA, aggD, ↓PostP, resV, resAll, resOne, resVF, resAllF, resOneF, fitsAll, fitsR, fits, frz, Post, Nat.reduceBEq, Nat.reduceLT, reduceCtorEq, ↓reduceIte, initS, AV.cellsOf, AV.fine, AV.one, repA, Nat.reduceMul, Nat.reduceAdd, Nat.reduceLeDiff, Nat.reduceEqDiff, Int.reduceToNat, Nat.reduceSub, Nat.reduceMod, Nat.reduceDiv, indexK.aggOf, Int.reducePow, Int.reduceLE, Int.reduceNeg, Int.reduceLT, Int.reduceBEq, Int.reduceBNe, Int.reduceEq, ownA, nilA, Try.facts, s3, s4, s15, s16, s17, kill_box hb2f, putCells_eq, w4]
      have t3 := t2.put (b := k4) (o := tBox L2 G2) nh4 nm4
      have hG2 := t2.gl
      have hN := nodes_live _ h m L2 G2 t3
      have hT := text_live _ h m L2 G2 t3
      have hLn := len_live _ h m L2 G2 t3
      have hrN := rnodes_pure L2 G2 (by omega) (by omega) t2.g
      have hrT := rtext_pure L2 G2 (by omega) (by omega) t2.g
      have hrL := rlive_pure L2 G2 (by omega) (by omega) t2.g
      have hnl := nodes_le G2 t2.g.nd (by omega)
      have hsm := same_pure (nodes L2 G2) (nodes L2 G2) hnl hnl
      rw [dT rfl] at hsm
      have hll := live_len t2.g t2.gs t2.gn
      have hll' : (live (nodes L2 G2)).length = L2.length - G2.length := hll
      generalize nodes L2 G2 = NN at *
      refine draw_t (fun σ F => F = H2.set k4 (tBox L2 G2) ∧ σ 3 = .ptr h 0 ∧ σ 4 = .ptr k4 0 ∧ σ 15 = .imm 0 (dosC l) l.length ∧ σ 16 = .sc (.int .i64 l.length) ∧ σ 17 = .sc (.int .i64 (i : Nat)) ∧ σ 53 = .sc (.bool false)) ?_ ?_
      · simp (disch := omega) only [↓runPre, runPost, fieldO, ixA, cutA, lenA, aggA, rowA, appA, mkA, indA, bnd, srcA, sameOp, funcA, cvO, partA, aggD, ↓PostP, resV, resAll, resOne, resVF, resAllF, resOneF, fitsAll, fitsR, fits, frz, Post, Nat.reduceBEq, Nat.reduceLT, reduceCtorEq, ↓reduceIte, initS, AV.cellsOf, AV.fine, AV.one, repA, Nat.reduceMul, Nat.reduceAdd, Nat.reduceLeDiff, Nat.reduceEqDiff, Int.reduceToNat, Nat.reduceSub, Nat.reduceMod, Nat.reduceDiv, indexK.aggOf, Int.reducePow, Int.reduceLE, Int.reduceNeg, Int.reduceLT, Int.reduceBEq, Int.reduceBNe, Int.reduceEq, ownA, nilA, Try.facts, s3, s4, s15, s16, s17, kill_box hb2f, hll', bne_self_eq_false, beq_self_eq_true]
        repeat' first
          | refine And.intro ?_ ?_
          | (refine CallK.i hN ?_; rintro v E ⟨rfl, rfl⟩; simp (disch := omega) only [↓runPre, runPost, fieldO, ixA, cutA, lenA, aggA, rowA, appA, mkA, indA, bnd, srcA, sameOp, funcA, cvO, partA, aggD, ↓PostP, resV, resAll, resOne, resVF, resAllF, resOneF, fitsAll, fitsR, fits, frz, Post, Nat.reduceBEq, Nat.reduceLT, reduceCtorEq, ↓reduceIte, initS, AV.cellsOf, AV.fine, AV.one, repA, Nat.reduceMul, Nat.reduceAdd, Nat.reduceLeDiff, Nat.reduceEqDiff, Int.reduceToNat, Nat.reduceSub, Nat.reduceMod, Nat.reduceDiv, indexK.aggOf, Int.reducePow, Int.reduceLE, Int.reduceNeg, Int.reduceLT, Int.reduceBEq, Int.reduceBNe, Int.reduceEq, ownA, nilA, Try.facts, s3, s4, s15, s16, s17, kill_box hb2f, hll', bne_self_eq_false, beq_self_eq_true])
          | (refine CallK.i hT ?_; rintro v E ⟨rfl, rfl⟩; simp (disch := omega) only [↓runPre, runPost, fieldO, ixA, cutA, lenA, aggA, rowA, appA, mkA, indA, bnd, srcA, sameOp, funcA, cvO, partA, aggD, ↓PostP, resV, resAll, resOne, resVF, resAllF, resOneF, fitsAll, fitsR, fits, frz, Post, Nat.reduceBEq, Nat.reduceLT, reduceCtorEq, ↓reduceIte, initS, AV.cellsOf, AV.fine, AV.one, repA, Nat.reduceMul, Nat.reduceAdd, Nat.reduceLeDiff, Nat.reduceEqDiff, Int.reduceToNat, Nat.reduceSub, Nat.reduceMod, Nat.reduceDiv, indexK.aggOf, Int.reducePow, Int.reduceLE, Int.reduceNeg, Int.reduceLT, Int.reduceBEq, Int.reduceBNe, Int.reduceEq, ownA, nilA, Try.facts, s3, s4, s15, s16, s17, kill_box hb2f, hll', bne_self_eq_false, beq_self_eq_true])
          | (refine CallK.i hLn ?_; rintro v E ⟨rfl, rfl⟩; simp (disch := omega) only [↓runPre, runPost, fieldO, ixA, cutA, lenA, aggA, rowA, appA, mkA, indA, bnd, srcA, sameOp, funcA, cvO, partA, aggD, ↓PostP, resV, resAll, resOne, resVF, resAllF, resOneF, fitsAll, fitsR, fits, frz, Post, Nat.reduceBEq, Nat.reduceLT, reduceCtorEq, ↓reduceIte, initS, AV.cellsOf, AV.fine, AV.one, repA, Nat.reduceMul, Nat.reduceAdd, Nat.reduceLeDiff, Nat.reduceEqDiff, Int.reduceToNat, Nat.reduceSub, Nat.reduceMod, Nat.reduceDiv, indexK.aggOf, Int.reducePow, Int.reduceLE, Int.reduceNeg, Int.reduceLT, Int.reduceBEq, Int.reduceBNe, Int.reduceEq, ownA, nilA, Try.facts, s3, s4, s15, s16, s17, kill_box hb2f, hll', bne_self_eq_false, beq_self_eq_true])
          | (refine CallP.i hrN ?_; simp (disch := omega) only [↓runPre, runPost, fieldO, ixA, cutA, lenA, aggA, rowA, appA, mkA, indA, bnd, srcA, sameOp, funcA, cvO, partA, aggD, ↓PostP, resV, resAll, resOne, resVF, resAllF, resOneF, fitsAll, fitsR, fits, frz, Post, Nat.reduceBEq, Nat.reduceLT, reduceCtorEq, ↓reduceIte, initS, AV.cellsOf, AV.fine, AV.one, repA, Nat.reduceMul, Nat.reduceAdd, Nat.reduceLeDiff, Nat.reduceEqDiff, Int.reduceToNat, Nat.reduceSub, Nat.reduceMod, Nat.reduceDiv, indexK.aggOf, Int.reducePow, Int.reduceLE, Int.reduceNeg, Int.reduceLT, Int.reduceBEq, Int.reduceBNe, Int.reduceEq, ownA, nilA, Try.facts, s3, s4, s15, s16, s17, kill_box hb2f, hll', bne_self_eq_false, beq_self_eq_true])
          | (refine CallP.i hrT ?_; simp (disch := omega) only [↓runPre, runPost, fieldO, ixA, cutA, lenA, aggA, rowA, appA, mkA, indA, bnd, srcA, sameOp, funcA, cvO, partA, aggD, ↓PostP, resV, resAll, resOne, resVF, resAllF, resOneF, fitsAll, fitsR, fits, frz, Post, Nat.reduceBEq, Nat.reduceLT, reduceCtorEq, ↓reduceIte, initS, AV.cellsOf, AV.fine, AV.one, repA, Nat.reduceMul, Nat.reduceAdd, Nat.reduceLeDiff, Nat.reduceEqDiff, Int.reduceToNat, Nat.reduceSub, Nat.reduceMod, Nat.reduceDiv, indexK.aggOf, Int.reducePow, Int.reduceLE, Int.reduceNeg, Int.reduceLT, Int.reduceBEq, Int.reduceBNe, Int.reduceEq, ownA, nilA, Try.facts, s3, s4, s15, s16, s17, kill_box hb2f, hll', bne_self_eq_false, beq_self_eq_true])
          | (refine CallP.i hrL ?_; simp (disch := omega) only [↓runPre, runPost, fieldO, ixA, cutA, lenA, aggA, rowA, appA, mkA, indA, bnd, srcA, sameOp, funcA, cvO, partA, aggD, ↓PostP, resV, resAll, resOne, resVF, resAllF, resOneF, fitsAll, fitsR, fits, frz, Post, Nat.reduceBEq, Nat.reduceLT, reduceCtorEq, ↓reduceIte, initS, AV.cellsOf, AV.fine, AV.one, repA, Nat.reduceMul, Nat.reduceAdd, Nat.reduceLeDiff, Nat.reduceEqDiff, Int.reduceToNat, Nat.reduceSub, Nat.reduceMod, Nat.reduceDiv, indexK.aggOf, Int.reducePow, Int.reduceLE, Int.reduceNeg, Int.reduceLT, Int.reduceBEq, Int.reduceBNe, Int.reduceEq, ownA, nilA, Try.facts, s3, s4, s15, s16, s17, kill_box hb2f, hll', bne_self_eq_false, beq_self_eq_true])
          | (refine CallP.i hsm ?_; simp (disch := omega) only [↓runPre, runPost, fieldO, ixA, cutA, lenA, aggA, rowA, appA, mkA, indA, bnd, srcA, sameOp, funcA, cvO, partA, aggD, ↓PostP, resV, resAll, resOne, resVF, resAllF, resOneF, fitsAll, fitsR, fits, frz, Post, Nat.reduceBEq, Nat.reduceLT, reduceCtorEq, ↓reduceIte, initS, AV.cellsOf, AV.fine, AV.one, repA, Nat.reduceMul, Nat.reduceAdd, Nat.reduceLeDiff, Nat.reduceEqDiff, Int.reduceToNat, Nat.reduceSub, Nat.reduceMod, Nat.reduceDiv, indexK.aggOf, Int.reducePow, Int.reduceLE, Int.reduceNeg, Int.reduceLT, Int.reduceBEq, Int.reduceBNe, Int.reduceEq, ownA, nilA, Try.facts, s3, s4, s15, s16, s17, kill_box hb2f, hll', bne_self_eq_false, beq_self_eq_true])
          | rfl
      · rintro σ F ⟨rfl, s3, s4, s15, s16, s17, s53⟩
        simp (disch := omega) only [↓runPre, runPost, fieldO, ixA, cutA, lenA, aggA, rowA, appA, mkA, indA, bnd, srcA, sameOp, funcA, cvO, partA, aggD, ↓PostP, resV, resAll, resOne, resVF, resAllF, resOneF, fitsAll, fitsR, fits, frz, Post, Nat.reduceBEq, Nat.reduceLT, reduceCtorEq, ↓reduceIte, initS, AV.cellsOf, AV.fine, AV.one, repA, Nat.reduceMul, Nat.reduceAdd, Nat.reduceLeDiff, Nat.reduceEqDiff, Int.reduceToNat, Nat.reduceSub, Nat.reduceMod, Nat.reduceDiv, indexK.aggOf, Int.reducePow, Int.reduceLE, Int.reduceNeg, Int.reduceLT, Int.reduceBEq, Int.reduceBNe, Int.reduceEq, ownA, nilA, Try.facts, s3, s4, s15, s16, s17, s53]
        exact ⟨mm - 1, by omega, i + 1, L2, G2, by omega, by omega, hs2.set_free n4, t3, rfl, rfl⟩
    · simp (disch := omega) only [↓runPre, runPost, fieldO, ixA, cutA, lenA, aggA, rowA, appA, mkA, indA, bnd, srcA, sameOp, funcA, cvO, partA, aggD, ↓PostP, resV, resAll, resOne, resVF, resAllF, resOneF, fitsAll, fitsR, fits, frz, Post, Nat.reduceBEq, Nat.reduceLT, reduceCtorEq, ↓reduceIte, initS, AV.cellsOf, AV.fine, AV.one, repA, Nat.reduceMul, Nat.reduceAdd, Nat.reduceLeDiff, Nat.reduceEqDiff, Int.reduceToNat, Nat.reduceSub, Nat.reduceMod, Nat.reduceDiv, indexK.aggOf, Int.reducePow, Int.reduceLE, Int.reduceNeg, Int.reduceLT, Int.reduceBEq, Int.reduceBNe, Int.reduceEq, ownA, nilA, Try.facts, s3, s4, s15, s16, s17, dT, dF, qT, qF, nT, nF, Bool.false_and, Bool.and_false]
      first | refine CallK.p (haw) ?_ | refine CallP.i (haw) ?_
      simp (disch := omega) only [↓runPre, runPost, fieldO, ixA, cutA, lenA, aggA, rowA, appA, mkA, indA, bnd, srcA, sameOp, funcA, cvO, partA, aggD, ↓PostP, resV, resAll, resOne, resVF, resAllF, resOneF, fitsAll, fitsR, fits, frz, Post, Nat.reduceBEq, Nat.reduceLT, reduceCtorEq, ↓reduceIte, initS, AV.cellsOf, AV.fine, AV.one, repA, Nat.reduceMul, Nat.reduceAdd, Nat.reduceLeDiff, Nat.reduceEqDiff, Int.reduceToNat, Nat.reduceSub, Nat.reduceMod, Nat.reduceDiv, indexK.aggOf, Int.reducePow, Int.reduceLE, Int.reduceNeg, Int.reduceLT, Int.reduceBEq, Int.reduceBNe, Int.reduceEq, ownA, nilA, Try.facts]
      exact hs
end Go.Proofs.Ytpmmafmbjconiaa
