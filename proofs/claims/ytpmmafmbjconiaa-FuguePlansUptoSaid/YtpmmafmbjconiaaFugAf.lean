/-
  The walks of the fugue layer: the law of plans.
  Conditions: none. Lemmas only.
-/
import Derived.Test.YtpmmafmbjconiaaFugAc
import Derived.Test.YtpmmafmbjconiaaFugAe
import Derived.Test.YtpmmafmbjconiaaFugO
set_option linter.all false
set_option linter.unusedSimpArgs false
set_option linter.unusedVariables false
set_option maxRecDepth 8000
set_option maxHeartbeats 4000000
namespace Go.Proofs.Ytpmmafmbjconiaa
open Go Go.Abs Go.Proofs Go.Fug
theorem plans_get {N N' A B : List Nd} {x : Nd} {k : Nat} (h1 : N = A ++ B) (h2 : N' = A ++ x :: B) (hA : A.length = k) :
    N'.length = N.length + 1 ∧ (∀ j, j < k → N'[j]? = N[j]?) ∧ N'[k]? = some x ∧ (∀ j, k < j → N'[j]? = N[j - 1]?) := by
  subst h1 h2 hA
  refine ⟨by simp; omega, fun j hj => ?_, ?_, fun j hj => ?_⟩
  · rw [List.getElem?_append_left hj, List.getElem?_append_left hj]
  · rw [List.getElem?_append_right (by omega), Nat.sub_self]; rfl
  · rw [List.getElem?_append_right (by omega), List.getElem?_append_right (by omega)]
    obtain ⟨d, hd⟩ : ∃ d, j = A.length + d + 1 := ⟨j - A.length - 1, by omega⟩
    subst hd
    rw [show A.length + d + 1 - A.length = d + 1 by omega, show A.length + d + 1 - 1 - A.length = d by omega]
    rfl
theorem atL_get {N : List Nd} {j : Nat} {x : Nd} (h : (live N)[j]? = some x) : atL N (j : Nat) = (x.id, 0) := by
  have hj := (List.getElem?_eq_some_iff.1 h).1
  unfold atL
  rw [if_pos (by omega), Int.toNat_natCast, h]
  rfl
theorem plans_no (l : List DoT) (i : Int) (id : EId) (c : Int) (hl : l.length ≤ 1048576) (h : ¬ l.length ≤ 60) : APure Try.prog 9 [.imm 0 (dosC l) l.length, .sc (.int .i64 i), idV id, .sc (.int .i32 c)] (.sc (.bool true)) := by
  have haw := awake_pure
  obtain ⟨d1, d2⟩ := id
  refine apure_of_cwp (c := ⟨Try.prog, 121, [(1000000, [6]), (1000006, [12]), (1000010, [14]), (1000020, [18]), (4000026, [1, 6, 9, 13, 84, 85, 118]), (4000025, [1, 6, 9, 13, 18, 19, 20, 84, 85]), (4000023, [1, 6, 9, 13, 17, 18, 19, 20, 84, 85]), (4000020, [1, 6, 9, 13, 17, 18, 19, 84, 85]), (4000015, [1, 6, 9, 13, 81]), (4000013, [1, 6, 9, 13, 74]), (4000012, [8]), (4000010, [1, 3, 6, 9, 13, 14, 15, 16]), (4000007, [1, 3, 6, 9, 10, 27, 28, 29]), (4000003, [0, 1, 3, 6, 9, 10])], [], []⟩) (rs := [ResultVar.tmp 8]) Try.mixed Try.func9 rfl rfl rfl (Nat.le_of_ble_eq_true rfl) (by kernel_rfl) fun H => ?_
  simp (disch := omega) only [↓runPre, runPost, fieldO, ixA, cutA, lenA, aggA, rowA, appA, mkA, indA, bnd, srcA, sameOp, funcA, cvO, partA, aggD, ↓PostP, resV, resAll, resOne, resVF, resAllF, resOneF, fitsAll, fitsR, fits, frz, Post, Nat.reduceBEq, Nat.reduceLT, reduceCtorEq, ↓reduceIte, initS, AV.cellsOf, AV.fine, AV.one, repA, Nat.reduceMul, Nat.reduceAdd, Nat.reduceLeDiff, Nat.reduceEqDiff, Int.reduceToNat, Nat.reduceSub, Nat.reduceMod, Nat.reduceDiv, indexK.aggOf, Int.reducePow, Int.reduceLE, Int.reduceNeg, Int.reduceLT, Int.reduceBEq, Int.reduceBNe, Int.reduceEq, ownA, nilA, Try.facts, dT, dF, qT, qF, nT, nF, Bool.false_and, Bool.and_false]
  intro b hb0 hb
  simp (disch := omega) only [↓runPre, runPost, fieldO, ixA, cutA, lenA, aggA, rowA, appA, mkA, indA, bnd, srcA, sameOp, funcA, cvO, partA, aggD, ↓PostP, resV, resAll, resOne, resVF, resAllF, resOneF, fitsAll, fitsR, fits, frz, Post, Nat.reduceBEq, Nat.reduceLT, reduceCtorEq, ↓reduceIte, initS, AV.cellsOf, AV.fine, AV.one, repA, Nat.reduceMul, Nat.reduceAdd, Nat.reduceLeDiff, Nat.reduceEqDiff, Int.reduceToNat, Nat.reduceSub, Nat.reduceMod, Nat.reduceDiv, indexK.aggOf, Int.reducePow, Int.reduceLE, Int.reduceNeg, Int.reduceLT, Int.reduceBEq, Int.reduceBNe, Int.reduceEq, ownA, nilA, Try.facts, dT, dF, qT, qF, nT, nF, Bool.false_and, Bool.and_false, kill_box hb]
  first | refine CallK.p (haw) ?_ | refine CallP.i (haw) ?_
  simp (disch := omega) only [↓runPre, runPost, fieldO, ixA, cutA, lenA, aggA, rowA, appA, mkA, indA, bnd, srcA, sameOp, funcA, cvO, partA, aggD, ↓PostP, resV, resAll, resOne, resVF, resAllF, resOneF, fitsAll, fitsR, fits, frz, Post, Nat.reduceBEq, Nat.reduceLT, reduceCtorEq, ↓reduceIte, initS, AV.cellsOf, AV.fine, AV.one, repA, Nat.reduceMul, Nat.reduceAdd, Nat.reduceLeDiff, Nat.reduceEqDiff, Int.reduceToNat, Nat.reduceSub, Nat.reduceMod, Nat.reduceDiv, indexK.aggOf, Int.reducePow, Int.reduceLE, Int.reduceNeg, Int.reduceLT, Int.reduceBEq, Int.reduceBNe, Int.reduceEq, ownA, nilA, Try.facts]
  exact Abs.Sub.refl _
theorem plans_yes (l : List DoT) (i0 : Int) (id : EId) (c : Int) (hl : l.length ≤ 60) : APure Try.prog 9 [.imm 0 (dosC l) l.length, .sc (.int .i64 i0), idV id, .sc (.int .i32 c)] (.sc (.bool true)) := by
  have haw := awake_pure
  have hdl := dosC_length l
  obtain ⟨d1, d2⟩ := id
  refine apure_of_cwp (c := ⟨Try.prog, 121, [(1000000, [6]), (1000006, [12]), (1000010, [14]), (1000020, [18]), (4000026, [1, 6, 9, 13, 84, 85, 118]), (4000025, [1, 6, 9, 13, 18, 19, 20, 84, 85]), (4000023, [1, 6, 9, 13, 17, 18, 19, 20, 84, 85]), (4000020, [1, 6, 9, 13, 17, 18, 19, 84, 85]), (4000015, [1, 6, 9, 13, 81]), (4000013, [1, 6, 9, 13, 74]), (4000012, [8]), (4000010, [1, 3, 6, 9, 13, 14, 15, 16]), (4000007, [1, 3, 6, 9, 10, 27, 28, 29]), (4000003, [0, 1, 3, 6, 9, 10])], [], []⟩) (rs := [ResultVar.tmp 8]) Try.mixed Try.func9 rfl rfl rfl (Nat.le_of_ble_eq_true rfl) (by kernel_rfl) fun H => ?_
  simp (disch := omega) only [↓runPre, runPost, fieldO, ixA, cutA, lenA, aggA, rowA, appA, mkA, indA, bnd, srcA, sameOp, funcA, cvO, partA, aggD, ↓PostP, resV, resAll, resOne, resVF, resAllF, resOneF, fitsAll, fitsR, fits, frz, Post, Nat.reduceBEq, Nat.reduceLT, reduceCtorEq, ↓reduceIte, initS, AV.cellsOf, AV.fine, AV.one, repA, Nat.reduceMul, Nat.reduceAdd, Nat.reduceLeDiff, Nat.reduceEqDiff, Int.reduceToNat, Nat.reduceSub, Nat.reduceMod, Nat.reduceDiv, indexK.aggOf, Int.reducePow, Int.reduceLE, Int.reduceNeg, Int.reduceLT, Int.reduceBEq, Int.reduceBNe, Int.reduceEq, ownA, nilA, Try.facts, dT, dF, qT, qF, nT, nF, Bool.false_and, Bool.and_false]
  intro b hb0 hb
  simp (disch := omega) only [↓runPre, runPost, fieldO, ixA, cutA, lenA, aggA, rowA, appA, mkA, indA, bnd, srcA, sameOp, funcA, cvO, partA, aggD, ↓PostP, resV, resAll, resOne, resVF, resAllF, resOneF, fitsAll, fitsR, fits, frz, Post, Nat.reduceBEq, Nat.reduceLT, reduceCtorEq, ↓reduceIte, initS, AV.cellsOf, AV.fine, AV.one, repA, Nat.reduceMul, Nat.reduceAdd, Nat.reduceLeDiff, Nat.reduceEqDiff, Int.reduceToNat, Nat.reduceSub, Nat.reduceMod, Nat.reduceDiv, indexK.aggOf, Int.reducePow, Int.reduceLE, Int.reduceNeg, Int.reduceLT, Int.reduceBEq, Int.reduceBNe, Int.reduceEq, ownA, nilA, Try.facts, dT, dF, qT, qF, nT, nF, Bool.false_and, Bool.and_false, kill_box hb]
  refine CallK.i (new_live H) ?_
  rintro v H1 ⟨h, m, rfl, hh, hm, hs, t⟩
  simp (disch := omega) only [↓runPre, runPost, fieldO, ixA, cutA, lenA, aggA, rowA, appA, mkA, indA, bnd, srcA, sameOp, funcA, cvO, partA, aggD, ↓PostP, resV, resAll, resOne, resVF, resAllF, resOneF, fitsAll, fitsR, fits, frz, Post, Nat.reduceBEq, Nat.reduceLT, reduceCtorEq, ↓reduceIte, initS, AV.cellsOf, AV.fine, AV.one, repA, Nat.reduceMul, Nat.reduceAdd, Nat.reduceLeDiff, Nat.reduceEqDiff, Int.reduceToNat, Nat.reduceSub, Nat.reduceMod, Nat.reduceDiv, indexK.aggOf, Int.reducePow, Int.reduceLE, Int.reduceNeg, Int.reduceLT, Int.reduceBEq, Int.reduceBNe, Int.reduceEq, ownA, nilA, Try.facts]
  intro k4 hk40 hk4
  simp (disch := omega) only [↓runPre, runPost, fieldO, ixA, cutA, lenA, aggA, rowA, appA, mkA, indA, bnd, srcA, sameOp, funcA, cvO, partA, aggD, ↓PostP, resV, resAll, resOne, resVF, resAllF, resOneF, fitsAll, fitsR, fits, frz, Post, Nat.reduceBEq, Nat.reduceLT, reduceCtorEq, ↓reduceIte, initS, AV.cellsOf, AV.fine, AV.one, repA, Nat.reduceMul, Nat.reduceAdd, Nat.reduceLeDiff, Nat.reduceEqDiff, Int.reduceToNat, Nat.reduceSub, Nat.reduceMod, Nat.reduceDiv, indexK.aggOf, Int.reducePow, Int.reduceLE, Int.reduceNeg, Int.reduceLT, Int.reduceBEq, Int.reduceBNe, Int.reduceEq, ownA, nilA, Try.facts, putCells_eq]
  refine nil_t k4 0 set_get rfl ?_
  refine nil_t k4 1 set_get rfl ?_
  simp only [List.set_cons_zero, List.set_cons_succ, set_set]
  have n4 := hs.free hk4
  have nh4 := ne_live t.hi hk4
  have nm4 := ne_live t.hm hk4
  refine loop_t (c := ⟨Try.prog, 121, [(1000000, [6]), (1000006, [12]), (1000010, [14]), (1000020, [18]), (4000026, [1, 6, 9, 13, 84, 85, 118]), (4000025, [1, 6, 9, 13, 18, 19, 20, 84, 85]), (4000023, [1, 6, 9, 13, 17, 18, 19, 20, 84, 85]), (4000020, [1, 6, 9, 13, 17, 18, 19, 84, 85]), (4000015, [1, 6, 9, 13, 81]), (4000013, [1, 6, 9, 13, 74]), (4000012, [8]), (4000010, [1, 3, 6, 9, 13, 14, 15, 16]), (4000007, [1, 3, 6, 9, 10, 27, 28, 29]), (4000003, [0, 1, 3, 6, 9, 10])], [], []⟩) Try.mixed (by kernel_rfl) (fun mm σ H' => ∃ (i : Nat) (L : List Ins) (G : List EId), i + mm = l.length ∧ L.length ≤ i ∧ Abs.Sub H H' ∧ IsT H' h m L G ∧ H' k4 = some (tBox L G) ∧
    σ 1 = .sc (.int .i64 i0) ∧ σ 3 = .sc (.int .i32 c) ∧ σ 6 = .ip [.sc (.int .i64 d1), .sc (.int .i64 d2)] 0 ∧ σ 9 = .ptr h 0 ∧ σ 10 = .ptr k4 0 ∧ σ 27 = .imm 0 (dosC l) l.length ∧ σ 28 = .sc (.int .i64 l.length) ∧ σ 29 = .sc (.int .i64 (i : Nat))) l.length ?_ ?_
  · refine ⟨0, [], [], by omega, by simp, hs.trans (Sub.set_new hk4), t.put nh4 nm4, set_get, ?_⟩
    simp (disch := omega) only [↓runPre, runPost, fieldO, ixA, cutA, lenA, aggA, rowA, appA, mkA, indA, bnd, srcA, sameOp, funcA, cvO, partA, aggD, ↓PostP, resV, resAll, resOne, resVF, resAllF, resOneF, fitsAll, fitsR, fits, frz, Post, Nat.reduceBEq, Nat.reduceLT, reduceCtorEq, ↓reduceIte, initS, AV.cellsOf, AV.fine, AV.one, repA, Nat.reduceMul, Nat.reduceAdd, Nat.reduceLeDiff, Nat.reduceEqDiff, Int.reduceToNat, Nat.reduceSub, Nat.reduceMod, Nat.reduceDiv, indexK.aggOf, Int.reducePow, Int.reduceLE, Int.reduceNeg, Int.reduceLT, Int.reduceBEq, Int.reduceBNe, Int.reduceEq, ownA, nilA, Try.facts]
    try rfl
  · clear hs t hk4
    rintro mm σ H' ⟨i, L, G, him, hLi, hs, t, v4, s1, s3, s6, s9, s10, s27, s28, s29⟩
    by_cases hlt : i < l.length
    · have hld := dosC_load hlt
      have hle : i * 9 + 9 ≤ l.length * 9 := by omega
      have hst := stepL_le l[i] L G
      have hb1 := both_live H' h m L G l[i] t
      generalize l[i] = q at *
      obtain ⟨kd, ⟨⟨a, c'⟩, ⟨pa, pc⟩, ri, ru⟩, ⟨x1, x2⟩⟩ := q
      simp only [doC, insC, List.cons_append, List.nil_append] at hld hb1
      generalize stepL _ (L, G) = R at *
      obtain ⟨L2, G2⟩ := R
      unfold BothR at hb1
      simp only [] at hb1 hst
      simp (disch := omega) only [↓runPre, runPost, fieldO, ixA, cutA, lenA, aggA, rowA, appA, mkA, indA, bnd, srcA, sameOp, funcA, cvO, partA, aggD, ↓PostP, resV, resAll, resOne, resVF, resAllF, resOneF, fitsAll, fitsR, fits, frz, Post, Nat.reduceBEq, Nat.reduceLT, reduceCtorEq, ↓reduceIte, initS, AV.cellsOf, AV.fine, AV.one, repA, Nat.reduceMul, Nat.reduceAdd, Nat.reduceLeDiff, Nat.reduceEqDiff, Int.reduceToNat, Nat.reduceSub, Nat.reduceMod, Nat.reduceDiv, indexK.aggOf, Int.reducePow, Int.reduceLE, Int.reduceNeg, Int.reduceLT, Int.reduceBEq, Int.reduceBNe, Int.reduceEq, ownA, nilA, Try.facts, s1, s3, s6, s9, s10, s27, s28, s29, dT, dF, qT, qF, nT, nF, Bool.false_and, Bool.and_false, hld, hle, hdl]
      intro b1 hb10 hb1f
      simp (disch := omega) only [↓runPre, runPost, fieldO, ixA, cutA, lenA, aggA, rowA, appA, mkA, indA, bnd, srcA, sameOp, funcA, cvO, partA, aggD, ↓PostP, resV, resAll, resOne, resVF, resAllF, resOneF, fitsAll, fitsR, fits, frz, Post, Nat.reduceBEq, Nat.reduceLT, reduceCtorEq, ↓reduceIte, initS, AV.cellsOf, AV.fine, AV.one, repA, Nat.reduceMul, Nat.reduceAdd, Nat.reduceLeDiff, Nat.reduceEqDiff, Int.reduceToNat, Nat.reduceSub, Nat.reduceMod, Nat.reduceDiv, indexK.aggOf, Int.reducePow, Int.reduceLE, Int.reduceNeg, Int.reduceLT, Int.reduceBEq, Int.reduceBNe, Int.reduceEq, ownA, nilA, Try.facts, s1, s3, s6, s9, s10, s27, s28, s29, dT, dF, qT, qF, nT, nF, Bool.false_and, Bool.and_false, hld, hle, hdl, kill_box hb1f, putCells_eq, v4]
      refine CallK.i hb1 ?_
      rintro v H2 ⟨rfl, t2, fr⟩
      have w4 := fr k4 (fun e => nh4 e.symm) (fun e => nm4 e.symm) _ v4
      have hs2 : Abs.Sub H H2 := fun y o hy => fr y (ne_live hy hh) (ne_live hy hm) _ (hs _ _ hy)
      simp (disch := omega) only [↓runPre, runPost, fieldO, ixA, cutA, lenA, aggA, rowA, appA, mkA, indA, bnd, srcA, sameOp, funcA, cvO, partA, aggD, ↓PostP, resV, resAll, resOne, resVF, resAllF, resOneF, fitsAll, fitsR, fits, frz, Post, Nat.reduceBEq, Nat.reduceLT, reduceCtorEq, ↓reduceIte, initS, AV.cellsOf, AV.fine, AV.one, repA, Nat.reduceMul, Nat.reduceAdd, Nat.reduceLeDiff, Nat.reduceEqDiff, Int.reduceToNat, Nat.reduceSub, Nat.reduceMod, Nat.reduceDiv, indexK.aggOf, Int.reducePow, Int.reduceLE, Int.reduceNeg, Int.reduceLT, Int.reduceBEq, Int.reduceBNe, Int.reduceEq, ownA, nilA, Try.facts, s1, s3, s6, s9, s10, s27, s28, s29, putCells_eq, w4]
      exact ⟨mm - 1, by omega, i + 1, L2, G2, by omega, by omega, hs2.set_free n4, t2.put nh4 nm4, rfl, rfl⟩
    · have hG2 := t.gl
      have hp := plan_live H' h m L G i0 t
      have hrl := rlive_pure L G (by omega) (by omega) t.g
      have hnl := nodes_le G t.g.nd (by omega)
      have hll : (live (nodes L G)).length ≤ 1000000000 := Nat.le_trans (List.length_filter_le _ _) hnl
      have hNi := ndsC_length (live (nodes L G))
      by_cases hin : 0 ≤ i0 ∧ i0 ≤ ((live (nodes L G)).length : Nat)
      · obtain ⟨k, rfl⟩ : ∃ k : Nat, i0 = k := ⟨i0.toNat, by omega⟩
        have hk : k ≤ (live (nodes L G)).length := by omega
        obtain ⟨ha, hka⟩ := planA_ok (G := G) t.g hk
        have hpl : ∃ p r, planL L G (k : Int) = (p, r, 0) ∧ ((kids L (planA (nodes L G) k) true = [] ∧ p = planA (nodes L G) k ∧ r = true) ∨ (kids L (planA (nodes L G) k) true ≠ [] ∧ p = planZ L G (planA (nodes L G) k) ∧ r = false)) := by
          unfold planL
          rw [if_pos hin, Int.toNat_natCast]
          by_cases e : kids L (planA (nodes L G) k) true = []
          · rw [if_pos e]; exact ⟨_, _, rfl, .inl ⟨e, rfl, rfl⟩⟩
          · rw [if_neg e]; exact ⟨_, _, rfl, .inr ⟨e, rfl, rfl⟩⟩
        obtain ⟨⟨p1, p2⟩, r, hpe, hpr⟩ := hpl
        rw [hpe] at hp
        have hadd := add_live H' h m L G ⟨(d1, d2), (p1, p2), r, c⟩ t
        unfold AddR at hadd
        have hL2 : (addL L ⟨(d1, d2), (p1, p2), r, c⟩).2 = 0 → (addL L ⟨(d1, d2), (p1, p2), r, c⟩).1 = L ++ [⟨(d1, d2), (p1, p2), r, c⟩] := by
          unfold addL
          split
          · intro h; cases h
          · split
            · intro h; cases h
            · split
              · intro h; cases h
              · split
                · intro h; cases h
                · intro _; rfl
        simp only [insC] at hadd
        obtain ⟨N, hN⟩ : ∃ N, N = live (nodes L G) := ⟨_, rfl⟩
        rw [← hN] at hrl hll hNi
        have hkN : k ≤ N.length := by rw [hN]; exact hk
        generalize hA : addL L ⟨(d1, d2), (p1, p2), r, c⟩ = A at *
        obtain ⟨L2, e⟩ := A
        simp only [] at hadd hL2
        simp (disch := omega) only [↓runPre, runPost, fieldO, ixA, cutA, lenA, aggA, rowA, appA, mkA, indA, bnd, srcA, sameOp, funcA, cvO, partA, aggD, ↓PostP, resV, resAll, resOne, resVF, resAllF, resOneF, fitsAll, fitsR, fits, frz, Post, Nat.reduceBEq, Nat.reduceLT, reduceCtorEq, ↓reduceIte, initS, AV.cellsOf, AV.fine, AV.one, repA, Nat.reduceMul, Nat.reduceAdd, Nat.reduceLeDiff, Nat.reduceEqDiff, Int.reduceToNat, Nat.reduceSub, Nat.reduceMod, Nat.reduceDiv, indexK.aggOf, Int.reducePow, Int.reduceLE, Int.reduceNeg, Int.reduceLT, Int.reduceBEq, Int.reduceBNe, Int.reduceEq, ownA, nilA, Try.facts, s1, s3, s6, s9, s10, s27, s28, s29, dT, dF, qT, qF, nT, nF, Bool.false_and, Bool.and_false, v4]
        first | refine CallK.p (hrl) ?_ | refine CallP.i (hrl) ?_
        simp (disch := omega) only [↓runPre, runPost, fieldO, ixA, cutA, lenA, aggA, rowA, appA, mkA, indA, bnd, srcA, sameOp, funcA, cvO, partA, aggD, ↓PostP, resV, resAll, resOne, resVF, resAllF, resOneF, fitsAll, fitsR, fits, frz, Post, Nat.reduceBEq, Nat.reduceLT, reduceCtorEq, ↓reduceIte, initS, AV.cellsOf, AV.fine, AV.one, repA, Nat.reduceMul, Nat.reduceAdd, Nat.reduceLeDiff, Nat.reduceEqDiff, Int.reduceToNat, Nat.reduceSub, Nat.reduceMod, Nat.reduceDiv, indexK.aggOf, Int.reducePow, Int.reduceLE, Int.reduceNeg, Int.reduceLT, Int.reduceBEq, Int.reduceBNe, Int.reduceEq, ownA, nilA, Try.facts, s1, s3, s6, s9, s10]
        refine CallK.i hp ?_
        rintro v E ⟨rfl, rfl⟩
        simp (disch := omega) only [↓runPre, runPost, fieldO, ixA, cutA, lenA, aggA, rowA, appA, mkA, indA, bnd, srcA, sameOp, funcA, cvO, partA, aggD, ↓PostP, resV, resAll, resOne, resVF, resAllF, resOneF, fitsAll, fitsR, fits, frz, Post, Nat.reduceBEq, Nat.reduceLT, reduceCtorEq, ↓reduceIte, initS, AV.cellsOf, AV.fine, AV.one, repA, Nat.reduceMul, Nat.reduceAdd, Nat.reduceLeDiff, Nat.reduceEqDiff, Int.reduceToNat, Nat.reduceSub, Nat.reduceMod, Nat.reduceDiv, indexK.aggOf, Int.reducePow, Int.reduceLE, Int.reduceNeg, Int.reduceLT, Int.reduceBEq, Int.reduceBNe, Int.reduceEq, ownA, nilA, Try.facts, s1, s3, s6, s9, s10]
        intro b14 hb140 hb14
        simp (disch := omega) only [↓runPre, runPost, fieldO, ixA, cutA, lenA, aggA, rowA, appA, mkA, indA, bnd, srcA, sameOp, funcA, cvO, partA, aggD, ↓PostP, resV, resAll, resOne, resVF, resAllF, resOneF, fitsAll, fitsR, fits, frz, Post, Nat.reduceBEq, Nat.reduceLT, reduceCtorEq, ↓reduceIte, initS, AV.cellsOf, AV.fine, AV.one, repA, Nat.reduceMul, Nat.reduceAdd, Nat.reduceLeDiff, Nat.reduceEqDiff, Int.reduceToNat, Nat.reduceSub, Nat.reduceMod, Nat.reduceDiv, indexK.aggOf, Int.reducePow, Int.reduceLE, Int.reduceNeg, Int.reduceLT, Int.reduceBEq, Int.reduceBNe, Int.reduceEq, ownA, nilA, Try.facts, s1, s3, s6, s9, s10, kill_box hb14, putCells_eq, dT, dF, qT, qF, nT, nF, Bool.false_and, Bool.and_false, bne_self_eq_false]
        refine CallK.i hadd ?_
        rintro v E2 ⟨rfl, t2, fr⟩
        have hs2 : Abs.Sub H E2 := fun y o hy => by rw [fr y (ne_live hy hm)]; exact hs _ _ hy
        by_cases he : e = 0
        · subst he
          obtain rfl := hL2 rfl
          have hlen := len_live E2 h m _ G t2
          have hnew : (ndOf (L ++ [(⟨(d1, d2), (p1, p2), r, c⟩ : Ins)]) G (d1, d2)).gone = false := by
            show decide ((d1, d2) ∈ G) = false
            exact dF fun h => t2.g.new_id (t.gs _ h)
          obtain ⟨A, B, hAB, hAB', hAk⟩ := plan_ins (G := G) t.g t2.g hk (fun e => by subst e; rfl) hka hpr
          have hgA : N = live A ++ live B := by rw [hN, hAB, live_append]
          have hgB : live (nodes (L ++ [(⟨(d1, d2), (p1, p2), r, c⟩ : Ins)]) G) = live A ++ ndOf (L ++ [(⟨(d1, d2), (p1, p2), r, c⟩ : Ins)]) G (d1, d2) :: live B := by
            rw [hAB', live_append]
            congr 1
            show live (_ :: B) = _
            unfold live
            rw [List.filter_cons, hnew]
            rfl
          obtain ⟨g1, g2, g3, g4⟩ := plans_get hgA hgB hAk
          have hat := fun (H' : AH) (j : Nat) (x : Nd) (t : IsT H' h m (L ++ [⟨(d1, d2), (p1, p2), r, c⟩]) G) (hx : (live (nodes (L ++ [(⟨(d1, d2), (p1, p2), r, c⟩ : Ins)]) G))[j]? = some x) => (by
            have := at_live H' h m _ G (j : Nat) t
            rw [atL_get hx] at this
            exact this : ACalls Try.prog 25 [.ptr h 0, .sc (.int .i64 (j : Nat))] H' fun v H'' => v = atV (x.id, 0) ∧ H'' = H')
          have hll2 : (L ++ [(⟨(d1, d2), (p1, p2), r, c⟩ : Ins)]).length - G.length = N.length + 1 := by
            have := live_len t2.g t2.gs t2.gn
            rw [← this]
            exact g1
          rw [hll2] at hlen
          generalize live (nodes (L ++ [(⟨(d1, d2), (p1, p2), r, c⟩ : Ins)]) G) = N2 at *
          have hxid : (ndOf (L ++ [(⟨(d1, d2), (p1, p2), r, c⟩ : Ins)]) G (d1, d2)).id = (d1, d2) := rfl
          generalize ndOf (L ++ [(⟨(d1, d2), (p1, p2), r, c⟩ : Ins)]) G (d1, d2) = X at *
          generalize L ++ [(⟨(d1, d2), (p1, p2), r, c⟩ : Ins)] = L2 at *
          have hn1 : ((N.length : Nat) : Int) + 1 = ((N.length + 1 : Nat) : Int) := rfl
          simp (disch := omega) only [↓runPre, runPost, fieldO, ixA, cutA, lenA, aggA, rowA, appA, mkA, indA, bnd, srcA, sameOp, funcA, cvO, partA, aggD, ↓PostP, resV, resAll, resOne, resVF, resAllF, resOneF, fitsAll, fitsR, fits, frz, Post, Nat.reduceBEq, Nat.reduceLT, reduceCtorEq, ↓reduceIte, initS, AV.cellsOf, AV.fine, AV.one, repA, Nat.reduceMul, Nat.reduceAdd, Nat.reduceLeDiff, Nat.reduceEqDiff, Int.reduceToNat, Nat.reduceSub, Nat.reduceMod, Nat.reduceDiv, indexK.aggOf, Int.reducePow, Int.reduceLE, Int.reduceNeg, Int.reduceLT, Int.reduceBEq, Int.reduceBNe, Int.reduceEq, ownA, nilA, Try.facts, s1, s3, s6, s9, s10, dT, dF, qT, qF, nT, nF, Bool.false_and, Bool.and_false, bne_self_eq_false]
          refine CallK.i hlen ?_
          rintro v E3 ⟨rfl, rfl⟩
          simp (disch := omega) only [↓runPre, runPost, fieldO, ixA, cutA, lenA, aggA, rowA, appA, mkA, indA, bnd, srcA, sameOp, funcA, cvO, partA, aggD, ↓PostP, resV, resAll, resOne, resVF, resAllF, resOneF, fitsAll, fitsR, fits, frz, Post, Nat.reduceBEq, Nat.reduceLT, reduceCtorEq, ↓reduceIte, initS, AV.cellsOf, AV.fine, AV.one, repA, Nat.reduceMul, Nat.reduceAdd, Nat.reduceLeDiff, Nat.reduceEqDiff, Int.reduceToNat, Nat.reduceSub, Nat.reduceMod, Nat.reduceDiv, indexK.aggOf, Int.reducePow, Int.reduceLE, Int.reduceNeg, Int.reduceLT, Int.reduceBEq, Int.reduceBNe, Int.reduceEq, ownA, nilA, Try.facts, s1, s3, s6, s9, s10, hn1, bne_self_eq_false]
          refine loop_t (c := ⟨Try.prog, 121, [(1000000, [6]), (1000006, [12]), (1000010, [14]), (1000020, [18]), (4000026, [1, 6, 9, 13, 84, 85, 118]), (4000025, [1, 6, 9, 13, 18, 19, 20, 84, 85]), (4000023, [1, 6, 9, 13, 17, 18, 19, 20, 84, 85]), (4000020, [1, 6, 9, 13, 17, 18, 19, 84, 85]), (4000015, [1, 6, 9, 13, 81]), (4000013, [1, 6, 9, 13, 74]), (4000012, [8]), (4000010, [1, 3, 6, 9, 13, 14, 15, 16]), (4000007, [1, 3, 6, 9, 10, 27, 28, 29]), (4000003, [0, 1, 3, 6, 9, 10])], [], []⟩) Try.mixed (by kernel_rfl) (fun mm σ H' => ∃ (j : Nat), j + mm = N.length + 1 ∧ Abs.Sub H H' ∧ IsT H' h m L2 G ∧
            σ 1 = .sc (.int .i64 (k : Nat)) ∧ σ 6 = .ip [.sc (.int .i64 d1), .sc (.int .i64 d2)] 0 ∧ σ 9 = .ptr h 0 ∧ σ 13 = ndsV N ∧ σ 84 = .sc (.int .i64 ((N.length + 1 : Nat))) ∧ σ 85 = .sc (.int .i64 (j : Nat))) (N.length + 1) ?_ ?_
          · refine ⟨0, by omega, hs2, t2, ?_⟩
            simp (disch := omega) only [↓runPre, runPost, fieldO, ixA, cutA, lenA, aggA, rowA, appA, mkA, indA, bnd, srcA, sameOp, funcA, cvO, partA, aggD, ↓PostP, resV, resAll, resOne, resVF, resAllF, resOneF, fitsAll, fitsR, fits, frz, Post, Nat.reduceBEq, Nat.reduceLT, reduceCtorEq, ↓reduceIte, initS, AV.cellsOf, AV.fine, AV.one, repA, Nat.reduceMul, Nat.reduceAdd, Nat.reduceLeDiff, Nat.reduceEqDiff, Int.reduceToNat, Nat.reduceSub, Nat.reduceMod, Nat.reduceDiv, indexK.aggOf, Int.reducePow, Int.reduceLE, Int.reduceNeg, Int.reduceLT, Int.reduceBEq, Int.reduceBNe, Int.reduceEq, ownA, nilA, Try.facts, s1, s6, s9]
            try rfl
          · clear hs hs2 t2 t v4 s1 s3 s6 s9 s10 s27 s28 s29 fr hadd hp hpe hpr
            rintro mm σ H' ⟨j, hjm, hs, t, s1, s6, s9, s13, s84, s85⟩
            have hj1 : ((j : Nat) : Int) + 1 = ((j + 1 : Nat) : Int) := rfl
            by_cases hlt : j < N.length + 1
            · have fin : ∀ (b20 : Nat) (o : AObj), H' b20 = none → Abs.Sub H (H'.set b20 o) ∧ IsT (H'.set b20 o) h m L2 G := fun b20 o hb => ⟨hs.set_free (hs.free hb), t.put (ne_live t.hi hb) (ne_live t.hm hb)⟩
              by_cases hjk : j < k
              · have hjN : j < N.length := by omega
                have hg := g2 j hjk
                rw [List.getElem?_eq_getElem hjN] at hg
                have hat1 := hat H' j _ t hg
                have ld := ndsC_two hjN
                have le2 : j * 4 + 2 ≤ N.length * 4 := by omega
                generalize N[j] = x at *
                obtain ⟨⟨x1, x2⟩, xu, xg⟩ := x
                simp only [] at hat1 ld
                simp (disch := omega) only [↓runPre, runPost, fieldO, ixA, cutA, lenA, aggA, rowA, appA, mkA, indA, bnd, srcA, sameOp, funcA, cvO, partA, aggD, ↓PostP, resV, resAll, resOne, resVF, resAllF, resOneF, fitsAll, fitsR, fits, frz, Post, Nat.reduceBEq, Nat.reduceLT, reduceCtorEq, ↓reduceIte, initS, AV.cellsOf, AV.fine, AV.one, repA, Nat.reduceMul, Nat.reduceAdd, Nat.reduceLeDiff, Nat.reduceEqDiff, Int.reduceToNat, Nat.reduceSub, Nat.reduceMod, Nat.reduceDiv, indexK.aggOf, Int.reducePow, Int.reduceLE, Int.reduceNeg, Int.reduceLT, Int.reduceBEq, Int.reduceBNe, Int.reduceEq, ownA, nilA, Try.facts, s1, s6, s9, s13, s84, s85, dT, dF, qT, qF, nT, nF, Bool.false_and, Bool.and_false]
                refine CallK.i hat1 ?_
                rintro v E4 ⟨rfl, rfl⟩
                simp (disch := omega) only [↓runPre, runPost, fieldO, ixA, cutA, lenA, aggA, rowA, appA, mkA, indA, bnd, srcA, sameOp, funcA, cvO, partA, aggD, ↓PostP, resV, resAll, resOne, resVF, resAllF, resOneF, fitsAll, fitsR, fits, frz, Post, Nat.reduceBEq, Nat.reduceLT, reduceCtorEq, ↓reduceIte, initS, AV.cellsOf, AV.fine, AV.one, repA, Nat.reduceMul, Nat.reduceAdd, Nat.reduceLeDiff, Nat.reduceEqDiff, Int.reduceToNat, Nat.reduceSub, Nat.reduceMod, Nat.reduceDiv, indexK.aggOf, Int.reducePow, Int.reduceLE, Int.reduceNeg, Int.reduceLT, Int.reduceBEq, Int.reduceBNe, Int.reduceEq, ownA, nilA, Try.facts, s1, s6, s9, s13, s84, s85, dT, dF, qT, qF, nT, nF, Bool.false_and, Bool.and_false]
                intro b18 hb180 hb18
                simp (disch := omega) only [↓runPre, runPost, fieldO, ixA, cutA, lenA, aggA, rowA, appA, mkA, indA, bnd, srcA, sameOp, funcA, cvO, partA, aggD, ↓PostP, resV, resAll, resOne, resVF, resAllF, resOneF, fitsAll, fitsR, fits, frz, Post, Nat.reduceBEq, Nat.reduceLT, reduceCtorEq, ↓reduceIte, initS, AV.cellsOf, AV.fine, AV.one, repA, Nat.reduceMul, Nat.reduceAdd, Nat.reduceLeDiff, Nat.reduceEqDiff, Int.reduceToNat, Nat.reduceSub, Nat.reduceMod, Nat.reduceDiv, indexK.aggOf, Int.reducePow, Int.reduceLE, Int.reduceNeg, Int.reduceLT, Int.reduceBEq, Int.reduceBNe, Int.reduceEq, ownA, nilA, Try.facts, s1, s6, s9, s13, s84, s85, dT, dF, qT, qF, nT, nF, Bool.false_and, Bool.and_false, kill_box hb18, putCells_eq]
                intro b20 hb200 hb20
                simp (disch := omega) only [↓runPre, runPost, fieldO, ixA, cutA, lenA, aggA, rowA, appA, mkA, indA, bnd, srcA, sameOp, funcA, cvO, partA, aggD, ↓PostP, resV, resAll, resOne, resVF, resAllF, resOneF, fitsAll, fitsR, fits, frz, Post, Nat.reduceBEq, Nat.reduceLT, reduceCtorEq, ↓reduceIte, initS, AV.cellsOf, AV.fine, AV.one, repA, Nat.reduceMul, Nat.reduceAdd, Nat.reduceLeDiff, Nat.reduceEqDiff, Int.reduceToNat, Nat.reduceSub, Nat.reduceMod, Nat.reduceDiv, indexK.aggOf, Int.reducePow, Int.reduceLE, Int.reduceNeg, Int.reduceLT, Int.reduceBEq, Int.reduceBNe, Int.reduceEq, ownA, nilA, Try.facts, s1, s6, s9, s13, s84, s85, dT, dF, qT, qF, nT, nF, Bool.false_and, Bool.and_false, putCells_eq, ld, le2, hNi, bne_self_eq_false, hj1]
                exact ⟨mm - 1, by omega, j + 1, by omega, (fin _ _ hb20).1, (fin _ _ hb20).2, rfl⟩
              · by_cases hjk2 : j = k
                · subst hjk2
                  have hat1 := hat H' j _ t g3
                  rw [hxid] at hat1
                  simp (disch := omega) only [↓runPre, runPost, fieldO, ixA, cutA, lenA, aggA, rowA, appA, mkA, indA, bnd, srcA, sameOp, funcA, cvO, partA, aggD, ↓PostP, resV, resAll, resOne, resVF, resAllF, resOneF, fitsAll, fitsR, fits, frz, Post, Nat.reduceBEq, Nat.reduceLT, reduceCtorEq, ↓reduceIte, initS, AV.cellsOf, AV.fine, AV.one, repA, Nat.reduceMul, Nat.reduceAdd, Nat.reduceLeDiff, Nat.reduceEqDiff, Int.reduceToNat, Nat.reduceSub, Nat.reduceMod, Nat.reduceDiv, indexK.aggOf, Int.reducePow, Int.reduceLE, Int.reduceNeg, Int.reduceLT, Int.reduceBEq, Int.reduceBNe, Int.reduceEq, ownA, nilA, Try.facts, s1, s6, s9, s13, s84, s85, dT, dF, qT, qF, nT, nF, Bool.false_and, Bool.and_false]
                  refine CallK.i hat1 ?_
                  rintro v E4 ⟨rfl, rfl⟩
                  simp (disch := omega) only [↓runPre, runPost, fieldO, ixA, cutA, lenA, aggA, rowA, appA, mkA, indA, bnd, srcA, sameOp, funcA, cvO, partA, aggD, ↓PostP, resV, resAll, resOne, resVF, resAllF, resOneF, fitsAll, fitsR, fits, frz, Post, Nat.reduceBEq, Nat.reduceLT, reduceCtorEq, ↓reduceIte, initS, AV.cellsOf, AV.fine, AV.one, repA, Nat.reduceMul, Nat.reduceAdd, Nat.reduceLeDiff, Nat.reduceEqDiff, Int.reduceToNat, Nat.reduceSub, Nat.reduceMod, Nat.reduceDiv, indexK.aggOf, Int.reducePow, Int.reduceLE, Int.reduceNeg, Int.reduceLT, Int.reduceBEq, Int.reduceBNe, Int.reduceEq, ownA, nilA, Try.facts, s1, s6, s9, s13, s84, s85, dT, dF, qT, qF, nT, nF, Bool.false_and, Bool.and_false]
                  intro b18 hb180 hb18
                  simp (disch := omega) only [↓runPre, runPost, fieldO, ixA, cutA, lenA, aggA, rowA, appA, mkA, indA, bnd, srcA, sameOp, funcA, cvO, partA, aggD, ↓PostP, resV, resAll, resOne, resVF, resAllF, resOneF, fitsAll, fitsR, fits, frz, Post, Nat.reduceBEq, Nat.reduceLT, reduceCtorEq, ↓reduceIte, initS, AV.cellsOf, AV.fine, AV.one, repA, Nat.reduceMul, Nat.reduceAdd, Nat.reduceLeDiff, Nat.reduceEqDiff, Int.reduceToNat, Nat.reduceSub, Nat.reduceMod, Nat.reduceDiv, indexK.aggOf, Int.reducePow, Int.reduceLE, Int.reduceNeg, Int.reduceLT, Int.reduceBEq, Int.reduceBNe, Int.reduceEq, ownA, nilA, Try.facts, s1, s6, s9, s13, s84, s85, dT, dF, qT, qF, nT, nF, Bool.false_and, Bool.and_false, kill_box hb18, putCells_eq]
                  intro b20 hb200 hb20
                  try simp (disch := omega) only [↓runPre, runPost, fieldO, ixA, cutA, lenA, aggA, rowA, appA, mkA, indA, bnd, srcA, sameOp, funcA, cvO, partA, aggD, ↓PostP, resV, resAll, resOne, resVF, resAllF, resOneF, fitsAll, fitsR, fits, frz, Post, Nat.reduceBEq, Nat.reduceLT, reduceCtorEq, ↓reduceIte, initS, AV.cellsOf, AV.fine, AV.one, repA, Nat.reduceMul, Nat.reduceAdd, Nat.reduceLeDiff, Nat.reduceEqDiff, Int.reduceToNat, Nat.reduceSub, Nat.reduceMod, Nat.reduceDiv, indexK.aggOf, Int.reducePow, Int.reduceLE, Int.reduceNeg, Int.reduceLT, Int.reduceBEq, Int.reduceBNe, Int.reduceEq, ownA, nilA, Try.facts, s1, s6, s9, s13, s84, s85, dT, dF, qT, qF, nT, nF, Bool.false_and, Bool.and_false, putCells_eq, bne_self_eq_false, hj1]
                  exact ⟨mm - 1, by omega, j + 1, by omega, (fin _ _ hb20).1, (fin _ _ hb20).2, rfl⟩
                · have hjN : j - 1 < N.length := by omega
                  have hg := g4 j (by omega)
                  rw [List.getElem?_eq_getElem hjN] at hg
                  have hat1 := hat H' j _ t hg
                  have ld := ndsC_two hjN
                  have le2 : (j - 1) * 4 + 2 ≤ N.length * 4 := by omega
                  generalize N[j - 1] = x at *
                  obtain ⟨⟨x1, x2⟩, xu, xg⟩ := x
                  simp only [] at hat1 ld
                  simp (disch := omega) only [↓runPre, runPost, fieldO, ixA, cutA, lenA, aggA, rowA, appA, mkA, indA, bnd, srcA, sameOp, funcA, cvO, partA, aggD, ↓PostP, resV, resAll, resOne, resVF, resAllF, resOneF, fitsAll, fitsR, fits, frz, Post, Nat.reduceBEq, Nat.reduceLT, reduceCtorEq, ↓reduceIte, initS, AV.cellsOf, AV.fine, AV.one, repA, Nat.reduceMul, Nat.reduceAdd, Nat.reduceLeDiff, Nat.reduceEqDiff, Int.reduceToNat, Nat.reduceSub, Nat.reduceMod, Nat.reduceDiv, indexK.aggOf, Int.reducePow, Int.reduceLE, Int.reduceNeg, Int.reduceLT, Int.reduceBEq, Int.reduceBNe, Int.reduceEq, ownA, nilA, Try.facts, s1, s6, s9, s13, s84, s85, dT, dF, qT, qF, nT, nF, Bool.false_and, Bool.and_false]
                  refine CallK.i hat1 ?_
                  rintro v E4 ⟨rfl, rfl⟩
                  simp (disch := omega) only [↓runPre, runPost, fieldO, ixA, cutA, lenA, aggA, rowA, appA, mkA, indA, bnd, srcA, sameOp, funcA, cvO, partA, aggD, ↓PostP, resV, resAll, resOne, resVF, resAllF, resOneF, fitsAll, fitsR, fits, frz, Post, Nat.reduceBEq, Nat.reduceLT, reduceCtorEq, ↓reduceIte, initS, AV.cellsOf, AV.fine, AV.one, repA, Nat.reduceMul, Nat.reduceAdd, Nat.reduceLeDiff, Nat.reduceEqDiff, Int.reduceToNat, Nat.reduceSub, Nat.reduceMod, Nat.reduceDiv, indexK.aggOf, Int.reducePow, Int.reduceLE, Int.reduceNeg, Int.reduceLT, Int.reduceBEq, Int.reduceBNe, Int.reduceEq, ownA, nilA, Try.facts, s1, s6, s9, s13, s84, s85, dT, dF, qT, qF, nT, nF, Bool.false_and, Bool.and_false]
                  intro b18 hb180 hb18
                  simp (disch := omega) only [↓runPre, runPost, fieldO, ixA, cutA, lenA, aggA, rowA, appA, mkA, indA, bnd, srcA, sameOp, funcA, cvO, partA, aggD, ↓PostP, resV, resAll, resOne, resVF, resAllF, resOneF, fitsAll, fitsR, fits, frz, Post, Nat.reduceBEq, Nat.reduceLT, reduceCtorEq, ↓reduceIte, initS, AV.cellsOf, AV.fine, AV.one, repA, Nat.reduceMul, Nat.reduceAdd, Nat.reduceLeDiff, Nat.reduceEqDiff, Int.reduceToNat, Nat.reduceSub, Nat.reduceMod, Nat.reduceDiv, indexK.aggOf, Int.reducePow, Int.reduceLE, Int.reduceNeg, Int.reduceLT, Int.reduceBEq, Int.reduceBNe, Int.reduceEq, ownA, nilA, Try.facts, s1, s6, s9, s13, s84, s85, dT, dF, qT, qF, nT, nF, Bool.false_and, Bool.and_false, kill_box hb18, putCells_eq]
                  intro b20 hb200 hb20
                  simp (disch := omega) only [↓runPre, runPost, fieldO, ixA, cutA, lenA, aggA, rowA, appA, mkA, indA, bnd, srcA, sameOp, funcA, cvO, partA, aggD, ↓PostP, resV, resAll, resOne, resVF, resAllF, resOneF, fitsAll, fitsR, fits, frz, Post, Nat.reduceBEq, Nat.reduceLT, reduceCtorEq, ↓reduceIte, initS, AV.cellsOf, AV.fine, AV.one, repA, Nat.reduceMul, Nat.reduceAdd, Nat.reduceLeDiff, Nat.reduceEqDiff, Int.reduceToNat, Nat.reduceSub, Nat.reduceMod, Nat.reduceDiv, indexK.aggOf, Int.reducePow, Int.reduceLE, Int.reduceNeg, Int.reduceLT, Int.reduceBEq, Int.reduceBNe, Int.reduceEq, ownA, nilA, Try.facts, s1, s6, s9, s13, s84, s85, dT, dF, qT, qF, nT, nF, Bool.false_and, Bool.and_false, putCells_eq, ld, le2, hNi, bne_self_eq_false, hj1]
                  exact ⟨mm - 1, by omega, j + 1, by omega, (fin _ _ hb20).1, (fin _ _ hb20).2, rfl⟩
            · simp (disch := omega) only [↓runPre, runPost, fieldO, ixA, cutA, lenA, aggA, rowA, appA, mkA, indA, bnd, srcA, sameOp, funcA, cvO, partA, aggD, ↓PostP, resV, resAll, resOne, resVF, resAllF, resOneF, fitsAll, fitsR, fits, frz, Post, Nat.reduceBEq, Nat.reduceLT, reduceCtorEq, ↓reduceIte, initS, AV.cellsOf, AV.fine, AV.one, repA, Nat.reduceMul, Nat.reduceAdd, Nat.reduceLeDiff, Nat.reduceEqDiff, Int.reduceToNat, Nat.reduceSub, Nat.reduceMod, Nat.reduceDiv, indexK.aggOf, Int.reducePow, Int.reduceLE, Int.reduceNeg, Int.reduceLT, Int.reduceBEq, Int.reduceBNe, Int.reduceEq, ownA, nilA, Try.facts, s1, s6, s9, s13, s84, s85, dT, dF, qT, qF, nT, nF, Bool.false_and, Bool.and_false]
              first | refine CallK.p (haw) ?_ | refine CallP.i (haw) ?_
              simp (disch := omega) only [↓runPre, runPost, fieldO, ixA, cutA, lenA, aggA, rowA, appA, mkA, indA, bnd, srcA, sameOp, funcA, cvO, partA, aggD, ↓PostP, resV, resAll, resOne, resVF, resAllF, resOneF, fitsAll, fitsR, fits, frz, Post, Nat.reduceBEq, Nat.reduceLT, reduceCtorEq, ↓reduceIte, initS, AV.cellsOf, AV.fine, AV.one, repA, Nat.reduceMul, Nat.reduceAdd, Nat.reduceLeDiff, Nat.reduceEqDiff, Int.reduceToNat, Nat.reduceSub, Nat.reduceMod, Nat.reduceDiv, indexK.aggOf, Int.reducePow, Int.reduceLE, Int.reduceNeg, Int.reduceLT, Int.reduceBEq, Int.reduceBNe, Int.reduceEq, ownA, nilA, Try.facts]
              exact hs
        · simp (disch := omega) only [↓runPre, runPost, fieldO, ixA, cutA, lenA, aggA, rowA, appA, mkA, indA, bnd, srcA, sameOp, funcA, cvO, partA, aggD, ↓PostP, resV, resAll, resOne, resVF, resAllF, resOneF, fitsAll, fitsR, fits, frz, Post, Nat.reduceBEq, Nat.reduceLT, reduceCtorEq, ↓reduceIte, initS, AV.cellsOf, AV.fine, AV.one, repA, Nat.reduceMul, Nat.reduceAdd, Nat.reduceLeDiff, Nat.reduceEqDiff, Int.reduceToNat, Nat.reduceSub, Nat.reduceMod, Nat.reduceDiv, indexK.aggOf, Int.reducePow, Int.reduceLE, Int.reduceNeg, Int.reduceLT, Int.reduceBEq, Int.reduceBNe, Int.reduceEq, ownA, nilA, Try.facts, s1, s3, s6, s9, s10, dT, dF, qT, qF, nT, nF, Bool.false_and, Bool.and_false]
          first | refine CallK.p (haw) ?_ | refine CallP.i (haw) ?_
          simp (disch := omega) only [↓runPre, runPost, fieldO, ixA, cutA, lenA, aggA, rowA, appA, mkA, indA, bnd, srcA, sameOp, funcA, cvO, partA, aggD, ↓PostP, resV, resAll, resOne, resVF, resAllF, resOneF, fitsAll, fitsR, fits, frz, Post, Nat.reduceBEq, Nat.reduceLT, reduceCtorEq, ↓reduceIte, initS, AV.cellsOf, AV.fine, AV.one, repA, Nat.reduceMul, Nat.reduceAdd, Nat.reduceLeDiff, Nat.reduceEqDiff, Int.reduceToNat, Nat.reduceSub, Nat.reduceMod, Nat.reduceDiv, indexK.aggOf, Int.reducePow, Int.reduceLE, Int.reduceNeg, Int.reduceLT, Int.reduceBEq, Int.reduceBNe, Int.reduceEq, ownA, nilA, Try.facts]
          exact hs2
      · have hpe : planL L G i0 = (root, false, 6) := by unfold planL; rw [if_neg hin]
        rw [hpe] at hp
        generalize live (nodes L G) = N at *
        by_cases hneg : i0 < 0
        all_goals
          simp (disch := omega) only [↓runPre, runPost, fieldO, ixA, cutA, lenA, aggA, rowA, appA, mkA, indA, bnd, srcA, sameOp, funcA, cvO, partA, aggD, ↓PostP, resV, resAll, resOne, resVF, resAllF, resOneF, fitsAll, fitsR, fits, frz, Post, Nat.reduceBEq, Nat.reduceLT, reduceCtorEq, ↓reduceIte, initS, AV.cellsOf, AV.fine, AV.one, repA, Nat.reduceMul, Nat.reduceAdd, Nat.reduceLeDiff, Nat.reduceEqDiff, Int.reduceToNat, Nat.reduceSub, Nat.reduceMod, Nat.reduceDiv, indexK.aggOf, Int.reducePow, Int.reduceLE, Int.reduceNeg, Int.reduceLT, Int.reduceBEq, Int.reduceBNe, Int.reduceEq, ownA, nilA, Try.facts, s1, s3, s6, s9, s10, s27, s28, s29, dT, dF, qT, qF, nT, nF, Bool.false_and, Bool.and_false, v4]
          first | refine CallK.p (hrl) ?_ | refine CallP.i (hrl) ?_
          simp (disch := omega) only [↓runPre, runPost, fieldO, ixA, cutA, lenA, aggA, rowA, appA, mkA, indA, bnd, srcA, sameOp, funcA, cvO, partA, aggD, ↓PostP, resV, resAll, resOne, resVF, resAllF, resOneF, fitsAll, fitsR, fits, frz, Post, Nat.reduceBEq, Nat.reduceLT, reduceCtorEq, ↓reduceIte, initS, AV.cellsOf, AV.fine, AV.one, repA, Nat.reduceMul, Nat.reduceAdd, Nat.reduceLeDiff, Nat.reduceEqDiff, Int.reduceToNat, Nat.reduceSub, Nat.reduceMod, Nat.reduceDiv, indexK.aggOf, Int.reducePow, Int.reduceLE, Int.reduceNeg, Int.reduceLT, Int.reduceBEq, Int.reduceBNe, Int.reduceEq, ownA, nilA, Try.facts, s1, s3, s6, s9, s10]
          refine CallK.i hp ?_
          rintro v E ⟨rfl, rfl⟩
          simp (disch := omega) only [↓runPre, runPost, fieldO, ixA, cutA, lenA, aggA, rowA, appA, mkA, indA, bnd, srcA, sameOp, funcA, cvO, partA, aggD, ↓PostP, resV, resAll, resOne, resVF, resAllF, resOneF, fitsAll, fitsR, fits, frz, Post, Nat.reduceBEq, Nat.reduceLT, reduceCtorEq, ↓reduceIte, initS, AV.cellsOf, AV.fine, AV.one, repA, Nat.reduceMul, Nat.reduceAdd, Nat.reduceLeDiff, Nat.reduceEqDiff, Int.reduceToNat, Nat.reduceSub, Nat.reduceMod, Nat.reduceDiv, indexK.aggOf, Int.reducePow, Int.reduceLE, Int.reduceNeg, Int.reduceLT, Int.reduceBEq, Int.reduceBNe, Int.reduceEq, ownA, nilA, Try.facts, s1, s3, s6, s9, s10]
          intro b14 hb140 hb14
          simp (disch := omega) only [↓runPre, runPost, fieldO, ixA, cutA, lenA, aggA, rowA, appA, mkA, indA, bnd, srcA, sameOp, funcA, cvO, partA, aggD, ↓PostP, resV, resAll, resOne, resVF, resAllF, resOneF, fitsAll, fitsR, fits, frz, Post, Nat.reduceBEq, Nat.reduceLT, reduceCtorEq, ↓reduceIte, initS, AV.cellsOf, AV.fine, AV.one, repA, Nat.reduceMul, Nat.reduceAdd, Nat.reduceLeDiff, Nat.reduceEqDiff, Int.reduceToNat, Nat.reduceSub, Nat.reduceMod, Nat.reduceDiv, indexK.aggOf, Int.reducePow, Int.reduceLE, Int.reduceNeg, Int.reduceLT, Int.reduceBEq, Int.reduceBNe, Int.reduceEq, ownA, nilA, Try.facts, s1, s3, s6, s9, s10, kill_box hb14, putCells_eq, dT, dF, qT, qF, nT, nF, Bool.false_and, Bool.and_false, beq_self_eq_true]
          first | refine CallK.p (haw) ?_ | refine CallP.i (haw) ?_
          simp (disch := omega) only [↓runPre, runPost, fieldO, ixA, cutA, lenA, aggA, rowA, appA, mkA, indA, bnd, srcA, sameOp, funcA, cvO, partA, aggD, ↓PostP, resV, resAll, resOne, resVF, resAllF, resOneF, fitsAll, fitsR, fits, frz, Post, Nat.reduceBEq, Nat.reduceLT, reduceCtorEq, ↓reduceIte, initS, AV.cellsOf, AV.fine, AV.one, repA, Nat.reduceMul, Nat.reduceAdd, Nat.reduceLeDiff, Nat.reduceEqDiff, Int.reduceToNat, Nat.reduceSub, Nat.reduceMod, Nat.reduceDiv, indexK.aggOf, Int.reducePow, Int.reduceLE, Int.reduceNeg, Int.reduceLT, Int.reduceBEq, Int.reduceBNe, Int.reduceEq, ownA, nilA, Try.facts, dT, dF, qT, qF, nT, nF, Bool.false_and, Bool.and_false]
          exact hs
end Go.Proofs.Ytpmmafmbjconiaa
