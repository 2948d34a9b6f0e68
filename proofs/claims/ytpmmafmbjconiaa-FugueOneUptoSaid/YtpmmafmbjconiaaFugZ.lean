/-
  The walks of the fugue layer: the law of one by one.
  Conditions: none. Lemmas only.
-/
import Derived.Test.YtpmmafmbjconiaaFugX
import Derived.Test.YtpmmafmbjconiaaFugPlays
set_option linter.all false
set_option linter.unusedSimpArgs false
set_option linter.unusedVariables false
set_option maxRecDepth 8000
set_option maxHeartbeats 4000000
namespace Go.Proofs.Ytpmmafmbjconiaa
open Go Go.Abs Go.Proofs Go.Fug
theorem one_all (HB : AH) (h m : Nat) (L : List Ins) (G : List EId) (t : IsT HB h m L G) (nb kb lv : Nat) (hlv : lv < 256) (hnb : HB nb = none) (hkb : HB kb = none) (hkn : ¬ kb = nb) (N : List Nd) (hN : N = nodes L G) (hNl : N.length ≤ 1000000000) :
    ACalls Try.prog 38 [.fn (.func 16) [] [.ptr kb 0, .ptr nb 0, .ip [ndsV N] 0, .ip [.sc (.int .u8 (lv : Nat))] 0], .ip [.ptr h 0] 0]
      ((HB.set nb (.cells [.sc (.int .i64 0)] 3 1)).set kb (.cells [.sc (.bool true)] 4 1)) fun _ H' =>
        ∃ c, c = min N.length (lv + 1) ∧ H' = (HB.set nb (.cells [.sc (.int .i64 (c : Nat))] 3 1)).set kb (.cells [.sc (.bool true)] 4 1) := by
  have hi := t.hi
  have hm := t.hm
  have n1 := ne_live hi hnb
  have n2 := ne_live hm hnb
  have n3 := ne_live hi hkb
  have n4 := ne_live hm hkb
  have hit := all_iter h m L G t.g t.small
  have h0 : ((HB.set nb (.cells [.sc (.int .i64 0)] 3 1)).set kb (.cells [.sc (.bool true)] 4 1)) = oneH HB nb kb N [] := by
    have : okB N [] = true := by simp [okB]
    unfold oneH
    rw [this]; rfl
  rw [h0]
  refine ACalls.mono (hit _ (fun pre Hc => Hc = oneH HB nb kb N pre ∧ pre.length ≤ lv) (fun pre Hc => Hc = oneH HB nb kb N pre ∧ pre.length = lv + 1) _ ?_ ?_ ⟨rfl, by simp⟩) ?_
  · rintro pre Hc ⟨rfl, -⟩
    exact (t.put n1 n2).put n3 n4
  · rintro pre ⟨q, x⟩ Hc H1 ⟨hc, hpl⟩ hs hM
    have h1 : H1 kb = some (.cells [.sc (.bool (okB N pre))] 4 1) := hs _ _ (by rw [hc]; exact set_get)
    have h2 : H1 nb = some (.cells [.sc (.int .i64 (pre.length : Nat))] 3 1) := hs _ _ (by rw [hc]; unfold oneH; rw [set_other (fun e => hkn e.symm)]; exact set_get)
    refine (ACalls.value (first := []) (one_body H1 kb nb N hNl (okB N pre) pre.length q lv hlv x hkn (by rw [← hN] at hM; omega) h1 h2)).mono ?_
    rintro v H2 ⟨rfl, rfl⟩
    have hf := one_frame (pre' := pre ++ [(q, x)]) hkn hc hs
    rw [okB_snoc, List.length_append] at hf
    refine ⟨_, hf, ?_⟩
    have hlen : (pre ++ [(q, x)]).length = pre.length + 1 := by simp
    by_cases hlt : pre.length + 1 ≤ lv
    · exact .inl ⟨by rw [dT hlt], rfl, by rw [hlen]; exact hlt⟩
    · exact .inr ⟨by rw [dF hlt], rfl, by rw [hlen]; omega⟩
  · rintro v H' (⟨xs, rfl, rfl, hl⟩ | ⟨pre, ⟨k, hk0, hkl, rfl⟩, rfl, hl⟩)
    · rw [ixd_length] at hl
      refine ⟨N.length, by rw [hN]; omega, ?_⟩
      have : okB N (ixd 0 N) = true := by simp [okB, List.take_length]
      unfold oneH
      rw [← hN, this, ixd_length]
    · have hkk : ((ixd 0 (nodes L G)).take k).length = k := by rw [List.length_take, ixd_length]; omega
      rw [hkk] at hl
      refine ⟨k, by rw [hN]; omega, ?_⟩
      have : okB N ((ixd 0 (nodes L G)).take k) = true := by unfold okB; rw [hkk, hN]; simp
      unfold oneH
      rw [this, hkk]
theorem one_no (l : List DoT) (lv : Nat) (hlv : lv < 256) (hl : l.length ≤ 1048576) (h : ¬ l.length ≤ 60) : APure Try.prog 3 [.imm 0 (dosC l) l.length, .sc (.int .u8 (lv : Nat))] (.sc (.bool true)) := by
  have haw := awake_pure
  refine apure_of_cwp (c := ⟨Try.prog, 56, [(1000000, [3]), (1000006, [8]), (1000009, [9])], [], []⟩) (rs := [ResultVar.tmp 4]) Try.mixed Try.func3 rfl rfl rfl (Nat.le_of_ble_eq_true rfl) (by kernel_rfl) fun H => ?_
  simp (disch := omega) only [↓runPre, runPost, fieldO, ixA, cutA, lenA, aggA, rowA, appA, mkA, indA, bnd, srcA, sameOp, funcA, cvO, partA, aggD, ↓PostP, resV, resAll, resOne, resVF, resAllF, resOneF, fitsAll, fitsR, fits, frz, Post, Nat.reduceBEq, Nat.reduceLT, reduceCtorEq, ↓reduceIte, initS, AV.cellsOf, AV.fine, AV.one, repA, Nat.reduceMul, Nat.reduceAdd, Nat.reduceLeDiff, Nat.reduceEqDiff, Int.reduceToNat, Nat.reduceSub, Nat.reduceMod, Nat.reduceDiv, indexK.aggOf, Int.reducePow, Int.reduceLE, Int.reduceNeg, Int.reduceLT, Int.reduceBEq, Int.reduceBNe, Int.reduceEq, ownA, nilA, Try.facts, dT, dF, qT, qF, nT, nF, Bool.false_and, Bool.and_false]
  intro b hb0 hb
  simp (disch := omega) only [↓runPre, runPost, fieldO, ixA, cutA, lenA, aggA, rowA, appA, mkA, indA, bnd, srcA, sameOp, funcA, cvO, partA, aggD, ↓PostP, resV, resAll, resOne, resVF, resAllF, resOneF, fitsAll, fitsR, fits, frz, Post, Nat.reduceBEq, Nat.reduceLT, reduceCtorEq, ↓reduceIte, initS, AV.cellsOf, AV.fine, AV.one, repA, Nat.reduceMul, Nat.reduceAdd, Nat.reduceLeDiff, Nat.reduceEqDiff, Int.reduceToNat, Nat.reduceSub, Nat.reduceMod, Nat.reduceDiv, indexK.aggOf, Int.reducePow, Int.reduceLE, Int.reduceNeg, Int.reduceLT, Int.reduceBEq, Int.reduceBNe, Int.reduceEq, ownA, nilA, Try.facts, dT, dF, qT, qF, nT, nF, Bool.false_and, Bool.and_false, kill_box hb]
  first | refine CallK.p (haw) ?_ | refine CallP.i (haw) ?_
  simp (disch := omega) only [↓runPre, runPost, fieldO, ixA, cutA, lenA, aggA, rowA, appA, mkA, indA, bnd, srcA, sameOp, funcA, cvO, partA, aggD, ↓PostP, resV, resAll, resOne, resVF, resAllF, resOneF, fitsAll, fitsR, fits, frz, Post, Nat.reduceBEq, Nat.reduceLT, reduceCtorEq, ↓reduceIte, initS, AV.cellsOf, AV.fine, AV.one, repA, Nat.reduceMul, Nat.reduceAdd, Nat.reduceLeDiff, Nat.reduceEqDiff, Int.reduceToNat, Nat.reduceSub, Nat.reduceMod, Nat.reduceDiv, indexK.aggOf, Int.reducePow, Int.reduceLE, Int.reduceNeg, Int.reduceLT, Int.reduceBEq, Int.reduceBNe, Int.reduceEq, ownA, nilA, Try.facts]
  exact Abs.Sub.refl _
theorem one_yes (l : List DoT) (lv : Nat) (hlv : lv < 256) (hl : l.length ≤ 60) : APure Try.prog 3 [.imm 0 (dosC l) l.length, .sc (.int .u8 (lv : Nat))] (.sc (.bool true)) := by
  have haw := awake_pure
  have hdl := dosC_length l
  refine apure_of_cwp (c := ⟨Try.prog, 56, [(1000000, [3]), (1000006, [8]), (1000009, [9])], [], []⟩) (rs := [ResultVar.tmp 4]) Try.mixed Try.func3 rfl rfl rfl (Nat.le_of_ble_eq_true rfl) (by kernel_rfl) fun H => ?_
  simp (disch := omega) only [↓runPre, runPost, fieldO, ixA, cutA, lenA, aggA, rowA, appA, mkA, indA, bnd, srcA, sameOp, funcA, cvO, partA, aggD, ↓PostP, resV, resAll, resOne, resVF, resAllF, resOneF, fitsAll, fitsR, fits, frz, Post, Nat.reduceBEq, Nat.reduceLT, reduceCtorEq, ↓reduceIte, initS, AV.cellsOf, AV.fine, AV.one, repA, Nat.reduceMul, Nat.reduceAdd, Nat.reduceLeDiff, Nat.reduceEqDiff, Int.reduceToNat, Nat.reduceSub, Nat.reduceMod, Nat.reduceDiv, indexK.aggOf, Int.reducePow, Int.reduceLE, Int.reduceNeg, Int.reduceLT, Int.reduceBEq, Int.reduceBNe, Int.reduceEq, ownA, nilA, Try.facts, dT, dF, qT, qF, nT, nF, Bool.false_and, Bool.and_false]
  intro b hb0 hb
  simp (disch := omega) only [↓runPre, runPost, fieldO, ixA, cutA, lenA, aggA, rowA, appA, mkA, indA, bnd, srcA, sameOp, funcA, cvO, partA, aggD, ↓PostP, resV, resAll, resOne, resVF, resAllF, resOneF, fitsAll, fitsR, fits, frz, Post, Nat.reduceBEq, Nat.reduceLT, reduceCtorEq, ↓reduceIte, initS, AV.cellsOf, AV.fine, AV.one, repA, Nat.reduceMul, Nat.reduceAdd, Nat.reduceLeDiff, Nat.reduceEqDiff, Int.reduceToNat, Nat.reduceSub, Nat.reduceMod, Nat.reduceDiv, indexK.aggOf, Int.reducePow, Int.reduceLE, Int.reduceNeg, Int.reduceLT, Int.reduceBEq, Int.reduceBNe, Int.reduceEq, ownA, nilA, Try.facts, dT, dF, qT, qF, nT, nF, Bool.false_and, Bool.and_false, kill_box hb]
  refine CallK.i (new_live H) ?_
  rintro v H1 ⟨h, m, rfl, hh, hm, hs, t⟩
  simp (disch := omega) only [↓runPre, runPost, fieldO, ixA, cutA, lenA, aggA, rowA, appA, mkA, indA, bnd, srcA, sameOp, funcA, cvO, partA, aggD, ↓PostP, resV, resAll, resOne, resVF, resAllF, resOneF, fitsAll, fitsR, fits, frz, Post, Nat.reduceBEq, Nat.reduceLT, reduceCtorEq, ↓reduceIte, initS, AV.cellsOf, AV.fine, AV.one, repA, Nat.reduceMul, Nat.reduceAdd, Nat.reduceLeDiff, Nat.reduceEqDiff, Int.reduceToNat, Nat.reduceSub, Nat.reduceMod, Nat.reduceDiv, indexK.aggOf, Int.reducePow, Int.reduceLE, Int.reduceNeg, Int.reduceLT, Int.reduceBEq, Int.reduceBNe, Int.reduceEq, ownA, nilA, Try.facts]
  intro k4 hk40 hk4
  simp (disch := omega) only [↓runPre, runPost, fieldO, ixA, cutA, lenA, aggA, rowA, appA, mkA, indA, bnd, srcA, sameOp, funcA, cvO, partA, aggD, ↓PostP, resV, resAll, resOne, resVF, resAllF, resOneF, fitsAll, fitsR, fits, frz, Post, Nat.reduceBEq, Nat.reduceLT, reduceCtorEq, ↓reduceIte, initS, AV.cellsOf, AV.fine, AV.one, repA, Nat.reduceMul, Nat.reduceAdd, Nat.reduceLeDiff, Nat.reduceEqDiff, Int.reduceToNat, Nat.reduceSub, Nat.reduceMod, Nat.reduceDiv, indexK.aggOf, Int.reducePow, Int.reduceLE, Int.reduceNeg, Int.reduceLT, Int.reduceBEq, Int.reduceBNe, Int.reduceEq, ownA, nilA, Try.facts, putCells_eq]
  refine nil_t k4 0 set_get rfl ?_
  refine nil_t k4 1 set_get rfl ?_
  simp only [List.set_cons_zero, List.set_cons_succ, set_set]
  have n4 := hs.free hk4
  have nh4 := ne_live t.hi hk4
  have nm4 := ne_live t.hm hk4
  refine loop_t (c := ⟨Try.prog, 56, [(1000000, [3]), (1000006, [8]), (1000009, [9])], [], []⟩) Try.mixed (by kernel_rfl) (fun mm σ H' => ∃ (i : Nat) (L : List Ins) (G : List EId), i + mm = l.length ∧ L.length ≤ i ∧ Abs.Sub H H' ∧ IsT H' h m L G ∧ H' k4 = some (tBox L G) ∧
    σ 3 = .ip [.sc (.int .u8 (lv : Nat))] 0 ∧ σ 5 = .ptr h 0 ∧ σ 6 = .ptr k4 0 ∧ σ 19 = .imm 0 (dosC l) l.length ∧ σ 20 = .sc (.int .i64 l.length) ∧ σ 21 = .sc (.int .i64 (i : Nat))) l.length ?_ ?_
  · refine ⟨0, [], [], by omega, by simp, hs.trans (Sub.set_new hk4), t.put nh4 nm4, set_get, ?_⟩
    simp (disch := omega) only [↓runPre, runPost, fieldO, ixA, cutA, lenA, aggA, rowA, appA, mkA, indA, bnd, srcA, sameOp, funcA, cvO, partA, aggD, ↓PostP, resV, resAll, resOne, resVF, resAllF, resOneF, fitsAll, fitsR, fits, frz, Post, Nat.reduceBEq, Nat.reduceLT, reduceCtorEq, ↓reduceIte, initS, AV.cellsOf, AV.fine, AV.one, repA, Nat.reduceMul, Nat.reduceAdd, Nat.reduceLeDiff, Nat.reduceEqDiff, Int.reduceToNat, Nat.reduceSub, Nat.reduceMod, Nat.reduceDiv, indexK.aggOf, Int.reducePow, Int.reduceLE, Int.reduceNeg, Int.reduceLT, Int.reduceBEq, Int.reduceBNe, Int.reduceEq, ownA, nilA, Try.facts]
    try rfl
  · clear hs t hk4
    rintro mm σ H' ⟨i, L, G, him, hLi, hs, t, v4, s3, s5, s6, s19, s20, s21⟩
    by_cases hlt : i < l.length
    · have hld := dosC_load hlt
      have hle : i * 9 + 9 ≤ l.length * 9 := by omega
      have hst := stepL_le l[i] L G
      have hb1 := both_live H' h m L G l[i] t
      generalize l[i] = q at *
      obtain ⟨kd, ⟨⟨a, c⟩, ⟨pa, pc⟩, ri, ru⟩, ⟨x1, x2⟩⟩ := q
      simp only [doC, insC, List.cons_append, List.nil_append] at hld hb1
      generalize stepL _ (L, G) = R at *
      obtain ⟨L2, G2⟩ := R
      unfold BothR at hb1
      simp only [] at hb1 hst
      simp (disch := omega) only [↓runPre, runPost, fieldO, ixA, cutA, lenA, aggA, rowA, appA, mkA, indA, bnd, srcA, sameOp, funcA, cvO, partA, aggD, ↓PostP, resV, resAll, resOne, resVF, resAllF, resOneF, fitsAll, fitsR, fits, frz, Post, Nat.reduceBEq, Nat.reduceLT, reduceCtorEq, ↓reduceIte, initS, AV.cellsOf, AV.fine, AV.one, repA, Nat.reduceMul, Nat.reduceAdd, Nat.reduceLeDiff, Nat.reduceEqDiff, Int.reduceToNat, Nat.reduceSub, Nat.reduceMod, Nat.reduceDiv, indexK.aggOf, Int.reducePow, Int.reduceLE, Int.reduceNeg, Int.reduceLT, Int.reduceBEq, Int.reduceBNe, Int.reduceEq, ownA, nilA, Try.facts, s3, s5, s6, s19, s20, s21, dT, dF, qT, qF, nT, nF, Bool.false_and, Bool.and_false, hld, hle, hdl]
      intro b1 hb10 hb1f
      simp (disch := omega) only [↓runPre, runPost, fieldO, ixA, cutA, lenA, aggA, rowA, appA, mkA, indA, bnd, srcA, sameOp, funcA, cvO, partA, aggD, ↓PostP, resV, resAll, resOne, resVF, resAllF, resOneF, fitsAll, fitsR, fits, frz, Post, Nat.reduceBEq, Nat.reduceLT, reduceCtorEq, ↓reduceIte, initS, AV.cellsOf, AV.fine, AV.one, repA, Nat.reduceMul, Nat.reduceAdd, Nat.reduceLeDiff, Nat.reduceEqDiff, Int.reduceToNat, Nat.reduceSub, Nat.reduceMod, Nat.reduceDiv, indexK.aggOf, Int.reducePow, Int.reduceLE, Int.reduceNeg, Int.reduceLT, Int.reduceBEq, Int.reduceBNe, Int.reduceEq, ownA, nilA, Try.facts, s3, s5, s6, s19, s20, s21, dT, dF, qT, qF, nT, nF, Bool.false_and, Bool.and_false, hld, hle, hdl, kill_box hb1f, putCells_eq, v4]
      refine CallK.i hb1 ?_
      rintro v H2 ⟨rfl, t2, fr⟩
      have w4 := fr k4 (fun e => nh4 e.symm) (fun e => nm4 e.symm) _ v4
      have hs2 : Abs.Sub H H2 := fun y o hy => fr y (ne_live hy hh) (ne_live hy hm) _ (hs _ _ hy)
      simp (disch := omega) only [↓runPre, runPost, fieldO, ixA, cutA, lenA, aggA, rowA, appA, mkA, indA, bnd, srcA, sameOp, funcA, cvO, partA, aggD, ↓PostP, resV, resAll, resOne, resVF, resAllF, resOneF, fitsAll, fitsR, fits, frz, Post, Nat.reduceBEq, Nat.reduceLT, reduceCtorEq, ↓reduceIte, initS, AV.cellsOf, AV.fine, AV.one, repA, Nat.reduceMul, Nat.reduceAdd, Nat.reduceLeDiff, Nat.reduceEqDiff, Int.reduceToNat, Nat.reduceSub, Nat.reduceMod, Nat.reduceDiv, indexK.aggOf, Int.reducePow, Int.reduceLE, Int.reduceNeg, Int.reduceLT, Int.reduceBEq, Int.reduceBNe, Int.reduceEq, ownA, nilA, Try.facts, s3, s5, s6, s19, s20, s21, putCells_eq, w4]
      exact ⟨mm - 1, by omega, i + 1, L2, G2, by omega, by omega, hs2.set_free n4, t2.put nh4 nm4, rfl, rfl⟩
    · have hG2 := t.gl
      have hrN := rnodes_pure L G (by omega) (by omega) t.g
      have hn1 := nodes_le G t.g.nd (by omega)
      have hal := fun H' => all_live H' h
      obtain ⟨N, hN⟩ : ∃ N, N = nodes L G := ⟨_, rfl⟩
      have hall := fun (HB : AH) (t : IsT HB h m L G) (nb kb : Nat) (hnb : HB nb = none) (hkb : HB kb = none) (hkn : ¬ kb = nb) => one_all HB h m L G t nb kb lv hlv hnb hkb hkn N hN (by rw [hN]; exact hn1)
      rw [← hN] at hrN hn1
      simp (disch := omega) only [↓runPre, runPost, fieldO, ixA, cutA, lenA, aggA, rowA, appA, mkA, indA, bnd, srcA, sameOp, funcA, cvO, partA, aggD, ↓PostP, resV, resAll, resOne, resVF, resAllF, resOneF, fitsAll, fitsR, fits, frz, Post, Nat.reduceBEq, Nat.reduceLT, reduceCtorEq, ↓reduceIte, initS, AV.cellsOf, AV.fine, AV.one, repA, Nat.reduceMul, Nat.reduceAdd, Nat.reduceLeDiff, Nat.reduceEqDiff, Int.reduceToNat, Nat.reduceSub, Nat.reduceMod, Nat.reduceDiv, indexK.aggOf, Int.reducePow, Int.reduceLE, Int.reduceNeg, Int.reduceLT, Int.reduceBEq, Int.reduceBNe, Int.reduceEq, ownA, nilA, Try.facts, s3, s5, s6, s19, s20, s21, dT, dF, qT, qF, nT, nF, Bool.false_and, Bool.and_false, v4]
      first | refine CallK.p (hrN) ?_ | refine CallP.i (hrN) ?_
      simp (disch := omega) only [↓runPre, runPost, fieldO, ixA, cutA, lenA, aggA, rowA, appA, mkA, indA, bnd, srcA, sameOp, funcA, cvO, partA, aggD, ↓PostP, resV, resAll, resOne, resVF, resAllF, resOneF, fitsAll, fitsR, fits, frz, Post, Nat.reduceBEq, Nat.reduceLT, reduceCtorEq, ↓reduceIte, initS, AV.cellsOf, AV.fine, AV.one, repA, Nat.reduceMul, Nat.reduceAdd, Nat.reduceLeDiff, Nat.reduceEqDiff, Int.reduceToNat, Nat.reduceSub, Nat.reduceMod, Nat.reduceDiv, indexK.aggOf, Int.reducePow, Int.reduceLE, Int.reduceNeg, Int.reduceLT, Int.reduceBEq, Int.reduceBNe, Int.reduceEq, ownA, nilA, Try.facts, s3, s5, s6]
      intro b9 hb90 hb9
      simp (disch := omega) only [↓runPre, runPost, fieldO, ixA, cutA, lenA, aggA, rowA, appA, mkA, indA, bnd, srcA, sameOp, funcA, cvO, partA, aggD, ↓PostP, resV, resAll, resOne, resVF, resAllF, resOneF, fitsAll, fitsR, fits, frz, Post, Nat.reduceBEq, Nat.reduceLT, reduceCtorEq, ↓reduceIte, initS, AV.cellsOf, AV.fine, AV.one, repA, Nat.reduceMul, Nat.reduceAdd, Nat.reduceLeDiff, Nat.reduceEqDiff, Int.reduceToNat, Nat.reduceSub, Nat.reduceMod, Nat.reduceDiv, indexK.aggOf, Int.reducePow, Int.reduceLE, Int.reduceNeg, Int.reduceLT, Int.reduceBEq, Int.reduceBNe, Int.reduceEq, ownA, nilA, Try.facts, s3, s5, s6, kill_box hb9, putCells_eq]
      refine CallK.i (hal _) ?_
      rintro v E ⟨rfl, rfl⟩
      try simp (disch := omega) only [↓runPre, runPost, fieldO, ixA, cutA, lenA, aggA, rowA, appA, mkA, indA, bnd, srcA, sameOp, funcA, cvO, partA, aggD, ↓PostP, resV, resAll, resOne, resVF, resAllF, resOneF, fitsAll, fitsR, fits, frz, Post, Nat.reduceBEq, Nat.reduceLT, reduceCtorEq, ↓reduceIte, initS, AV.cellsOf, AV.fine, AV.one, repA, Nat.reduceMul, Nat.reduceAdd, Nat.reduceLeDiff, Nat.reduceEqDiff, Int.reduceToNat, Nat.reduceSub, Nat.reduceMod, Nat.reduceDiv, indexK.aggOf, Int.reducePow, Int.reduceLE, Int.reduceNeg, Int.reduceLT, Int.reduceBEq, Int.reduceBNe, Int.reduceEq, ownA, nilA, Try.facts, s3, s5, s6]
      intro nb hnb0 hnb kb hkb0 hkb
      have hkn := set_ne hkb
      have htw : ∀ a b c d, (((E.set nb a).set kb b).set nb c).set kb d = (E.set nb c).set kb d := fun a b c d => by
        funext x
        simp only [AH.set]
        by_cases e : x = kb <;> by_cases e' : x = nb <;> simp [e, e']
      simp (disch := omega) only [↓runPre, runPost, fieldO, ixA, cutA, lenA, aggA, rowA, appA, mkA, indA, bnd, srcA, sameOp, funcA, cvO, partA, aggD, ↓PostP, resV, resAll, resOne, resVF, resAllF, resOneF, fitsAll, fitsR, fits, frz, Post, Nat.reduceBEq, Nat.reduceLT, reduceCtorEq, ↓reduceIte, initS, AV.cellsOf, AV.fine, AV.one, repA, Nat.reduceMul, Nat.reduceAdd, Nat.reduceLeDiff, Nat.reduceEqDiff, Int.reduceToNat, Nat.reduceSub, Nat.reduceMod, Nat.reduceDiv, indexK.aggOf, Int.reducePow, Int.reduceLE, Int.reduceNeg, Int.reduceLT, Int.reduceBEq, Int.reduceBNe, Int.reduceEq, ownA, nilA, Try.facts, s3, s5, s6, putCells_eq, set_other, hkn, htw]
      refine CallK.i (hall _ t nb kb hnb (subset_set hkb) (fun e => hkn e.symm)) ?_
      rintro v E2 ⟨c, hc, rfl⟩
      have hmn : (if ((lv + 1 : Nat) : Int) < ((N.length : Nat) : Int) then ((lv + 1 : Nat) : Int) else ((N.length : Nat) : Int)) = ((c : Nat) : Int) := by split <;> omega
      simp (disch := omega) only [↓runPre, runPost, fieldO, ixA, cutA, lenA, aggA, rowA, appA, mkA, indA, bnd, srcA, sameOp, funcA, cvO, partA, aggD, ↓PostP, resV, resAll, resOne, resVF, resAllF, resOneF, fitsAll, fitsR, fits, frz, Post, Nat.reduceBEq, Nat.reduceLT, reduceCtorEq, ↓reduceIte, initS, AV.cellsOf, AV.fine, AV.one, repA, Nat.reduceMul, Nat.reduceAdd, Nat.reduceLeDiff, Nat.reduceEqDiff, Int.reduceToNat, Nat.reduceSub, Nat.reduceMod, Nat.reduceDiv, indexK.aggOf, Int.reducePow, Int.reduceLE, Int.reduceNeg, Int.reduceLT, Int.reduceBEq, Int.reduceBNe, Int.reduceEq, ownA, nilA, Try.facts, s3, s5, s6, set_other, hkn, hmn, dT, dF, qT, qF, nT, nF, Bool.false_and, Bool.and_false, beq_self_eq_true]
      first | refine CallK.p (haw) ?_ | refine CallP.i (haw) ?_
      simp (disch := omega) only [↓runPre, runPost, fieldO, ixA, cutA, lenA, aggA, rowA, appA, mkA, indA, bnd, srcA, sameOp, funcA, cvO, partA, aggD, ↓PostP, resV, resAll, resOne, resVF, resAllF, resOneF, fitsAll, fitsR, fits, frz, Post, Nat.reduceBEq, Nat.reduceLT, reduceCtorEq, ↓reduceIte, initS, AV.cellsOf, AV.fine, AV.one, repA, Nat.reduceMul, Nat.reduceAdd, Nat.reduceLeDiff, Nat.reduceEqDiff, Int.reduceToNat, Nat.reduceSub, Nat.reduceMod, Nat.reduceDiv, indexK.aggOf, Int.reducePow, Int.reduceLE, Int.reduceNeg, Int.reduceLT, Int.reduceBEq, Int.reduceBNe, Int.reduceEq, ownA, nilA, Try.facts]
      exact (hs.set_free (hs.free hnb)).set_free (hs.free (subset_set hkb))
end Go.Proofs.Ytpmmafmbjconiaa
