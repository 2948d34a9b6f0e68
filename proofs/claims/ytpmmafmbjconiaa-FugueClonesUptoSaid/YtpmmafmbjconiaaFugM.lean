/-
  The walks of the fugue layer: all elements, gone through.
  Conditions: none. Lemmas only.
-/
import Derived.Test.YtpmmafmbjconiaaFugL
import Derived.Test.YtpmmafmbjconiaaAbsZ
set_option linter.all false
set_option linter.unusedSimpArgs false
set_option linter.unusedVariables false
set_option maxRecDepth 8000
set_option maxHeartbeats 4000000
namespace Go.Proofs.Ytpmmafmbjconiaa
open Go Go.Abs Go.Proofs Go.Fug
theorem ixd_map (i : Nat) (l : List Nd) : (ixd i l).map (·.2) = l := by
  induction l generalizing i with
  | nil => rfl
  | cons n l ih => simp [ixd, ih]
theorem all_live (H : AH) (h : Nat) : ACalls Try.prog 15 [.ptr h 0] H fun r H' => r = .fn (.func 38) [] [.ip [.ptr h 0] 0] ∧ H' = H := by
  refine acalls_of_cwp (c := ⟨Try.prog, 4, [(1000000, [1])], [], []⟩) (rs := [ResultVar.tmp 2]) Try.mixed Try.func15 rfl rfl rfl (Nat.le_of_ble_eq_true rfl) (by kernel_rfl) ?_
  simp (disch := omega) only [↓runPre, runPost, fieldO, ixA, cutA, lenA, aggA, rowA, appA, mkA, indA, bnd, srcA, sameOp, funcA, cvO, partA, aggD, ↓PostP, resV, resAll, resOne, resVF, resAllF, resOneF, fitsAll, fitsR, fits, frz, Post, Nat.reduceBEq, Nat.reduceLT, reduceCtorEq, ↓reduceIte, initS, AV.cellsOf, AV.fine, AV.one, repA, Nat.reduceMul, Nat.reduceAdd, Nat.reduceLeDiff, Nat.reduceEqDiff, Int.reduceToNat, Nat.reduceSub, Nat.reduceMod, Nat.reduceDiv, indexK.aggOf, Int.reducePow, Int.reduceLE, Int.reduceNeg, Int.reduceLT, Int.reduceBEq, Int.reduceBNe, Int.reduceEq, ownA, nilA, Try.facts]
  intro k hk0 hk
  simp (disch := omega) only [↓runPre, runPost, fieldO, ixA, cutA, lenA, aggA, rowA, appA, mkA, indA, bnd, srcA, sameOp, funcA, cvO, partA, aggD, ↓PostP, resV, resAll, resOne, resVF, resAllF, resOneF, fitsAll, fitsR, fits, frz, Post, Nat.reduceBEq, Nat.reduceLT, reduceCtorEq, ↓reduceIte, initS, AV.cellsOf, AV.fine, AV.one, repA, Nat.reduceMul, Nat.reduceAdd, Nat.reduceLeDiff, Nat.reduceEqDiff, Int.reduceToNat, Nat.reduceSub, Nat.reduceMod, Nat.reduceDiv, indexK.aggOf, Int.reducePow, Int.reduceLE, Int.reduceNeg, Int.reduceLT, Int.reduceBEq, Int.reduceBNe, Int.reduceEq, ownA, nilA, Try.facts, kill_box hk]
  exact ⟨_, rfl, H, Abs.Sub.refl _, rfl, rfl⟩
theorem set_swap {H : AH} {b k : Nat} {c c' o : AObj} (h : ¬ b = k) : ((H.set b c).set k o).set b c' = (H.set b c').set k o := by
  funext x
  simp only [AH.set]
  by_cases e : x = b
  · subst e; simp [h]
  · simp [e]
theorem frame_out {H H1 : AH} {b k k2 : Nat} {cs cs' : AObj} {o o2 : AObj} (hb : H b = none) (hk : H k = none) (hs : Abs.Sub ((H.set b cs).set k o) H1) (hkb : ¬ k = b) (hk2 : H1 k2 = none) :
    FrameStep ((H.set b cs).set k o) H1 ((H.set b cs').set k2 o2) (((H1.kill k).set k2 o2).set b cs') := by
  have l1 : H1 b = some cs := hs b _ (by rw [set_other (fun e => hkb e.symm), set_get])
  have l2 : H1 k = some o := hs k _ set_get
  have n1 := ne_live l1 hk2
  have n2 := ne_live l2 hk2
  refine ⟨fun x ox hx => ?_, fun q oq h1 h2 => ?_⟩
  · by_cases e1 : x = k2
    · subst e1
      rw [set_get] at hx
      rw [set_other (fun e => n1 e.symm), set_get]; exact hx
    · rw [set_other e1] at hx
      by_cases e2 : x = b
      · subst e2; rw [set_get] at hx ⊢; exact hx
      · rw [set_other e2] at hx
        have e3 := ne_live hx hk
        rw [set_other e2, set_other e1, kill_other e3]
        exact hs x ox (by rw [set_other e3, set_other e2]; exact hx)
  · have e1 : ¬ q = k := fun e => by rw [e, set_get] at h2; cases h2
    rw [set_other e1] at h2
    have e2 : ¬ q = b := fun e => by rw [e, set_get] at h2; cases h2
    rw [set_other e2] at h2
    have e3 := ne_live h1 hk2
    exact ⟨by rw [set_other e2, set_other e3, kill_other e1]; exact h1, by rw [set_other e3, set_other e2]; exact h2⟩
theorem nodes_live (H : AH) (h m : Nat) (L : List Ins) (G : List EId) (t : IsT H h m L G) : ACalls Try.prog 18 [.ptr h 0] H fun v H' => v = ndsV (nodes L G) ∧ H' = H := by
  have hit := all_iter h m L G t.g t.small
  have hnl := nodes_le G t.g.nd (by have := t.small; omega)
  have hal := fun H' => all_live H' h
  have hi := t.hi
  have hm := t.hm
  refine acalls_of_cwp (c := ⟨Try.prog, 15, [(1000003, [5])], [], []⟩) (rs := [ResultVar.tmp 2]) Try.mixed Try.func18 rfl rfl rfl (Nat.le_of_ble_eq_true rfl) (by kernel_rfl) ?_
  simp (disch := omega) only [↓runPre, runPost, fieldO, ixA, cutA, lenA, aggA, rowA, appA, mkA, indA, bnd, srcA, sameOp, funcA, cvO, partA, aggD, ↓PostP, resV, resAll, resOne, resVF, resAllF, resOneF, fitsAll, fitsR, fits, frz, Post, Nat.reduceBEq, Nat.reduceLT, reduceCtorEq, ↓reduceIte, initS, AV.cellsOf, AV.fine, AV.one, repA, Nat.reduceMul, Nat.reduceAdd, Nat.reduceLeDiff, Nat.reduceEqDiff, Int.reduceToNat, Nat.reduceSub, Nat.reduceMod, Nat.reduceDiv, indexK.aggOf, Int.reducePow, Int.reduceLE, Int.reduceNeg, Int.reduceLT, Int.reduceBEq, Int.reduceBNe, Int.reduceEq, ownA, nilA, Try.facts]
  intro b hb0 hb
  refine CallK.i (hal _) ?_
  rintro v E ⟨rfl, rfl⟩
  try simp (disch := omega) only [↓runPre, runPost, fieldO, ixA, cutA, lenA, aggA, rowA, appA, mkA, indA, bnd, srcA, sameOp, funcA, cvO, partA, aggD, ↓PostP, resV, resAll, resOne, resVF, resAllF, resOneF, fitsAll, fitsR, fits, frz, Post, Nat.reduceBEq, Nat.reduceLT, reduceCtorEq, ↓reduceIte, initS, AV.cellsOf, AV.fine, AV.one, repA, Nat.reduceMul, Nat.reduceAdd, Nat.reduceLeDiff, Nat.reduceEqDiff, Int.reduceToNat, Nat.reduceSub, Nat.reduceMod, Nat.reduceDiv, indexK.aggOf, Int.reducePow, Int.reduceLE, Int.reduceNeg, Int.reduceLT, Int.reduceBEq, Int.reduceBNe, Int.reduceEq, ownA, nilA, Try.facts]
  refine tok_r b 0 set_get rfl fun k hk0 hk => ?_
  simp only [List.set_cons_zero, set_set]
  have nb := set_ne hk
  have hkH := subset_set hk
  have n1 := ne_live hi hb
  have n2 := ne_live hm hb
  refine range_t Try.mixed (by simp (disch := omega) only [↓runPre, runPost, fieldO, ixA, cutA, lenA, aggA, rowA, appA, mkA, indA, bnd, srcA, sameOp, funcA, cvO, partA, aggD, ↓PostP, resV, resAll, resOne, resVF, resAllF, resOneF, fitsAll, fitsR, fits, frz, Post, Nat.reduceBEq, Nat.reduceLT, reduceCtorEq, ↓reduceIte, initS, AV.cellsOf, AV.fine, AV.one, repA, Nat.reduceMul, Nat.reduceAdd, Nat.reduceLeDiff, Nat.reduceEqDiff, Int.reduceToNat, Nat.reduceSub, Nat.reduceMod, Nat.reduceDiv, indexK.aggOf, Int.reducePow, Int.reduceLE, Int.reduceNeg, Int.reduceLT, Int.reduceBEq, Int.reduceBNe, Int.reduceEq, ownA, nilA, Try.facts]) (by kernel_rfl) (fun _ => rfl) hit
    (fun pre Hu => ∃ k o, k ≠ 0 ∧ H k = none ∧ ¬ k = b ∧ Hu = (H.set b (.cells [.imm k (ndsC (pre.map (·.2))) pre.length] 38 1)).set k o ∧ TokO 44 4 o (pre.length * 4)) (fun _ _ _ => False) ?_ ?_ ?_ ?_ ?_
  · rintro pre Hu H' ⟨k, o, hk0, hk, hkb, rfl, ho⟩ hs
    exact ((t.put (b := b) n1 n2).put (b := k) (ne_live hi hk) (ne_live hm hk)).mono hs
  · refine ⟨k, .nilt, hk0, hkH, fun e => nb e.symm, ?_, .inr ⟨rfl, rfl⟩⟩
    rw [set_swap nb]
    rfl
  · rintro pre ⟨q, x⟩ Hu H1 ⟨k, o, hk0, hk, hkb, rfl, ho⟩ hs hpl
    have hsn := ndsC_snoc (pre.map (·.2)) x
    have hsl := ndsC_length (pre.map (·.2))
    have hml : (pre.map (·.2)).length = pre.length := List.length_map _
    have hsl2 : (ndsC (pre.map (·.2) ++ [x])).length = (pre.length + 1) * 4 := by rw [ndsC_length]; simp
    have l1 : H1 b = some _ := hs b _ (by rw [set_other (fun e => hkb e.symm), set_get])
    have l2 : H1 k = some _ := hs k _ set_get
    have hmap : (pre ++ [(q, x)]).map (·.2) = pre.map (·.2) ++ [x] := by simp
    have hml2 : (pre ++ [(q, x)]).length = pre.length + 1 := by simp
    generalize pre.map (·.2) = P at *
    generalize hPx : P ++ [x] = P' at *
    obtain ⟨⟨x1, x2⟩, xu, xg⟩ := x
    simp only [ndC] at hsn
    rw [hml] at hsl
    change cwp _ _ _ (Sg.put (Sg.put _ (some 8) (.sc (.int .i64 (q : Nat)))) (some 9) (.agg [.sc (.int .i64 x1), .sc (.int .i64 x2), .sc (.int .i32 xu), .sc (.bool xg)])) _
    simp (disch := omega) only [↓runPre, runPost, fieldO, ixA, cutA, lenA, aggA, rowA, appA, mkA, indA, bnd, srcA, sameOp, funcA, cvO, partA, aggD, ↓PostP, resV, resAll, resOne, resVF, resAllF, resOneF, fitsAll, fitsR, fits, frz, Post, Nat.reduceBEq, Nat.reduceLT, reduceCtorEq, ↓reduceIte, initS, AV.cellsOf, AV.fine, AV.one, repA, Nat.reduceMul, Nat.reduceAdd, Nat.reduceLeDiff, Nat.reduceEqDiff, Int.reduceToNat, Nat.reduceSub, Nat.reduceMod, Nat.reduceDiv, indexK.aggOf, Int.reducePow, Int.reduceLE, Int.reduceNeg, Int.reduceLT, Int.reduceBEq, Int.reduceBNe, Int.reduceEq, ownA, nilA, Try.facts]
    intro b5 hb50 hb5
    simp (disch := omega) only [↓runPre, runPost, fieldO, ixA, cutA, lenA, aggA, rowA, appA, mkA, indA, bnd, srcA, sameOp, funcA, cvO, partA, aggD, ↓PostP, resV, resAll, resOne, resVF, resAllF, resOneF, fitsAll, fitsR, fits, frz, Post, Nat.reduceBEq, Nat.reduceLT, reduceCtorEq, ↓reduceIte, initS, AV.cellsOf, AV.fine, AV.one, repA, Nat.reduceMul, Nat.reduceAdd, Nat.reduceLeDiff, Nat.reduceEqDiff, Int.reduceToNat, Nat.reduceSub, Nat.reduceMod, Nat.reduceDiv, indexK.aggOf, Int.reducePow, Int.reduceLE, Int.reduceNeg, Int.reduceLT, Int.reduceBEq, Int.reduceBNe, Int.reduceEq, ownA, nilA, Try.facts, kill_box hb5, l1, l2, ho, hsl, hsn, putCells_eq]
    intro k2 o2 hk20 hk2 ho2
    have n1 := ne_live l1 hk2
    have n2 : ¬ b = k := fun e => hkb e.symm
    have hs2 : Abs.Sub H H1 := ((Sub.set_new hb).trans (Sub.set_new (by rw [set_other hkb]; exact hk))).trans hs
    simp (disch := omega) only [↓runPre, runPost, fieldO, ixA, cutA, lenA, aggA, rowA, appA, mkA, indA, bnd, srcA, sameOp, funcA, cvO, partA, aggD, ↓PostP, resV, resAll, resOne, resVF, resAllF, resOneF, fitsAll, fitsR, fits, frz, Post, Nat.reduceBEq, Nat.reduceLT, reduceCtorEq, ↓reduceIte, initS, AV.cellsOf, AV.fine, AV.one, repA, Nat.reduceMul, Nat.reduceAdd, Nat.reduceLeDiff, Nat.reduceEqDiff, Int.reduceToNat, Nat.reduceSub, Nat.reduceMod, Nat.reduceDiv, indexK.aggOf, Int.reducePow, Int.reduceLE, Int.reduceNeg, Int.reduceLT, Int.reduceBEq, Int.reduceBNe, Int.reduceEq, ownA, nilA, Try.facts, kill_box hb5, l1, l2, ho, hsl, hsn, putCells_eq, set_other, kill_other, RPost_normal]
    refine ⟨_, frame_out hb hk hs hkb (by first | exact hk2 | exact subset_set hk2), k2, o2, hk20, hs2.free (by first | exact hk2 | exact subset_set hk2), fun e => n1 e.symm, ?_, ?_⟩
    · rw [hmap]
    · first | exact ho2 | (rw [hsl2] at ho2; exact ho2)
  · rintro xs Hu rfl ⟨k, o, hk0, hk, hkb, rfl, ho⟩
    rw [ixd_map, ixd_length]
    have n2 : ¬ b = k := fun e => hkb e.symm
    simp (disch := omega) only [↓runPre, runPost, fieldO, ixA, cutA, lenA, aggA, rowA, appA, mkA, indA, bnd, srcA, sameOp, funcA, cvO, partA, aggD, ↓PostP, resV, resAll, resOne, resVF, resAllF, resOneF, fitsAll, fitsR, fits, frz, Post, Nat.reduceBEq, Nat.reduceLT, reduceCtorEq, ↓reduceIte, initS, AV.cellsOf, AV.fine, AV.one, repA, Nat.reduceMul, Nat.reduceAdd, Nat.reduceLeDiff, Nat.reduceEqDiff, Int.reduceToNat, Nat.reduceSub, Nat.reduceMod, Nat.reduceDiv, indexK.aggOf, Int.reducePow, Int.reduceLE, Int.reduceNeg, Int.reduceLT, Int.reduceBEq, Int.reduceBNe, Int.reduceEq, ownA, nilA, Try.facts, set_other, n2]
    exact ⟨_, rfl, H, (Sub.set_new hb).trans (Sub.set_new (by rw [set_other hkb]; exact hk)), rfl, rfl⟩
  · intro _ _ _ _ hf
    exact hf.elim

/-! ### the text -/
def runesC (l : List Nd) : List AV := l.map fun n => .sc (.int .i32 n.rune)
theorem runesC_all (l : List Nd) : (runesC l).all isI32 = true := by
  unfold runesC
  rw [List.all_map]
  exact List.all_eq_true.2 fun _ _ => rfl
theorem runesC_bytes (l : List Nd) : ((runesC l).map runeA).flatMap runeB = runesB l := by
  unfold runesC runesB
  rw [List.map_map, List.flatMap_map]
  rfl
theorem text_live (H : AH) (h m : Nat) (L : List Ins) (G : List EId) (t : IsT H h m L G) : ACalls Try.prog 19 [.ptr h 0] H fun v H' => v = .sc (.string ⟨(runesB (live (nodes L G))).toArray⟩) ∧ H' = H := by
  have hit := all_iter h m L G t.g t.small
  have hnl := nodes_le G t.g.nd (by have := t.small; omega)
  have hal := fun H' => all_live H' h
  have hi := t.hi
  have hm := t.hm
  refine acalls_of_cwp (c := ⟨Try.prog, 20, [(1000003, [5])], [], []⟩) (rs := [ResultVar.tmp 2]) Try.mixed Try.func19 rfl rfl rfl (Nat.le_of_ble_eq_true rfl) (by kernel_rfl) ?_
  simp (disch := omega) only [↓runPre, runPost, fieldO, ixA, cutA, lenA, aggA, rowA, appA, mkA, indA, bnd, srcA, sameOp, funcA, cvO, partA, aggD, ↓PostP, resV, resAll, resOne, resVF, resAllF, resOneF, fitsAll, fitsR, fits, frz, Post, Nat.reduceBEq, Nat.reduceLT, reduceCtorEq, ↓reduceIte, initS, AV.cellsOf, AV.fine, AV.one, repA, Nat.reduceMul, Nat.reduceAdd, Nat.reduceLeDiff, Nat.reduceEqDiff, Int.reduceToNat, Nat.reduceSub, Nat.reduceMod, Nat.reduceDiv, indexK.aggOf, Int.reducePow, Int.reduceLE, Int.reduceNeg, Int.reduceLT, Int.reduceBEq, Int.reduceBNe, Int.reduceEq, ownA, nilA, Try.facts]
  intro b hb0 hb
  refine CallK.i (hal _) ?_
  rintro v E ⟨rfl, rfl⟩
  try simp (disch := omega) only [↓runPre, runPost, fieldO, ixA, cutA, lenA, aggA, rowA, appA, mkA, indA, bnd, srcA, sameOp, funcA, cvO, partA, aggD, ↓PostP, resV, resAll, resOne, resVF, resAllF, resOneF, fitsAll, fitsR, fits, frz, Post, Nat.reduceBEq, Nat.reduceLT, reduceCtorEq, ↓reduceIte, initS, AV.cellsOf, AV.fine, AV.one, repA, Nat.reduceMul, Nat.reduceAdd, Nat.reduceLeDiff, Nat.reduceEqDiff, Int.reduceToNat, Nat.reduceSub, Nat.reduceMod, Nat.reduceDiv, indexK.aggOf, Int.reducePow, Int.reduceLE, Int.reduceNeg, Int.reduceLT, Int.reduceBEq, Int.reduceBNe, Int.reduceEq, ownA, nilA, Try.facts]
  refine tok_r b 0 set_get rfl fun k hk0 hk => ?_
  simp only [List.set_cons_zero, set_set]
  have nb := set_ne hk
  have hkH := subset_set hk
  have n1 := ne_live hi hb
  have n2 := ne_live hm hb
  refine range_t Try.mixed (by simp (disch := omega) only [↓runPre, runPost, fieldO, ixA, cutA, lenA, aggA, rowA, appA, mkA, indA, bnd, srcA, sameOp, funcA, cvO, partA, aggD, ↓PostP, resV, resAll, resOne, resVF, resAllF, resOneF, fitsAll, fitsR, fits, frz, Post, Nat.reduceBEq, Nat.reduceLT, reduceCtorEq, ↓reduceIte, initS, AV.cellsOf, AV.fine, AV.one, repA, Nat.reduceMul, Nat.reduceAdd, Nat.reduceLeDiff, Nat.reduceEqDiff, Int.reduceToNat, Nat.reduceSub, Nat.reduceMod, Nat.reduceDiv, indexK.aggOf, Int.reducePow, Int.reduceLE, Int.reduceNeg, Int.reduceLT, Int.reduceBEq, Int.reduceBNe, Int.reduceEq, ownA, nilA, Try.facts]) (by kernel_rfl) (fun _ => rfl) hit
    (fun pre Hu => ∃ k o, k ≠ 0 ∧ H k = none ∧ ¬ k = b ∧ Hu = (H.set b (.cells [.imm k (runesC (live (pre.map (·.2)))) (live (pre.map (·.2))).length] 82 1)).set k o ∧ TokO 21 1 o (live (pre.map (·.2))).length) (fun _ _ _ => False) ?_ ?_ ?_ ?_ ?_
  · rintro pre Hu H' ⟨k, o, hk0, hk, hkb, rfl, ho⟩ hs
    exact ((t.put (b := b) n1 n2).put (b := k) (ne_live hi hk) (ne_live hm hk)).mono hs
  · refine ⟨k, .nilt, hk0, hkH, fun e => nb e.symm, ?_, .inr ⟨rfl, rfl⟩⟩
    rw [set_swap nb]
    rfl
  · rintro pre ⟨q, x⟩ Hu H1 ⟨k, o, hk0, hk, hkb, rfl, ho⟩ hs hpl
    have hsl : (runesC (live (pre.map (·.2)))).length = (live (pre.map (·.2))).length := by simp [runesC]
    have hll : (live (pre.map (·.2))).length ≤ pre.length := Nat.le_trans (List.length_filter_le _ _) (by simp)
    have l1 : H1 b = some _ := hs b _ (by rw [set_other (fun e => hkb e.symm), set_get])
    have l2 : H1 k = some _ := hs k _ set_get
    have hmap : live ((pre ++ [(q, x)]).map (·.2)) = live (pre.map (·.2)) ++ if x.gone then [] else [x] := by
      unfold live
      rw [List.map_append, List.filter_append]
      cases hx : x.gone <;> simp [List.filter_cons, hx]
    generalize live (pre.map (·.2)) = P at *
    obtain ⟨⟨x1, x2⟩, xu, xg⟩ := x
    have n2 : ¬ b = k := fun e => hkb e.symm
    have hs2 : Abs.Sub H H1 := ((Sub.set_new hb).trans (Sub.set_new (by rw [set_other hkb]; exact hk))).trans hs
    change cwp _ _ _ (Sg.put (Sg.put _ (some 8) (.sc (.int .i64 (q : Nat)))) (some 9) (.agg [.sc (.int .i64 x1), .sc (.int .i64 x2), .sc (.int .i32 xu), .sc (.bool xg)])) _
    cases xg with
    | true =>
      simp only [if_true, List.append_nil] at hmap
      simp (disch := omega) only [↓runPre, runPost, fieldO, ixA, cutA, lenA, aggA, rowA, appA, mkA, indA, bnd, srcA, sameOp, funcA, cvO, partA, aggD, ↓PostP, resV, resAll, resOne, resVF, resAllF, resOneF, fitsAll, fitsR, fits, frz, Post, Nat.reduceBEq, Nat.reduceLT, reduceCtorEq, ↓reduceIte, initS, AV.cellsOf, AV.fine, AV.one, repA, Nat.reduceMul, Nat.reduceAdd, Nat.reduceLeDiff, Nat.reduceEqDiff, Int.reduceToNat, Nat.reduceSub, Nat.reduceMod, Nat.reduceDiv, indexK.aggOf, Int.reducePow, Int.reduceLE, Int.reduceNeg, Int.reduceLT, Int.reduceBEq, Int.reduceBNe, Int.reduceEq, ownA, nilA, Try.facts]
      intro b5 hb50 hb5
      simp (disch := omega) only [↓runPre, runPost, fieldO, ixA, cutA, lenA, aggA, rowA, appA, mkA, indA, bnd, srcA, sameOp, funcA, cvO, partA, aggD, ↓PostP, resV, resAll, resOne, resVF, resAllF, resOneF, fitsAll, fitsR, fits, frz, Post, Nat.reduceBEq, Nat.reduceLT, reduceCtorEq, ↓reduceIte, initS, AV.cellsOf, AV.fine, AV.one, repA, Nat.reduceMul, Nat.reduceAdd, Nat.reduceLeDiff, Nat.reduceEqDiff, Int.reduceToNat, Nat.reduceSub, Nat.reduceMod, Nat.reduceDiv, indexK.aggOf, Int.reducePow, Int.reduceLE, Int.reduceNeg, Int.reduceLT, Int.reduceBEq, Int.reduceBNe, Int.reduceEq, ownA, nilA, Try.facts, kill_box hb5, putCells_eq, RPost_normal]
      refine ⟨_, ⟨hs, fun q o h1 h2 => ⟨h1, h2⟩⟩, k, o, hk0, hk, hkb, ?_, ?_⟩
      · rw [hmap]
      · rw [hmap]; exact ho
    | false =>
      simp only [Bool.false_eq_true, if_false] at hmap
      have hsn : runesC P ++ [.sc (.int .i32 xu)] = runesC (P ++ [⟨(x1, x2), xu, false⟩]) := by simp [runesC]
      simp (disch := omega) only [↓runPre, runPost, fieldO, ixA, cutA, lenA, aggA, rowA, appA, mkA, indA, bnd, srcA, sameOp, funcA, cvO, partA, aggD, ↓PostP, resV, resAll, resOne, resVF, resAllF, resOneF, fitsAll, fitsR, fits, frz, Post, Nat.reduceBEq, Nat.reduceLT, reduceCtorEq, ↓reduceIte, initS, AV.cellsOf, AV.fine, AV.one, repA, Nat.reduceMul, Nat.reduceAdd, Nat.reduceLeDiff, Nat.reduceEqDiff, Int.reduceToNat, Nat.reduceSub, Nat.reduceMod, Nat.reduceDiv, indexK.aggOf, Int.reducePow, Int.reduceLE, Int.reduceNeg, Int.reduceLT, Int.reduceBEq, Int.reduceBNe, Int.reduceEq, ownA, nilA, Try.facts]
      intro b5 hb50 hb5
      simp (disch := omega) only [↓runPre, runPost, fieldO, ixA, cutA, lenA, aggA, rowA, appA, mkA, indA, bnd, srcA, sameOp, funcA, cvO, partA, aggD, ↓PostP, resV, resAll, resOne, resVF, resAllF, resOneF, fitsAll, fitsR, fits, frz, Post, Nat.reduceBEq, Nat.reduceLT, reduceCtorEq, ↓reduceIte, initS, AV.cellsOf, AV.fine, AV.one, repA, Nat.reduceMul, Nat.reduceAdd, Nat.reduceLeDiff, Nat.reduceEqDiff, Int.reduceToNat, Nat.reduceSub, Nat.reduceMod, Nat.reduceDiv, indexK.aggOf, Int.reducePow, Int.reduceLE, Int.reduceNeg, Int.reduceLT, Int.reduceBEq, Int.reduceBNe, Int.reduceEq, ownA, nilA, Try.facts, kill_box hb5, l1, l2, ho, hsl, hsn, putCells_eq]
      intro k2 o2 hk20 hk2 ho2
      have n1 := ne_live l1 hk2
      simp (disch := omega) only [↓runPre, runPost, fieldO, ixA, cutA, lenA, aggA, rowA, appA, mkA, indA, bnd, srcA, sameOp, funcA, cvO, partA, aggD, ↓PostP, resV, resAll, resOne, resVF, resAllF, resOneF, fitsAll, fitsR, fits, frz, Post, Nat.reduceBEq, Nat.reduceLT, reduceCtorEq, ↓reduceIte, initS, AV.cellsOf, AV.fine, AV.one, repA, Nat.reduceMul, Nat.reduceAdd, Nat.reduceLeDiff, Nat.reduceEqDiff, Int.reduceToNat, Nat.reduceSub, Nat.reduceMod, Nat.reduceDiv, indexK.aggOf, Int.reducePow, Int.reduceLE, Int.reduceNeg, Int.reduceLT, Int.reduceBEq, Int.reduceBNe, Int.reduceEq, ownA, nilA, Try.facts, kill_box hb5, l1, l2, ho, hsl, hsn, putCells_eq, set_other, kill_other, RPost_normal]
      refine ⟨_, frame_out hb hk hs hkb (by first | exact hk2 | exact subset_set hk2), k2, o2, hk20, hs2.free (by first | exact hk2 | exact subset_set hk2), fun e => n1 e.symm, ?_, ?_⟩
      · rw [hmap, List.length_append]; rfl
      · rw [hmap, List.length_append]
        have e : (runesC (P ++ [(⟨(x1, x2), xu, false⟩ : Nd)])).length = P.length + 1 := by simp [runesC]
        rw [e] at ho2
        exact ho2
  · rintro xs Hu rfl ⟨k, o, hk0, hk, hkb, rfl, ho⟩
    rw [ixd_map] at ho ⊢
    have n2 : ¬ b = k := fun e => hkb e.symm
    have hll : (live (nodes L G)).length ≤ 1000000000 := Nat.le_trans (List.length_filter_le _ _) hnl
    have ha := runesC_all (live (nodes L G))
    have hb' := runesC_bytes (live (nodes L G))
    have hsl : (runesC (live (nodes L G))).length = (live (nodes L G)).length := by simp [runesC]
    generalize live (nodes L G) = P at *
    simp (disch := omega) only [↓runPre, runPost, fieldO, ixA, cutA, lenA, aggA, rowA, appA, mkA, indA, bnd, srcA, sameOp, funcA, cvO, partA, aggD, ↓PostP, resV, resAll, resOne, resVF, resAllF, resOneF, fitsAll, fitsR, fits, frz, Post, Nat.reduceBEq, Nat.reduceLT, reduceCtorEq, ↓reduceIte, initS, AV.cellsOf, AV.fine, AV.one, repA, Nat.reduceMul, Nat.reduceAdd, Nat.reduceLeDiff, Nat.reduceEqDiff, Int.reduceToNat, Nat.reduceSub, Nat.reduceMod, Nat.reduceDiv, indexK.aggOf, Int.reducePow, Int.reduceLE, Int.reduceNeg, Int.reduceLT, Int.reduceBEq, Int.reduceBNe, Int.reduceEq, ownA, nilA, Try.facts, set_other, n2, ha, hb', hsl]
    exact ⟨_, rfl, H, (Sub.set_new hb).trans (Sub.set_new (by rw [set_other hkb]; exact hk)), rfl, rfl⟩
  · intro _ _ _ _ hf
    exact hf.elim
end Go.Proofs.Ytpmmafmbjconiaa
