/-
  The walks of the fugue layer: an element is dropped; a step to both.
  Conditions: none. Lemmas only.
-/
import Derived.Test.YtpmmafmbjconiaaFugJ
set_option linter.all false
set_option linter.unusedSimpArgs false
set_option linter.unusedVariables false
set_option maxRecDepth 8000
set_option maxHeartbeats 4000000
namespace Go.Proofs.Ytpmmafmbjconiaa
open Go Go.Abs Go.Proofs Go.Fug
theorem ndOf_drop {L : List Ins} {G : List EId} {x y : EId} (h : y ≠ x) : ndOf L (G ++ [x]) y = ndOf L G y := by
  unfold ndOf
  have : decide (y ∈ G ++ [x]) = decide (y ∈ G) := by simp [h]
  rw [this]
theorem ents_drop {L : List Ins} {G I : List EId} {x : EId} (hn : I.Nodup) (h : x ∈ I) :
    (entsOf I (nodeA L G)).set (I.idxOf x) (idV x, nodeA L (G ++ [x]) x) = entsOf I (nodeA L (G ++ [x])) :=
  map_set (g := fun y => (idV y, nodeA L G y)) (g' := fun y => (idV y, nodeA L (G ++ [x]) y)) I hn h fun y hy hne => by
    unfold nodeA nodeC
    rw [ndOf_drop hne]
def DropR (H : AH) (h m : Nat) (L : List Ins) (G : List EId) (x : EId) (v : AV) (H' : AH) : Prop :=
  v = .sc (.int .i64 (dropG L G x).2) ∧ IsT H' h m L (dropG L G x).1 ∧ ∀ y, y ≠ h → y ≠ m → H' y = H y
theorem drop_live (H : AH) (h m : Nat) (L : List Ins) (G : List EId) (x : EId) (t : IsT H h m L G) : ACalls Try.prog 33 [.ptr h 0, idV x] H (DropR H h m L G x) := by
  have hh := has_live H h m L G x t
  have hR : dropG L G x = if x ∉ L.map (·.id) then (G, 13) else if x ∈ G then (G, 12) else (G ++ [x], 0) := rfl
  unfold DropR
  by_cases hin : x ∈ L.map (·.id)
  · rw [dT hin] at hh
    rw [if_neg (not_not_intro hin)] at hR
    have hxr : x ≠ root := fun e => Good.root_no t.g (by rw [← e]; exact hin)
    have hids := t.ord_mem.2 ((mem_idsOf hxr).2 hin)
    have hf := find_ids (nodeA L G) x t.ord 0
    rw [if_pos hids] at hf
    have hget := ents_get (f := nodeA L G) hids
    have hed := ents_drop (L := L) (G := G) t.ord_nodup hids
    have hgone : (ndOf L G x).gone = decide (x ∈ G) := rfl
    have hg2 : ndOf L (G ++ [x]) x = ⟨x, (ndOf L G x).rune, true⟩ := by unfold ndOf; simp
    have hi := t.hi
    have hm := t.hm
    have hne := t.hmne
    have hgl := t.gl
    have hsmall := t.small
    have fin : x ∉ G → IsT ((H.set m (.map (entsOf t.ord (nodeA L (G ++ [x]))))).set h (.cells [.mp m, .sc (.int .i64 ((G.length + 1 : Nat)))] 74 2)) h m L (G ++ [x]) := fun hno =>
      ⟨by rw [set_get, List.length_append]; rfl, ⟨t.ord, t.perm, by rw [set_other (fun e => hne e.symm), set_get]⟩, t.g, fun y hy => by
        rcases List.mem_append.1 hy with e | e
        · exact t.gs y e
        · rw [List.mem_singleton.1 e]; exact hin, by
        rw [List.nodup_append]
        exact ⟨t.gn, by simp, fun a ha b hb => by rw [List.mem_singleton.1 hb]; rintro rfl; exact hno ha⟩, hsmall⟩
    unfold nodeA nodeC at hed
    rw [hg2] at hed
    obtain ⟨a, c⟩ := x
    simp only [] at hed hf hget hgone
    generalize hE : entsOf t.ord (nodeA L G) = E at *
    have hE' : entsOf t.ord (fun x => nodeA L G x) = E := hE
    generalize hE2 : entsOf t.ord (nodeA L (G ++ [(a, c)])) = E2 at *
    have hed' : E.set (t.ord.idxOf (a, c)) (idV (a, c), .agg [.sc (.int .i64 a), .sc (.int .i64 c), .sc (.int .i32 (ndOf L G (a, c)).rune), .sc (.bool true), idsV (kids L (a, c) false), idsV (kids L (a, c) true)]) = E2 := by
      first | exact hed | (rw [← hE2]; exact hed)
    clear hed
    generalize t.ord.idxOf (a, c) = ix at *
    have hw : ((G.length : Int) + 1) = ((G.length + 1 : Nat) : Int) := by omega
    by_cases hd : (a, c) ∈ G
    all_goals
      first | rw [if_pos hd] at hR | rw [if_neg hd] at hR
      first | rw [dT hd] at hgone | rw [dF hd] at hgone
      rw [hR]
      refine acalls_of_cwp (c := ⟨Try.prog, 34, [(3, [0, 0, 0, 0, 0, 0, 2, 2]), (7, [0, 0, 0, 1, 1, 1, 2]), (1000000, [3])], [], [(3, (.op 0 0 (.op 1 0 (.op 2 0 (.op 4 0 (.or (.op 3 2 (.or (.op 5 2 (.op 6 2 (.op 7 2 .nil))) (.op 6 2 (.op 5 2 (.op 7 2 .nil))))) (.op 6 2 (.op 3 2 (.op 5 2 (.op 7 2 .nil))))))))))]⟩) (rs := [ResultVar.tmp 4]) Try.mixed Try.func33 rfl rfl rfl (Nat.le_of_ble_eq_true rfl) (by kernel_rfl) ?_
      simp (disch := omega) only [↓runPre, runPost, fieldO, ixA, cutA, lenA, aggA, rowA, appA, mkA, indA, bnd, srcA, sameOp, funcA, cvO, partA, aggD, ↓PostP, resV, resAll, resOne, resVF, resAllF, resOneF, fitsAll, fitsR, fits, frz, Post, Nat.reduceBEq, Nat.reduceLT, reduceCtorEq, ↓reduceIte, initS, AV.cellsOf, AV.fine, AV.one, repA, Nat.reduceMul, Nat.reduceAdd, Nat.reduceLeDiff, Nat.reduceEqDiff, Int.reduceToNat, Nat.reduceSub, Nat.reduceMod, Nat.reduceDiv, indexK.aggOf, Int.reducePow, Int.reduceLE, Int.reduceNeg, Int.reduceLT, Int.reduceBEq, Int.reduceBNe, Int.reduceEq, ownA, nilA, Try.facts]
      intro k hk0 hk
      try simp (disch := omega) only [↓runPre, runPost, fieldO, ixA, cutA, lenA, aggA, rowA, appA, mkA, indA, bnd, srcA, sameOp, funcA, cvO, partA, aggD, ↓PostP, resV, resAll, resOne, resVF, resAllF, resOneF, fitsAll, fitsR, fits, frz, Post, Nat.reduceBEq, Nat.reduceLT, reduceCtorEq, ↓reduceIte, initS, AV.cellsOf, AV.fine, AV.one, repA, Nat.reduceMul, Nat.reduceAdd, Nat.reduceLeDiff, Nat.reduceEqDiff, Int.reduceToNat, Nat.reduceSub, Nat.reduceMod, Nat.reduceDiv, indexK.aggOf, Int.reducePow, Int.reduceLE, Int.reduceNeg, Int.reduceLT, Int.reduceBEq, Int.reduceBNe, Int.reduceEq, ownA, nilA, Try.facts, kill_box hk]
      refine CallK.i hh ?_
      rintro v E' ⟨rfl, hEE⟩
      simp (disch := omega) only [↓runPre, runPost, fieldO, ixA, cutA, lenA, aggA, rowA, appA, mkA, indA, bnd, srcA, sameOp, funcA, cvO, partA, aggD, ↓PostP, resV, resAll, resOne, resVF, resAllF, resOneF, fitsAll, fitsR, fits, frz, Post, Nat.reduceBEq, Nat.reduceLT, reduceCtorEq, ↓reduceIte, initS, AV.cellsOf, AV.fine, AV.one, repA, Nat.reduceMul, Nat.reduceAdd, Nat.reduceLeDiff, Nat.reduceEqDiff, Int.reduceToNat, Nat.reduceSub, Nat.reduceMod, Nat.reduceDiv, indexK.aggOf, Int.reducePow, Int.reduceLE, Int.reduceNeg, Int.reduceLT, Int.reduceBEq, Int.reduceBNe, Int.reduceEq, ownA, nilA, Try.facts, kill_box hk, hEE]
      refine draw_t (fun σ F => ∃ b, F = H.set b (.cells (nodeC L G (a, c)) 71 6) ∧ H b = none ∧ σ 0 = .ptr h 0 ∧ σ 3 = .ip [.sc (.int .i64 a), .sc (.int .i64 c)] 0 ∧ σ 5 = .ptr b 0) ?_ ?_
      · simp (disch := omega) only [↓runPre, runPost, fieldO, ixA, cutA, lenA, aggA, rowA, appA, mkA, indA, bnd, srcA, sameOp, funcA, cvO, partA, aggD, ↓PostP, resV, resAll, resOne, resVF, resAllF, resOneF, fitsAll, fitsR, fits, frz, Post, Nat.reduceBEq, Nat.reduceLT, reduceCtorEq, ↓reduceIte, initS, AV.cellsOf, AV.fine, AV.one, repA, Nat.reduceMul, Nat.reduceAdd, Nat.reduceLeDiff, Nat.reduceEqDiff, Int.reduceToNat, Nat.reduceSub, Nat.reduceMod, Nat.reduceDiv, indexK.aggOf, Int.reducePow, Int.reduceLE, Int.reduceNeg, Int.reduceLT, Int.reduceBEq, Int.reduceBNe, Int.reduceEq, ownA, nilA, Try.facts, hi, hm, hf, hEE, kill_box hk]
        refine ⟨⟨?_, ?_⟩, ?_⟩
        all_goals
          intro b hb0 hb
          have nb1 := ne_live hi hb
          have nb2 := ne_live hm hb
          try simp (disch := omega) only [↓runPre, runPost, fieldO, ixA, cutA, lenA, aggA, rowA, appA, mkA, indA, bnd, srcA, sameOp, funcA, cvO, partA, aggD, ↓PostP, resV, resAll, resOne, resVF, resAllF, resOneF, fitsAll, fitsR, fits, frz, Post, Nat.reduceBEq, Nat.reduceLT, reduceCtorEq, ↓reduceIte, initS, AV.cellsOf, AV.fine, AV.one, repA, Nat.reduceMul, Nat.reduceAdd, Nat.reduceLeDiff, Nat.reduceEqDiff, Int.reduceToNat, Nat.reduceSub, Nat.reduceMod, Nat.reduceDiv, indexK.aggOf, Int.reducePow, Int.reduceLE, Int.reduceNeg, Int.reduceLT, Int.reduceBEq, Int.reduceBNe, Int.reduceEq, ownA, nilA, Try.facts, hi, hm, hf, set_other, putCells_eq]
          exact ⟨b, rfl, hb, rfl⟩
      · rintro σ F ⟨b, rfl, hb, s0, s3, s5⟩
        have nb1 := ne_live hi hb
        have nb2 := ne_live hm hb
        simp (disch := omega) only [↓runPre, runPost, fieldO, ixA, cutA, lenA, aggA, rowA, appA, mkA, indA, bnd, srcA, sameOp, funcA, cvO, partA, aggD, ↓PostP, resV, resAll, resOne, resVF, resAllF, resOneF, fitsAll, fitsR, fits, frz, Post, Nat.reduceBEq, Nat.reduceLT, reduceCtorEq, ↓reduceIte, initS, AV.cellsOf, AV.fine, AV.one, repA, Nat.reduceMul, Nat.reduceAdd, Nat.reduceLeDiff, Nat.reduceEqDiff, Int.reduceToNat, Nat.reduceSub, Nat.reduceMod, Nat.reduceDiv, indexK.aggOf, Int.reducePow, Int.reduceLE, Int.reduceNeg, Int.reduceLT, Int.reduceBEq, Int.reduceBNe, Int.reduceEq, ownA, nilA, Try.facts, s0, s3, s5, hi, hm, set_other, hgone, hf, hget, plain_id, hed', putCells_eq, hw]
        first
          | exact ⟨_, rfl, H, Sub.set_new hb, rfl, t, fun _ _ _ => rfl⟩
          | exact ⟨_, rfl, _, (Sub.set_new hb).mset.mset, rfl, fin hd, fun y h1 h2 => by rw [set_other h1, set_other h2]⟩
  · rw [dF hin] at hh
    rw [if_pos hin] at hR
    rw [hR]
    obtain ⟨a, c⟩ := x
    refine acalls_of_cwp (c := ⟨Try.prog, 34, [(3, [0, 0, 0, 0, 0, 0, 2, 2]), (7, [0, 0, 0, 1, 1, 1, 2]), (1000000, [3])], [], [(3, (.op 0 0 (.op 1 0 (.op 2 0 (.op 4 0 (.or (.op 3 2 (.or (.op 5 2 (.op 6 2 (.op 7 2 .nil))) (.op 6 2 (.op 5 2 (.op 7 2 .nil))))) (.op 6 2 (.op 3 2 (.op 5 2 (.op 7 2 .nil))))))))))]⟩) (rs := [ResultVar.tmp 4]) Try.mixed Try.func33 rfl rfl rfl (Nat.le_of_ble_eq_true rfl) (by kernel_rfl) ?_
    simp (disch := omega) only [↓runPre, runPost, fieldO, ixA, cutA, lenA, aggA, rowA, appA, mkA, indA, bnd, srcA, sameOp, funcA, cvO, partA, aggD, ↓PostP, resV, resAll, resOne, resVF, resAllF, resOneF, fitsAll, fitsR, fits, frz, Post, Nat.reduceBEq, Nat.reduceLT, reduceCtorEq, ↓reduceIte, initS, AV.cellsOf, AV.fine, AV.one, repA, Nat.reduceMul, Nat.reduceAdd, Nat.reduceLeDiff, Nat.reduceEqDiff, Int.reduceToNat, Nat.reduceSub, Nat.reduceMod, Nat.reduceDiv, indexK.aggOf, Int.reducePow, Int.reduceLE, Int.reduceNeg, Int.reduceLT, Int.reduceBEq, Int.reduceBNe, Int.reduceEq, ownA, nilA, Try.facts]
    intro k hk0 hk
    try simp (disch := omega) only [↓runPre, runPost, fieldO, ixA, cutA, lenA, aggA, rowA, appA, mkA, indA, bnd, srcA, sameOp, funcA, cvO, partA, aggD, ↓PostP, resV, resAll, resOne, resVF, resAllF, resOneF, fitsAll, fitsR, fits, frz, Post, Nat.reduceBEq, Nat.reduceLT, reduceCtorEq, ↓reduceIte, initS, AV.cellsOf, AV.fine, AV.one, repA, Nat.reduceMul, Nat.reduceAdd, Nat.reduceLeDiff, Nat.reduceEqDiff, Int.reduceToNat, Nat.reduceSub, Nat.reduceMod, Nat.reduceDiv, indexK.aggOf, Int.reducePow, Int.reduceLE, Int.reduceNeg, Int.reduceLT, Int.reduceBEq, Int.reduceBNe, Int.reduceEq, ownA, nilA, Try.facts, kill_box hk]
    refine CallK.i hh ?_
    rintro v E' ⟨rfl, hEE⟩
    simp (disch := omega) only [↓runPre, runPost, fieldO, ixA, cutA, lenA, aggA, rowA, appA, mkA, indA, bnd, srcA, sameOp, funcA, cvO, partA, aggD, ↓PostP, resV, resAll, resOne, resVF, resAllF, resOneF, fitsAll, fitsR, fits, frz, Post, Nat.reduceBEq, Nat.reduceLT, reduceCtorEq, ↓reduceIte, initS, AV.cellsOf, AV.fine, AV.one, repA, Nat.reduceMul, Nat.reduceAdd, Nat.reduceLeDiff, Nat.reduceEqDiff, Int.reduceToNat, Nat.reduceSub, Nat.reduceMod, Nat.reduceDiv, indexK.aggOf, Int.reducePow, Int.reduceLE, Int.reduceNeg, Int.reduceLT, Int.reduceBEq, Int.reduceBNe, Int.reduceEq, ownA, nilA, Try.facts, kill_box hk, hEE]
    exact ⟨_, rfl, H, Abs.Sub.refl _, rfl, t, fun _ _ _ => rfl⟩

/-- a step -/
structure DoT where
  kind : Int
  ins : Ins
  drop : EId
def doC (k : DoT) : List AV := .sc (.int .i64 k.kind) :: (insC k.ins ++ [.sc (.int .i64 k.drop.1), .sc (.int .i64 k.drop.2)])
def stepL (k : DoT) (s : List Ins × List EId) : List Ins × List EId := if k.kind = 0 then (s.1, (dropG s.1 s.2 k.drop).1) else ((addL s.1 k.ins).1, s.2)
def BothR (H : AH) (h m : Nat) (s : List Ins × List EId) (v : AV) (H' : AH) : Prop :=
  v = .tup [treeV s.1 s.2, .sc (.bool true)] ∧ IsT H' h m s.1 s.2 ∧ ∀ y, y ≠ h → y ≠ m → ∀ o, H y = some o → H' y = some o
theorem IsT.put {H : AH} {h m : Nat} {L : List Ins} {G : List EId} (t : IsT H h m L G) {b : Nat} {o : AObj} (h1 : ¬ h = b) (h2 : ¬ m = b) : IsT (H.set b o) h m L G :=
  ⟨by rw [set_other h1]; exact t.hi, ⟨t.ord, t.perm, by rw [set_other h2]; exact t.hm⟩, t.g, t.gs, t.gn, t.small⟩
theorem IsT.mono {H H' : AH} {h m : Nat} {L : List Ins} {G : List EId} (t : IsT H h m L G) (hs : Abs.Sub H H') : IsT H' h m L G :=
  ⟨hs _ _ t.hi, ⟨t.ord, t.perm, hs _ _ t.hm⟩, t.g, t.gs, t.gn, t.small⟩
theorem both_live (H : AH) (h m : Nat) (L : List Ins) (G : List EId) (k : DoT) (t : IsT H h m L G) : ACalls Try.prog 13 [.ptr h 0, treeV L G, .agg (doC k)] H (BothR H h m (stepL k (L, G))) := by
  have hs := t.small
  have hgl := t.gl
  have hi := t.hi
  have hm := t.hm
  by_cases hk : k.kind = 0
  · have hR : stepL k (L, G) = (L, (dropG L G k.drop).1) := by unfold stepL; rw [if_pos hk]
    have h1 := rdrop_pure L G k.drop (by omega) (by omega)
    have h2 := fun (H' : AH) (t : IsT H' h m L G) => drop_live H' h m L G k.drop t
    unfold DropR at h2
    rw [hR]
    unfold BothR
    obtain ⟨kd, ⟨⟨a, c⟩, ⟨pa, pc⟩, ri, ru⟩, ⟨x1, x2⟩⟩ := k
    simp only [] at hk h1 h2
    subst hk
    generalize dropG L G (x1, x2) = R at *
    obtain ⟨G', e⟩ := R
    simp only [doC, insC, List.cons_append, List.nil_append] at h1 h2 ⊢
    refine acalls_of_cwp (c := ⟨Try.prog, 43, [(2000003, [0, 1, 2, 3, 5, 4, 6, 7, 8]), (3, [0, 0, 0, 1, 0, 2, 0, 2, 0]), (2000005, [0, 1, 2, 3, 5, 4, 6, 7, 8]), (5, [0, 0, 0, 1, 0, 2, 0, 2, 0]), (1000000, [5, 4]), (1000002, [8]), (1000004, [10])], [], []⟩) (rs := [ResultVar.cell 6 29, ResultVar.tmp 7]) Try.mixed Try.func13 rfl rfl rfl (Nat.le_of_ble_eq_true rfl) (by kernel_rfl) ?_
    simp (disch := omega) only [↓runPre, runPost, fieldO, ixA, cutA, lenA, aggA, rowA, appA, mkA, indA, bnd, srcA, sameOp, funcA, cvO, partA, aggD, ↓PostP, resV, resAll, resOne, resVF, resAllF, resOneF, fitsAll, fitsR, fits, frz, Post, Nat.reduceBEq, Nat.reduceLT, reduceCtorEq, ↓reduceIte, initS, AV.cellsOf, AV.fine, AV.one, repA, Nat.reduceMul, Nat.reduceAdd, Nat.reduceLeDiff, Nat.reduceEqDiff, Int.reduceToNat, Nat.reduceSub, Nat.reduceMod, Nat.reduceDiv, indexK.aggOf, Int.reducePow, Int.reduceLE, Int.reduceNeg, Int.reduceLT, Int.reduceBEq, Int.reduceBNe, Int.reduceEq, ownA, nilA, Try.facts]
    intro k1 hk10 hk1 k2 hk20 hk2 k3 hk30 hk3
    have n23 := set_ne hk3
    have n13 := set_ne (subset_set hk3)
    have hkH := subset_set (subset_set hk3)
    have nh := ne_live hi hkH
    have nm := ne_live hm hkH
    have h2' := h2 _ (t.put (b := k3) (o := .cells [.sc (.slice none 0 0), .sc (.slice none 0 0)] 29 2) nh nm)
    simp (disch := omega) only [↓runPre, runPost, fieldO, ixA, cutA, lenA, aggA, rowA, appA, mkA, indA, bnd, srcA, sameOp, funcA, cvO, partA, aggD, ↓PostP, resV, resAll, resOne, resVF, resAllF, resOneF, fitsAll, fitsR, fits, frz, Post, Nat.reduceBEq, Nat.reduceLT, reduceCtorEq, ↓reduceIte, initS, AV.cellsOf, AV.fine, AV.one, repA, Nat.reduceMul, Nat.reduceAdd, Nat.reduceLeDiff, Nat.reduceEqDiff, Int.reduceToNat, Nat.reduceSub, Nat.reduceMod, Nat.reduceDiv, indexK.aggOf, Int.reducePow, Int.reduceLE, Int.reduceNeg, Int.reduceLT, Int.reduceBEq, Int.reduceBNe, Int.reduceEq, ownA, nilA, Try.facts, set_other, kill_under hk2 n23, kill_under hk1 n13, dT, dF, qT, qF, nT, nF, Bool.false_and, Bool.and_false, beq_self_eq_true]
    first | refine CallK.p (h1) ?_ | refine CallP.i (h1) ?_
    simp (disch := omega) only [↓runPre, runPost, fieldO, ixA, cutA, lenA, aggA, rowA, appA, mkA, indA, bnd, srcA, sameOp, funcA, cvO, partA, aggD, ↓PostP, resV, resAll, resOne, resVF, resAllF, resOneF, fitsAll, fitsR, fits, frz, Post, Nat.reduceBEq, Nat.reduceLT, reduceCtorEq, ↓reduceIte, initS, AV.cellsOf, AV.fine, AV.one, repA, Nat.reduceMul, Nat.reduceAdd, Nat.reduceLeDiff, Nat.reduceEqDiff, Int.reduceToNat, Nat.reduceSub, Nat.reduceMod, Nat.reduceDiv, indexK.aggOf, Int.reducePow, Int.reduceLE, Int.reduceNeg, Int.reduceLT, Int.reduceBEq, Int.reduceBNe, Int.reduceEq, ownA, nilA, Try.facts, putCells_eq]
    intro b hb0 hb
    simp (disch := omega) only [↓runPre, runPost, fieldO, ixA, cutA, lenA, aggA, rowA, appA, mkA, indA, bnd, srcA, sameOp, funcA, cvO, partA, aggD, ↓PostP, resV, resAll, resOne, resVF, resAllF, resOneF, fitsAll, fitsR, fits, frz, Post, Nat.reduceBEq, Nat.reduceLT, reduceCtorEq, ↓reduceIte, initS, AV.cellsOf, AV.fine, AV.one, repA, Nat.reduceMul, Nat.reduceAdd, Nat.reduceLeDiff, Nat.reduceEqDiff, Int.reduceToNat, Nat.reduceSub, Nat.reduceMod, Nat.reduceDiv, indexK.aggOf, Int.reducePow, Int.reduceLE, Int.reduceNeg, Int.reduceLT, Int.reduceBEq, Int.reduceBNe, Int.reduceEq, ownA, nilA, Try.facts, kill_box hb, putCells_eq]
    refine CallK.i h2' ?_
    rintro v H2 ⟨rfl, t2, fr⟩
    have v3 : H2 k3 = some _ := (fr k3 (fun e => nh e.symm) (fun e => nm e.symm)).trans set_get
    simp (disch := omega) only [↓runPre, runPost, fieldO, ixA, cutA, lenA, aggA, rowA, appA, mkA, indA, bnd, srcA, sameOp, funcA, cvO, partA, aggD, ↓PostP, resV, resAll, resOne, resVF, resAllF, resOneF, fitsAll, fitsR, fits, frz, Post, Nat.reduceBEq, Nat.reduceLT, reduceCtorEq, ↓reduceIte, initS, AV.cellsOf, AV.fine, AV.one, repA, Nat.reduceMul, Nat.reduceAdd, Nat.reduceLeDiff, Nat.reduceEqDiff, Int.reduceToNat, Nat.reduceSub, Nat.reduceMod, Nat.reduceDiv, indexK.aggOf, Int.reducePow, Int.reduceLE, Int.reduceNeg, Int.reduceLT, Int.reduceBEq, Int.reduceBNe, Int.reduceEq, ownA, nilA, Try.facts, putCells_eq, v3, beq_self_eq_true]
    refine ⟨_, rfl, _, Abs.Sub.refl _, rfl, t2.put nh nm, fun y h1 h2 o ho => ?_⟩
    have ny := ne_live ho hkH
    rw [set_other ny, fr y h1 h2, set_other ny]
    exact ho
  · have hR : stepL k (L, G) = ((addL L k.ins).1, G) := by unfold stepL; rw [if_neg hk]
    have h1 := radd_pure L G k.ins (by omega) (by omega)
    have h2 := fun (H' : AH) (t : IsT H' h m L G) => add_live H' h m L G k.ins t
    unfold AddR at h2
    rw [hR]
    unfold BothR
    obtain ⟨kd, ⟨⟨a, c⟩, ⟨pa, pc⟩, ri, ru⟩, ⟨x1, x2⟩⟩ := k
    simp only [] at hk h1 h2
    generalize addL L ⟨(a, c), (pa, pc), ri, ru⟩ = R at *
    obtain ⟨L', e⟩ := R
    simp only [doC, insC, List.cons_append, List.nil_append] at h1 h2 ⊢
    refine acalls_of_cwp (c := ⟨Try.prog, 43, [(2000003, [0, 1, 2, 3, 5, 4, 6, 7, 8]), (3, [0, 0, 0, 1, 0, 2, 0, 2, 0]), (2000005, [0, 1, 2, 3, 5, 4, 6, 7, 8]), (5, [0, 0, 0, 1, 0, 2, 0, 2, 0]), (1000000, [5, 4]), (1000002, [8]), (1000004, [10])], [], []⟩) (rs := [ResultVar.cell 6 29, ResultVar.tmp 7]) Try.mixed Try.func13 rfl rfl rfl (Nat.le_of_ble_eq_true rfl) (by kernel_rfl) ?_
    simp (disch := omega) only [↓runPre, runPost, fieldO, ixA, cutA, lenA, aggA, rowA, appA, mkA, indA, bnd, srcA, sameOp, funcA, cvO, partA, aggD, ↓PostP, resV, resAll, resOne, resVF, resAllF, resOneF, fitsAll, fitsR, fits, frz, Post, Nat.reduceBEq, Nat.reduceLT, reduceCtorEq, ↓reduceIte, initS, AV.cellsOf, AV.fine, AV.one, repA, Nat.reduceMul, Nat.reduceAdd, Nat.reduceLeDiff, Nat.reduceEqDiff, Int.reduceToNat, Nat.reduceSub, Nat.reduceMod, Nat.reduceDiv, indexK.aggOf, Int.reducePow, Int.reduceLE, Int.reduceNeg, Int.reduceLT, Int.reduceBEq, Int.reduceBNe, Int.reduceEq, ownA, nilA, Try.facts]
    intro k1 hk10 hk1 k2 hk20 hk2 k3 hk30 hk3
    have n23 := set_ne hk3
    have n13 := set_ne (subset_set hk3)
    have hkH := subset_set (subset_set hk3)
    have nh := ne_live hi hkH
    have nm := ne_live hm hkH
    have h2' := h2 _ (t.put (b := k3) (o := .cells [.sc (.slice none 0 0), .sc (.slice none 0 0)] 29 2) nh nm)
    simp (disch := omega) only [↓runPre, runPost, fieldO, ixA, cutA, lenA, aggA, rowA, appA, mkA, indA, bnd, srcA, sameOp, funcA, cvO, partA, aggD, ↓PostP, resV, resAll, resOne, resVF, resAllF, resOneF, fitsAll, fitsR, fits, frz, Post, Nat.reduceBEq, Nat.reduceLT, reduceCtorEq, ↓reduceIte, initS, AV.cellsOf, AV.fine, AV.one, repA, Nat.reduceMul, Nat.reduceAdd, Nat.reduceLeDiff, Nat.reduceEqDiff, Int.reduceToNat, Nat.reduceSub, Nat.reduceMod, Nat.reduceDiv, indexK.aggOf, Int.reducePow, Int.reduceLE, Int.reduceNeg, Int.reduceLT, Int.reduceBEq, Int.reduceBNe, Int.reduceEq, ownA, nilA, Try.facts, set_other, kill_under hk2 n23, kill_under hk1 n13, dT, dF, qT, qF, nT, nF, Bool.false_and, Bool.and_false, beq_self_eq_true]
    first | refine CallK.p (h1) ?_ | refine CallP.i (h1) ?_
    simp (disch := omega) only [↓runPre, runPost, fieldO, ixA, cutA, lenA, aggA, rowA, appA, mkA, indA, bnd, srcA, sameOp, funcA, cvO, partA, aggD, ↓PostP, resV, resAll, resOne, resVF, resAllF, resOneF, fitsAll, fitsR, fits, frz, Post, Nat.reduceBEq, Nat.reduceLT, reduceCtorEq, ↓reduceIte, initS, AV.cellsOf, AV.fine, AV.one, repA, Nat.reduceMul, Nat.reduceAdd, Nat.reduceLeDiff, Nat.reduceEqDiff, Int.reduceToNat, Nat.reduceSub, Nat.reduceMod, Nat.reduceDiv, indexK.aggOf, Int.reducePow, Int.reduceLE, Int.reduceNeg, Int.reduceLT, Int.reduceBEq, Int.reduceBNe, Int.reduceEq, ownA, nilA, Try.facts, putCells_eq]
    intro b hb0 hb
    simp (disch := omega) only [↓runPre, runPost, fieldO, ixA, cutA, lenA, aggA, rowA, appA, mkA, indA, bnd, srcA, sameOp, funcA, cvO, partA, aggD, ↓PostP, resV, resAll, resOne, resVF, resAllF, resOneF, fitsAll, fitsR, fits, frz, Post, Nat.reduceBEq, Nat.reduceLT, reduceCtorEq, ↓reduceIte, initS, AV.cellsOf, AV.fine, AV.one, repA, Nat.reduceMul, Nat.reduceAdd, Nat.reduceLeDiff, Nat.reduceEqDiff, Int.reduceToNat, Nat.reduceSub, Nat.reduceMod, Nat.reduceDiv, indexK.aggOf, Int.reducePow, Int.reduceLE, Int.reduceNeg, Int.reduceLT, Int.reduceBEq, Int.reduceBNe, Int.reduceEq, ownA, nilA, Try.facts, kill_box hb, putCells_eq]
    refine CallK.i h2' ?_
    rintro v H2 ⟨rfl, t2, fr⟩
    have v3 : H2 k3 = some _ := (fr k3 (fun e => nm e.symm)).trans set_get
    simp (disch := omega) only [↓runPre, runPost, fieldO, ixA, cutA, lenA, aggA, rowA, appA, mkA, indA, bnd, srcA, sameOp, funcA, cvO, partA, aggD, ↓PostP, resV, resAll, resOne, resVF, resAllF, resOneF, fitsAll, fitsR, fits, frz, Post, Nat.reduceBEq, Nat.reduceLT, reduceCtorEq, ↓reduceIte, initS, AV.cellsOf, AV.fine, AV.one, repA, Nat.reduceMul, Nat.reduceAdd, Nat.reduceLeDiff, Nat.reduceEqDiff, Int.reduceToNat, Nat.reduceSub, Nat.reduceMod, Nat.reduceDiv, indexK.aggOf, Int.reducePow, Int.reduceLE, Int.reduceNeg, Int.reduceLT, Int.reduceBEq, Int.reduceBNe, Int.reduceEq, ownA, nilA, Try.facts, putCells_eq, v3, beq_self_eq_true]
    refine ⟨_, rfl, _, Abs.Sub.refl _, rfl, t2.put nh nm, fun y h1 h2 o ho => ?_⟩
    have ny := ne_live ho hkH
    rw [set_other ny, fr y h2, set_other ny]
    exact ho
end Go.Proofs.Ytpmmafmbjconiaa
