/-
  The walks of the fugue layer: an element is added, where it may be.
  Conditions: none. Lemmas only.
-/
import Derived.Test.YtpmmafmbjconiaaFugI
set_option linter.all false
set_option linter.unusedSimpArgs false
set_option linter.unusedVariables false
set_option maxRecDepth 8000
set_option maxHeartbeats 4000000
namespace Go.Proofs.Ytpmmafmbjconiaa
open Go Go.Abs Go.Proofs Go.Fug
theorem ents_get {I : List EId} {f : EId → AV} {x : EId} (h : x ∈ I) : (entsOf I f)[I.idxOf x]? = some (idV x, f x) := by
  have hl : I.idxOf x < I.length := List.idxOf_lt_length_iff.2 h
  unfold entsOf
  rw [List.getElem?_map, List.getElem?_eq_getElem hl, List.getElem_idxOf hl]
  rfl
theorem plain_id (a c : Int) : plainA (.agg [.sc (.int .i64 a), .sc (.int .i64 c)]) = true := rfl
theorem add_par (H : AH) (h m : Nat) (L : List Ins) (G : List EId) (i : Ins) (t : IsT H h m L G) (hok : okI i = true) (hin : i.id ∉ L.map (·.id)) (hp : i.par ∈ idsOf L) : ACalls Try.prog 31 [.ptr h 0, .agg (insC i)] H (AddR H h m L G i) := by
  have hpr0 : i.par = root ∨ i.par ∈ L.map (·.id) := by
    by_cases e : i.par = root
    · exact .inl e
    · exact .inr ((mem_idsOf e).1 hp)
  have hidr : i.id ≠ root := okI_ne hok
  have hidn : i.id ∉ idsOf L := fun e => hin ((mem_idsOf hidr).1 e)
  have hpid : i.par ≠ i.id := fun e => hidn (by rw [← e]; exact hp)
  have hR : addL L i = if L.length = 4096 then (L, 14) else (L ++ [i], 0) := by
    unfold addL
    rw [if_neg (by rw [hok]; simp), if_neg hin, if_neg]
    rintro ⟨h1, h2⟩
    rcases hpr0 with e | e
    · exact h1 e
    · exact h2 e
  have h0 := right_pure i
  have hh := has_live H h m L G i.id t
  rw [dF hin] at hh
  have hok' := hok
  rw [okI_R, Bool.and_eq_true] at hok
  rw [hok.1] at h0
  have hpr := hok.2
  have hpo := t.ord_mem.2 hp
  have hidno : i.id ∉ t.ord := fun e => hidn (t.ord_mem.1 e)
  have hf := find_ids (nodeA L G) i.par t.ord 0
  rw [if_pos hpo] at hf
  have hget := ents_get (f := nodeA L G) hpo
  have hidG : i.id ∉ G := fun e => hin (t.gs _ e)
  have hep := ents_par (L := L) (G := G) t.ord_nodup hidno hpo
  have hen := ents_new (I := t.ord) (f := nodeA (L ++ [i]) G) (x := i.id)
  rw [nodeA_new t.g hidr hin hpid hidG] at hen
  have hf2 := find_ids (nodeA (L ++ [i]) G) i.id t.ord 0
  rw [if_neg hidno] at hf2
  have hel : (entsOf t.ord (nodeA L G)).length = L.length + 1 := by rw [entsOf, List.length_map, t.perm.length_eq, idsOf_length]
  have hi := t.hi
  have hm := t.hm
  have hne := t.hmne
  have hsmall := t.small
  have hput := fun r => put_pure (kids L i.par r) i.id (Nat.le_trans (kids_length L _ _) (by omega))
  have hks := fun r => kids_snoc L i i.par r
  have hsd := side_pure i.right
  have hkc0 := idsC_length (kids L i.par false)
  have hkc1 := idsC_length (kids L i.par true)
  have hnd : ndOf (L ++ [i]) G i.par = ndOf L G i.par := ndOf_snoc hpid
  have fin : L.length ≠ 4096 → IsT (H.set m (.map (entsOf (t.ord ++ [i.id]) (nodeA (L ++ [i]) G)))) h m (L ++ [i]) G := fun hl =>
    ⟨by rw [set_other hne]; exact hi, ⟨t.ord ++ [i.id], (t.perm.append_right _).trans (by simp [idsOf]), set_get⟩, t.g.snoc hok' hin hpr0, fun x hx => by rw [List.map_append]; exact List.mem_append_left _ (t.gs x hx), t.gn, by rw [List.length_append]; simp only [List.length_singleton]; omega⟩
  unfold nodeA nodeC at hep
  rw [hnd] at hep
  unfold AddR
  obtain ⟨⟨a, c⟩, ⟨pa, pc⟩, ri, ru⟩ := i
  simp only [insC] at h0 hh hf hpr hget hen hf2 hep hput hks hsd hkc0 hkc1 ⊢
  simp only [hks, true_and] at hep
  generalize (L ++ [(⟨(a, c), (pa, pc), ri, ru⟩ : Ins)]) = L' at *
  generalize hE : entsOf t.ord (nodeA L G) = E at *
  generalize hE1 : entsOf t.ord (nodeA L' G) = E1 at *
  generalize hE2 : entsOf (t.ord ++ [(a, c)]) (nodeA L' G) = E2 at *
  generalize t.ord.idxOf (pa, pc) = ix at *
  clear hpo hidno
  have hpo : (pa = 0 ∧ pc = 0) ∨ pa ≠ 0 ∨ (pa = 0 ∧ pc ≠ 0) := by omega
  have hrr : (pa = 0 ∧ pc = 0) → ri = true := fun e => by obtain ⟨rfl, rfl⟩ := e; cases ri; (simp [root] at hpr); rfl
  clear hpr hks hnd hpid hidn hidr hidG hin hpr0 hp
  obtain ⟨r0, hr0⟩ : ∃ r0 : Bool, r0 = ri := ⟨_, rfl⟩
  cases ri
  all_goals
    have hputF := hput false
    have hputT := hput true
    simp only [Bool.false_eq_true, Bool.true_eq_false, reduceCtorEq, if_false, if_true, reduceIte] at hep hsd
    clear hput
    have pl1 := idsC_length (putL (kids L (pa, pc) false) (a, c))
    have pl2 := idsC_length (putL (kids L (pa, pc) true) (a, c))
    generalize putL (kids L (pa, pc) false) (a, c) = PF at *
    generalize putL (kids L (pa, pc) true) (a, c) = PT at *
  all_goals
    refine acalls_of_cwp (c := ⟨Try.prog, 78, [(7, [0, 0, 0, 0, 0, 0, 0, 0, 0, 0, 2, 2, 0]), (12, [0, 1, 0, 0, 1, 0, 0, 0, 1, 0, 1, 0, 0, 0, 2]), (13, [0, 0, 0, 1, 0, 1, 1, 2]), (14, [0, 0, 0, 1, 0, 1, 0, 1, 0, 1, 0, 0, 2]), (1000000, [3]), (4000013, [0, 3]), (4000012, [0, 3, 5]), (4000010, [0, 3, 5, 44]), (4000007, [0, 3, 5, 6]), (4000003, [0, 3, 22])], [], [(7, (.op 0 0 (.op 1 0 (.op 2 0 (.op 4 0 (.op 5 0 (.or (.op 3 2 (.or (.op 6 2 (.op 7 0 (.op 8 0 (.op 9 0 (.op 10 2 (.op 11 2 (.op 12 0 .nil))))))) (.op 10 2 (.op 6 2 (.op 7 0 (.op 8 0 (.op 9 0 (.op 11 2 (.op 12 0 .nil))))))))) (.op 10 2 (.op 3 2 (.op 6 2 (.op 7 0 (.op 8 0 (.op 9 0 (.op 11 2 (.op 12 0 .nil)))))))))))))))]⟩) (rs := [ResultVar.tmp 4]) Try.mixed Try.func31 rfl rfl rfl (Nat.le_of_ble_eq_true rfl) (by kernel_rfl) ?_
    simp (disch := omega) only [↓runPre, runPost, fieldO, ixA, cutA, lenA, aggA, rowA, appA, mkA, indA, bnd, srcA, sameOp, funcA, cvO, partA, aggD, ↓PostP, resV, resAll, resOne, resVF, resAllF, resOneF, fitsAll, fitsR, fits, frz, Post, Nat.reduceBEq, Nat.reduceLT, reduceCtorEq, ↓reduceIte, initS, AV.cellsOf, AV.fine, AV.one, repA, Nat.reduceMul, Nat.reduceAdd, Nat.reduceLeDiff, Nat.reduceEqDiff, Int.reduceToNat, Nat.reduceSub, Nat.reduceMod, Nat.reduceDiv, indexK.aggOf, Int.reducePow, Int.reduceLE, Int.reduceNeg, Int.reduceLT, Int.reduceBEq, Int.reduceBNe, Int.reduceEq, ownA, nilA, Try.facts]
    intro k hk0 hk
    simp (disch := omega) only [↓runPre, runPost, fieldO, ixA, cutA, lenA, aggA, rowA, appA, mkA, indA, bnd, srcA, sameOp, funcA, cvO, partA, aggD, ↓PostP, resV, resAll, resOne, resVF, resAllF, resOneF, fitsAll, fitsR, fits, frz, Post, Nat.reduceBEq, Nat.reduceLT, reduceCtorEq, ↓reduceIte, initS, AV.cellsOf, AV.fine, AV.one, repA, Nat.reduceMul, Nat.reduceAdd, Nat.reduceLeDiff, Nat.reduceEqDiff, Int.reduceToNat, Nat.reduceSub, Nat.reduceMod, Nat.reduceDiv, indexK.aggOf, Int.reducePow, Int.reduceLE, Int.reduceNeg, Int.reduceLT, Int.reduceBEq, Int.reduceBNe, Int.reduceEq, ownA, nilA, Try.facts, kill_box hk]
    first | refine CallK.p (h0) ?_ | refine CallP.i (h0) ?_
    simp (disch := omega) only [↓runPre, runPost, fieldO, ixA, cutA, lenA, aggA, rowA, appA, mkA, indA, bnd, srcA, sameOp, funcA, cvO, partA, aggD, ↓PostP, resV, resAll, resOne, resVF, resAllF, resOneF, fitsAll, fitsR, fits, frz, Post, Nat.reduceBEq, Nat.reduceLT, reduceCtorEq, ↓reduceIte, initS, AV.cellsOf, AV.fine, AV.one, repA, Nat.reduceMul, Nat.reduceAdd, Nat.reduceLeDiff, Nat.reduceEqDiff, Int.reduceToNat, Nat.reduceSub, Nat.reduceMod, Nat.reduceDiv, indexK.aggOf, Int.reducePow, Int.reduceLE, Int.reduceNeg, Int.reduceLT, Int.reduceBEq, Int.reduceBNe, Int.reduceEq, ownA, nilA, Try.facts]
    rcases hpo with hpo | hpo | hpo
  · exact absurd (hrr hpo) (by simp)
  all_goals
    simp (disch := omega) only [↓runPre, runPost, fieldO, ixA, cutA, lenA, aggA, rowA, appA, mkA, indA, bnd, srcA, sameOp, funcA, cvO, partA, aggD, ↓PostP, resV, resAll, resOne, resVF, resAllF, resOneF, fitsAll, fitsR, fits, frz, Post, Nat.reduceBEq, Nat.reduceLT, reduceCtorEq, ↓reduceIte, initS, AV.cellsOf, AV.fine, AV.one, repA, Nat.reduceMul, Nat.reduceAdd, Nat.reduceLeDiff, Nat.reduceEqDiff, Int.reduceToNat, Nat.reduceSub, Nat.reduceMod, Nat.reduceDiv, indexK.aggOf, Int.reducePow, Int.reduceLE, Int.reduceNeg, Int.reduceLT, Int.reduceBEq, Int.reduceBNe, Int.reduceEq, ownA, nilA, Try.facts, dT, dF, qT, qF, nT, nF, Bool.false_and, Bool.and_false, beq_self_eq_true]
    refine CallK.i hh ?_
    rintro v E' ⟨rfl, hE'⟩
    simp (disch := omega) only [↓runPre, runPost, fieldO, ixA, cutA, lenA, aggA, rowA, appA, mkA, indA, bnd, srcA, sameOp, funcA, cvO, partA, aggD, ↓PostP, resV, resAll, resOne, resVF, resAllF, resOneF, fitsAll, fitsR, fits, frz, Post, Nat.reduceBEq, Nat.reduceLT, reduceCtorEq, ↓reduceIte, initS, AV.cellsOf, AV.fine, AV.one, repA, Nat.reduceMul, Nat.reduceAdd, Nat.reduceLeDiff, Nat.reduceEqDiff, Int.reduceToNat, Nat.reduceSub, Nat.reduceMod, Nat.reduceDiv, indexK.aggOf, Int.reducePow, Int.reduceLE, Int.reduceNeg, Int.reduceLT, Int.reduceBEq, Int.reduceBNe, Int.reduceEq, ownA, nilA, Try.facts, hE']
    refine draw_t (fun σ F => ∃ b, F = H.set b (.cells (nodeC L G (pa, pc)) 71 6) ∧ H b = none ∧ σ 0 = .ptr h 0 ∧ σ 3 = .ip (insC ⟨(a, c), (pa, pc), r0, ru⟩) 0 ∧ σ 5 = .ptr b 0 ∧ σ 6 = .sc (.bool true)) ?_ ?_
    · simp only [insC]
      simp (disch := omega) only [↓runPre, runPost, fieldO, ixA, cutA, lenA, aggA, rowA, appA, mkA, indA, bnd, srcA, sameOp, funcA, cvO, partA, aggD, ↓PostP, resV, resAll, resOne, resVF, resAllF, resOneF, fitsAll, fitsR, fits, frz, Post, Nat.reduceBEq, Nat.reduceLT, reduceCtorEq, ↓reduceIte, initS, AV.cellsOf, AV.fine, AV.one, repA, Nat.reduceMul, Nat.reduceAdd, Nat.reduceLeDiff, Nat.reduceEqDiff, Int.reduceToNat, Nat.reduceSub, Nat.reduceMod, Nat.reduceDiv, indexK.aggOf, Int.reducePow, Int.reduceLE, Int.reduceNeg, Int.reduceLT, Int.reduceBEq, Int.reduceBNe, Int.reduceEq, ownA, nilA, Try.facts, hi, hm, hf, hE']
      refine ⟨⟨?_, ?_⟩, ?_⟩
      all_goals
        intro b hb0 hb
        have nb1 := ne_live hi hb
        have nb2 := ne_live hm hb
        try simp (disch := omega) only [↓runPre, runPost, fieldO, ixA, cutA, lenA, aggA, rowA, appA, mkA, indA, bnd, srcA, sameOp, funcA, cvO, partA, aggD, ↓PostP, resV, resAll, resOne, resVF, resAllF, resOneF, fitsAll, fitsR, fits, frz, Post, Nat.reduceBEq, Nat.reduceLT, reduceCtorEq, ↓reduceIte, initS, AV.cellsOf, AV.fine, AV.one, repA, Nat.reduceMul, Nat.reduceAdd, Nat.reduceLeDiff, Nat.reduceEqDiff, Int.reduceToNat, Nat.reduceSub, Nat.reduceMod, Nat.reduceDiv, indexK.aggOf, Int.reducePow, Int.reduceLE, Int.reduceNeg, Int.reduceLT, Int.reduceBEq, Int.reduceBNe, Int.reduceEq, ownA, nilA, Try.facts, hi, hm, hf, set_other, putCells_eq]
        refine ⟨b, rfl, hb, ?_⟩
        simp [hr0]
    · rintro σ F ⟨b, rfl, hb, s0, s3, s5, s6⟩
      simp only [insC, hr0] at s3
      have nb1 := ne_live hi hb
      have nb2 := ne_live hm hb
      by_cases h96 : L.length = 4096
      · rw [if_pos h96] at hR
        rw [hR]
        simp (disch := omega) only [↓runPre, runPost, fieldO, ixA, cutA, lenA, aggA, rowA, appA, mkA, indA, bnd, srcA, sameOp, funcA, cvO, partA, aggD, ↓PostP, resV, resAll, resOne, resVF, resAllF, resOneF, fitsAll, fitsR, fits, frz, Post, Nat.reduceBEq, Nat.reduceLT, reduceCtorEq, ↓reduceIte, initS, AV.cellsOf, AV.fine, AV.one, repA, Nat.reduceMul, Nat.reduceAdd, Nat.reduceLeDiff, Nat.reduceEqDiff, Int.reduceToNat, Nat.reduceSub, Nat.reduceMod, Nat.reduceDiv, indexK.aggOf, Int.reducePow, Int.reduceLE, Int.reduceNeg, Int.reduceLT, Int.reduceBEq, Int.reduceBNe, Int.reduceEq, ownA, nilA, Try.facts, s0, s3, s5, s6, hi, hm, set_other, hel, dT, dF, qT, qF, nT, nF, Bool.false_and, Bool.and_false]
        exact ⟨_, rfl, H, Sub.set_new hb, rfl, t, fun _ _ => rfl⟩
      · rw [if_neg h96] at hR
        rw [hR]
        simp (disch := omega) only [↓runPre, runPost, fieldO, ixA, cutA, lenA, aggA, rowA, appA, mkA, indA, bnd, srcA, sameOp, funcA, cvO, partA, aggD, ↓PostP, resV, resAll, resOne, resVF, resAllF, resOneF, fitsAll, fitsR, fits, frz, Post, Nat.reduceBEq, Nat.reduceLT, reduceCtorEq, ↓reduceIte, initS, AV.cellsOf, AV.fine, AV.one, repA, Nat.reduceMul, Nat.reduceAdd, Nat.reduceLeDiff, Nat.reduceEqDiff, Int.reduceToNat, Nat.reduceSub, Nat.reduceMod, Nat.reduceDiv, indexK.aggOf, Int.reducePow, Int.reduceLE, Int.reduceNeg, Int.reduceLT, Int.reduceBEq, Int.reduceBNe, Int.reduceEq, ownA, nilA, Try.facts, s0, s3, s5, s6, hi, hm, set_other, hel, dT, dF, qT, qF, nT, nF, Bool.false_and, Bool.and_false]
        repeat first
          | refine CallP.i hsd ?_
          | refine CallP.i hputF ?_
          | refine CallP.i hputT ?_
          | simp (disch := omega) only [↓runPre, runPost, fieldO, ixA, cutA, lenA, aggA, rowA, appA, mkA, indA, bnd, srcA, sameOp, funcA, cvO, partA, aggD, ↓PostP, resV, resAll, resOne, resVF, resAllF, resOneF, fitsAll, fitsR, fits, frz, Post, Nat.reduceBEq, Nat.reduceLT, reduceCtorEq, ↓reduceIte, initS, AV.cellsOf, AV.fine, AV.one, repA, Nat.reduceMul, Nat.reduceAdd, Nat.reduceLeDiff, Nat.reduceEqDiff, Int.reduceToNat, Nat.reduceSub, Nat.reduceMod, Nat.reduceDiv, indexK.aggOf, Int.reducePow, Int.reduceLE, Int.reduceNeg, Int.reduceLT, Int.reduceBEq, Int.reduceBNe, Int.reduceEq, ownA, nilA, Try.facts, s0, s3, s5, s6, hi, hm, set_other, hel, dT, dF, qT, qF, nT, nF, Bool.false_and, Bool.and_false, putCells_eq, hf, hget, plain_id, hep, hf2, hen]
        exact ⟨_, rfl, H.set m (.map E2), (Sub.set_new hb).mset, rfl, fin h96, fun x hx => set_other hx⟩
theorem add_live (H : AH) (h m : Nat) (L : List Ins) (G : List EId) (i : Ins) (t : IsT H h m L G) : ACalls Try.prog 31 [.ptr h 0, .agg (insC i)] H (AddR H h m L G i) := by
  cases ok : okI i with
  | false => exact add_arg H h m L G i t ok
  | true =>
    by_cases h1 : i.id ∈ L.map (·.id)
    · exact add_there H h m L G i t ok h1
    · by_cases h2 : i.par ∈ idsOf L
      · exact add_par H h m L G i t ok h1 h2
      · exact add_none H h m L G i t ok h1 h2
end Go.Proofs.Ytpmmafmbjconiaa
