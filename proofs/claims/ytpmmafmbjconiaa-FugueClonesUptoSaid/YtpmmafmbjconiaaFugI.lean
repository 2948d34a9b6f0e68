/-
  The walks of the fugue layer: an element is added.
  Conditions: none. Lemmas only.
-/
import Derived.Test.YtpmmafmbjconiaaFugH
set_option linter.all false
set_option linter.unusedSimpArgs false
set_option linter.unusedVariables false
set_option maxRecDepth 8000
set_option maxHeartbeats 4000000
namespace Go.Proofs.Ytpmmafmbjconiaa
open Go Go.Abs Go.Proofs Go.Fug

theorem map_set {β : Type} {g g' : EId → β} {p : EId} : ∀ (I : List EId), I.Nodup → p ∈ I → (∀ y ∈ I, y ≠ p → g' y = g y) → (I.map g).set (I.idxOf p) (g' p) = I.map g'
  | [], _, h, _ => by cases h
  | y :: I, hn, hp, he => by
    obtain ⟨h1, h2⟩ := List.nodup_cons.1 hn
    by_cases e : y = p
    · subst e
      simp only [List.idxOf_cons_self, List.map_cons, List.set_cons_zero]
      congr 1
      refine List.map_congr_left fun z hz => (he z (by simp [hz]) (fun e => h1 (e ▸ hz))).symm
    · have hb : (y == p) = false := by simpa using e
      have hp' : p ∈ I := by
        rcases List.mem_cons.1 hp with h | h
        · exact absurd h.symm e
        · exact h
      rw [List.idxOf_cons, hb]
      simp only [cond_false, List.map_cons, List.set_cons_succ]
      rw [map_set I h2 hp' fun z hz => he z (by simp [hz]), he y (by simp) e]
theorem idsOf_nodup {L : List Ins} (g : Fug.Good L) : (idsOf L).Nodup := List.nodup_cons.2 ⟨Good.root_no g, g.nd⟩
theorem ndOf_snoc {L : List Ins} {G : List EId} {i : Ins} {y : EId} (h : y ≠ i.id) : ndOf (L ++ [i]) G y = ndOf L G y := by
  unfold ndOf
  rw [List.find?_append]
  have : ([i].find? fun j => decide (j.id = y)) = none := by simp; exact fun e => h e.symm
  rw [this]
  cases L.find? fun j => decide (j.id = y) <;> rfl
theorem nodeA_other {L : List Ins} {G : List EId} {i : Ins} {y : EId} (h : y ≠ i.id) (hp : y ≠ i.par) : nodeA (L ++ [i]) G y = nodeA L G y := by
  unfold nodeA nodeC
  rw [ndOf_snoc h, kids_snoc, kids_snoc, if_neg (fun e => hp e.1.symm), if_neg (fun e => hp e.1.symm)]
theorem no_kids {L : List Ins} (g : Fug.Good L) {x : EId} (hr : x ≠ root) (h : x ∉ L.map (·.id)) (r : Bool) : kids L x r = [] := by
  cases e : kids L x r with
  | nil => rfl
  | cons y l =>
    obtain ⟨j, hj, -, hp, -⟩ := mem_kids.1 (show y ∈ kids L x r by rw [e]; simp)
    obtain ⟨k, hk, rfl⟩ := List.mem_iff_getElem.1 hj
    rcases g.up k hk with h1 | ⟨q, hq, h1⟩
    · exact absurd (hp.symm.trans h1) hr
    · exact absurd (List.mem_map.2 ⟨_, List.getElem_mem _, h1.trans hp⟩) h
theorem nodeA_new {L : List Ins} {G : List EId} {i : Ins} (g : Fug.Good L) (hr : i.id ≠ root) (h : i.id ∉ L.map (·.id)) (hp : i.par ≠ i.id) (hG : i.id ∉ G) :
    nodeA (L ++ [i]) G i.id = .agg [.sc (.int .i64 i.id.1), .sc (.int .i64 i.id.2), .sc (.int .i32 i.rune), .sc (.bool false), .imm 0 [] 0, .imm 0 [] 0] := by
  unfold nodeA nodeC
  rw [kids_snoc, kids_snoc, if_neg (fun e => hp e.1), if_neg (fun e => hp e.1), no_kids g hr h, no_kids g hr h]
  have hn : (L.find? fun j => decide (j.id = i.id)) = none := by
    rw [List.find?_eq_none]
    intro j hj
    simp only [decide_eq_true_eq]
    exact fun e => h (List.mem_map.2 ⟨j, hj, e⟩)
  have : ndOf (L ++ [i]) G i.id = ⟨i.id, i.rune, false⟩ := by
    unfold ndOf
    rw [List.find?_append, hn]
    simp [hG]
  rw [this]
  rfl
/-- the map with the parent's entry anew -/
theorem ents_par {L : List Ins} {G I : List EId} {i : Ins} (hn : I.Nodup) (h : i.id ∉ I) (hp : i.par ∈ I) :
    (entsOf I (nodeA L G)).set (I.idxOf i.par) (idV i.par, nodeA (L ++ [i]) G i.par) = entsOf I (nodeA (L ++ [i]) G) :=
  map_set (g := fun y => (idV y, nodeA L G y)) (g' := fun y => (idV y, nodeA (L ++ [i]) G y)) I hn hp fun y hy hne => by
    rw [nodeA_other (fun e => h (by rw [← e]; exact hy)) hne]
theorem ents_new {I : List EId} {f : EId → AV} {x : EId} : entsOf I f ++ [(idV x, f x)] = entsOf (I ++ [x]) f := by
  simp [entsOf]
theorem IsT.ord_nodup {H : AH} {h m : Nat} {L : List Ins} {G : List EId} (t : IsT H h m L G) : t.ord.Nodup := t.perm.nodup_iff.2 (idsOf_nodup t.g)
theorem IsT.ord_mem {H : AH} {h m : Nat} {L : List Ins} {G : List EId} (t : IsT H h m L G) {x : EId} : x ∈ t.ord ↔ x ∈ idsOf L := t.perm.mem_iff

def AddR (H : AH) (h m : Nat) (L : List Ins) (G : List EId) (i : Ins) (v : AV) (H' : AH) : Prop :=
  v = .sc (.int .i64 (addL L i).2) ∧ IsT H' h m (addL L i).1 G ∧ ∀ x, x ≠ m → H' x = H x
theorem okI_R (i : Ins) : okI i = (okR i && (i.right || decide (i.par ≠ root))) := by
  obtain ⟨⟨a, c⟩, ⟨pa, pc⟩, ri, ru⟩ := i
  have : (decide (0 ≤ a) && decide (a < 5) && decide (1 ≤ c) && decide (c ≤ 1099511627776) && decide (0 ≤ ru) && decide (ru ≤ 1114111) && (decide (ru < 55296) || decide (57343 < ru))) = (!(decide (a < 0) || decide (5 ≤ a) || decide (c < 1) || decide (1099511627776 < c)) && (decide (0 ≤ ru) && decide (ru ≤ 1114111) && (decide (ru < 55296) || decide (57343 < ru)))) := by
    rw [Bool.eq_iff_iff]
    simp only [Bool.and_eq_true, Bool.or_eq_true, Bool.not_eq_true', Bool.or_eq_false_iff, decide_eq_true_eq, decide_eq_false_iff_not]
    omega
  simp only [okI, okR] at this ⊢
  rw [this]
theorem add_arg (H : AH) (h m : Nat) (L : List Ins) (G : List EId) (i : Ins) (t : IsT H h m L G) (hno : okI i = false) : ACalls Try.prog 31 [.ptr h 0, .agg (insC i)] H (AddR H h m L G i) := by
  have hR : addL L i = (L, 1) := by unfold addL; rw [if_pos hno]
  have h0 := right_pure i
  rw [okI_R] at hno
  unfold AddR
  rw [hR]
  obtain ⟨⟨a, c⟩, ⟨pa, pc⟩, ri, ru⟩ := i
  simp only [insC] at h0 hno ⊢
  cases e : okR ⟨(a, c), (pa, pc), ri, ru⟩ with
  | false =>
    rw [e] at h0
    refine acalls_of_cwp (c := ⟨Try.prog, 78, [(7, [0, 0, 0, 0, 0, 0, 0, 0, 0, 0, 2, 2, 0]), (12, [0, 1, 0, 0, 1, 0, 0, 0, 1, 0, 1, 0, 0, 0, 2]), (13, [0, 0, 0, 1, 0, 1, 1, 2]), (14, [0, 0, 0, 1, 0, 1, 0, 1, 0, 1, 0, 0, 2]), (1000000, [3]), (4000013, [0, 3]), (4000012, [0, 3, 5]), (4000010, [0, 3, 5, 44]), (4000007, [0, 3, 5, 6]), (4000003, [0, 3, 22])], [], [(7, (.op 0 0 (.op 1 0 (.op 2 0 (.op 4 0 (.op 5 0 (.or (.op 3 2 (.or (.op 6 2 (.op 7 0 (.op 8 0 (.op 9 0 (.op 10 2 (.op 11 2 (.op 12 0 .nil))))))) (.op 10 2 (.op 6 2 (.op 7 0 (.op 8 0 (.op 9 0 (.op 11 2 (.op 12 0 .nil))))))))) (.op 10 2 (.op 3 2 (.op 6 2 (.op 7 0 (.op 8 0 (.op 9 0 (.op 11 2 (.op 12 0 .nil)))))))))))))))]⟩) (rs := [ResultVar.tmp 4]) Try.mixed Try.func31 rfl rfl rfl (Nat.le_of_ble_eq_true rfl) (by kernel_rfl) ?_
    simp (disch := omega) only [↓runPre, runPost, fieldO, ixA, cutA, lenA, aggA, rowA, appA, mkA, indA, bnd, srcA, sameOp, funcA, cvO, partA, aggD, ↓PostP, resV, resAll, resOne, resVF, resAllF, resOneF, fitsAll, fitsR, fits, frz, Post, Nat.reduceBEq, Nat.reduceLT, reduceCtorEq, ↓reduceIte, initS, AV.cellsOf, AV.fine, AV.one, repA, Nat.reduceMul, Nat.reduceAdd, Nat.reduceLeDiff, Nat.reduceEqDiff, Int.reduceToNat, Nat.reduceSub, Nat.reduceMod, Nat.reduceDiv, indexK.aggOf, Int.reducePow, Int.reduceLE, Int.reduceNeg, Int.reduceLT, Int.reduceBEq, Int.reduceBNe, Int.reduceEq, ownA, nilA, Try.facts]
    intro k hk0 hk
    simp (disch := omega) only [↓runPre, runPost, fieldO, ixA, cutA, lenA, aggA, rowA, appA, mkA, indA, bnd, srcA, sameOp, funcA, cvO, partA, aggD, ↓PostP, resV, resAll, resOne, resVF, resAllF, resOneF, fitsAll, fitsR, fits, frz, Post, Nat.reduceBEq, Nat.reduceLT, reduceCtorEq, ↓reduceIte, initS, AV.cellsOf, AV.fine, AV.one, repA, Nat.reduceMul, Nat.reduceAdd, Nat.reduceLeDiff, Nat.reduceEqDiff, Int.reduceToNat, Nat.reduceSub, Nat.reduceMod, Nat.reduceDiv, indexK.aggOf, Int.reducePow, Int.reduceLE, Int.reduceNeg, Int.reduceLT, Int.reduceBEq, Int.reduceBNe, Int.reduceEq, ownA, nilA, Try.facts, kill_box hk]
    first | refine CallK.p (h0) ?_ | refine CallP.i (h0) ?_
    simp (disch := omega) only [↓runPre, runPost, fieldO, ixA, cutA, lenA, aggA, rowA, appA, mkA, indA, bnd, srcA, sameOp, funcA, cvO, partA, aggD, ↓PostP, resV, resAll, resOne, resVF, resAllF, resOneF, fitsAll, fitsR, fits, frz, Post, Nat.reduceBEq, Nat.reduceLT, reduceCtorEq, ↓reduceIte, initS, AV.cellsOf, AV.fine, AV.one, repA, Nat.reduceMul, Nat.reduceAdd, Nat.reduceLeDiff, Nat.reduceEqDiff, Int.reduceToNat, Nat.reduceSub, Nat.reduceMod, Nat.reduceDiv, indexK.aggOf, Int.reducePow, Int.reduceLE, Int.reduceNeg, Int.reduceLT, Int.reduceBEq, Int.reduceBNe, Int.reduceEq, ownA, nilA, Try.facts]
    exact ⟨_, rfl, H, Abs.Sub.refl _, rfl, t, fun _ _ => rfl⟩
  | true =>
    rw [e] at h0 hno
    simp only [Bool.true_and, Bool.or_eq_false_iff, decide_eq_false_iff_not, ne_eq, Decidable.not_not, root, Prod.mk.injEq] at hno
    obtain ⟨rfl, rfl, rfl⟩ := hno
    refine acalls_of_cwp (c := ⟨Try.prog, 78, [(7, [0, 0, 0, 0, 0, 0, 0, 0, 0, 0, 2, 2, 0]), (12, [0, 1, 0, 0, 1, 0, 0, 0, 1, 0, 1, 0, 0, 0, 2]), (13, [0, 0, 0, 1, 0, 1, 1, 2]), (14, [0, 0, 0, 1, 0, 1, 0, 1, 0, 1, 0, 0, 2]), (1000000, [3]), (4000013, [0, 3]), (4000012, [0, 3, 5]), (4000010, [0, 3, 5, 44]), (4000007, [0, 3, 5, 6]), (4000003, [0, 3, 22])], [], [(7, (.op 0 0 (.op 1 0 (.op 2 0 (.op 4 0 (.op 5 0 (.or (.op 3 2 (.or (.op 6 2 (.op 7 0 (.op 8 0 (.op 9 0 (.op 10 2 (.op 11 2 (.op 12 0 .nil))))))) (.op 10 2 (.op 6 2 (.op 7 0 (.op 8 0 (.op 9 0 (.op 11 2 (.op 12 0 .nil))))))))) (.op 10 2 (.op 3 2 (.op 6 2 (.op 7 0 (.op 8 0 (.op 9 0 (.op 11 2 (.op 12 0 .nil)))))))))))))))]⟩) (rs := [ResultVar.tmp 4]) Try.mixed Try.func31 rfl rfl rfl (Nat.le_of_ble_eq_true rfl) (by kernel_rfl) ?_
    simp (disch := omega) only [↓runPre, runPost, fieldO, ixA, cutA, lenA, aggA, rowA, appA, mkA, indA, bnd, srcA, sameOp, funcA, cvO, partA, aggD, ↓PostP, resV, resAll, resOne, resVF, resAllF, resOneF, fitsAll, fitsR, fits, frz, Post, Nat.reduceBEq, Nat.reduceLT, reduceCtorEq, ↓reduceIte, initS, AV.cellsOf, AV.fine, AV.one, repA, Nat.reduceMul, Nat.reduceAdd, Nat.reduceLeDiff, Nat.reduceEqDiff, Int.reduceToNat, Nat.reduceSub, Nat.reduceMod, Nat.reduceDiv, indexK.aggOf, Int.reducePow, Int.reduceLE, Int.reduceNeg, Int.reduceLT, Int.reduceBEq, Int.reduceBNe, Int.reduceEq, ownA, nilA, Try.facts]
    intro k hk0 hk
    simp (disch := omega) only [↓runPre, runPost, fieldO, ixA, cutA, lenA, aggA, rowA, appA, mkA, indA, bnd, srcA, sameOp, funcA, cvO, partA, aggD, ↓PostP, resV, resAll, resOne, resVF, resAllF, resOneF, fitsAll, fitsR, fits, frz, Post, Nat.reduceBEq, Nat.reduceLT, reduceCtorEq, ↓reduceIte, initS, AV.cellsOf, AV.fine, AV.one, repA, Nat.reduceMul, Nat.reduceAdd, Nat.reduceLeDiff, Nat.reduceEqDiff, Int.reduceToNat, Nat.reduceSub, Nat.reduceMod, Nat.reduceDiv, indexK.aggOf, Int.reducePow, Int.reduceLE, Int.reduceNeg, Int.reduceLT, Int.reduceBEq, Int.reduceBNe, Int.reduceEq, ownA, nilA, Try.facts, kill_box hk]
    first | refine CallK.p (h0) ?_ | refine CallP.i (h0) ?_
    simp (disch := omega) only [↓runPre, runPost, fieldO, ixA, cutA, lenA, aggA, rowA, appA, mkA, indA, bnd, srcA, sameOp, funcA, cvO, partA, aggD, ↓PostP, resV, resAll, resOne, resVF, resAllF, resOneF, fitsAll, fitsR, fits, frz, Post, Nat.reduceBEq, Nat.reduceLT, reduceCtorEq, ↓reduceIte, initS, AV.cellsOf, AV.fine, AV.one, repA, Nat.reduceMul, Nat.reduceAdd, Nat.reduceLeDiff, Nat.reduceEqDiff, Int.reduceToNat, Nat.reduceSub, Nat.reduceMod, Nat.reduceDiv, indexK.aggOf, Int.reducePow, Int.reduceLE, Int.reduceNeg, Int.reduceLT, Int.reduceBEq, Int.reduceBNe, Int.reduceEq, ownA, nilA, Try.facts, dT, dF, qT, qF, nT, nF, Bool.false_and, Bool.and_false, beq_self_eq_true]
    exact ⟨_, rfl, H, Abs.Sub.refl _, rfl, t, fun _ _ => rfl⟩
theorem add_there (H : AH) (h m : Nat) (L : List Ins) (G : List EId) (i : Ins) (t : IsT H h m L G) (hok : okI i = true) (hin : i.id ∈ L.map (·.id)) : ACalls Try.prog 31 [.ptr h 0, .agg (insC i)] H (AddR H h m L G i) := by
  have hR : addL L i = (L, 12) := by unfold addL; rw [if_neg (by rw [hok]; simp), if_pos hin]
  have h0 := right_pure i
  have hh := has_live H h m L G i.id t
  rw [dT hin] at hh
  rw [okI_R, Bool.and_eq_true] at hok
  rw [hok.1] at h0
  have hpr := hok.2
  unfold AddR
  rw [hR]
  obtain ⟨⟨a, c⟩, ⟨pa, pc⟩, ri, ru⟩ := i
  simp only [insC] at h0 hpr hh ⊢
  have hpo : (pa = 0 ∧ pc = 0) ∨ pa ≠ 0 ∨ (pa = 0 ∧ pc ≠ 0) := by omega
  refine acalls_of_cwp (c := ⟨Try.prog, 78, [(7, [0, 0, 0, 0, 0, 0, 0, 0, 0, 0, 2, 2, 0]), (12, [0, 1, 0, 0, 1, 0, 0, 0, 1, 0, 1, 0, 0, 0, 2]), (13, [0, 0, 0, 1, 0, 1, 1, 2]), (14, [0, 0, 0, 1, 0, 1, 0, 1, 0, 1, 0, 0, 2]), (1000000, [3]), (4000013, [0, 3]), (4000012, [0, 3, 5]), (4000010, [0, 3, 5, 44]), (4000007, [0, 3, 5, 6]), (4000003, [0, 3, 22])], [], [(7, (.op 0 0 (.op 1 0 (.op 2 0 (.op 4 0 (.op 5 0 (.or (.op 3 2 (.or (.op 6 2 (.op 7 0 (.op 8 0 (.op 9 0 (.op 10 2 (.op 11 2 (.op 12 0 .nil))))))) (.op 10 2 (.op 6 2 (.op 7 0 (.op 8 0 (.op 9 0 (.op 11 2 (.op 12 0 .nil))))))))) (.op 10 2 (.op 3 2 (.op 6 2 (.op 7 0 (.op 8 0 (.op 9 0 (.op 11 2 (.op 12 0 .nil)))))))))))))))]⟩) (rs := [ResultVar.tmp 4]) Try.mixed Try.func31 rfl rfl rfl (Nat.le_of_ble_eq_true rfl) (by kernel_rfl) ?_
  simp (disch := omega) only [↓runPre, runPost, fieldO, ixA, cutA, lenA, aggA, rowA, appA, mkA, indA, bnd, srcA, sameOp, funcA, cvO, partA, aggD, ↓PostP, resV, resAll, resOne, resVF, resAllF, resOneF, fitsAll, fitsR, fits, frz, Post, Nat.reduceBEq, Nat.reduceLT, reduceCtorEq, ↓reduceIte, initS, AV.cellsOf, AV.fine, AV.one, repA, Nat.reduceMul, Nat.reduceAdd, Nat.reduceLeDiff, Nat.reduceEqDiff, Int.reduceToNat, Nat.reduceSub, Nat.reduceMod, Nat.reduceDiv, indexK.aggOf, Int.reducePow, Int.reduceLE, Int.reduceNeg, Int.reduceLT, Int.reduceBEq, Int.reduceBNe, Int.reduceEq, ownA, nilA, Try.facts]
  intro k hk0 hk
  simp (disch := omega) only [↓runPre, runPost, fieldO, ixA, cutA, lenA, aggA, rowA, appA, mkA, indA, bnd, srcA, sameOp, funcA, cvO, partA, aggD, ↓PostP, resV, resAll, resOne, resVF, resAllF, resOneF, fitsAll, fitsR, fits, frz, Post, Nat.reduceBEq, Nat.reduceLT, reduceCtorEq, ↓reduceIte, initS, AV.cellsOf, AV.fine, AV.one, repA, Nat.reduceMul, Nat.reduceAdd, Nat.reduceLeDiff, Nat.reduceEqDiff, Int.reduceToNat, Nat.reduceSub, Nat.reduceMod, Nat.reduceDiv, indexK.aggOf, Int.reducePow, Int.reduceLE, Int.reduceNeg, Int.reduceLT, Int.reduceBEq, Int.reduceBNe, Int.reduceEq, ownA, nilA, Try.facts, kill_box hk]
  first | refine CallK.p (h0) ?_ | refine CallP.i (h0) ?_
  simp (disch := omega) only [↓runPre, runPost, fieldO, ixA, cutA, lenA, aggA, rowA, appA, mkA, indA, bnd, srcA, sameOp, funcA, cvO, partA, aggD, ↓PostP, resV, resAll, resOne, resVF, resAllF, resOneF, fitsAll, fitsR, fits, frz, Post, Nat.reduceBEq, Nat.reduceLT, reduceCtorEq, ↓reduceIte, initS, AV.cellsOf, AV.fine, AV.one, repA, Nat.reduceMul, Nat.reduceAdd, Nat.reduceLeDiff, Nat.reduceEqDiff, Int.reduceToNat, Nat.reduceSub, Nat.reduceMod, Nat.reduceDiv, indexK.aggOf, Int.reducePow, Int.reduceLE, Int.reduceNeg, Int.reduceLT, Int.reduceBEq, Int.reduceBNe, Int.reduceEq, ownA, nilA, Try.facts]
  rcases hpo with hpo | hpo | hpo
  · obtain ⟨rfl, rfl⟩ := hpo
    obtain rfl : ri = true := by cases ri; (simp [root] at hpr); rfl
    simp (disch := omega) only [↓runPre, runPost, fieldO, ixA, cutA, lenA, aggA, rowA, appA, mkA, indA, bnd, srcA, sameOp, funcA, cvO, partA, aggD, ↓PostP, resV, resAll, resOne, resVF, resAllF, resOneF, fitsAll, fitsR, fits, frz, Post, Nat.reduceBEq, Nat.reduceLT, reduceCtorEq, ↓reduceIte, initS, AV.cellsOf, AV.fine, AV.one, repA, Nat.reduceMul, Nat.reduceAdd, Nat.reduceLeDiff, Nat.reduceEqDiff, Int.reduceToNat, Nat.reduceSub, Nat.reduceMod, Nat.reduceDiv, indexK.aggOf, Int.reducePow, Int.reduceLE, Int.reduceNeg, Int.reduceLT, Int.reduceBEq, Int.reduceBNe, Int.reduceEq, ownA, nilA, Try.facts, dT, dF, qT, qF, nT, nF, Bool.false_and, Bool.and_false, beq_self_eq_true]
    refine CallK.i hh ?_
    rintro v E ⟨rfl, hE⟩
    simp (disch := omega) only [↓runPre, runPost, fieldO, ixA, cutA, lenA, aggA, rowA, appA, mkA, indA, bnd, srcA, sameOp, funcA, cvO, partA, aggD, ↓PostP, resV, resAll, resOne, resVF, resAllF, resOneF, fitsAll, fitsR, fits, frz, Post, Nat.reduceBEq, Nat.reduceLT, reduceCtorEq, ↓reduceIte, initS, AV.cellsOf, AV.fine, AV.one, repA, Nat.reduceMul, Nat.reduceAdd, Nat.reduceLeDiff, Nat.reduceEqDiff, Int.reduceToNat, Nat.reduceSub, Nat.reduceMod, Nat.reduceDiv, indexK.aggOf, Int.reducePow, Int.reduceLE, Int.reduceNeg, Int.reduceLT, Int.reduceBEq, Int.reduceBNe, Int.reduceEq, ownA, nilA, Try.facts, hE]
    exact ⟨_, rfl, H, Abs.Sub.refl _, rfl, t, fun _ _ => rfl⟩
  all_goals
    simp (disch := omega) only [↓runPre, runPost, fieldO, ixA, cutA, lenA, aggA, rowA, appA, mkA, indA, bnd, srcA, sameOp, funcA, cvO, partA, aggD, ↓PostP, resV, resAll, resOne, resVF, resAllF, resOneF, fitsAll, fitsR, fits, frz, Post, Nat.reduceBEq, Nat.reduceLT, reduceCtorEq, ↓reduceIte, initS, AV.cellsOf, AV.fine, AV.one, repA, Nat.reduceMul, Nat.reduceAdd, Nat.reduceLeDiff, Nat.reduceEqDiff, Int.reduceToNat, Nat.reduceSub, Nat.reduceMod, Nat.reduceDiv, indexK.aggOf, Int.reducePow, Int.reduceLE, Int.reduceNeg, Int.reduceLT, Int.reduceBEq, Int.reduceBNe, Int.reduceEq, ownA, nilA, Try.facts, dT, dF, qT, qF, nT, nF, Bool.false_and, Bool.and_false, beq_self_eq_true]
    refine CallK.i hh ?_
    rintro v E ⟨rfl, hE⟩
    simp (disch := omega) only [↓runPre, runPost, fieldO, ixA, cutA, lenA, aggA, rowA, appA, mkA, indA, bnd, srcA, sameOp, funcA, cvO, partA, aggD, ↓PostP, resV, resAll, resOne, resVF, resAllF, resOneF, fitsAll, fitsR, fits, frz, Post, Nat.reduceBEq, Nat.reduceLT, reduceCtorEq, ↓reduceIte, initS, AV.cellsOf, AV.fine, AV.one, repA, Nat.reduceMul, Nat.reduceAdd, Nat.reduceLeDiff, Nat.reduceEqDiff, Int.reduceToNat, Nat.reduceSub, Nat.reduceMod, Nat.reduceDiv, indexK.aggOf, Int.reducePow, Int.reduceLE, Int.reduceNeg, Int.reduceLT, Int.reduceBEq, Int.reduceBNe, Int.reduceEq, ownA, nilA, Try.facts, hE]
    exact ⟨_, rfl, H, Abs.Sub.refl _, rfl, t, fun _ _ => rfl⟩

theorem add_none (H : AH) (h m : Nat) (L : List Ins) (G : List EId) (i : Ins) (t : IsT H h m L G) (hok : okI i = true) (hin : i.id ∉ L.map (·.id)) (hp : i.par ∉ idsOf L) : ACalls Try.prog 31 [.ptr h 0, .agg (insC i)] H (AddR H h m L G i) := by
  have hpr0 : i.par ≠ root := fun e => hp (by rw [e]; simp [idsOf])
  have hR : addL L i = (L, 13) := by unfold addL; rw [if_neg (by rw [hok]; simp), if_neg hin, if_pos ⟨hpr0, fun e => hp ((mem_idsOf hpr0).2 e)⟩]
  have h0 := right_pure i
  have hh := has_live H h m L G i.id t
  rw [dF hin] at hh
  rw [okI_R, Bool.and_eq_true] at hok
  rw [hok.1] at h0
  have hf := find_ids (nodeA L G) i.par t.ord 0
  rw [if_neg (fun e => hp (t.ord_mem.1 e))] at hf
  have hi := t.hi
  have hm := t.hm
  generalize hE : entsOf t.ord (nodeA L G) = E at *
  unfold AddR
  rw [hR]
  obtain ⟨⟨a, c⟩, ⟨pa, pc⟩, ri, ru⟩ := i
  simp only [insC] at h0 hh hf hpr0 ⊢
  have hpo : pa ≠ 0 ∨ (pa = 0 ∧ pc ≠ 0) := by
    by_cases e : pa = 0
    · exact .inr ⟨e, fun e' => hpr0 (by rw [e, e'])⟩
    · exact .inl e
  refine acalls_of_cwp (c := ⟨Try.prog, 78, [(7, [0, 0, 0, 0, 0, 0, 0, 0, 0, 0, 2, 2, 0]), (12, [0, 1, 0, 0, 1, 0, 0, 0, 1, 0, 1, 0, 0, 0, 2]), (13, [0, 0, 0, 1, 0, 1, 1, 2]), (14, [0, 0, 0, 1, 0, 1, 0, 1, 0, 1, 0, 0, 2]), (1000000, [3]), (4000013, [0, 3]), (4000012, [0, 3, 5]), (4000010, [0, 3, 5, 44]), (4000007, [0, 3, 5, 6]), (4000003, [0, 3, 22])], [], [(7, (.op 0 0 (.op 1 0 (.op 2 0 (.op 4 0 (.op 5 0 (.or (.op 3 2 (.or (.op 6 2 (.op 7 0 (.op 8 0 (.op 9 0 (.op 10 2 (.op 11 2 (.op 12 0 .nil))))))) (.op 10 2 (.op 6 2 (.op 7 0 (.op 8 0 (.op 9 0 (.op 11 2 (.op 12 0 .nil))))))))) (.op 10 2 (.op 3 2 (.op 6 2 (.op 7 0 (.op 8 0 (.op 9 0 (.op 11 2 (.op 12 0 .nil)))))))))))))))]⟩) (rs := [ResultVar.tmp 4]) Try.mixed Try.func31 rfl rfl rfl (Nat.le_of_ble_eq_true rfl) (by kernel_rfl) ?_
  simp (disch := omega) only [↓runPre, runPost, fieldO, ixA, cutA, lenA, aggA, rowA, appA, mkA, indA, bnd, srcA, sameOp, funcA, cvO, partA, aggD, ↓PostP, resV, resAll, resOne, resVF, resAllF, resOneF, fitsAll, fitsR, fits, frz, Post, Nat.reduceBEq, Nat.reduceLT, reduceCtorEq, ↓reduceIte, initS, AV.cellsOf, AV.fine, AV.one, repA, Nat.reduceMul, Nat.reduceAdd, Nat.reduceLeDiff, Nat.reduceEqDiff, Int.reduceToNat, Nat.reduceSub, Nat.reduceMod, Nat.reduceDiv, indexK.aggOf, Int.reducePow, Int.reduceLE, Int.reduceNeg, Int.reduceLT, Int.reduceBEq, Int.reduceBNe, Int.reduceEq, ownA, nilA, Try.facts]
  intro k hk0 hk
  simp (disch := omega) only [↓runPre, runPost, fieldO, ixA, cutA, lenA, aggA, rowA, appA, mkA, indA, bnd, srcA, sameOp, funcA, cvO, partA, aggD, ↓PostP, resV, resAll, resOne, resVF, resAllF, resOneF, fitsAll, fitsR, fits, frz, Post, Nat.reduceBEq, Nat.reduceLT, reduceCtorEq, ↓reduceIte, initS, AV.cellsOf, AV.fine, AV.one, repA, Nat.reduceMul, Nat.reduceAdd, Nat.reduceLeDiff, Nat.reduceEqDiff, Int.reduceToNat, Nat.reduceSub, Nat.reduceMod, Nat.reduceDiv, indexK.aggOf, Int.reducePow, Int.reduceLE, Int.reduceNeg, Int.reduceLT, Int.reduceBEq, Int.reduceBNe, Int.reduceEq, ownA, nilA, Try.facts, kill_box hk]
  first | refine CallK.p (h0) ?_ | refine CallP.i (h0) ?_
  simp (disch := omega) only [↓runPre, runPost, fieldO, ixA, cutA, lenA, aggA, rowA, appA, mkA, indA, bnd, srcA, sameOp, funcA, cvO, partA, aggD, ↓PostP, resV, resAll, resOne, resVF, resAllF, resOneF, fitsAll, fitsR, fits, frz, Post, Nat.reduceBEq, Nat.reduceLT, reduceCtorEq, ↓reduceIte, initS, AV.cellsOf, AV.fine, AV.one, repA, Nat.reduceMul, Nat.reduceAdd, Nat.reduceLeDiff, Nat.reduceEqDiff, Int.reduceToNat, Nat.reduceSub, Nat.reduceMod, Nat.reduceDiv, indexK.aggOf, Int.reducePow, Int.reduceLE, Int.reduceNeg, Int.reduceLT, Int.reduceBEq, Int.reduceBNe, Int.reduceEq, ownA, nilA, Try.facts]
  rcases hpo with hpo | hpo
  all_goals
    simp (disch := omega) only [↓runPre, runPost, fieldO, ixA, cutA, lenA, aggA, rowA, appA, mkA, indA, bnd, srcA, sameOp, funcA, cvO, partA, aggD, ↓PostP, resV, resAll, resOne, resVF, resAllF, resOneF, fitsAll, fitsR, fits, frz, Post, Nat.reduceBEq, Nat.reduceLT, reduceCtorEq, ↓reduceIte, initS, AV.cellsOf, AV.fine, AV.one, repA, Nat.reduceMul, Nat.reduceAdd, Nat.reduceLeDiff, Nat.reduceEqDiff, Int.reduceToNat, Nat.reduceSub, Nat.reduceMod, Nat.reduceDiv, indexK.aggOf, Int.reducePow, Int.reduceLE, Int.reduceNeg, Int.reduceLT, Int.reduceBEq, Int.reduceBNe, Int.reduceEq, ownA, nilA, Try.facts, dT, dF, qT, qF, nT, nF, Bool.false_and, Bool.and_false, beq_self_eq_true]
    refine CallK.i hh ?_
    rintro v E' ⟨rfl, hE'⟩
    simp (disch := omega) only [↓runPre, runPost, fieldO, ixA, cutA, lenA, aggA, rowA, appA, mkA, indA, bnd, srcA, sameOp, funcA, cvO, partA, aggD, ↓PostP, resV, resAll, resOne, resVF, resAllF, resOneF, fitsAll, fitsR, fits, frz, Post, Nat.reduceBEq, Nat.reduceLT, reduceCtorEq, ↓reduceIte, initS, AV.cellsOf, AV.fine, AV.one, repA, Nat.reduceMul, Nat.reduceAdd, Nat.reduceLeDiff, Nat.reduceEqDiff, Int.reduceToNat, Nat.reduceSub, Nat.reduceMod, Nat.reduceDiv, indexK.aggOf, Int.reducePow, Int.reduceLE, Int.reduceNeg, Int.reduceLT, Int.reduceBEq, Int.reduceBNe, Int.reduceEq, ownA, nilA, Try.facts, hE']
    refine draw_t (fun σ F => Abs.Sub H F ∧ σ 0 = .ptr h 0 ∧ σ 6 = .sc (.bool false)) ?_ ?_
    · simp (disch := omega) only [↓runPre, runPost, fieldO, ixA, cutA, lenA, aggA, rowA, appA, mkA, indA, bnd, srcA, sameOp, funcA, cvO, partA, aggD, ↓PostP, resV, resAll, resOne, resVF, resAllF, resOneF, fitsAll, fitsR, fits, frz, Post, Nat.reduceBEq, Nat.reduceLT, reduceCtorEq, ↓reduceIte, initS, AV.cellsOf, AV.fine, AV.one, repA, Nat.reduceMul, Nat.reduceAdd, Nat.reduceLeDiff, Nat.reduceEqDiff, Int.reduceToNat, Nat.reduceSub, Nat.reduceMod, Nat.reduceDiv, indexK.aggOf, Int.reducePow, Int.reduceLE, Int.reduceNeg, Int.reduceLT, Int.reduceBEq, Int.reduceBNe, Int.reduceEq, ownA, nilA, Try.facts, hi, hm, hf, hE']
      refine ⟨⟨?_, ?_⟩, ?_⟩
      all_goals
        intro b hb0 hb
        have nb1 := ne_live hi hb
        have nb2 := ne_live hm hb
        try simp (disch := omega) only [↓runPre, runPost, fieldO, ixA, cutA, lenA, aggA, rowA, appA, mkA, indA, bnd, srcA, sameOp, funcA, cvO, partA, aggD, ↓PostP, resV, resAll, resOne, resVF, resAllF, resOneF, fitsAll, fitsR, fits, frz, Post, Nat.reduceBEq, Nat.reduceLT, reduceCtorEq, ↓reduceIte, initS, AV.cellsOf, AV.fine, AV.one, repA, Nat.reduceMul, Nat.reduceAdd, Nat.reduceLeDiff, Nat.reduceEqDiff, Int.reduceToNat, Nat.reduceSub, Nat.reduceMod, Nat.reduceDiv, indexK.aggOf, Int.reducePow, Int.reduceLE, Int.reduceNeg, Int.reduceLT, Int.reduceBEq, Int.reduceBNe, Int.reduceEq, ownA, nilA, Try.facts, hi, hm, hf, set_other, putCells_eq]
        exact Sub.set_new hb
    · rintro σ F ⟨hF, s0, s6⟩
      simp (disch := omega) only [↓runPre, runPost, fieldO, ixA, cutA, lenA, aggA, rowA, appA, mkA, indA, bnd, srcA, sameOp, funcA, cvO, partA, aggD, ↓PostP, resV, resAll, resOne, resVF, resAllF, resOneF, fitsAll, fitsR, fits, frz, Post, Nat.reduceBEq, Nat.reduceLT, reduceCtorEq, ↓reduceIte, initS, AV.cellsOf, AV.fine, AV.one, repA, Nat.reduceMul, Nat.reduceAdd, Nat.reduceLeDiff, Nat.reduceEqDiff, Int.reduceToNat, Nat.reduceSub, Nat.reduceMod, Nat.reduceDiv, indexK.aggOf, Int.reducePow, Int.reduceLE, Int.reduceNeg, Int.reduceLT, Int.reduceBEq, Int.reduceBNe, Int.reduceEq, ownA, nilA, Try.facts, s0, s6]
      exact ⟨_, rfl, H, hF, rfl, t, fun _ _ => rfl⟩
end Go.Proofs.Ytpmmafmbjconiaa
