/-
  The walks of the fugue layer: a text as a state; is there an element; how many are there.
  Conditions: none. Lemmas only.
-/
import Derived.Test.YtpmmafmbjconiaaFugG
set_option linter.all false
set_option linter.unusedSimpArgs false
set_option linter.unusedVariables false
set_option maxRecDepth 8000
set_option maxHeartbeats 4000000
namespace Go.Proofs.Ytpmmafmbjconiaa
open Go Go.Abs Go.Proofs Go.Fug

abbrev nodeC (L : List Ins) (G : List EId) (x : EId) : List AV := [.sc (.int .i64 x.1), .sc (.int .i64 x.2), .sc (.int .i32 (ndOf L G x).rune), .sc (.bool (ndOf L G x).gone), idsV (kids L x false), idsV (kids L x true)]
abbrev nodeA (L : List Ins) (G : List EId) (x : EId) : AV := .agg (nodeC L G x)
def idsOf (L : List Ins) : List EId := root :: L.map (·.id)
def entsOf (I : List EId) (f : EId → AV) : List (AV × AV) := I.map fun y => (idV y, f y)
theorem find_ids (f : EId → AV) (x : EId) : ∀ (I : List EId) (i : Nat), findA Try.prog 31 (idV x) (entsOf I f) i = some (if x ∈ I then some (i + I.idxOf x, f x) else none)
  | [], i => rfl
  | y :: I, i => by
    have ih := find_ids f x I (i + 1)
    unfold entsOf at ih ⊢
    simp only [List.map_cons, findA]
    rw [Try.eq31]
    by_cases hxy : x = y
    · subst hxy
      simp
    · have h1 : ((x.1 == y.1) && ((x.2 == y.2) && true)) = false := by
        rw [Bool.eq_false_iff]
        intro h
        simp only [Bool.and_eq_true, beq_iff_eq, and_true] at h
        exact hxy (Prod.ext h.1 h.2)
      have h2 : (y == x) = false := by simp; exact fun e => hxy e.symm
      rw [h1]
      simp only [ih, List.mem_cons, hxy, false_or]
      rw [List.idxOf_cons, h2]
      simp only [cond_false]
      split
      · congr 3; omega
      · rfl
/-- a text -/
structure IsT (H : AH) (h m : Nat) (L : List Ins) (G : List EId) : Prop where
  hi : H h = some (.cells [.mp m, .sc (.int .i64 (G.length : Nat))] 74 2)
  hp : ∃ I : List EId, I.Perm (idsOf L) ∧ H m = some (.map (entsOf I (nodeA L G)))
  g : Fug.Good L
  gs : ∀ x ∈ G, x ∈ L.map (·.id)
  gn : G.Nodup
  small : L.length ≤ 4096
/-- in which order the map was filled -/
noncomputable def IsT.ord {H : AH} {h m : Nat} {L : List Ins} {G : List EId} (t : IsT H h m L G) : List EId := Classical.choose t.hp
theorem IsT.perm {H : AH} {h m : Nat} {L : List Ins} {G : List EId} (t : IsT H h m L G) : t.ord.Perm (idsOf L) := (Classical.choose_spec t.hp).1
theorem IsT.hm {H : AH} {h m : Nat} {L : List Ins} {G : List EId} (t : IsT H h m L G) : H m = some (.map (entsOf t.ord (nodeA L G))) := (Classical.choose_spec t.hp).2
theorem IsT.gl {H : AH} {h m : Nat} {L : List Ins} {G : List EId} (t : IsT H h m L G) : G.length ≤ L.length := by
  have := len_le_of_sub G (L.map (·.id)) t.gn t.gs
  rwa [List.length_map] at this
theorem IsT.hmne {H : AH} {h m : Nat} {L : List Ins} {G : List EId} (t : IsT H h m L G) : ¬ h = m := by
  rintro rfl
  have := t.hi.symm.trans t.hm
  cases this
theorem Good.root_no {L : List Ins} (g : Fug.Good L) : root ∉ L.map (·.id) := fun h => by
  obtain ⟨i, hi, e⟩ := List.mem_map.1 h
  exact okI_ne (g.ok i hi) e
theorem mem_idsOf {L : List Ins} {x : EId} (h : x ≠ root) : x ∈ idsOf L ↔ x ∈ L.map (·.id) := by
  unfold idsOf
  simp only [List.mem_cons, h, false_or]
theorem idsOf_length (L : List Ins) : (idsOf L).length = L.length + 1 := by simp [idsOf]

theorem has_live (H : AH) (h m : Nat) (L : List Ins) (G : List EId) (x : EId) (t : IsT H h m L G) : ACalls Try.prog 29 [.ptr h 0, idV x] H fun v H' => v = .sc (.bool (decide (x ∈ L.map (·.id)))) ∧ H' = H := by
  have hm := t.hm
  have hpm := t.perm
  generalize t.ord = I at hm hpm
  have hf := find_ids (nodeA L G) x I 0
  obtain ⟨hi, -, g, gs, gn, small⟩ := t
  have hno := Good.root_no g
  by_cases hx : x = root
  · subst hx
    rw [dF hno]
    refine acalls_of_cwp (c := ⟨Try.prog, 24, [(3, [0, 0, 0, 0, 0, 0, 0, 0, 0, 2, 2, 0]), (1000000, [3]), (1000003, [5])], [], [(3, (.op 0 0 (.op 1 0 (.op 2 0 (.op 4 0 (.or (.op 3 2 (.or (.op 5 2 (.op 6 0 (.op 7 0 (.op 8 0 (.op 9 2 (.op 10 2 (.op 11 0 .nil))))))) (.op 9 2 (.op 5 2 (.op 6 0 (.op 7 0 (.op 8 0 (.op 10 2 (.op 11 0 .nil))))))))) (.op 9 2 (.op 3 2 (.op 5 2 (.op 6 0 (.op 7 0 (.op 8 0 (.op 10 2 (.op 11 0 .nil))))))))))))))]⟩) (rs := [ResultVar.tmp 4]) Try.mixed Try.func29 rfl rfl rfl (Nat.le_of_ble_eq_true rfl) (by kernel_rfl) ?_
    simp (disch := omega) only [↓runPre, runPost, fieldO, ixA, cutA, lenA, aggA, rowA, appA, mkA, indA, bnd, srcA, sameOp, funcA, cvO, partA, aggD, ↓PostP, resV, resAll, resOne, resVF, resAllF, resOneF, fitsAll, fitsR, fits, frz, Post, Nat.reduceBEq, Nat.reduceLT, reduceCtorEq, ↓reduceIte, initS, AV.cellsOf, AV.fine, AV.one, repA, Nat.reduceMul, Nat.reduceAdd, Nat.reduceLeDiff, Nat.reduceEqDiff, Int.reduceToNat, Nat.reduceSub, Nat.reduceMod, Nat.reduceDiv, indexK.aggOf, Int.reducePow, Int.reduceLE, Int.reduceNeg, Int.reduceLT, Int.reduceBEq, Int.reduceBNe, Int.reduceEq, ownA, nilA, Try.facts]
    intro k hk0 hk
    simp (disch := omega) only [↓runPre, runPost, fieldO, ixA, cutA, lenA, aggA, rowA, appA, mkA, indA, bnd, srcA, sameOp, funcA, cvO, partA, aggD, ↓PostP, resV, resAll, resOne, resVF, resAllF, resOneF, fitsAll, fitsR, fits, frz, Post, Nat.reduceBEq, Nat.reduceLT, reduceCtorEq, ↓reduceIte, initS, AV.cellsOf, AV.fine, AV.one, repA, Nat.reduceMul, Nat.reduceAdd, Nat.reduceLeDiff, Nat.reduceEqDiff, Int.reduceToNat, Nat.reduceSub, Nat.reduceMod, Nat.reduceDiv, indexK.aggOf, Int.reducePow, Int.reduceLE, Int.reduceNeg, Int.reduceLT, Int.reduceBEq, Int.reduceBNe, Int.reduceEq, ownA, nilA, Try.facts, kill_box hk, dT, dF, qT, qF, nT, nF, Bool.false_and, Bool.and_false, beq_self_eq_true]
    exact ⟨_, rfl, H, Abs.Sub.refl _, rfl, rfl⟩
  · have hmi := (hpm.mem_iff (a := x)).trans (mem_idsOf (L := L) hx)
    have hxo : x.1 ≠ 0 ∨ (x.1 = 0 ∧ x.2 ≠ 0) := by
      by_cases e : x.1 = 0
      · exact .inr ⟨e, fun e' => hx (Prod.ext e e')⟩
      · exact .inl e
    obtain ⟨B, hB⟩ : ∃ B, B = decide (x ∈ L.map (·.id)) := ⟨_, rfl⟩
    rw [← hB]
    obtain ⟨r, hr, hrs⟩ : ∃ r : Option (Nat × AV), r = (if x ∈ I then some (0 + I.idxOf x, nodeA L G x) else none) ∧ r.isSome = B := by
      refine ⟨_, rfl, ?_⟩
      by_cases hin : x ∈ L.map (·.id)
      · rw [if_pos (hmi.2 hin), hB, dT hin]; rfl
      · rw [if_neg (fun h => hin (hmi.1 h)), hB, dF hin]; rfl
    rw [← hr] at hf
    have hlen : ∃ l : List AV, (r.map (·.2)).getD (zeroV Try.prog 71) = .agg l ∧ l.length = 6 ∧ l.all AV.one = true := by
      by_cases hin : x ∈ I
      · rw [if_pos hin] at hr; subst hr; exact ⟨nodeC L G x, rfl, rfl, rfl⟩
      · rw [if_neg hin] at hr; subst hr; exact ⟨_, Try.zv71, rfl, rfl⟩
    obtain ⟨l, hl, hl6, hl1⟩ := hlen
    obtain ⟨l1, l2, l3, l4, l5, l6, rfl⟩ : ∃ a b c d e f, l = [a, b, c, d, e, f] := by
      match l, hl6 with
      | [a, b, c, d, e, f], _ => exact ⟨a, b, c, d, e, f, rfl⟩
    obtain ⟨a, c⟩ := x
    simp only [] at hxo hf
    generalize entsOf I (nodeA L G) = E at *
    clear hr hB hmi hno
    simp only [Try.zv71] at hl
    simp only [List.all_cons, List.all_nil, Bool.and_eq_true, and_true] at hl1
    obtain ⟨o1, o2, o3, o4, o5, o6⟩ := hl1
    refine acalls_of_cwp (c := ⟨Try.prog, 24, [(3, [0, 0, 0, 0, 0, 0, 0, 0, 0, 2, 2, 0]), (1000000, [3]), (1000003, [5])], [], [(3, (.op 0 0 (.op 1 0 (.op 2 0 (.op 4 0 (.or (.op 3 2 (.or (.op 5 2 (.op 6 0 (.op 7 0 (.op 8 0 (.op 9 2 (.op 10 2 (.op 11 0 .nil))))))) (.op 9 2 (.op 5 2 (.op 6 0 (.op 7 0 (.op 8 0 (.op 10 2 (.op 11 0 .nil))))))))) (.op 9 2 (.op 3 2 (.op 5 2 (.op 6 0 (.op 7 0 (.op 8 0 (.op 10 2 (.op 11 0 .nil))))))))))))))]⟩) (rs := [ResultVar.tmp 4]) Try.mixed Try.func29 rfl rfl rfl (Nat.le_of_ble_eq_true rfl) (by kernel_rfl) ?_
    simp (disch := omega) only [↓runPre, runPost, fieldO, ixA, cutA, lenA, aggA, rowA, appA, mkA, indA, bnd, srcA, sameOp, funcA, cvO, partA, aggD, ↓PostP, resV, resAll, resOne, resVF, resAllF, resOneF, fitsAll, fitsR, fits, frz, Post, Nat.reduceBEq, Nat.reduceLT, reduceCtorEq, ↓reduceIte, initS, AV.cellsOf, AV.fine, AV.one, repA, Nat.reduceMul, Nat.reduceAdd, Nat.reduceLeDiff, Nat.reduceEqDiff, Int.reduceToNat, Nat.reduceSub, Nat.reduceMod, Nat.reduceDiv, indexK.aggOf, Int.reducePow, Int.reduceLE, Int.reduceNeg, Int.reduceLT, Int.reduceBEq, Int.reduceBNe, Int.reduceEq, ownA, nilA, Try.facts]
    intro k hk0 hk
    rcases hxo with hxo | hxo
    all_goals
      simp (disch := omega) only [↓runPre, runPost, fieldO, ixA, cutA, lenA, aggA, rowA, appA, mkA, indA, bnd, srcA, sameOp, funcA, cvO, partA, aggD, ↓PostP, resV, resAll, resOne, resVF, resAllF, resOneF, fitsAll, fitsR, fits, frz, Post, Nat.reduceBEq, Nat.reduceLT, reduceCtorEq, ↓reduceIte, initS, AV.cellsOf, AV.fine, AV.one, repA, Nat.reduceMul, Nat.reduceAdd, Nat.reduceLeDiff, Nat.reduceEqDiff, Int.reduceToNat, Nat.reduceSub, Nat.reduceMod, Nat.reduceDiv, indexK.aggOf, Int.reducePow, Int.reduceLE, Int.reduceNeg, Int.reduceLT, Int.reduceBEq, Int.reduceBNe, Int.reduceEq, ownA, nilA, Try.facts, kill_box hk, dT, dF, qT, qF, nT, nF, Bool.false_and, Bool.and_false, hi, hm, hf]
      refine draw_t (fun σ E' => ∃ (b : Nat) (c : List AV), E' = H.set b (.cells c 71 6) ∧ H b = none ∧ σ 5 = .ptr b 0 ∧ σ 6 = .sc (.bool B)) ?_ ?_
      · simp (disch := omega) only [↓runPre, runPost, fieldO, ixA, cutA, lenA, aggA, rowA, appA, mkA, indA, bnd, srcA, sameOp, funcA, cvO, partA, aggD, ↓PostP, resV, resAll, resOne, resVF, resAllF, resOneF, fitsAll, fitsR, fits, frz, Post, Nat.reduceBEq, Nat.reduceLT, reduceCtorEq, ↓reduceIte, initS, AV.cellsOf, AV.fine, AV.one, repA, Nat.reduceMul, Nat.reduceAdd, Nat.reduceLeDiff, Nat.reduceEqDiff, Int.reduceToNat, Nat.reduceSub, Nat.reduceMod, Nat.reduceDiv, indexK.aggOf, Int.reducePow, Int.reduceLE, Int.reduceNeg, Int.reduceLT, Int.reduceBEq, Int.reduceBNe, Int.reduceEq, ownA, nilA, Try.facts, hi, hm, hf, hl, hrs, o1, o2, o3, o4, o5, o6]
        refine ⟨⟨?_, ?_⟩, ?_⟩
        all_goals
          intro b hb0 hb
          have nb1 := ne_live hi hb
          have nb2 := ne_live hm hb
          try simp (disch := omega) only [↓runPre, runPost, fieldO, ixA, cutA, lenA, aggA, rowA, appA, mkA, indA, bnd, srcA, sameOp, funcA, cvO, partA, aggD, ↓PostP, resV, resAll, resOne, resVF, resAllF, resOneF, fitsAll, fitsR, fits, frz, Post, Nat.reduceBEq, Nat.reduceLT, reduceCtorEq, ↓reduceIte, initS, AV.cellsOf, AV.fine, AV.one, repA, Nat.reduceMul, Nat.reduceAdd, Nat.reduceLeDiff, Nat.reduceEqDiff, Int.reduceToNat, Nat.reduceSub, Nat.reduceMod, Nat.reduceDiv, indexK.aggOf, Int.reducePow, Int.reduceLE, Int.reduceNeg, Int.reduceLT, Int.reduceBEq, Int.reduceBNe, Int.reduceEq, ownA, nilA, Try.facts, hi, hm, hf, hl, hrs, set_other, putCells_eq, o1, o2, o3, o4, o5, o6]
          exact ⟨b, _, rfl, hb, rfl⟩
      · rintro σ E' ⟨b, c, rfl, hb, h5, h6⟩
        simp (disch := omega) only [↓runPre, runPost, fieldO, ixA, cutA, lenA, aggA, rowA, appA, mkA, indA, bnd, srcA, sameOp, funcA, cvO, partA, aggD, ↓PostP, resV, resAll, resOne, resVF, resAllF, resOneF, fitsAll, fitsR, fits, frz, Post, Nat.reduceBEq, Nat.reduceLT, reduceCtorEq, ↓reduceIte, initS, AV.cellsOf, AV.fine, AV.one, repA, Nat.reduceMul, Nat.reduceAdd, Nat.reduceLeDiff, Nat.reduceEqDiff, Int.reduceToNat, Nat.reduceSub, Nat.reduceMod, Nat.reduceDiv, indexK.aggOf, Int.reducePow, Int.reduceLE, Int.reduceNeg, Int.reduceLT, Int.reduceBEq, Int.reduceBNe, Int.reduceEq, ownA, nilA, Try.facts, h5, h6, kill_box hb]
        exact ⟨_, rfl, H, Abs.Sub.refl _, rfl, rfl⟩

theorem len_live (H : AH) (h m : Nat) (L : List Ins) (G : List EId) (t : IsT H h m L G) : ACalls Try.prog 21 [.ptr h 0] H fun v H' => v = .sc (.int .i64 ((L.length - G.length : Nat))) ∧ H' = H := by
  have hgl := t.gl
  have hm := t.hm
  have hel : (entsOf t.ord (nodeA L G)).length = L.length + 1 := by rw [entsOf, List.length_map, t.perm.length_eq, idsOf_length]
  generalize entsOf t.ord (nodeA L G) = E at *
  obtain ⟨hi, -, g, gs, gn, small⟩ := t
  have hw : ((L.length : Int) - (G.length : Int)) = ((L.length - G.length : Nat) : Int) := by omega
  have hw1 : (((L.length + 1 : Nat) : Int) - 1) = (L.length : Int) := by omega
  refine acalls_of_cwp (c := ⟨Try.prog, 16, [(3, [0, 0, 0, 1, 1, 0, 0, 0, 0, 1, 0, 0])], [], []⟩) (rs := [ResultVar.tmp 2]) Try.mixed Try.func21 rfl rfl rfl (Nat.le_of_ble_eq_true rfl) (by kernel_rfl) ?_
  simp (disch := omega) only [↓runPre, runPost, fieldO, ixA, cutA, lenA, aggA, rowA, appA, mkA, indA, bnd, srcA, sameOp, funcA, cvO, partA, aggD, ↓PostP, resV, resAll, resOne, resVF, resAllF, resOneF, fitsAll, fitsR, fits, frz, Post, Nat.reduceBEq, Nat.reduceLT, reduceCtorEq, ↓reduceIte, initS, AV.cellsOf, AV.fine, AV.one, repA, Nat.reduceMul, Nat.reduceAdd, Nat.reduceLeDiff, Nat.reduceEqDiff, Int.reduceToNat, Nat.reduceSub, Nat.reduceMod, Nat.reduceDiv, indexK.aggOf, Int.reducePow, Int.reduceLE, Int.reduceNeg, Int.reduceLT, Int.reduceBEq, Int.reduceBNe, Int.reduceEq, ownA, nilA, Try.facts, hi, hm, hel, hw, hw1]
  refine ⟨_, rfl, H, Abs.Sub.refl _, ?_, rfl⟩
  try rfl
  try (congr 2)
  try omega
/-- a new text -/
theorem new_live (H : AH) : ACalls Try.prog 12 [] H fun v H' => ∃ h m, v = .ptr h 0 ∧ H h = none ∧ H m = none ∧ Abs.Sub H H' ∧ IsT H' h m [] [] := by
  refine acalls_of_cwp (c := ⟨Try.prog, 7, [], [], []⟩) (rs := [ResultVar.tmp 0]) Try.mixed Try.func12 rfl rfl rfl (Nat.le_of_ble_eq_true rfl) (by kernel_rfl) ?_
  simp (disch := omega) only [↓runPre, runPost, fieldO, ixA, cutA, lenA, aggA, rowA, appA, mkA, indA, bnd, srcA, sameOp, funcA, cvO, partA, aggD, ↓PostP, resV, resAll, resOne, resVF, resAllF, resOneF, fitsAll, fitsR, fits, frz, Post, Nat.reduceBEq, Nat.reduceLT, reduceCtorEq, ↓reduceIte, initS, AV.cellsOf, AV.fine, AV.one, repA, Nat.reduceMul, Nat.reduceAdd, Nat.reduceLeDiff, Nat.reduceEqDiff, Int.reduceToNat, Nat.reduceSub, Nat.reduceMod, Nat.reduceDiv, indexK.aggOf, Int.reducePow, Int.reduceLE, Int.reduceNeg, Int.reduceLT, Int.reduceBEq, Int.reduceBNe, Int.reduceEq, ownA, nilA, Try.facts]
  intro m hm0 hm h hh0 hh
  have hne := set_ne hh
  exact ⟨_, rfl, _, Abs.Sub.refl _, h, m, rfl, subset_set hh, hm, (Sub.set_new hm).trans (Sub.set_new hh), ⟨set_get, ⟨[root], List.Perm.refl _, by rw [set_other hne, set_get]; rfl⟩, Fug.Good.nil, by simp, by simp, by simp⟩⟩
end Go.Proofs.Ytpmmafmbjconiaa
