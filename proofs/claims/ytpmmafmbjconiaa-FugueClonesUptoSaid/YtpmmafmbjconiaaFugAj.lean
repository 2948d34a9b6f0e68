/-
  The walks of the fugue layer: a clone.
  Conditions: none. Lemmas only.
-/
import Derived.Test.YtpmmafmbjconiaaFugN
set_option linter.all false
set_option linter.unusedSimpArgs false
set_option linter.unusedVariables false
set_option maxRecDepth 8000
set_option maxHeartbeats 4000000
namespace Go.Proofs.Ytpmmafmbjconiaa
open Go Go.Abs Go.Proofs Go.Fug
theorem zip_unzip (I : List EId) (f : EId → AV) : ((entsOf I f).map (·.1)).zip ((entsOf I f).map (·.2)) = entsOf I f := by
  induction I with
  | nil => rfl
  | cons y I ih => simp only [entsOf, List.map_cons, List.zip_cons_cons] at *; rw [ih]
theorem map_range (I : List EId) : (List.range I.length).map (fun j => I.getD j root) = I := by
  apply List.ext_getElem (by simp)
  intro i h1 h2
  simp [List.getD, h2]
theorem js_perm {I : List EId} {js : List Nat} (hn : js.Nodup) (hl : ∀ j ∈ js, j < I.length) (ha : ∀ j, j < I.length → j ∈ js) : (js.map fun j => I.getD j root).Perm I := by
  have h1 : js.Perm (List.range I.length) := (List.perm_ext_iff_of_nodup hn List.nodup_range).2 fun j => ⟨fun h => List.mem_range.2 (hl j h), fun h => ha j (List.mem_range.1 h)⟩
  have := h1.map fun j => I.getD j root
  rwa [map_range] at this
theorem js_not {I : List EId} (hI : I.Nodup) {js : List Nat} (hl : ∀ j ∈ js, j < I.length) {j : Nat} (hj : j < I.length) (hn : j ∉ js) : I[j] ∉ js.map fun j => I.getD j root := fun h => by
  obtain ⟨i, hi, e⟩ := List.mem_map.1 h
  have hil := hl i hi
  simp only [List.getD, List.getElem?_eq_getElem hil, Option.getD_some] at e
  have := (List.getElem_inj hI).1 e
  exact hn (by rw [← this]; exact hi)
theorem clone_live (H : AH) (h m : Nat) (L : List Ins) (G : List EId) (t : IsT H h m L G) : ACalls Try.prog 24 [.ptr h 0] H fun v H' =>
    ∃ h2 m2, v = .ptr h2 0 ∧ H h2 = none ∧ H m2 = none ∧ h2 ≠ 0 ∧ Abs.Sub H H' ∧ IsT H' h2 m2 L G := by
  have hi := t.hi
  have hm := t.hm
  have hne := t.hmne
  have hpm := t.perm
  have hnd := t.ord_nodup
  have hlen := hpm.length_eq
  rw [idsOf_length] at hlen
  have hsm := t.small
  generalize t.ord = I at *
  refine acalls_of_cwp (c := ⟨Try.prog, 32, [(7, [0, 0, 0, 1, 1, 1, 2]), (1000006, [5, 4])], [], []⟩) (rs := [ResultVar.tmp 2]) Try.mixed Try.func24 rfl rfl rfl (Nat.le_of_ble_eq_true rfl) (by kernel_rfl) ?_
  simp (disch := omega) only [↓runPre, runPost, fieldO, ixA, cutA, lenA, aggA, rowA, appA, mkA, indA, bnd, srcA, sameOp, funcA, cvO, partA, aggD, ↓PostP, resV, resAll, resOne, resVF, resAllF, resOneF, fitsAll, fitsR, fits, frz, Post, Nat.reduceBEq, Nat.reduceLT, reduceCtorEq, ↓reduceIte, initS, AV.cellsOf, AV.fine, AV.one, repA, Nat.reduceMul, Nat.reduceAdd, Nat.reduceLeDiff, Nat.reduceEqDiff, Int.reduceToNat, Nat.reduceSub, Nat.reduceMod, Nat.reduceDiv, indexK.aggOf, Int.reducePow, Int.reduceLE, Int.reduceNeg, Int.reduceLT, Int.reduceBEq, Int.reduceBNe, Int.reduceEq, ownA, nilA, Try.facts]
  intro m2 hm20 hm2
  have n1 := ne_live hi hm2
  have n2 := ne_live hm hm2
  simp (disch := omega) only [↓runPre, runPost, fieldO, ixA, cutA, lenA, aggA, rowA, appA, mkA, indA, bnd, srcA, sameOp, funcA, cvO, partA, aggD, ↓PostP, resV, resAll, resOne, resVF, resAllF, resOneF, fitsAll, fitsR, fits, frz, Post, Nat.reduceBEq, Nat.reduceLT, reduceCtorEq, ↓reduceIte, initS, AV.cellsOf, AV.fine, AV.one, repA, Nat.reduceMul, Nat.reduceAdd, Nat.reduceLeDiff, Nat.reduceEqDiff, Int.reduceToNat, Nat.reduceSub, Nat.reduceMod, Nat.reduceDiv, indexK.aggOf, Int.reducePow, Int.reduceLE, Int.reduceNeg, Int.reduceLT, Int.reduceBEq, Int.reduceBNe, Int.reduceEq, ownA, nilA, Try.facts, hi, hm, set_other, n1, n2]
  intro h2 hh20 hh2
  have hh2H := subset_set hh2
  have n3 := ne_live hi hh2H
  have n4 := ne_live hm hh2H
  have n5 := set_ne hh2
  simp (disch := omega) only [↓runPre, runPost, fieldO, ixA, cutA, lenA, aggA, rowA, appA, mkA, indA, bnd, srcA, sameOp, funcA, cvO, partA, aggD, ↓PostP, resV, resAll, resOne, resVF, resAllF, resOneF, fitsAll, fitsR, fits, frz, Post, Nat.reduceBEq, Nat.reduceLT, reduceCtorEq, ↓reduceIte, initS, AV.cellsOf, AV.fine, AV.one, repA, Nat.reduceMul, Nat.reduceAdd, Nat.reduceLeDiff, Nat.reduceEqDiff, Int.reduceToNat, Nat.reduceSub, Nat.reduceMod, Nat.reduceDiv, indexK.aggOf, Int.reducePow, Int.reduceLE, Int.reduceNeg, Int.reduceLT, Int.reduceBEq, Int.reduceBNe, Int.reduceEq, ownA, nilA, Try.facts, hi, hm, set_other, n1, n2, n3, n4, n5]
  have hmE : ((H.set m2 (.map [])).set h2 (.cells [.mp m2, .sc (.int .i64 (G.length : Nat))] 74 2)) m = some (.map (entsOf I (nodeA L G))) := by rw [set_other n4, set_other n2]; exact hm
  refine range_m (kt := 31) (et := 71) ?_ hmE fun hr hr0 hrf b ms clock => ?_
  · kernel_rfl
  have hmne2 : ¬ m2 = m := fun e => n2 e.symm
  have hh2m : ¬ h2 = m := fun e => n4 e.symm
  have hrf2 : ((H.set m2 (.map [])).set h2 (.cells [.mp m2, .sc (.int .i64 (G.length : Nat))] 74 2)) hr = none := hrf
  have r1 := set_ne hrf2
  have r2 := set_ne (subset_set hrf2)
  have hrH := subset_set (subset_set hrf2)
  have r3 := ne_live hm hrH
  have r4 := ne_live hi hrH
  generalize hKS : (entsOf I (nodeA L G)).map (·.1) = KS at *
  generalize hVS : (entsOf I (nodeA L G)).map (·.2) = VS at *
  have hKl : KS.length = I.length := by rw [← hKS, List.length_map, entsOf, List.length_map]
  have hKg : ∀ j (hj : j < I.length) (hk : j < KS.length), KS[j] = idV I[j] := fun j hj hk => by
    subst hKS
    simp [entsOf]
  have hVg : ∀ j (hj : j < I.length), VS.getD j .any = nodeA L G I[j] := fun j hj => by
    subst hVS
    simp [entsOf, List.getD, hj]
  have hzip : KS.zip VS = entsOf I (nodeA L G) := by rw [← hKS, ← hVS]; exact zip_unzip I _
  have hmf : ∀ o o', (((H.set m2 (.map [])).set h2 (.cells [.mp m2, .sc (.int .i64 (G.length : Nat))] 74 2)).set m o).set hr o' = (((H.set m2 (.map [])).set h2 (.cells [.mp m2, .sc (.int .i64 (G.length : Nat))] 74 2)).set m o).set hr o' := fun _ _ => rfl
  simp (disch := omega) only [↓runPre, runPost, fieldO, ixA, cutA, lenA, aggA, rowA, appA, mkA, indA, bnd, srcA, sameOp, funcA, cvO, partA, aggD, ↓PostP, resV, resAll, resOne, resVF, resAllF, resOneF, fitsAll, fitsR, fits, frz, Post, Nat.reduceBEq, Nat.reduceLT, reduceCtorEq, ↓reduceIte, initS, AV.cellsOf, AV.fine, AV.one, repA, Nat.reduceMul, Nat.reduceAdd, Nat.reduceLeDiff, Nat.reduceEqDiff, Int.reduceToNat, Nat.reduceSub, Nat.reduceMod, Nat.reduceDiv, indexK.aggOf, Int.reducePow, Int.reduceLE, Int.reduceNeg, Int.reduceLT, Int.reduceBEq, Int.reduceBNe, Int.reduceEq, ownA, nilA, Try.facts]
  refine loop_t (c := ⟨Try.prog, 32, [(7, [0, 0, 0, 1, 1, 1, 2]), (1000006, [5, 4])], [], []⟩) Try.mixed (by kernel_rfl) (fun mm σ H' => ∃ js : List Nat, js.Nodup ∧ (∀ j ∈ js, j < I.length) ∧ js.length + mm = I.length ∧ H' m2 = some (.map (entsOf (js.map fun j => I.getD j root) (nodeA L G))) ∧
    H' h2 = some (.cells [.mp m2, .sc (.int .i64 (G.length : Nat))] 74 2) ∧ H' m = some (.raw (.map ms clock)) ∧ H' hr = some (.raw (itO b clock ms js)) ∧ (∀ y o, y ≠ m → H y = some o → H' y = some o) ∧
    σ 3 = .ptr h2 0 ∧ σ 19 = .itr hr m b clock KS VS ms) I.length ?_ ?_
  · refine ⟨[], List.nodup_nil, by simp, by simp, ?_, ?_, ?_, set_get, fun y o hy ho => ?_, ?_⟩
    · rw [set_other r2, set_other hmne2, set_other n5, set_get]; rfl
    · rw [set_other r1, set_other hh2m, set_get]
    · rw [set_other r3, set_get]
    · rw [set_other (ne_live ho hrH), set_other hy, set_other (ne_live ho hh2H), set_other (ne_live ho hm2)]; exact ho
    · simp (disch := omega) only [↓runPre, runPost, fieldO, ixA, cutA, lenA, aggA, rowA, appA, mkA, indA, bnd, srcA, sameOp, funcA, cvO, partA, aggD, ↓PostP, resV, resAll, resOne, resVF, resAllF, resOneF, fitsAll, fitsR, fits, frz, Post, Nat.reduceBEq, Nat.reduceLT, reduceCtorEq, ↓reduceIte, initS, AV.cellsOf, AV.fine, AV.one, repA, Nat.reduceMul, Nat.reduceAdd, Nat.reduceLeDiff, Nat.reduceEqDiff, Int.reduceToNat, Nat.reduceSub, Nat.reduceMod, Nat.reduceDiv, indexK.aggOf, Int.reducePow, Int.reduceLE, Int.reduceNeg, Int.reduceLT, Int.reduceBEq, Int.reduceBNe, Int.reduceEq, ownA, nilA, Try.facts]
      try rfl
  · rintro mm σ H' ⟨js, hjn, hjl, hjm, v2, w2, vm, vr, fr, s3, s19⟩
    simp (disch := omega) only [↓runPre, runPost, fieldO, ixA, cutA, lenA, aggA, rowA, appA, mkA, indA, bnd, srcA, sameOp, funcA, cvO, partA, aggD, ↓PostP, resV, resAll, resOne, resVF, resAllF, resOneF, fitsAll, fitsR, fits, frz, Post, Nat.reduceBEq, Nat.reduceLT, reduceCtorEq, ↓reduceIte, initS, AV.cellsOf, AV.fine, AV.one, repA, Nat.reduceMul, Nat.reduceAdd, Nat.reduceLeDiff, Nat.reduceEqDiff, Int.reduceToNat, Nat.reduceSub, Nat.reduceMod, Nat.reduceDiv, indexK.aggOf, Int.reducePow, Int.reduceLE, Int.reduceNeg, Int.reduceLT, Int.reduceBEq, Int.reduceBNe, Int.reduceEq, ownA, nilA, Try.facts, s3, s19]
    refine next_m vr vm (fun j hj => by rw [hKl]; exact hjl j hj) (fun hall => ?_) (fun j hj hjn2 => ?_)
    · have hall' : ∀ j, j < I.length → j ∈ js := fun j hj => hall j (by rw [hKl]; exact hj)
      have hp := js_perm hjn hjl hall'
      rw [hzip]
      simp (disch := omega) only [↓runPre, runPost, fieldO, ixA, cutA, lenA, aggA, rowA, appA, mkA, indA, bnd, srcA, sameOp, funcA, cvO, partA, aggD, ↓PostP, resV, resAll, resOne, resVF, resAllF, resOneF, fitsAll, fitsR, fits, frz, Post, Nat.reduceBEq, Nat.reduceLT, reduceCtorEq, ↓reduceIte, initS, AV.cellsOf, AV.fine, AV.one, repA, Nat.reduceMul, Nat.reduceAdd, Nat.reduceLeDiff, Nat.reduceEqDiff, Int.reduceToNat, Nat.reduceSub, Nat.reduceMod, Nat.reduceDiv, indexK.aggOf, Int.reducePow, Int.reduceLE, Int.reduceNeg, Int.reduceLT, Int.reduceBEq, Int.reduceBNe, Int.reduceEq, ownA, nilA, Try.facts, s3, s19]
      refine ⟨_, rfl, _, Abs.Sub.refl _, h2, m2, rfl, hh2H, hm2, hh20, fun y o ho => ?_, ⟨by rw [set_other hh2m]; exact w2, ⟨_, hp.trans hpm, by rw [set_other hmne2]; exact v2⟩, t.g, t.gs, t.gn, t.small⟩⟩
      by_cases e : y = m
      · subst e
        rw [set_get]
        rw [hm] at ho
        exact ho
      · rw [set_other e]; exact fr y o e ho
    · have hjI : j < I.length := by rw [← hKl]; exact hj
      have hnot := js_not hnd hjl hjI hjn2
      have hmap : (js ++ [j]).map (fun j => I.getD j root) = js.map (fun j => I.getD j root) ++ [I[j]] := by simp [List.getD, hjI]
      have hjn' : (js ++ [j]).Nodup := by
        rw [List.nodup_append]
        exact ⟨hjn, by simp, fun a ha b hb => by rw [List.mem_singleton.1 hb]; rintro rfl; exact hjn2 ha⟩
      have hjl' : ∀ i ∈ js ++ [j], i < I.length := fun i hi => by
        rcases List.mem_append.1 hi with h | h
        · exact hjl i h
        · rw [List.mem_singleton.1 h]; exact hjI
      have hjm' : (js ++ [j]).length + (mm - 1) = I.length := by
        have := len_le_of_sub (js ++ [j]) (List.range I.length) hjn' (fun i hi => List.mem_range.2 (hjl' i hi))
        rw [List.length_range] at this
        simp only [List.length_append, List.length_singleton] at this ⊢
        omega
      have hpos : 0 < mm := by
        have := len_le_of_sub (js ++ [j]) (List.range I.length) hjn' (fun i hi => List.mem_range.2 (hjl' i hi))
        rw [List.length_range] at this
        simp only [List.length_append, List.length_singleton] at this
        omega
      have hK := hKg j hjI hj
      have hV := hVg j hjI
      have hf := find_ids (nodeA L G) I[j] (js.map fun j => I.getD j root) 0
      rw [if_neg hnot] at hf
      have hen := ents_new (I := js.map fun j => I.getD j root) (f := nodeA L G) (x := I[j])
      rw [← hmap] at hen
      rw [hK, hV]
      unfold nodeA nodeC at hen hV ⊢
      generalize I[j] = x at *
      obtain ⟨x1, x2⟩ := x
      have hr2 : ¬ hr = m := fun e => r3 e.symm
      have e1 : ¬ m = hr := r3
      have e2 : ¬ m2 = hr := r2
      have e3 : ¬ h2 = hr := r1
      simp (disch := omega) only [↓runPre, runPost, fieldO, ixA, cutA, lenA, aggA, rowA, appA, mkA, indA, bnd, srcA, sameOp, funcA, cvO, partA, aggD, ↓PostP, resV, resAll, resOne, resVF, resAllF, resOneF, fitsAll, fitsR, fits, frz, Post, Nat.reduceBEq, Nat.reduceLT, reduceCtorEq, ↓reduceIte, initS, AV.cellsOf, AV.fine, AV.one, repA, Nat.reduceMul, Nat.reduceAdd, Nat.reduceLeDiff, Nat.reduceEqDiff, Int.reduceToNat, Nat.reduceSub, Nat.reduceMod, Nat.reduceDiv, indexK.aggOf, Int.reducePow, Int.reduceLE, Int.reduceNeg, Int.reduceLT, Int.reduceBEq, Int.reduceBNe, Int.reduceEq, ownA, nilA, Try.facts, s3, s19]
      refine entry_m (js := js) (j := j) hj set_get (by rw [set_other e1]; exact vm) ?_
      rw [hK, hV]
      simp (disch := omega) only [↓runPre, runPost, fieldO, ixA, cutA, lenA, aggA, rowA, appA, mkA, indA, bnd, srcA, sameOp, funcA, cvO, partA, aggD, ↓PostP, resV, resAll, resOne, resVF, resAllF, resOneF, fitsAll, fitsR, fits, frz, Post, Nat.reduceBEq, Nat.reduceLT, reduceCtorEq, ↓reduceIte, initS, AV.cellsOf, AV.fine, AV.one, repA, Nat.reduceMul, Nat.reduceAdd, Nat.reduceLeDiff, Nat.reduceEqDiff, Int.reduceToNat, Nat.reduceSub, Nat.reduceMod, Nat.reduceDiv, indexK.aggOf, Int.reducePow, Int.reduceLE, Int.reduceNeg, Int.reduceLT, Int.reduceBEq, Int.reduceBNe, Int.reduceEq, ownA, nilA, Try.facts, s3, s19]
      obtain ⟨X, hX⟩ : ∃ X, X = H'.set hr (.raw (itO b clock ms (js ++ [j]))) := ⟨_, rfl⟩
      rw [← hX]
      intro b4 hb40 hb4 b5 hb50 hb5
      have n45 := set_ne hb5
      have n54 := fun e : b5 = b4 => n45 e.symm
      have hb5X := subset_set hb5
      have sw : ∀ a b c, ((X.set b4 a).set b5 b).set b4 c = (X.set b4 c).set b5 b := fun a b c => by
        funext y
        simp only [AH.set]
        by_cases e : y = b4
        · subst e; simp [n45]
        · simp [e]
      have k1 : ∀ c d, ((X.set b4 c).set b5 d).kill b5 = X.set b4 c := fun c d => kill_box (by rw [set_other n54]; exact hb5X)
      have k2 : ∀ c, (X.set b4 c).kill b4 = X := fun c => kill_box hb4
      have x2 : X h2 = some (.cells [.mp m2, .sc (.int .i64 (G.length : Nat))] 74 2) := by rw [hX, set_other e3]; exact w2
      have x3 : X m2 = some (.map (entsOf (js.map fun j => I.getD j root) (nodeA L G))) := by rw [hX, set_other e2]; exact v2
      have x4 : X m = some (.raw (.map ms clock)) := by rw [hX, set_other e1]; exact vm
      have x5 : X hr = some (.raw (itO b clock ms (js ++ [j]))) := by rw [hX, set_get]
      have x6 : ∀ y o, y ≠ m → H y = some o → X y = some o := fun y o hy ho => by rw [hX, set_other (ne_live ho hrH)]; exact fr y o hy ho
      clear hX
      generalize hE0 : entsOf (js.map fun j => I.getD j root) (nodeA L G) = E0 at *
      generalize hE1 : entsOf ((js ++ [j]).map fun j => I.getD j root) (nodeA L G) = E1 at *
      simp (disch := omega) only [↓runPre, runPost, fieldO, ixA, cutA, lenA, aggA, rowA, appA, mkA, indA, bnd, srcA, sameOp, funcA, cvO, partA, aggD, ↓PostP, resV, resAll, resOne, resVF, resAllF, resOneF, fitsAll, fitsR, fits, frz, Post, Nat.reduceBEq, Nat.reduceLT, reduceCtorEq, ↓reduceIte, initS, AV.cellsOf, AV.fine, AV.one, repA, Nat.reduceMul, Nat.reduceAdd, Nat.reduceLeDiff, Nat.reduceEqDiff, Int.reduceToNat, Nat.reduceSub, Nat.reduceMod, Nat.reduceDiv, indexK.aggOf, Int.reducePow, Int.reduceLE, Int.reduceNeg, Int.reduceLT, Int.reduceBEq, Int.reduceBNe, Int.reduceEq, ownA, nilA, Try.facts, s3, s19, set_other, n45, n54, sw, k1, k2, putCells_eq, x2, x3, hf, hen]
      exact ⟨mm - 1, by omega, js ++ [j], hjn', hjl', hjm', by rw [← hE1], x4, x5, fun y o hy ho => by rw [set_other (ne_live ho hm2)]; exact x6 y o hy ho⟩
end Go.Proofs.Ytpmmafmbjconiaa
