/-
  The walks of the fugue layer: where one is to hang: the document's.
  Conditions: none. Lemmas only.
-/
import Derived.Test.YtpmmafmbjconiaaFugAa
import Derived.Test.YtpmmafmbjconiaaFugY
set_option linter.all false
set_option linter.unusedSimpArgs false
set_option linter.unusedVariables false
set_option maxRecDepth 8000
set_option maxHeartbeats 4000000
namespace Go.Proofs.Ytpmmafmbjconiaa
open Go Go.Abs Go.Proofs Go.Fug
/-- whom one stands behind -/
def planA (N : List Nd) (k : Nat) : EId := if k = 0 then root else (((live N)[k - 1]?).map (·.id)).getD root
def planL (L : List Ins) (G : List EId) (i : Int) : EId × Bool × Int :=
  if 0 ≤ i ∧ i ≤ ((live (nodes L G)).length : Nat) then
    if kids L (planA (nodes L G) i.toNat) true = [] then (planA (nodes L G) i.toNat, true, 0) else (planZ L G (planA (nodes L G) i.toNat), false, 0)
  else (root, false, 6)
abbrev planV (p : EId × Bool × Int) : AV := .tup [idV p.1, .sc (.bool p.2.1), .sc (.int .i64 p.2.2)]
theorem planA_ok {L : List Ins} {G : List EId} (g : Fug.Good L) {k : Nat} (hk : k ≤ (live (nodes L G)).length) :
    (planA (nodes L G) k = root ∨ planA (nodes L G) k ∈ L.map (·.id)) ∧ (∀ h : 0 < k, planA (nodes L G) k = ((live (nodes L G))[k - 1]'(by omega)).id) := by
  by_cases h : k = 0
  · subst h
    exact ⟨.inl rfl, fun h => by omega⟩
  · have e : planA (nodes L G) k = ((live (nodes L G))[k - 1]'(by omega)).id := by
      unfold planA
      rw [if_neg h, List.getElem?_eq_getElem (by omega)]
      rfl
    refine ⟨.inr ?_, fun _ => e⟩
    rw [e, ← mem_nodes g G]
    exact List.mem_map.2 ⟨_, (List.mem_filter.1 (List.getElem_mem _)).1, rfl⟩
theorem rplan_pure (L : List Ins) (G : List EId) (i : Int) (hL : L.length ≤ 10000) (hG : G.length ≤ 10000) (g : Fug.Good L) : APure Try.prog 28 [treeV L G, .sc (.int .i64 i)] (planV (planL L G i)) := by
  have hrl := rlive_pure L G hL hG g
  have hrn := rnodes_pure L G hL hG g
  have hnl := nodes_le G g.nd (by omega)
  have hll : (live (nodes L G)).length ≤ 1000000000 := Nat.le_trans (List.length_filter_le _ _) hnl
  unfold planL
  by_cases h0 : i < 0
  · rw [if_neg (by omega)]
    generalize live (nodes L G) = N at *
    refine apure_of_cwp (c := ⟨Try.prog, 60, [(14, [0, 0, 0, 0, 1, 1, 0]), (1000000, [2]), (4000016, [4, 5, 6]), (4000014, [4, 8, 9, 10, 11, 52]), (4000007, [2, 4, 8, 36]), (4000006, [2, 4, 8]), (4000002, [1, 2, 4, 7, 21])], [], []⟩) (rs := [ResultVar.cell 4 31, ResultVar.tmp 5, ResultVar.tmp 6]) Try.mixed Try.func28 rfl rfl rfl (Nat.le_of_ble_eq_true rfl) (by kernel_rfl) fun H => ?_
    simp (disch := omega) only [↓runPre, runPost, fieldO, ixA, cutA, lenA, aggA, rowA, appA, mkA, indA, bnd, srcA, sameOp, funcA, cvO, partA, aggD, ↓PostP, resV, resAll, resOne, resVF, resAllF, resOneF, fitsAll, fitsR, fits, frz, Post, Nat.reduceBEq, Nat.reduceLT, reduceCtorEq, ↓reduceIte, initS, AV.cellsOf, AV.fine, AV.one, repA, Nat.reduceMul, Nat.reduceAdd, Nat.reduceLeDiff, Nat.reduceEqDiff, Int.reduceToNat, Nat.reduceSub, Nat.reduceMod, Nat.reduceDiv, indexK.aggOf, Int.reducePow, Int.reduceLE, Int.reduceNeg, Int.reduceLT, Int.reduceBEq, Int.reduceBNe, Int.reduceEq, ownA, nilA, Try.facts]
    intro b hb0 hb b2 hb20 hb2
    have nb := set_ne hb2
    simp (disch := omega) only [↓runPre, runPost, fieldO, ixA, cutA, lenA, aggA, rowA, appA, mkA, indA, bnd, srcA, sameOp, funcA, cvO, partA, aggD, ↓PostP, resV, resAll, resOne, resVF, resAllF, resOneF, fitsAll, fitsR, fits, frz, Post, Nat.reduceBEq, Nat.reduceLT, reduceCtorEq, ↓reduceIte, initS, AV.cellsOf, AV.fine, AV.one, repA, Nat.reduceMul, Nat.reduceAdd, Nat.reduceLeDiff, Nat.reduceEqDiff, Int.reduceToNat, Nat.reduceSub, Nat.reduceMod, Nat.reduceDiv, indexK.aggOf, Int.reducePow, Int.reduceLE, Int.reduceNeg, Int.reduceLT, Int.reduceBEq, Int.reduceBNe, Int.reduceEq, ownA, nilA, Try.facts, set_other, nb, kill_under hb nb, putCells_eq]
    first | refine CallK.p (hrl) ?_ | refine CallP.i (hrl) ?_
    simp (disch := omega) only [↓runPre, runPost, fieldO, ixA, cutA, lenA, aggA, rowA, appA, mkA, indA, bnd, srcA, sameOp, funcA, cvO, partA, aggD, ↓PostP, resV, resAll, resOne, resVF, resAllF, resOneF, fitsAll, fitsR, fits, frz, Post, Nat.reduceBEq, Nat.reduceLT, reduceCtorEq, ↓reduceIte, initS, AV.cellsOf, AV.fine, AV.one, repA, Nat.reduceMul, Nat.reduceAdd, Nat.reduceLeDiff, Nat.reduceEqDiff, Int.reduceToNat, Nat.reduceSub, Nat.reduceMod, Nat.reduceDiv, indexK.aggOf, Int.reducePow, Int.reduceLE, Int.reduceNeg, Int.reduceLT, Int.reduceBEq, Int.reduceBNe, Int.reduceEq, ownA, nilA, Try.facts, dT, dF, qT, qF, nT, nF, Bool.false_and, Bool.and_false, putCells_eq]
    first | exact ⟨rfl, Sub.set_new (subset_set hb2)⟩ | exact Sub.set_new (subset_set hb2)
  · obtain ⟨k, rfl⟩ : ∃ k : Nat, i = k := ⟨i.toNat, by omega⟩
    rw [Int.toNat_natCast]
    by_cases h1 : k ≤ (live (nodes L G)).length
    · rw [if_pos (by omega)]
      obtain ⟨ha, hka⟩ := planA_ok (G := G) g h1
      have hrk := rkids_pure L G (planA (nodes L G) k) true (by omega)
      have hkl : (kidsI L (planA (nodes L G) k) true).length = (kids L (planA (nodes L G) k) true).length := by rw [← kidsI_map g.nd, List.length_map]
      have hpp := fun (N : List Nd) (hN : N = nodes L G) (h : kids L (planA (nodes L G) k) true ≠ []) => (by subst hN; exact plan_pos (G := G) g ha h : ∃ p, p < N.length ∧ (∀ j (h : j < N.length), N[j].id = planA (nodes L G) k ↔ j + 1 = p) ∧ ∀ h : p < N.length, N[p].id = planZ L G (planA (nodes L G) k))
      have hkle := kids_length L (planA (nodes L G) k) true
      have hKi := inssC_length (kidsI L (planA (nodes L G) k) true)
      have hnr : k = 0 → planA (nodes L G) k = (0, 0) := fun e => by subst e; rfl
      generalize planA (nodes L G) k = a at *
      generalize kidsI L a true = KI at *
      obtain ⟨K, hK⟩ : ∃ K, K = kids L a true := ⟨_, rfl⟩
      rw [← hK] at hkl hpp hkle ⊢
      generalize planZ L G a = z at *
      obtain ⟨M, hM⟩ : ∃ M, M = live (nodes L G) := ⟨_, rfl⟩
      simp only [← hM] at hrl hll h1
      have hka := fun (h : 0 < k) (h' : k - 1 < M.length) => (by subst hM; exact hka h : a = (M[k - 1]).id)
      obtain ⟨N, hN⟩ : ∃ N, N = nodes L G := ⟨_, rfl⟩
      simp only [← hN] at hrn hnl
      replace hpp := hpp N hN
      obtain ⟨a1, a2⟩ := a
      obtain ⟨z1, z2⟩ := z
      clear ha hM hN
      have hMi := ndsC_length M
      have hNi := ndsC_length N
      have hc : (k = 0 ∧ a1 = 0 ∧ a2 = 0) ∨ (∃ j, k = j + 1 ∧ j < M.length ∧ ((ndsC M).drop (j * 4)).take 2 = [.sc (.int .i64 a1), .sc (.int .i64 a2)] ∧ j * 4 + 2 ≤ M.length * 4) := by
        rcases Nat.eq_zero_or_pos k with e | e
        · exact .inl ⟨e, by have := hnr e; simpa using this⟩
        · have h2 : k - 1 < M.length := by omega
          have e2 := hka e h2
          have e3 := ndsC_two h2
          rw [← e2] at e3
          exact .inr ⟨k - 1, by omega, h2, e3, by omega⟩
      clear hka hnr
      refine apure_of_cwp (c := ⟨Try.prog, 60, [(14, [0, 0, 0, 0, 1, 1, 0]), (1000000, [2]), (4000016, [4, 5, 6]), (4000014, [4, 8, 9, 10, 11, 52]), (4000007, [2, 4, 8, 36]), (4000006, [2, 4, 8]), (4000002, [1, 2, 4, 7, 21])], [], []⟩) (rs := [ResultVar.cell 4 31, ResultVar.tmp 5, ResultVar.tmp 6]) Try.mixed Try.func28 rfl rfl rfl (Nat.le_of_ble_eq_true rfl) (by kernel_rfl) fun H => ?_
      simp (disch := omega) only [↓runPre, runPost, fieldO, ixA, cutA, lenA, aggA, rowA, appA, mkA, indA, bnd, srcA, sameOp, funcA, cvO, partA, aggD, ↓PostP, resV, resAll, resOne, resVF, resAllF, resOneF, fitsAll, fitsR, fits, frz, Post, Nat.reduceBEq, Nat.reduceLT, reduceCtorEq, ↓reduceIte, initS, AV.cellsOf, AV.fine, AV.one, repA, Nat.reduceMul, Nat.reduceAdd, Nat.reduceLeDiff, Nat.reduceEqDiff, Int.reduceToNat, Nat.reduceSub, Nat.reduceMod, Nat.reduceDiv, indexK.aggOf, Int.reducePow, Int.reduceLE, Int.reduceNeg, Int.reduceLT, Int.reduceBEq, Int.reduceBNe, Int.reduceEq, ownA, nilA, Try.facts]
      intro b hb0 hb b2 hb20 hb2
      have nb := set_ne hb2
      simp (disch := omega) only [↓runPre, runPost, fieldO, ixA, cutA, lenA, aggA, rowA, appA, mkA, indA, bnd, srcA, sameOp, funcA, cvO, partA, aggD, ↓PostP, resV, resAll, resOne, resVF, resAllF, resOneF, fitsAll, fitsR, fits, frz, Post, Nat.reduceBEq, Nat.reduceLT, reduceCtorEq, ↓reduceIte, initS, AV.cellsOf, AV.fine, AV.one, repA, Nat.reduceMul, Nat.reduceAdd, Nat.reduceLeDiff, Nat.reduceEqDiff, Int.reduceToNat, Nat.reduceSub, Nat.reduceMod, Nat.reduceDiv, indexK.aggOf, Int.reducePow, Int.reduceLE, Int.reduceNeg, Int.reduceLT, Int.reduceBEq, Int.reduceBNe, Int.reduceEq, ownA, nilA, Try.facts, set_other, nb, kill_under hb nb, putCells_eq]
      have hbH := subset_set hb2
      rcases hc with ⟨rfl, rfl, rfl⟩ | ⟨j, rfl, hj, ld, le2⟩
      · have hcase : True := trivial
        first | refine CallK.p (hrl) ?_ | refine CallP.i (hrl) ?_
        simp (disch := omega) only [↓runPre, runPost, fieldO, ixA, cutA, lenA, aggA, rowA, appA, mkA, indA, bnd, srcA, sameOp, funcA, cvO, partA, aggD, ↓PostP, resV, resAll, resOne, resVF, resAllF, resOneF, fitsAll, fitsR, fits, frz, Post, Nat.reduceBEq, Nat.reduceLT, reduceCtorEq, ↓reduceIte, initS, AV.cellsOf, AV.fine, AV.one, repA, Nat.reduceMul, Nat.reduceAdd, Nat.reduceLeDiff, Nat.reduceEqDiff, Int.reduceToNat, Nat.reduceSub, Nat.reduceMod, Nat.reduceDiv, indexK.aggOf, Int.reducePow, Int.reduceLE, Int.reduceNeg, Int.reduceLT, Int.reduceBEq, Int.reduceBNe, Int.reduceEq, ownA, nilA, Try.facts, dT, dF, qT, qF, nT, nF, Bool.false_and, Bool.and_false, putCells_eq]
        intro b8 hb80 hb8
        have n28 := set_ne hb8
        have n82 := fun e : b8 = b2 => n28 e.symm
        refine CallK.p hrk ?_
        by_cases hKn : K = []
        · subst hKn
          have hkl0 : KI.length = 0 := hkl
          simp (disch := omega) only [↓runPre, runPost, fieldO, ixA, cutA, lenA, aggA, rowA, appA, mkA, indA, bnd, srcA, sameOp, funcA, cvO, partA, aggD, ↓PostP, resV, resAll, resOne, resVF, resAllF, resOneF, fitsAll, fitsR, fits, frz, Post, Nat.reduceBEq, Nat.reduceLT, reduceCtorEq, ↓reduceIte, initS, AV.cellsOf, AV.fine, AV.one, repA, Nat.reduceMul, Nat.reduceAdd, Nat.reduceLeDiff, Nat.reduceEqDiff, Int.reduceToNat, Nat.reduceSub, Nat.reduceMod, Nat.reduceDiv, indexK.aggOf, Int.reducePow, Int.reduceLE, Int.reduceNeg, Int.reduceLT, Int.reduceBEq, Int.reduceBNe, Int.reduceEq, ownA, nilA, Try.facts, set_other, n28, n82, dT, dF, qT, qF, nT, nF, Bool.false_and, Bool.and_false, putCells_eq, hkl0, hKi]
          exact (((Abs.Sub.refl H).set_free hbH).set_free (subset_set hb8)).set_free hbH
        · have hkp : 0 < KI.length := by rw [hkl]; exact List.length_pos_iff.2 hKn
          obtain ⟨p, hpN, hpe, hpz⟩ := hpp hKn
          simp (disch := omega) only [↓runPre, runPost, fieldO, ixA, cutA, lenA, aggA, rowA, appA, mkA, indA, bnd, srcA, sameOp, funcA, cvO, partA, aggD, ↓PostP, resV, resAll, resOne, resVF, resAllF, resOneF, fitsAll, fitsR, fits, frz, Post, Nat.reduceBEq, Nat.reduceLT, reduceCtorEq, ↓reduceIte, initS, AV.cellsOf, AV.fine, AV.one, repA, Nat.reduceMul, Nat.reduceAdd, Nat.reduceLeDiff, Nat.reduceEqDiff, Int.reduceToNat, Nat.reduceSub, Nat.reduceMod, Nat.reduceDiv, indexK.aggOf, Int.reducePow, Int.reduceLE, Int.reduceNeg, Int.reduceLT, Int.reduceBEq, Int.reduceBNe, Int.reduceEq, ownA, nilA, Try.facts, set_other, n28, n82, dT, dF, qT, qF, nT, nF, Bool.false_and, Bool.and_false, putCells_eq, hKi]
          refine CallK.p hrn ?_
          simp (disch := omega) only [↓runPre, runPost, fieldO, ixA, cutA, lenA, aggA, rowA, appA, mkA, indA, bnd, srcA, sameOp, funcA, cvO, partA, aggD, ↓PostP, resV, resAll, resOne, resVF, resAllF, resOneF, fitsAll, fitsR, fits, frz, Post, Nat.reduceBEq, Nat.reduceLT, reduceCtorEq, ↓reduceIte, initS, AV.cellsOf, AV.fine, AV.one, repA, Nat.reduceMul, Nat.reduceAdd, Nat.reduceLeDiff, Nat.reduceEqDiff, Int.reduceToNat, Nat.reduceSub, Nat.reduceMod, Nat.reduceDiv, indexK.aggOf, Int.reducePow, Int.reduceLE, Int.reduceNeg, Int.reduceLT, Int.reduceBEq, Int.reduceBNe, Int.reduceEq, ownA, nilA, Try.facts, set_other, n28, n82, dT, dF, qT, qF, nT, nF, Bool.false_and, Bool.and_false, putCells_eq, hKi]
          refine loop_t (c := ⟨Try.prog, 60, [(14, [0, 0, 0, 0, 1, 1, 0]), (1000000, [2]), (4000016, [4, 5, 6]), (4000014, [4, 8, 9, 10, 11, 52]), (4000007, [2, 4, 8, 36]), (4000006, [2, 4, 8]), (4000002, [1, 2, 4, 7, 21])], [], []⟩) Try.mixed (by kernel_rfl) (fun mm σ H' => H' = (H.set b2 (.cells [.sc (.int .i64 0), .sc (.int .i64 0)] 31 2)).set b8 (.cells [.sc (.int .i64 0), .sc (.int .i64 0)] 31 2) ∧ ∃ q : Nat, q + mm = N.length ∧ σ 4 = .ptr b2 0 ∧ σ 8 = .ptr b8 0 ∧ σ 9 = ndsV N ∧ σ 10 = .sc (.int .i64 ((if p ≤ q then p else 0 : Nat))) ∧ σ 11 = .sc (.int .i64 (q : Nat))) N.length ?_ ?_
          · refine ⟨rfl, 0, by omega, ?_⟩
            have : (if p ≤ 0 then p else 0) = 0 := by split <;> omega
            rw [this]
            simp (disch := omega) only [↓runPre, runPost, fieldO, ixA, cutA, lenA, aggA, rowA, appA, mkA, indA, bnd, srcA, sameOp, funcA, cvO, partA, aggD, ↓PostP, resV, resAll, resOne, resVF, resAllF, resOneF, fitsAll, fitsR, fits, frz, Post, Nat.reduceBEq, Nat.reduceLT, reduceCtorEq, ↓reduceIte, initS, AV.cellsOf, AV.fine, AV.one, repA, Nat.reduceMul, Nat.reduceAdd, Nat.reduceLeDiff, Nat.reduceEqDiff, Int.reduceToNat, Nat.reduceSub, Nat.reduceMod, Nat.reduceDiv, indexK.aggOf, Int.reducePow, Int.reduceLE, Int.reduceNeg, Int.reduceLT, Int.reduceBEq, Int.reduceBNe, Int.reduceEq, ownA, nilA, Try.facts]
            try rfl
          · rintro mm σ H' ⟨rfl, q, hqm, s4, s8, s9, s10, s11⟩
            by_cases hlt : q < N.length
            · have ldq := ndsC_two hlt
              have leq : q * 4 + 2 ≤ N.length * 4 := by omega
              have hq := hpe q hlt
              have hq1 : ((q : Nat) : Int) + 1 = ((q + 1 : Nat) : Int) := rfl
              generalize N[q] = x at *
              obtain ⟨⟨x1, x2⟩, xu, xg⟩ := x
              simp only [Prod.mk.injEq] at ldq hq
              by_cases e : x1 = 0 ∧ x2 = 0
              · have hp1 := hq.1 e
                obtain ⟨rfl, rfl⟩ := e
                have hn1 : (if p ≤ q + 1 then p else 0) = q + 1 := by rw [if_pos (by omega)]; exact hp1.symm
                simp (disch := omega) only [↓runPre, runPost, fieldO, ixA, cutA, lenA, aggA, rowA, appA, mkA, indA, bnd, srcA, sameOp, funcA, cvO, partA, aggD, ↓PostP, resV, resAll, resOne, resVF, resAllF, resOneF, fitsAll, fitsR, fits, frz, Post, Nat.reduceBEq, Nat.reduceLT, reduceCtorEq, ↓reduceIte, initS, AV.cellsOf, AV.fine, AV.one, repA, Nat.reduceMul, Nat.reduceAdd, Nat.reduceLeDiff, Nat.reduceEqDiff, Int.reduceToNat, Nat.reduceSub, Nat.reduceMod, Nat.reduceDiv, indexK.aggOf, Int.reducePow, Int.reduceLE, Int.reduceNeg, Int.reduceLT, Int.reduceBEq, Int.reduceBNe, Int.reduceEq, ownA, nilA, Try.facts, s4, s8, s9, s10, s11, set_other, n28, n82, dT, dF, qT, qF, nT, nF, Bool.false_and, Bool.and_false, ldq, leq, hNi, hq1, beq_self_eq_true]
                exact ⟨mm - 1, by omega, q + 1, by omega, by rw [hn1], rfl⟩
              · have hp1 : ¬ q + 1 = p := fun h => e (hq.2 h)
                have hn1 : (if p ≤ q + 1 then p else 0) = (if p ≤ q then p else 0) := by split <;> split <;> omega
                have hbq : ((x1 == 0) && (x2 == 0)) = false := by
                  rw [Bool.eq_false_iff]
                  intro h
                  simp only [Bool.and_eq_true, beq_iff_eq] at h
                  exact e h
                simp (disch := omega) only [↓runPre, runPost, fieldO, ixA, cutA, lenA, aggA, rowA, appA, mkA, indA, bnd, srcA, sameOp, funcA, cvO, partA, aggD, ↓PostP, resV, resAll, resOne, resVF, resAllF, resOneF, fitsAll, fitsR, fits, frz, Post, Nat.reduceBEq, Nat.reduceLT, reduceCtorEq, ↓reduceIte, initS, AV.cellsOf, AV.fine, AV.one, repA, Nat.reduceMul, Nat.reduceAdd, Nat.reduceLeDiff, Nat.reduceEqDiff, Int.reduceToNat, Nat.reduceSub, Nat.reduceMod, Nat.reduceDiv, indexK.aggOf, Int.reducePow, Int.reduceLE, Int.reduceNeg, Int.reduceLT, Int.reduceBEq, Int.reduceBNe, Int.reduceEq, ownA, nilA, Try.facts, s4, s8, s9, s10, s11, set_other, n28, n82, dT, dF, ldq, leq, hNi, hq1, hbq]
                exact ⟨mm - 1, by omega, q + 1, by omega, by rw [hn1], rfl⟩
            · obtain rfl : q = N.length := by omega
              have hpq : (if p ≤ N.length then p else 0) = p := if_pos (by omega)
              rw [hpq] at s10
              have ldq := ndsC_two hpN
              have leq : p * 4 + 2 ≤ N.length * 4 := by omega
              rw [hpz hpN] at ldq
              simp (disch := omega) only [↓runPre, runPost, fieldO, ixA, cutA, lenA, aggA, rowA, appA, mkA, indA, bnd, srcA, sameOp, funcA, cvO, partA, aggD, ↓PostP, resV, resAll, resOne, resVF, resAllF, resOneF, fitsAll, fitsR, fits, frz, Post, Nat.reduceBEq, Nat.reduceLT, reduceCtorEq, ↓reduceIte, initS, AV.cellsOf, AV.fine, AV.one, repA, Nat.reduceMul, Nat.reduceAdd, Nat.reduceLeDiff, Nat.reduceEqDiff, Int.reduceToNat, Nat.reduceSub, Nat.reduceMod, Nat.reduceDiv, indexK.aggOf, Int.reducePow, Int.reduceLE, Int.reduceNeg, Int.reduceLT, Int.reduceBEq, Int.reduceBNe, Int.reduceEq, ownA, nilA, Try.facts, s4, s8, s9, s10, s11, set_other, n28, n82, dT, dF, qT, qF, nT, nF, Bool.false_and, Bool.and_false, ldq, leq, hNi, if_neg hKn, putCells_eq]
              exact (((Abs.Sub.refl H).set_free hbH).set_free (subset_set hb8)).set_free hbH
      · have hj1 : j + 1 - 1 = j := rfl
        first | refine CallK.p (hrl) ?_ | refine CallP.i (hrl) ?_
        simp (disch := omega) only [↓runPre, runPost, fieldO, ixA, cutA, lenA, aggA, rowA, appA, mkA, indA, bnd, srcA, sameOp, funcA, cvO, partA, aggD, ↓PostP, resV, resAll, resOne, resVF, resAllF, resOneF, fitsAll, fitsR, fits, frz, Post, Nat.reduceBEq, Nat.reduceLT, reduceCtorEq, ↓reduceIte, initS, AV.cellsOf, AV.fine, AV.one, repA, Nat.reduceMul, Nat.reduceAdd, Nat.reduceLeDiff, Nat.reduceEqDiff, Int.reduceToNat, Nat.reduceSub, Nat.reduceMod, Nat.reduceDiv, indexK.aggOf, Int.reducePow, Int.reduceLE, Int.reduceNeg, Int.reduceLT, Int.reduceBEq, Int.reduceBNe, Int.reduceEq, ownA, nilA, Try.facts, dT, dF, qT, qF, nT, nF, Bool.false_and, Bool.and_false, putCells_eq]
        intro b8 hb80 hb8
        have n28 := set_ne hb8
        have n82 := fun e : b8 = b2 => n28 e.symm
        simp (disch := omega) only [↓runPre, runPost, fieldO, ixA, cutA, lenA, aggA, rowA, appA, mkA, indA, bnd, srcA, sameOp, funcA, cvO, partA, aggD, ↓PostP, resV, resAll, resOne, resVF, resAllF, resOneF, fitsAll, fitsR, fits, frz, Post, Nat.reduceBEq, Nat.reduceLT, reduceCtorEq, ↓reduceIte, initS, AV.cellsOf, AV.fine, AV.one, repA, Nat.reduceMul, Nat.reduceAdd, Nat.reduceLeDiff, Nat.reduceEqDiff, Int.reduceToNat, Nat.reduceSub, Nat.reduceMod, Nat.reduceDiv, indexK.aggOf, Int.reducePow, Int.reduceLE, Int.reduceNeg, Int.reduceLT, Int.reduceBEq, Int.reduceBNe, Int.reduceEq, ownA, nilA, Try.facts, set_other, n28, n82, dT, dF, qT, qF, nT, nF, Bool.false_and, Bool.and_false, putCells_eq, hj1, ld, le2, hMi]
        refine CallK.p hrk ?_
        by_cases hKn : K = []
        · subst hKn
          have hkl0 : KI.length = 0 := hkl
          simp (disch := omega) only [↓runPre, runPost, fieldO, ixA, cutA, lenA, aggA, rowA, appA, mkA, indA, bnd, srcA, sameOp, funcA, cvO, partA, aggD, ↓PostP, resV, resAll, resOne, resVF, resAllF, resOneF, fitsAll, fitsR, fits, frz, Post, Nat.reduceBEq, Nat.reduceLT, reduceCtorEq, ↓reduceIte, initS, AV.cellsOf, AV.fine, AV.one, repA, Nat.reduceMul, Nat.reduceAdd, Nat.reduceLeDiff, Nat.reduceEqDiff, Int.reduceToNat, Nat.reduceSub, Nat.reduceMod, Nat.reduceDiv, indexK.aggOf, Int.reducePow, Int.reduceLE, Int.reduceNeg, Int.reduceLT, Int.reduceBEq, Int.reduceBNe, Int.reduceEq, ownA, nilA, Try.facts, set_other, n28, n82, dT, dF, qT, qF, nT, nF, Bool.false_and, Bool.and_false, putCells_eq, hkl0, hKi]
          exact (((Abs.Sub.refl H).set_free hbH).set_free (subset_set hb8)).set_free hbH
        · have hkp : 0 < KI.length := by rw [hkl]; exact List.length_pos_iff.2 hKn
          obtain ⟨p, hpN, hpe, hpz⟩ := hpp hKn
          simp (disch := omega) only [↓runPre, runPost, fieldO, ixA, cutA, lenA, aggA, rowA, appA, mkA, indA, bnd, srcA, sameOp, funcA, cvO, partA, aggD, ↓PostP, resV, resAll, resOne, resVF, resAllF, resOneF, fitsAll, fitsR, fits, frz, Post, Nat.reduceBEq, Nat.reduceLT, reduceCtorEq, ↓reduceIte, initS, AV.cellsOf, AV.fine, AV.one, repA, Nat.reduceMul, Nat.reduceAdd, Nat.reduceLeDiff, Nat.reduceEqDiff, Int.reduceToNat, Nat.reduceSub, Nat.reduceMod, Nat.reduceDiv, indexK.aggOf, Int.reducePow, Int.reduceLE, Int.reduceNeg, Int.reduceLT, Int.reduceBEq, Int.reduceBNe, Int.reduceEq, ownA, nilA, Try.facts, set_other, n28, n82, dT, dF, qT, qF, nT, nF, Bool.false_and, Bool.and_false, putCells_eq, hKi]
          refine CallK.p hrn ?_
          simp (disch := omega) only [↓runPre, runPost, fieldO, ixA, cutA, lenA, aggA, rowA, appA, mkA, indA, bnd, srcA, sameOp, funcA, cvO, partA, aggD, ↓PostP, resV, resAll, resOne, resVF, resAllF, resOneF, fitsAll, fitsR, fits, frz, Post, Nat.reduceBEq, Nat.reduceLT, reduceCtorEq, ↓reduceIte, initS, AV.cellsOf, AV.fine, AV.one, repA, Nat.reduceMul, Nat.reduceAdd, Nat.reduceLeDiff, Nat.reduceEqDiff, Int.reduceToNat, Nat.reduceSub, Nat.reduceMod, Nat.reduceDiv, indexK.aggOf, Int.reducePow, Int.reduceLE, Int.reduceNeg, Int.reduceLT, Int.reduceBEq, Int.reduceBNe, Int.reduceEq, ownA, nilA, Try.facts, set_other, n28, n82, dT, dF, qT, qF, nT, nF, Bool.false_and, Bool.and_false, putCells_eq, hKi]
          refine loop_t (c := ⟨Try.prog, 60, [(14, [0, 0, 0, 0, 1, 1, 0]), (1000000, [2]), (4000016, [4, 5, 6]), (4000014, [4, 8, 9, 10, 11, 52]), (4000007, [2, 4, 8, 36]), (4000006, [2, 4, 8]), (4000002, [1, 2, 4, 7, 21])], [], []⟩) Try.mixed (by kernel_rfl) (fun mm σ H' => H' = (H.set b2 (.cells [.sc (.int .i64 0), .sc (.int .i64 0)] 31 2)).set b8 (.cells [.sc (.int .i64 a1), .sc (.int .i64 a2)] 31 2) ∧ ∃ q : Nat, q + mm = N.length ∧ σ 4 = .ptr b2 0 ∧ σ 8 = .ptr b8 0 ∧ σ 9 = ndsV N ∧ σ 10 = .sc (.int .i64 ((if p ≤ q then p else 0 : Nat))) ∧ σ 11 = .sc (.int .i64 (q : Nat))) N.length ?_ ?_
          · refine ⟨rfl, 0, by omega, ?_⟩
            have : (if p ≤ 0 then p else 0) = 0 := by split <;> omega
            rw [this]
            simp (disch := omega) only [↓runPre, runPost, fieldO, ixA, cutA, lenA, aggA, rowA, appA, mkA, indA, bnd, srcA, sameOp, funcA, cvO, partA, aggD, ↓PostP, resV, resAll, resOne, resVF, resAllF, resOneF, fitsAll, fitsR, fits, frz, Post, Nat.reduceBEq, Nat.reduceLT, reduceCtorEq, ↓reduceIte, initS, AV.cellsOf, AV.fine, AV.one, repA, Nat.reduceMul, Nat.reduceAdd, Nat.reduceLeDiff, Nat.reduceEqDiff, Int.reduceToNat, Nat.reduceSub, Nat.reduceMod, Nat.reduceDiv, indexK.aggOf, Int.reducePow, Int.reduceLE, Int.reduceNeg, Int.reduceLT, Int.reduceBEq, Int.reduceBNe, Int.reduceEq, ownA, nilA, Try.facts]
            try rfl
          · rintro mm σ H' ⟨rfl, q, hqm, s4, s8, s9, s10, s11⟩
            by_cases hlt : q < N.length
            · have ldq := ndsC_two hlt
              have leq : q * 4 + 2 ≤ N.length * 4 := by omega
              have hq := hpe q hlt
              have hq1 : ((q : Nat) : Int) + 1 = ((q + 1 : Nat) : Int) := rfl
              generalize N[q] = x at *
              obtain ⟨⟨x1, x2⟩, xu, xg⟩ := x
              simp only [Prod.mk.injEq] at ldq hq
              by_cases e : x1 = a1 ∧ x2 = a2
              · have hp1 := hq.1 e
                obtain ⟨rfl, rfl⟩ := e
                have hn1 : (if p ≤ q + 1 then p else 0) = q + 1 := by rw [if_pos (by omega)]; exact hp1.symm
                simp (disch := omega) only [↓runPre, runPost, fieldO, ixA, cutA, lenA, aggA, rowA, appA, mkA, indA, bnd, srcA, sameOp, funcA, cvO, partA, aggD, ↓PostP, resV, resAll, resOne, resVF, resAllF, resOneF, fitsAll, fitsR, fits, frz, Post, Nat.reduceBEq, Nat.reduceLT, reduceCtorEq, ↓reduceIte, initS, AV.cellsOf, AV.fine, AV.one, repA, Nat.reduceMul, Nat.reduceAdd, Nat.reduceLeDiff, Nat.reduceEqDiff, Int.reduceToNat, Nat.reduceSub, Nat.reduceMod, Nat.reduceDiv, indexK.aggOf, Int.reducePow, Int.reduceLE, Int.reduceNeg, Int.reduceLT, Int.reduceBEq, Int.reduceBNe, Int.reduceEq, ownA, nilA, Try.facts, s4, s8, s9, s10, s11, set_other, n28, n82, dT, dF, qT, qF, nT, nF, Bool.false_and, Bool.and_false, ldq, leq, hNi, hq1, beq_self_eq_true]
                exact ⟨mm - 1, by omega, q + 1, by omega, by rw [hn1], rfl⟩
              · have hp1 : ¬ q + 1 = p := fun h => e (hq.2 h)
                have hn1 : (if p ≤ q + 1 then p else 0) = (if p ≤ q then p else 0) := by split <;> split <;> omega
                have hbq : ((x1 == a1) && (x2 == a2)) = false := by
                  rw [Bool.eq_false_iff]
                  intro h
                  simp only [Bool.and_eq_true, beq_iff_eq] at h
                  exact e h
                simp (disch := omega) only [↓runPre, runPost, fieldO, ixA, cutA, lenA, aggA, rowA, appA, mkA, indA, bnd, srcA, sameOp, funcA, cvO, partA, aggD, ↓PostP, resV, resAll, resOne, resVF, resAllF, resOneF, fitsAll, fitsR, fits, frz, Post, Nat.reduceBEq, Nat.reduceLT, reduceCtorEq, ↓reduceIte, initS, AV.cellsOf, AV.fine, AV.one, repA, Nat.reduceMul, Nat.reduceAdd, Nat.reduceLeDiff, Nat.reduceEqDiff, Int.reduceToNat, Nat.reduceSub, Nat.reduceMod, Nat.reduceDiv, indexK.aggOf, Int.reducePow, Int.reduceLE, Int.reduceNeg, Int.reduceLT, Int.reduceBEq, Int.reduceBNe, Int.reduceEq, ownA, nilA, Try.facts, s4, s8, s9, s10, s11, set_other, n28, n82, dT, dF, ldq, leq, hNi, hq1, hbq]
                exact ⟨mm - 1, by omega, q + 1, by omega, by rw [hn1], rfl⟩
            · obtain rfl : q = N.length := by omega
              have hpq : (if p ≤ N.length then p else 0) = p := if_pos (by omega)
              rw [hpq] at s10
              have ldq := ndsC_two hpN
              have leq : p * 4 + 2 ≤ N.length * 4 := by omega
              rw [hpz hpN] at ldq
              simp (disch := omega) only [↓runPre, runPost, fieldO, ixA, cutA, lenA, aggA, rowA, appA, mkA, indA, bnd, srcA, sameOp, funcA, cvO, partA, aggD, ↓PostP, resV, resAll, resOne, resVF, resAllF, resOneF, fitsAll, fitsR, fits, frz, Post, Nat.reduceBEq, Nat.reduceLT, reduceCtorEq, ↓reduceIte, initS, AV.cellsOf, AV.fine, AV.one, repA, Nat.reduceMul, Nat.reduceAdd, Nat.reduceLeDiff, Nat.reduceEqDiff, Int.reduceToNat, Nat.reduceSub, Nat.reduceMod, Nat.reduceDiv, indexK.aggOf, Int.reducePow, Int.reduceLE, Int.reduceNeg, Int.reduceLT, Int.reduceBEq, Int.reduceBNe, Int.reduceEq, ownA, nilA, Try.facts, s4, s8, s9, s10, s11, set_other, n28, n82, dT, dF, qT, qF, nT, nF, Bool.false_and, Bool.and_false, ldq, leq, hNi, if_neg hKn, putCells_eq]
              exact (((Abs.Sub.refl H).set_free hbH).set_free (subset_set hb8)).set_free hbH
    · rw [if_neg (by omega)]
      generalize live (nodes L G) = N at *
      refine apure_of_cwp (c := ⟨Try.prog, 60, [(14, [0, 0, 0, 0, 1, 1, 0]), (1000000, [2]), (4000016, [4, 5, 6]), (4000014, [4, 8, 9, 10, 11, 52]), (4000007, [2, 4, 8, 36]), (4000006, [2, 4, 8]), (4000002, [1, 2, 4, 7, 21])], [], []⟩) (rs := [ResultVar.cell 4 31, ResultVar.tmp 5, ResultVar.tmp 6]) Try.mixed Try.func28 rfl rfl rfl (Nat.le_of_ble_eq_true rfl) (by kernel_rfl) fun H => ?_
      simp (disch := omega) only [↓runPre, runPost, fieldO, ixA, cutA, lenA, aggA, rowA, appA, mkA, indA, bnd, srcA, sameOp, funcA, cvO, partA, aggD, ↓PostP, resV, resAll, resOne, resVF, resAllF, resOneF, fitsAll, fitsR, fits, frz, Post, Nat.reduceBEq, Nat.reduceLT, reduceCtorEq, ↓reduceIte, initS, AV.cellsOf, AV.fine, AV.one, repA, Nat.reduceMul, Nat.reduceAdd, Nat.reduceLeDiff, Nat.reduceEqDiff, Int.reduceToNat, Nat.reduceSub, Nat.reduceMod, Nat.reduceDiv, indexK.aggOf, Int.reducePow, Int.reduceLE, Int.reduceNeg, Int.reduceLT, Int.reduceBEq, Int.reduceBNe, Int.reduceEq, ownA, nilA, Try.facts]
      intro b hb0 hb b2 hb20 hb2
      have nb := set_ne hb2
      simp (disch := omega) only [↓runPre, runPost, fieldO, ixA, cutA, lenA, aggA, rowA, appA, mkA, indA, bnd, srcA, sameOp, funcA, cvO, partA, aggD, ↓PostP, resV, resAll, resOne, resVF, resAllF, resOneF, fitsAll, fitsR, fits, frz, Post, Nat.reduceBEq, Nat.reduceLT, reduceCtorEq, ↓reduceIte, initS, AV.cellsOf, AV.fine, AV.one, repA, Nat.reduceMul, Nat.reduceAdd, Nat.reduceLeDiff, Nat.reduceEqDiff, Int.reduceToNat, Nat.reduceSub, Nat.reduceMod, Nat.reduceDiv, indexK.aggOf, Int.reducePow, Int.reduceLE, Int.reduceNeg, Int.reduceLT, Int.reduceBEq, Int.reduceBNe, Int.reduceEq, ownA, nilA, Try.facts, set_other, nb, kill_under hb nb, putCells_eq]
      first | refine CallK.p (hrl) ?_ | refine CallP.i (hrl) ?_
      simp (disch := omega) only [↓runPre, runPost, fieldO, ixA, cutA, lenA, aggA, rowA, appA, mkA, indA, bnd, srcA, sameOp, funcA, cvO, partA, aggD, ↓PostP, resV, resAll, resOne, resVF, resAllF, resOneF, fitsAll, fitsR, fits, frz, Post, Nat.reduceBEq, Nat.reduceLT, reduceCtorEq, ↓reduceIte, initS, AV.cellsOf, AV.fine, AV.one, repA, Nat.reduceMul, Nat.reduceAdd, Nat.reduceLeDiff, Nat.reduceEqDiff, Int.reduceToNat, Nat.reduceSub, Nat.reduceMod, Nat.reduceDiv, indexK.aggOf, Int.reducePow, Int.reduceLE, Int.reduceNeg, Int.reduceLT, Int.reduceBEq, Int.reduceBNe, Int.reduceEq, ownA, nilA, Try.facts, dT, dF, qT, qF, nT, nF, Bool.false_and, Bool.and_false, putCells_eq]
      first | exact ⟨rfl, Sub.set_new (subset_set hb2)⟩ | exact Sub.set_new (subset_set hb2)
end Go.Proofs.Ytpmmafmbjconiaa
