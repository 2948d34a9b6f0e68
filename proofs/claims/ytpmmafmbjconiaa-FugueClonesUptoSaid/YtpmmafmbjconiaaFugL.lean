/-
  The walks of the fugue layer: the way through a text.
  Conditions: none. Lemmas only.
-/
import Derived.Test.YtpmmafmbjconiaaFugK
import Derived.Test.YtpmmafmbjconiaaFugS
set_option linter.all false
set_option linter.unusedSimpArgs false
set_option linter.unusedVariables false
set_option maxRecDepth 8000
set_option maxHeartbeats 4000000
namespace Go.Proofs.Ytpmmafmbjconiaa
open Go Go.Abs Go.Proofs Go.Fug
abbrev sideI (b : Bool) : Int := if b then 1 else 0
def stC (s : St) : List AV := [.sc (.int .i64 s.id.1), .sc (.int .i64 s.id.2), .sc (.int .i64 (sideI s.side)), .sc (.int .i64 (s.at_ : Nat))]
def stsC (l : List St) : List AV := l.flatMap stC
theorem stsC_length (l : List St) : (stsC l).length = l.length * 4 := by
  induction l with
  | nil => rfl
  | cons t r ih => simp only [stsC, List.flatMap_cons, List.length_append, List.length_cons] at *; rw [ih]; simp [stC]; omega
theorem stsC_snoc (l : List St) (s : St) : stsC (l ++ [s]) = stsC l ++ stC s := by simp [stsC]
/-- the row of the way: its steps, the last one on top; more room behind them -/
def WayC (cs : List AV) (S : List St) : Prop := S.length * 4 ≤ cs.length ∧ cs.take (S.length * 4) = stsC S.reverse
theorem WayC.split {cs : List AV} {s : St} {S : List St} (w : WayC cs (s :: S)) : ∃ r, cs = stsC S.reverse ++ stC s ++ r := by
  obtain ⟨h1, h2⟩ := w
  refine ⟨cs.drop ((s :: S).length * 4), ?_⟩
  rw [List.reverse_cons, stsC_snoc] at h2
  rw [← h2, List.take_append_drop]
theorem WayC.mk' {s : St} {S : List St} {r : List AV} : WayC (stsC S.reverse ++ stC s ++ r) (s :: S) := by
  have hl : (stsC S.reverse ++ stC s).length = (s :: S).length * 4 := by simp [stsC_length, stC]; omega
  refine ⟨by rw [List.length_append, hl]; omega, ?_⟩
  rw [List.take_append_of_le_length (by omega), List.take_of_length_le (by omega), List.reverse_cons, stsC_snoc]
def encN (x : Nat × Nd) : List AV := [.sc (.int .i64 (x.1 : Nat)), .agg (ndC x.2)]

theorem put_mid {A B R V : List AV} {k : Nat} (hB : B.length = V.length) (hk : k = A.length) : putCells (A ++ B ++ R) k V = A ++ V ++ R := by
  subst hk
  have h1 : (A ++ B ++ R).take A.length = A := by rw [List.append_assoc, List.take_left]
  have h2 : (A ++ B ++ R).drop (A.length + V.length) = R := List.drop_left' (by simp [hB])
  rw [putCells_eq, h1, h2, List.append_assoc]
theorem all_iter (h m : Nat) (L : List Ins) (G : List EId) (g : Fug.Good L) (hL : L.length ≤ 4096) : IterC Try.prog 38 [.ip [.ptr h 0] 0] encN (fun Hc => IsT Hc h m L G) (fun xs => xs = ixd 0 (nodes L G)) (fun pre => ∃ n, 0 < n ∧ n ≤ (nodes L G).length ∧ pre = (ixd 0 (nodes L G)).take n) (nodes L G).length := by
  intro y J Jx H hRes hy hJ0
  have hnl := nodes_le G g.nd (by omega)
  have t0 := hRes _ _ hJ0
  refine acalls_of_cwp (c := ⟨Try.prog, 87, [(4, [0, 0, 0, 0, 0, 0, 0, 2, 2]), (5, [0, 1, 0, 1, 0, 0, 1, 1, 0]), (7, [0, 0, 1, 0, 0, 1, 0, 1, 0, 1, 0, 0, 2, 0]), (1000003, [5]), (1000004, [6]), (4000013, [0, 1, 3, 4]), (4000012, [0, 1, 3, 4]), (4000010, [0, 1, 3, 4, 5, 68]), (4000007, [0, 1, 3, 4]), (4000006, [0, 1, 3, 4, 5, 6]), (4000005, [0, 1, 3, 4, 5, 6, 32]), (4000004, [0, 1, 3, 4, 5, 6]), (4000003, [0, 1, 3, 4, 5])], [1000010, 1000055], [(4, (.op 0 0 (.op 1 0 (.op 2 0 (.op 4 0 (.op 5 0 (.or (.op 3 2 (.or (.op 6 2 (.op 7 2 (.op 8 2 .nil))) (.op 7 2 (.op 6 2 (.op 8 2 .nil))))) (.op 7 2 (.op 3 2 (.op 6 2 (.op 8 2 .nil)))))))))))]⟩) (rs := []) Try.mixed Try.func38 rfl rfl rfl (Nat.le_of_ble_eq_true rfl) (by kernel_rfl) ?_
  simp (disch := omega) only [↓runPre, runPost, fieldO, ixA, cutA, lenA, aggA, rowA, appA, mkA, indA, bnd, srcA, sameOp, funcA, cvO, partA, aggD, ↓PostP, resV, resAll, resOne, resVF, resAllF, resOneF, fitsAll, fitsR, fits, frz, Post, Nat.reduceBEq, Nat.reduceLT, reduceCtorEq, ↓reduceIte, initS, AV.cellsOf, AV.fine, AV.one, repA, Nat.reduceMul, Nat.reduceAdd, Nat.reduceLeDiff, Nat.reduceEqDiff, Int.reduceToNat, Nat.reduceSub, Nat.reduceMod, Nat.reduceDiv, indexK.aggOf, Int.reducePow, Int.reduceLE, Int.reduceNeg, Int.reduceLT, Int.reduceBEq, Int.reduceBNe, Int.reduceEq, ownA, nilA, Try.facts]
  refine scope_t Try.mixed 0 (by kernel_rfl) (rest := _) rfl (by kernel_rfl) (fun mm σ H' => ∃ (S : List St) (kw : Nat) (cs : List AV) (pre : List (Nat × Nd)) (Hc : AH), mm = mesW L G S ∧ mm ≤ 4 * (nodes L G).length + 3 ∧ S ≠ [] ∧ (∀ s ∈ S, s.id ∈ idsOf L) ∧ J pre Hc ∧ Abs.Sub Hc H' ∧ Hc kw = none ∧ kw ≠ 0 ∧
    H' kw = some (.cells cs 80 4) ∧ WayC cs S ∧ pre ++ ixd pre.length (outW L G S) = ixd 0 (nodes L G) ∧
    σ 0 = y ∧ σ 1 = .ip [.ptr h 0] 0 ∧ σ 3 = .own kw 0 S.length ∧ σ 4 = .sc (.int .i64 (pre.length : Nat))) ?_ ?_
  · have hi := t0.hi
    have hm := t0.hm
    have hf := find_ids (nodeA L G) root t0.ord 0
    rw [if_pos (t0.ord_mem.2 (by simp [idsOf]))] at hf
    have hk := root_left g
    generalize hE : entsOf t0.ord (nodeA L G) = E at *
    simp only [nodeA, nodeC, hk, root] at hf
    have hz : ((1 : Int) - 1).toNat = 0 := rfl
    have hz2 : (1 : Int) - 1 = 0 := rfl
    simp (disch := omega) only [↓runPre, runPost, fieldO, ixA, cutA, lenA, aggA, rowA, appA, mkA, indA, bnd, srcA, sameOp, funcA, cvO, partA, aggD, ↓PostP, resV, resAll, resOne, resVF, resAllF, resOneF, fitsAll, fitsR, fits, frz, Post, Nat.reduceBEq, Nat.reduceLT, reduceCtorEq, ↓reduceIte, initS, AV.cellsOf, AV.fine, AV.one, repA, Nat.reduceMul, Nat.reduceAdd, Nat.reduceLeDiff, Nat.reduceEqDiff, Int.reduceToNat, Nat.reduceSub, Nat.reduceMod, Nat.reduceDiv, indexK.aggOf, Int.reducePow, Int.reduceLE, Int.reduceNeg, Int.reduceLT, Int.reduceBEq, Int.reduceBNe, Int.reduceEq, ownA, nilA, Try.facts, hi, hm, dT, dF, qT, qF, nT, nF, Bool.false_and, Bool.and_false, hz, hz2, Nat.zero_mul, Nat.le_refl, if_true]
    intro kw hkw0 hkw
    have nw1 := ne_live hi hkw
    have nw2 := ne_live hm hkw
    try simp (disch := omega) only [↓runPre, runPost, fieldO, ixA, cutA, lenA, aggA, rowA, appA, mkA, indA, bnd, srcA, sameOp, funcA, cvO, partA, aggD, ↓PostP, resV, resAll, resOne, resVF, resAllF, resOneF, fitsAll, fitsR, fits, frz, Post, Nat.reduceBEq, Nat.reduceLT, reduceCtorEq, ↓reduceIte, initS, AV.cellsOf, AV.fine, AV.one, repA, Nat.reduceMul, Nat.reduceAdd, Nat.reduceLeDiff, Nat.reduceEqDiff, Int.reduceToNat, Nat.reduceSub, Nat.reduceMod, Nat.reduceDiv, indexK.aggOf, Int.reducePow, Int.reduceLE, Int.reduceNeg, Int.reduceLT, Int.reduceBEq, Int.reduceBNe, Int.reduceEq, ownA, nilA, Try.facts, hi, hm, dT, dF, qT, qF, nT, nF, Bool.false_and, Bool.and_false, hz, hz2, Nat.zero_mul, Nat.le_refl, if_true]
    intro b hb0 hb
    have hbH := subset_set hb
    simp (disch := omega) only [↓runPre, runPost, fieldO, ixA, cutA, lenA, aggA, rowA, appA, mkA, indA, bnd, srcA, sameOp, funcA, cvO, partA, aggD, ↓PostP, resV, resAll, resOne, resVF, resAllF, resOneF, fitsAll, fitsR, fits, frz, Post, Nat.reduceBEq, Nat.reduceLT, reduceCtorEq, ↓reduceIte, initS, AV.cellsOf, AV.fine, AV.one, repA, Nat.reduceMul, Nat.reduceAdd, Nat.reduceLeDiff, Nat.reduceEqDiff, Int.reduceToNat, Nat.reduceSub, Nat.reduceMod, Nat.reduceDiv, indexK.aggOf, Int.reducePow, Int.reduceLE, Int.reduceNeg, Int.reduceLT, Int.reduceBEq, Int.reduceBNe, Int.reduceEq, ownA, nilA, Try.facts, hi, hm, dT, dF, qT, qF, nT, nF, Bool.false_and, Bool.and_false, kill_box hb, putCells_eq]
    refine draw_t (fun σ F => ∃ b, F = (H.set kw (.cells [.sc (.int .i64 0), .sc (.int .i64 0), .sc (.int .i64 0), .sc (.int .i64 0)] 80 4)).set b (.cells [.sc (.int .i64 0), .sc (.int .i64 0), .sc (.int .i32 (ndOf L G (0, 0)).rune), .sc (.bool (ndOf L G (0, 0)).gone), idsV [], idsV (kids L (0, 0) true)] 71 6) ∧ (H.set kw (.cells [.sc (.int .i64 0), .sc (.int .i64 0), .sc (.int .i64 0), .sc (.int .i64 0)] 80 4)) b = none ∧ σ 0 = y ∧ σ 1 = .ip [.ptr h 0] 0 ∧ σ 3 = .own kw 0 1 ∧ σ 4 = .sc (.int .i64 0) ∧ σ 5 = .ip [.sc (.int .i64 0), .sc (.int .i64 0), .sc (.int .i64 0), .sc (.int .i64 0)] 0 ∧ σ 6 = .ptr b 0) ?_ ?_
    · simp (disch := omega) only [↓runPre, runPost, fieldO, ixA, cutA, lenA, aggA, rowA, appA, mkA, indA, bnd, srcA, sameOp, funcA, cvO, partA, aggD, ↓PostP, resV, resAll, resOne, resVF, resAllF, resOneF, fitsAll, fitsR, fits, frz, Post, Nat.reduceBEq, Nat.reduceLT, reduceCtorEq, ↓reduceIte, initS, AV.cellsOf, AV.fine, AV.one, repA, Nat.reduceMul, Nat.reduceAdd, Nat.reduceLeDiff, Nat.reduceEqDiff, Int.reduceToNat, Nat.reduceSub, Nat.reduceMod, Nat.reduceDiv, indexK.aggOf, Int.reducePow, Int.reduceLE, Int.reduceNeg, Int.reduceLT, Int.reduceBEq, Int.reduceBNe, Int.reduceEq, ownA, nilA, Try.facts, hi, hm, hf, set_other, kill_box hb]
      refine ⟨⟨?_, ?_⟩, ?_⟩
      all_goals
        intro b2 hb20 hb2
        have hb2H := subset_set hb2
        have nb1 := ne_live hi hb2H
        have nb2 := ne_live hm hb2H
        try simp (disch := omega) only [↓runPre, runPost, fieldO, ixA, cutA, lenA, aggA, rowA, appA, mkA, indA, bnd, srcA, sameOp, funcA, cvO, partA, aggD, ↓PostP, resV, resAll, resOne, resVF, resAllF, resOneF, fitsAll, fitsR, fits, frz, Post, Nat.reduceBEq, Nat.reduceLT, reduceCtorEq, ↓reduceIte, initS, AV.cellsOf, AV.fine, AV.one, repA, Nat.reduceMul, Nat.reduceAdd, Nat.reduceLeDiff, Nat.reduceEqDiff, Int.reduceToNat, Nat.reduceSub, Nat.reduceMod, Nat.reduceDiv, indexK.aggOf, Int.reducePow, Int.reduceLE, Int.reduceNeg, Int.reduceLT, Int.reduceBEq, Int.reduceBNe, Int.reduceEq, ownA, nilA, Try.facts, hi, hm, hf, set_other, putCells_eq, kill_box hb]
        exact ⟨b2, rfl, hb2, rfl⟩
    · rintro σ F ⟨b2, rfl, hb2, s0, s1, s3, s4, s5, s6⟩
      simp (disch := omega) only [↓runPre, runPost, fieldO, ixA, cutA, lenA, aggA, rowA, appA, mkA, indA, bnd, srcA, sameOp, funcA, cvO, partA, aggD, ↓PostP, resV, resAll, resOne, resVF, resAllF, resOneF, fitsAll, fitsR, fits, frz, Post, Nat.reduceBEq, Nat.reduceLT, reduceCtorEq, ↓reduceIte, initS, AV.cellsOf, AV.fine, AV.one, repA, Nat.reduceMul, Nat.reduceAdd, Nat.reduceLeDiff, Nat.reduceEqDiff, Int.reduceToNat, Nat.reduceSub, Nat.reduceMod, Nat.reduceDiv, indexK.aggOf, Int.reducePow, Int.reduceLE, Int.reduceNeg, Int.reduceLT, Int.reduceBEq, Int.reduceBNe, Int.reduceEq, ownA, nilA, Try.facts, s0, s1, s3, s4, s5, s6, kill_box hb2, dT, dF, qT, qF, nT, nF, Bool.false_and, Bool.and_false, beq_self_eq_true, hz, hz2, Nat.zero_mul, Nat.le_refl, putCells_eq, if_true]
      have hov := step_over (L := L) (G := G) g (s := ⟨root, false, 0⟩) (by simp [hk]) rfl
      have ho0 := out_start (L := L) (G := G) g
      have hm0 := mes_start (L := L) (G := G) g
      rw [mesW_cons] at hm0
      rw [outW_cons, hov.1] at ho0
      refine ⟨_, [⟨root, true, 0⟩], kw, _, [], H, rfl, ?_, by simp, by simp [idsOf], hJ0, Sub.set_new hkw, hkw, hkw0, set_get, ⟨by simp, by simp [stsC, stC, root]⟩, ?_, ?_⟩
      · rw [mesW_cons]
        have h2 : mesS L G ⟨root, true, 0⟩ < mesS L G ⟨root, false, 0⟩ := hov.2
        omega
      · rw [outW_cons]
        simp only [if_true, List.nil_append] at ho0
        simp only [List.nil_append, List.length_nil]
        rw [ho0]
      · first | rfl | simp
  · rintro mm σ H' ⟨S, kw, cs, pre, Hc, hmm, hmb, hS, hids, hJ, hsub, hkc, hk0, hkw, hw, hout, s0, s1, s3, s4⟩
    obtain ⟨⟨⟨x1, x2⟩, sd, a⟩, S', rfl⟩ : ∃ s S', S = s :: S' := by
      cases S with
      | nil => exact absurd rfl hS
      | cons s S' => exact ⟨s, S', rfl⟩
    obtain ⟨r, hcs⟩ := hw.split
    have t := hRes _ _ hJ
    have hi := hsub _ _ t.hi
    have hm := hsub _ _ t.hm
    have nk1 := ne_live t.hi hkc
    have nk2 := ne_live t.hm hkc
    have hx : (x1, x2) ∈ idsOf L := hids ⟨(x1, x2), sd, a⟩ (by simp)
    have hf := find_ids (nodeA L G) (x1, x2) t.ord 0
    rw [if_pos (t.ord_mem.2 hx)] at hf
    have hlen := mesW_len L G (⟨(x1, x2), sd, a⟩ :: S')
    have hSl : S'.length + 1 ≤ 4 * (nodes L G).length + 3 := by rw [← hmm] at hlen; simp only [List.length_cons] at hlen; omega
    have hz : (((S'.length + 1 : Nat) : Int) - 1).toNat = S'.length := by omega
    have hz2 : ((S'.length + 1 : Nat) : Int) - 1 = (S'.length : Int) := by omega
    have hsl := stsC_length S'.reverse
    rw [List.length_reverse] at hsl
    have hld : (cs.drop (S'.length * 4)).take 4 = [.sc (.int .i64 x1), .sc (.int .i64 x2), .sc (.int .i64 (sideI sd)), .sc (.int .i64 (a : Nat))] := by
      rw [hcs, List.append_assoc, ← hsl, List.drop_left]; rfl
    have hcl : S'.length * 4 + 4 ≤ cs.length := by rw [hcs]; simp only [List.length_append, hsl, stC, List.length_cons]; omega
    have hput : ∀ (s : St), putCells cs (S'.length * 4) (stC s) = stsC S'.reverse ++ stC s ++ r := fun s => by
      rw [hcs]; exact put_mid (by simp [stC]) hsl.symm
    have hput1 : ∀ v : AV, putCells cs (S'.length * 4 + 3) [v] = stsC S'.reverse ++ [.sc (.int .i64 x1), .sc (.int .i64 x2), .sc (.int .i64 (sideI sd)), v] ++ r := fun v => by
      have e : cs = (stsC S'.reverse ++ [.sc (.int .i64 x1), .sc (.int .i64 x2), .sc (.int .i64 (sideI sd))]) ++ [.sc (.int .i64 (a : Nat))] ++ r := by rw [hcs]; simp [stC]
      rw [e, put_mid (B := [.sc (.int .i64 (a : Nat))]) (V := [v]) rfl (by simp [hsl])]
      simp
    have hz3 : S'.length + 1 - 1 = S'.length := by omega
    have hg3 : cs[S'.length * 4 + 3]? = some (.sc (.int .i64 (a : Nat))) := by
      have e : ((cs.drop (S'.length * 4)).take 4)[3]? = some (.sc (.int .i64 (a : Nat))) := by rw [hld]; rfl
      simpa [List.getElem?_take, List.getElem?_drop] using e
    have hcl3 : S'.length * 4 + 3 < cs.length := by omega
    have htk : ∀ q : List AV, q.length = 4 → (stsC S'.reverse ++ q ++ r).take ((S'.length + 1) * 4) = stsC S'.reverse ++ q := fun q hq => List.take_left' (by rw [List.length_append, hsl, hq]; omega)
    have htl : ∀ q : List AV, q.length = 4 → (S'.length + 1) * 4 ≤ (stsC S'.reverse ++ q ++ r).length := fun q hq => by simp only [List.length_append, hsl, hq]; omega
    have hout1 : pre.length + (outW L G (⟨(x1, x2), sd, a⟩ :: S')).length = (nodes L G).length := by
      have := congrArg List.length hout
      rwa [List.length_append, ixd_length, ixd_length] at this
    have hw' : S' ≠ [] → WayC cs S' := fun _ => by
      refine ⟨by omega, ?_⟩
      rw [hcs, List.append_assoc, ← hsl, List.take_left]
    have hkl0 := kids_length L (x1, x2) sd
    have hKi := idsC_length (kids L (x1, x2) sd)
    have hdown := fun h => step_down (L := L) (G := G) g (s := ⟨(x1, x2), sd, a⟩) h
    have hover := fun h => step_over (L := L) (G := G) g (s := ⟨(x1, x2), sd, a⟩) h
    have hup := fun h => step_up (L := L) (G := G) (s := ⟨(x1, x2), sd, a⟩) h
    have hkid : ∀ y ∈ kids L (x1, x2) sd, y ∈ idsOf L := fun y hy => by
      obtain ⟨i, hi, e, -⟩ := mem_kids.1 hy
      exact List.mem_cons_of_mem _ (List.mem_map.2 ⟨i, hi, e⟩)
    simp only [List.length_cons] at s3
    rw [outW_cons] at hout hout1
    rw [mesW_cons] at hmm
    generalize hE : entsOf t.ord (nodeA L G) = E at *
    cases sd
    · -- the left side
      simp only [sideI, Bool.false_eq_true, if_false, if_true] at hld hput1
      obtain ⟨K0, hK0⟩ : ∃ K, K = kids L (x1, x2) false := ⟨_, rfl⟩
      obtain ⟨K1, hK1⟩ : ∃ K, K = kids L (x1, x2) true := ⟨_, rfl⟩
      simp only [] at hdown hover hup
      simp only [← hK0] at hkl0 hKi hkid hdown hover hup
      simp (disch := omega) only [↓runPre, runPost, fieldO, ixA, cutA, lenA, aggA, rowA, appA, mkA, indA, bnd, srcA, sameOp, funcA, cvO, partA, aggD, ↓PostP, resV, resAll, resOne, resVF, resAllF, resOneF, fitsAll, fitsR, fits, frz, Post, Nat.reduceBEq, Nat.reduceLT, reduceCtorEq, ↓reduceIte, initS, AV.cellsOf, AV.fine, AV.one, repA, Nat.reduceMul, Nat.reduceAdd, Nat.reduceLeDiff, Nat.reduceEqDiff, Int.reduceToNat, Nat.reduceSub, Nat.reduceMod, Nat.reduceDiv, indexK.aggOf, Int.reducePow, Int.reduceLE, Int.reduceNeg, Int.reduceLT, Int.reduceBEq, Int.reduceBNe, Int.reduceEq, ownA, nilA, Try.facts, s0, s1, s3, s4, hz, hz2, hz3, dT, dF, qT, qF, nT, nF, Bool.false_and, Bool.and_false, hkw, hld, hcl]
      intro b hb0 hb
      simp (disch := omega) only [↓runPre, runPost, fieldO, ixA, cutA, lenA, aggA, rowA, appA, mkA, indA, bnd, srcA, sameOp, funcA, cvO, partA, aggD, ↓PostP, resV, resAll, resOne, resVF, resAllF, resOneF, fitsAll, fitsR, fits, frz, Post, Nat.reduceBEq, Nat.reduceLT, reduceCtorEq, ↓reduceIte, initS, AV.cellsOf, AV.fine, AV.one, repA, Nat.reduceMul, Nat.reduceAdd, Nat.reduceLeDiff, Nat.reduceEqDiff, Int.reduceToNat, Nat.reduceSub, Nat.reduceMod, Nat.reduceDiv, indexK.aggOf, Int.reducePow, Int.reduceLE, Int.reduceNeg, Int.reduceLT, Int.reduceBEq, Int.reduceBNe, Int.reduceEq, ownA, nilA, Try.facts, s0, s1, s3, s4, hz, hz2, hz3, dT, dF, qT, qF, nT, nF, Bool.false_and, Bool.and_false, hkw, hld, hcl, kill_box hb, putCells_eq]
      refine draw_t (fun σ F => ∃ b, F = H'.set b (.cells (nodeC L G (x1, x2)) 71 6) ∧ H' b = none ∧ σ 0 = y ∧ σ 1 = .ip [.ptr h 0] 0 ∧ σ 3 = .own kw 0 (S'.length + 1) ∧ σ 4 = .sc (.int .i64 (pre.length : Nat)) ∧ (∃ c5, c5 = (cs.drop (S'.length * 4)).take 4 ∧ σ 5 = .ip c5 0) ∧ σ 6 = .ptr b 0) ?_ ?_
      · simp (disch := omega) only [↓runPre, runPost, fieldO, ixA, cutA, lenA, aggA, rowA, appA, mkA, indA, bnd, srcA, sameOp, funcA, cvO, partA, aggD, ↓PostP, resV, resAll, resOne, resVF, resAllF, resOneF, fitsAll, fitsR, fits, frz, Post, Nat.reduceBEq, Nat.reduceLT, reduceCtorEq, ↓reduceIte, initS, AV.cellsOf, AV.fine, AV.one, repA, Nat.reduceMul, Nat.reduceAdd, Nat.reduceLeDiff, Nat.reduceEqDiff, Int.reduceToNat, Nat.reduceSub, Nat.reduceMod, Nat.reduceDiv, indexK.aggOf, Int.reducePow, Int.reduceLE, Int.reduceNeg, Int.reduceLT, Int.reduceBEq, Int.reduceBNe, Int.reduceEq, ownA, nilA, Try.facts, s0, s1, s3, s4, hz, hz2, hz3, dT, dF, qT, qF, nT, nF, Bool.false_and, Bool.and_false, hi, hm, hf, kill_box hb]
        refine ⟨⟨?_, ?_⟩, ?_⟩
        all_goals
          intro b2 hb20 hb2
          have nb1 := ne_live hi hb2
          have nb2 := ne_live hm hb2
          try simp (disch := omega) only [↓runPre, runPost, fieldO, ixA, cutA, lenA, aggA, rowA, appA, mkA, indA, bnd, srcA, sameOp, funcA, cvO, partA, aggD, ↓PostP, resV, resAll, resOne, resVF, resAllF, resOneF, fitsAll, fitsR, fits, frz, Post, Nat.reduceBEq, Nat.reduceLT, reduceCtorEq, ↓reduceIte, initS, AV.cellsOf, AV.fine, AV.one, repA, Nat.reduceMul, Nat.reduceAdd, Nat.reduceLeDiff, Nat.reduceEqDiff, Int.reduceToNat, Nat.reduceSub, Nat.reduceMod, Nat.reduceDiv, indexK.aggOf, Int.reducePow, Int.reduceLE, Int.reduceNeg, Int.reduceLT, Int.reduceBEq, Int.reduceBNe, Int.reduceEq, ownA, nilA, Try.facts, s0, s1, s3, s4, hz, hz2, hz3, dT, dF, qT, qF, nT, nF, Bool.false_and, Bool.and_false, hi, hm, hf, set_other, putCells_eq, kill_box hb]
          refine ⟨b2, rfl, hb2, ?_⟩
          exact ⟨⟨_, hld.symm, rfl⟩, rfl⟩
      · rintro σ F ⟨b2, rfl, hb2, s0, s1, s3, s4, ⟨c5, hc5, s5⟩, s6⟩
        rw [hld] at hc5
        subst hc5
        have hw1 : (((a : Nat) : Int) + 1) = ((a + 1 : Nat) : Int) := by omega
        by_cases hlt : a < K0.length
        · have hid := idsC_load hlt
          have hle2 : a * 2 + 2 ≤ K0.length * 2 := by omega
          obtain ⟨hd1, hd2⟩ := hdown hlt
          have hkid' := hkid _ (List.getElem_mem hlt)
          generalize K0[a] = z at *
          obtain ⟨z1, z2⟩ := z
          have hq := htk [.sc (.int .i64 x1), .sc (.int .i64 x2), .sc (.int .i64 0), .sc (.int .i64 ((a + 1 : Nat)))] rfl
          have hq2 := htl [.sc (.int .i64 x1), .sc (.int .i64 x2), .sc (.int .i64 0), .sc (.int .i64 ((a + 1 : Nat)))] rfl
          simp (disch := omega) only [↓runPre, runPost, fieldO, ixA, cutA, lenA, aggA, rowA, appA, mkA, indA, bnd, srcA, sameOp, funcA, cvO, partA, aggD, ↓PostP, resV, resAll, resOne, resVF, resAllF, resOneF, fitsAll, fitsR, fits, frz, Post, Nat.reduceBEq, Nat.reduceLT, reduceCtorEq, ↓reduceIte, initS, AV.cellsOf, AV.fine, AV.one, repA, Nat.reduceMul, Nat.reduceAdd, Nat.reduceLeDiff, Nat.reduceEqDiff, Int.reduceToNat, Nat.reduceSub, Nat.reduceMod, Nat.reduceDiv, indexK.aggOf, Int.reducePow, Int.reduceLE, Int.reduceNeg, Int.reduceLT, Int.reduceBEq, Int.reduceBNe, Int.reduceEq, ownA, nilA, Try.facts, s0, s1, s3, s4, hz, hz2, hz3, dT, dF, qT, qF, nT, nF, Bool.false_and, Bool.and_false, s5, s6, kill_box hb2, hkw, hcl, hcl3, hg3, hput1, hw1, hid, hle2, hKi, ← hK0, ← hK1, hq, hq2]
          intro k' hk'
          have hk'0 : k' ≠ 0 := by
            rcases hk' with rfl | ⟨h1, -⟩
            · exact hk0
            · exact h1
          have hk'c : Hc k' = none := by
            rcases hk' with rfl | ⟨-, h2⟩
            · exact hkc
            · exact hsub.free (subset_set h2)
          refine ⟨mesW L G (⟨(z1, z2), false, 0⟩ :: ⟨(x1, x2), false, a + 1⟩ :: S'), ?_, _, k', _, pre, Hc, rfl, ?_, by simp, ?_, hJ, ?_, hk'c, hk'0, set_get, ?_, ?_, ?_⟩
          · rw [mesW_cons, mesW_cons]; omega
          · rw [mesW_cons, mesW_cons]; omega
          · intro s hs
            simp only [List.mem_cons] at hs
            rcases hs with rfl | rfl | hs
            · exact hkid'
            · exact hx
            · exact hids s (by simp [hs])
          · first | exact ((hsub.set_free hkc).kill_free hkc).set_free hk'c | exact (hsub.kill_free hkc).set_free hk'c
          · have := WayC.mk' (s := ⟨(z1, z2), false, 0⟩) (S := ⟨(x1, x2), false, a + 1⟩ :: S') (r := [])
            rw [List.reverse_cons, stsC_snoc, List.append_nil] at this
            exact this
          · rw [outW_cons, outW_cons, ← List.append_assoc, ← hd1]; exact hout
          · first | rfl | simp
        · have ho := hover hlt trivial
          have hput' : putCells cs (S'.length * 4) [.sc (.int .i64 x1), .sc (.int .i64 x2), .sc (.int .i64 1), .sc (.int .i64 0)] = stsC S'.reverse ++ stC ⟨(x1, x2), true, 0⟩ ++ r := hput ⟨(x1, x2), true, 0⟩
          have hm1 : mesS L G ⟨(x1, x2), true, 0⟩ < mesS L G ⟨(x1, x2), false, a⟩ := ho.2
          by_cases hroot : x1 = 0 ∧ x2 = 0
          · simp (disch := omega) only [↓runPre, runPost, fieldO, ixA, cutA, lenA, aggA, rowA, appA, mkA, indA, bnd, srcA, sameOp, funcA, cvO, partA, aggD, ↓PostP, resV, resAll, resOne, resVF, resAllF, resOneF, fitsAll, fitsR, fits, frz, Post, Nat.reduceBEq, Nat.reduceLT, reduceCtorEq, ↓reduceIte, initS, AV.cellsOf, AV.fine, AV.one, repA, Nat.reduceMul, Nat.reduceAdd, Nat.reduceLeDiff, Nat.reduceEqDiff, Int.reduceToNat, Nat.reduceSub, Nat.reduceMod, Nat.reduceDiv, indexK.aggOf, Int.reducePow, Int.reduceLE, Int.reduceNeg, Int.reduceLT, Int.reduceBEq, Int.reduceBNe, Int.reduceEq, ownA, nilA, Try.facts, s0, s1, s3, s4, hz, hz2, hz3, dT, dF, qT, qF, nT, nF, Bool.false_and, Bool.and_false, s5, s6, kill_box hb2, hkw, hcl, hput', ← hK0, ← hK1]
            have ho1 := ho.1
            rw [if_pos (Prod.ext hroot.1 hroot.2)] at ho1
            refine ⟨mesW L G (⟨(x1, x2), true, 0⟩ :: S'), ?_, _, kw, _, pre, Hc, rfl, ?_, by simp, ?_, hJ, hsub.set_free hkc, hkc, hk0, set_get, WayC.mk', ?_, ?_⟩
            · rw [mesW_cons]; omega
            · rw [mesW_cons]; omega
            · intro s hs
              rcases List.mem_cons.1 hs with rfl | hs
              · exact hx
              · exact hids s (by simp [hs])
            · rw [outW_cons]
              rw [List.nil_append] at ho1
              rw [← ho1]; exact hout
            · first | rfl | simp
          · have hnr : (x1, x2) ≠ root := fun e => hroot ⟨congrArg Prod.fst e, congrArg Prod.snd e⟩
            have hbf : (x1 == 0 && x2 == 0) = false := by
              rw [Bool.eq_false_iff]; intro h; simp only [Bool.and_eq_true, beq_iff_eq] at h; exact hroot h
            have ho1 : outS L G ⟨(x1, x2), false, a⟩ = [ndOf L G (x1, x2)] ++ outS L G ⟨(x1, x2), true, 0⟩ := by
              have := ho.1
              rwa [if_neg hnr] at this
            have hpl : pre.length < (nodes L G).length := by
              rw [ho1] at hout1
              simp only [List.length_append, List.length_singleton] at hout1
              omega
            rw [ho1, List.append_assoc, ixd_append] at hout
            simp only [ixd, List.length_singleton] at hout
            simp (disch := omega) only [↓runPre, runPost, fieldO, ixA, cutA, lenA, aggA, rowA, appA, mkA, indA, bnd, srcA, sameOp, funcA, cvO, partA, aggD, ↓PostP, resV, resAll, resOne, resVF, resAllF, resOneF, fitsAll, fitsR, fits, frz, Post, Nat.reduceBEq, Nat.reduceLT, reduceCtorEq, ↓reduceIte, initS, AV.cellsOf, AV.fine, AV.one, repA, Nat.reduceMul, Nat.reduceAdd, Nat.reduceLeDiff, Nat.reduceEqDiff, Int.reduceToNat, Nat.reduceSub, Nat.reduceMod, Nat.reduceDiv, indexK.aggOf, Int.reducePow, Int.reduceLE, Int.reduceNeg, Int.reduceLT, Int.reduceBEq, Int.reduceBNe, Int.reduceEq, ownA, nilA, Try.facts, s0, s1, s3, s4, hz, hz2, hz3, dT, dF, hbf, s5, s6, kill_box hb2, hkw, hcl, hput', ← hK0, ← hK1]
            refine CallX.v (hy pre (pre.length, ndOf L G (x1, x2)) Hc H' hJ hsub hpl) ?_
            rintro v H2 ⟨Hc2, ⟨fs1, fs2⟩, hv⟩
            obtain ⟨hfk, hfc⟩ := fs2 kw _ hkw hkc
            have hw2 : (((pre.length : Nat) : Int) + 1) = ((pre.length + 1 : Nat) : Int) := by omega
            rcases hv with ⟨rfl, hJ2⟩ | ⟨rfl, hJx⟩
            · simp (disch := omega) only [↓runPre, runPost, fieldO, ixA, cutA, lenA, aggA, rowA, appA, mkA, indA, bnd, srcA, sameOp, funcA, cvO, partA, aggD, ↓PostP, resV, resAll, resOne, resVF, resAllF, resOneF, fitsAll, fitsR, fits, frz, Post, Nat.reduceBEq, Nat.reduceLT, reduceCtorEq, ↓reduceIte, initS, AV.cellsOf, AV.fine, AV.one, repA, Nat.reduceMul, Nat.reduceAdd, Nat.reduceLeDiff, Nat.reduceEqDiff, Int.reduceToNat, Nat.reduceSub, Nat.reduceMod, Nat.reduceDiv, indexK.aggOf, Int.reducePow, Int.reduceLE, Int.reduceNeg, Int.reduceLT, Int.reduceBEq, Int.reduceBNe, Int.reduceEq, ownA, nilA, Try.facts, s0, s1, s3, s4, hz, hz2, hz3, dT, dF, s5, s6, hfk, hcl, hput', hw2]
              refine ⟨mesW L G (⟨(x1, x2), true, 0⟩ :: S'), ?_, _, kw, _, pre ++ [(pre.length, ndOf L G (x1, x2))], Hc2, rfl, ?_, by simp, ?_, hJ2, fs1.set_free hfc, hfc, hk0, set_get, WayC.mk', ?_, ?_⟩
              · rw [mesW_cons]; omega
              · rw [mesW_cons]; omega
              · intro s hs
                rcases List.mem_cons.1 hs with rfl | hs
                · exact hx
                · exact hids s (by simp [hs])
              · rw [outW_cons, List.length_append, List.append_assoc]; exact hout
              · first | rfl | simp
            · simp (disch := omega) only [↓runPre, runPost, fieldO, ixA, cutA, lenA, aggA, rowA, appA, mkA, indA, bnd, srcA, sameOp, funcA, cvO, partA, aggD, ↓PostP, resV, resAll, resOne, resVF, resAllF, resOneF, fitsAll, fitsR, fits, frz, Post, Nat.reduceBEq, Nat.reduceLT, reduceCtorEq, ↓reduceIte, initS, AV.cellsOf, AV.fine, AV.one, repA, Nat.reduceMul, Nat.reduceAdd, Nat.reduceLeDiff, Nat.reduceEqDiff, Int.reduceToNat, Nat.reduceSub, Nat.reduceMod, Nat.reduceDiv, indexK.aggOf, Int.reducePow, Int.reduceLE, Int.reduceNeg, Int.reduceLT, Int.reduceBEq, Int.reduceBNe, Int.reduceEq, ownA, nilA, Try.facts, s0, s1, s3, s4]
              refine ⟨_, rfl, Hc2, fs1, .inr ⟨pre ++ [(pre.length, ndOf L G (x1, x2))], ⟨pre.length + 1, by omega, by omega, ?_⟩, hJx⟩⟩
              rw [← hout]
              rw [← List.append_assoc, List.take_left' (by simp)]
    · -- the right side
      simp only [sideI, Bool.false_eq_true, if_false, if_true] at hld hput1
      obtain ⟨K0, hK0⟩ : ∃ K, K = kids L (x1, x2) false := ⟨_, rfl⟩
      obtain ⟨K1, hK1⟩ : ∃ K, K = kids L (x1, x2) true := ⟨_, rfl⟩
      simp only [] at hdown hover hup
      simp only [← hK1] at hkl0 hKi hkid hdown hover hup
      simp (disch := omega) only [↓runPre, runPost, fieldO, ixA, cutA, lenA, aggA, rowA, appA, mkA, indA, bnd, srcA, sameOp, funcA, cvO, partA, aggD, ↓PostP, resV, resAll, resOne, resVF, resAllF, resOneF, fitsAll, fitsR, fits, frz, Post, Nat.reduceBEq, Nat.reduceLT, reduceCtorEq, ↓reduceIte, initS, AV.cellsOf, AV.fine, AV.one, repA, Nat.reduceMul, Nat.reduceAdd, Nat.reduceLeDiff, Nat.reduceEqDiff, Int.reduceToNat, Nat.reduceSub, Nat.reduceMod, Nat.reduceDiv, indexK.aggOf, Int.reducePow, Int.reduceLE, Int.reduceNeg, Int.reduceLT, Int.reduceBEq, Int.reduceBNe, Int.reduceEq, ownA, nilA, Try.facts, s0, s1, s3, s4, hz, hz2, hz3, dT, dF, qT, qF, nT, nF, Bool.false_and, Bool.and_false, hkw, hld, hcl]
      intro b hb0 hb
      simp (disch := omega) only [↓runPre, runPost, fieldO, ixA, cutA, lenA, aggA, rowA, appA, mkA, indA, bnd, srcA, sameOp, funcA, cvO, partA, aggD, ↓PostP, resV, resAll, resOne, resVF, resAllF, resOneF, fitsAll, fitsR, fits, frz, Post, Nat.reduceBEq, Nat.reduceLT, reduceCtorEq, ↓reduceIte, initS, AV.cellsOf, AV.fine, AV.one, repA, Nat.reduceMul, Nat.reduceAdd, Nat.reduceLeDiff, Nat.reduceEqDiff, Int.reduceToNat, Nat.reduceSub, Nat.reduceMod, Nat.reduceDiv, indexK.aggOf, Int.reducePow, Int.reduceLE, Int.reduceNeg, Int.reduceLT, Int.reduceBEq, Int.reduceBNe, Int.reduceEq, ownA, nilA, Try.facts, s0, s1, s3, s4, hz, hz2, hz3, dT, dF, qT, qF, nT, nF, Bool.false_and, Bool.and_false, hkw, hld, hcl, kill_box hb, putCells_eq]
      refine draw_t (fun σ F => ∃ b, F = H'.set b (.cells (nodeC L G (x1, x2)) 71 6) ∧ H' b = none ∧ σ 0 = y ∧ σ 1 = .ip [.ptr h 0] 0 ∧ σ 3 = .own kw 0 (S'.length + 1) ∧ σ 4 = .sc (.int .i64 (pre.length : Nat)) ∧ (∃ c5, c5 = (cs.drop (S'.length * 4)).take 4 ∧ σ 5 = .ip c5 0) ∧ σ 6 = .ptr b 0) ?_ ?_
      · simp (disch := omega) only [↓runPre, runPost, fieldO, ixA, cutA, lenA, aggA, rowA, appA, mkA, indA, bnd, srcA, sameOp, funcA, cvO, partA, aggD, ↓PostP, resV, resAll, resOne, resVF, resAllF, resOneF, fitsAll, fitsR, fits, frz, Post, Nat.reduceBEq, Nat.reduceLT, reduceCtorEq, ↓reduceIte, initS, AV.cellsOf, AV.fine, AV.one, repA, Nat.reduceMul, Nat.reduceAdd, Nat.reduceLeDiff, Nat.reduceEqDiff, Int.reduceToNat, Nat.reduceSub, Nat.reduceMod, Nat.reduceDiv, indexK.aggOf, Int.reducePow, Int.reduceLE, Int.reduceNeg, Int.reduceLT, Int.reduceBEq, Int.reduceBNe, Int.reduceEq, ownA, nilA, Try.facts, s0, s1, s3, s4, hz, hz2, hz3, dT, dF, qT, qF, nT, nF, Bool.false_and, Bool.and_false, hi, hm, hf, kill_box hb]
        refine ⟨⟨?_, ?_⟩, ?_⟩
        all_goals
          intro b2 hb20 hb2
          have nb1 := ne_live hi hb2
          have nb2 := ne_live hm hb2
          try simp (disch := omega) only [↓runPre, runPost, fieldO, ixA, cutA, lenA, aggA, rowA, appA, mkA, indA, bnd, srcA, sameOp, funcA, cvO, partA, aggD, ↓PostP, resV, resAll, resOne, resVF, resAllF, resOneF, fitsAll, fitsR, fits, frz, Post, Nat.reduceBEq, Nat.reduceLT, reduceCtorEq, ↓reduceIte, initS, AV.cellsOf, AV.fine, AV.one, repA, Nat.reduceMul, Nat.reduceAdd, Nat.reduceLeDiff, Nat.reduceEqDiff, Int.reduceToNat, Nat.reduceSub, Nat.reduceMod, Nat.reduceDiv, indexK.aggOf, Int.reducePow, Int.reduceLE, Int.reduceNeg, Int.reduceLT, Int.reduceBEq, Int.reduceBNe, Int.reduceEq, ownA, nilA, Try.facts, s0, s1, s3, s4, hz, hz2, hz3, dT, dF, qT, qF, nT, nF, Bool.false_and, Bool.and_false, hi, hm, hf, set_other, putCells_eq, kill_box hb]
          refine ⟨b2, rfl, hb2, ?_⟩
          exact ⟨⟨_, hld.symm, rfl⟩, rfl⟩
      · rintro σ F ⟨b2, rfl, hb2, s0, s1, s3, s4, ⟨c5, hc5, s5⟩, s6⟩
        rw [hld] at hc5
        subst hc5
        have hw1 : (((a : Nat) : Int) + 1) = ((a + 1 : Nat) : Int) := by omega
        by_cases hlt : a < K1.length
        · have hid := idsC_load hlt
          have hle2 : a * 2 + 2 ≤ K1.length * 2 := by omega
          obtain ⟨hd1, hd2⟩ := hdown hlt
          have hkid' := hkid _ (List.getElem_mem hlt)
          generalize K1[a] = z at *
          obtain ⟨z1, z2⟩ := z
          have hq := htk [.sc (.int .i64 x1), .sc (.int .i64 x2), .sc (.int .i64 1), .sc (.int .i64 ((a + 1 : Nat)))] rfl
          have hq2 := htl [.sc (.int .i64 x1), .sc (.int .i64 x2), .sc (.int .i64 1), .sc (.int .i64 ((a + 1 : Nat)))] rfl
          simp (disch := omega) only [↓runPre, runPost, fieldO, ixA, cutA, lenA, aggA, rowA, appA, mkA, indA, bnd, srcA, sameOp, funcA, cvO, partA, aggD, ↓PostP, resV, resAll, resOne, resVF, resAllF, resOneF, fitsAll, fitsR, fits, frz, Post, Nat.reduceBEq, Nat.reduceLT, reduceCtorEq, ↓reduceIte, initS, AV.cellsOf, AV.fine, AV.one, repA, Nat.reduceMul, Nat.reduceAdd, Nat.reduceLeDiff, Nat.reduceEqDiff, Int.reduceToNat, Nat.reduceSub, Nat.reduceMod, Nat.reduceDiv, indexK.aggOf, Int.reducePow, Int.reduceLE, Int.reduceNeg, Int.reduceLT, Int.reduceBEq, Int.reduceBNe, Int.reduceEq, ownA, nilA, Try.facts, s0, s1, s3, s4, hz, hz2, hz3, dT, dF, qT, qF, nT, nF, Bool.false_and, Bool.and_false, s5, s6, kill_box hb2, hkw, hcl, hcl3, hg3, hput1, hw1, hid, hle2, hKi, ← hK0, ← hK1, hq, hq2]
          intro k' hk'
          have hk'0 : k' ≠ 0 := by
            rcases hk' with rfl | ⟨h1, -⟩
            · exact hk0
            · exact h1
          have hk'c : Hc k' = none := by
            rcases hk' with rfl | ⟨-, h2⟩
            · exact hkc
            · exact hsub.free (subset_set h2)
          refine ⟨mesW L G (⟨(z1, z2), false, 0⟩ :: ⟨(x1, x2), true, a + 1⟩ :: S'), ?_, _, k', _, pre, Hc, rfl, ?_, by simp, ?_, hJ, ?_, hk'c, hk'0, set_get, ?_, ?_, ?_⟩
          · rw [mesW_cons, mesW_cons]; omega
          · rw [mesW_cons, mesW_cons]; omega
          · intro s hs
            simp only [List.mem_cons] at hs
            rcases hs with rfl | rfl | hs
            · exact hkid'
            · exact hx
            · exact hids s (by simp [hs])
          · first | exact ((hsub.set_free hkc).kill_free hkc).set_free hk'c | exact (hsub.kill_free hkc).set_free hk'c
          · have := WayC.mk' (s := ⟨(z1, z2), false, 0⟩) (S := ⟨(x1, x2), true, a + 1⟩ :: S') (r := [])
            rw [List.reverse_cons, stsC_snoc, List.append_nil] at this
            exact this
          · rw [outW_cons, outW_cons, ← List.append_assoc, ← hd1]; exact hout
          · first | rfl | simp
        · have hu := hup hlt trivial
          have hu1 : outS L G ⟨(x1, x2), true, a⟩ = [] := hu.1
          have hu2 : 0 < mesS L G ⟨(x1, x2), true, a⟩ := hu.2
          rw [hu1, List.nil_append] at hout
          by_cases hS0 : S' = []
          · subst hS0
            simp (disch := omega) only [↓runPre, runPost, fieldO, ixA, cutA, lenA, aggA, rowA, appA, mkA, indA, bnd, srcA, sameOp, funcA, cvO, partA, aggD, ↓PostP, resV, resAll, resOne, resVF, resAllF, resOneF, fitsAll, fitsR, fits, frz, Post, Nat.reduceBEq, Nat.reduceLT, reduceCtorEq, ↓reduceIte, initS, AV.cellsOf, AV.fine, AV.one, repA, Nat.reduceMul, Nat.reduceAdd, Nat.reduceLeDiff, Nat.reduceEqDiff, Int.reduceToNat, Nat.reduceSub, Nat.reduceMod, Nat.reduceDiv, indexK.aggOf, Int.reducePow, Int.reduceLE, Int.reduceNeg, Int.reduceLT, Int.reduceBEq, Int.reduceBNe, Int.reduceEq, ownA, nilA, Try.facts, s0, s1, s3, s4, hz, hz2, hz3, dT, dF, qT, qF, nT, nF, Bool.false_and, Bool.and_false, s5, s6, kill_box hb2, hkw, hcl, ← hK0, ← hK1]
            refine ⟨_, rfl, Hc, hsub, .inl ⟨pre, ?_, hJ⟩⟩
            simpa [outW, ixd] using hout
          · have hpos : 0 < S'.length := List.length_pos_iff.2 hS0
            simp (disch := omega) only [↓runPre, runPost, fieldO, ixA, cutA, lenA, aggA, rowA, appA, mkA, indA, bnd, srcA, sameOp, funcA, cvO, partA, aggD, ↓PostP, resV, resAll, resOne, resVF, resAllF, resOneF, fitsAll, fitsR, fits, frz, Post, Nat.reduceBEq, Nat.reduceLT, reduceCtorEq, ↓reduceIte, initS, AV.cellsOf, AV.fine, AV.one, repA, Nat.reduceMul, Nat.reduceAdd, Nat.reduceLeDiff, Nat.reduceEqDiff, Int.reduceToNat, Nat.reduceSub, Nat.reduceMod, Nat.reduceDiv, indexK.aggOf, Int.reducePow, Int.reduceLE, Int.reduceNeg, Int.reduceLT, Int.reduceBEq, Int.reduceBNe, Int.reduceEq, ownA, nilA, Try.facts, s0, s1, s3, s4, hz, hz2, hz3, dT, dF, qT, qF, nT, nF, Bool.false_and, Bool.and_false, s5, s6, kill_box hb2, hkw, hcl, ← hK0, ← hK1]
            refine ⟨mesW L G S', by omega, S', kw, cs, pre, Hc, rfl, by omega, hS0, fun s hs => hids s (by simp [hs]), hJ, hsub, hkc, hk0, hkw, hw' hS0, hout, ?_⟩
            first | rfl | simp
end Go.Proofs.Ytpmmafmbjconiaa
