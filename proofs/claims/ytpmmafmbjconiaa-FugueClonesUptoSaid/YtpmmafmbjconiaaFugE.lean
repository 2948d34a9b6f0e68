/-
  The walks of the fugue layer: the document's order of the text.
  Conditions: none. Lemmas only.
-/
import Derived.Test.YtpmmafmbjconiaaFugD
import Derived.Test.YtpmmafmbjconiaaFugQ
set_option linter.all false
set_option linter.unusedSimpArgs false
set_option linter.unusedVariables false
set_option maxRecDepth 8000
set_option maxHeartbeats 4000000
namespace Go.Proofs.Ytpmmafmbjconiaa
open Go Go.Abs Go.Proofs Go.Fug

def ndC (n : Nd) : List AV := [.sc (.int .i64 n.id.1), .sc (.int .i64 n.id.2), .sc (.int .i32 n.rune), .sc (.bool n.gone)]
def ndsC (l : List Nd) : List AV := l.flatMap ndC
abbrev ndsV (l : List Nd) : AV := .imm 0 (ndsC l) l.length
theorem ndsC_length (l : List Nd) : (ndsC l).length = l.length * 4 := by
  induction l with
  | nil => rfl
  | cons t r ih => simp only [ndsC, List.flatMap_cons, List.length_append, List.length_cons] at *; rw [ih]; simp [ndC]; omega
theorem ndsC_drop {l : List Nd} {i : Nat} (h : i < l.length) : (ndsC l).drop (i * 4) = ndC l[i] ++ ndsC (l.drop (i + 1)) := by
  induction l generalizing i with
  | nil => simp at h
  | cons t r ih =>
    cases i with
    | zero => simp [ndsC]
    | succ i =>
      have e : (i + 1) * 4 = 4 + i * 4 := by omega
      have e1 : ndsC (t :: r) = ndC t ++ ndsC r := rfl
      rw [e, ← List.drop_drop, e1, List.drop_left' (by simp [ndC]), ih (by simpa using h)]
      rfl
theorem ndsC_load {l : List Nd} {i : Nat} (h : i < l.length) : ((ndsC l).drop (i * 4)).take 4 = ndC l[i] := by
  rw [ndsC_drop h, List.take_left' (by simp [ndC])]
theorem ndsC_get {l : List Nd} {i j : Nat} (h : i < l.length) (hj : j < 4) : (ndsC l)[i * 4 + j]? = (ndC l[i])[j]? := by
  rw [← List.getElem?_drop, ndsC_drop h, List.getElem?_append_left (by simpa [ndC] using hj)]
theorem ndsC_two {l : List Nd} {i : Nat} (h : i < l.length) : ((ndsC l).drop (i * 4)).take 2 = [.sc (.int .i64 l[i].id.1), .sc (.int .i64 l[i].id.2)] := by
  rw [ndsC_drop h]; rfl
theorem ndsC_append (l r : List Nd) : ndsC l ++ ndsC r = ndsC (l ++ r) := by simp [ndsC]
theorem ndsC_snoc (l : List Nd) (n : Nd) : ndsC l ++ ndC n = ndsC (l ++ [n]) := by simp [ndsC]

theorem flatMap_le {α β : Type} (f : α → List β) (l : List α) (k : Nat) : ((l.take k).flatMap f).length ≤ (l.flatMap f).length := by
  have : (l.take k).flatMap f ++ (l.drop k).flatMap f = l.flatMap f := by rw [← List.flatMap_append, List.take_append_drop]
  rw [← this, List.length_append]; omega
theorem flatMap_take {α β : Type} (f : α → List β) {l : List α} {k : Nat} (h : k < l.length) : (l.take (k + 1)).flatMap f = (l.take k).flatMap f ++ f l[k] := by
  rw [List.take_succ_eq_append_getElem h, List.flatMap_append]; simp

theorem rbelow_step (L : List Ins) (G : List EId) (x : EId) (r : Bool) (hL : L.length ≤ 10000) (hG : G.length ≤ 10000) (B : EId → Bool → List Nd)
    (hB : ∀ i ∈ kidsI L x r, ∀ b, APure Try.prog 37 [treeV L G, idV i.id, .sc (.bool b)] (ndsV (B i.id b)))
    (htot : ((kidsI L x r).flatMap fun i => B i.id false ++ [⟨i.id, i.rune, decide (i.id ∈ G)⟩] ++ B i.id true).length ≤ 1000000000) :
    APure Try.prog 37 [treeV L G, idV x, .sc (.bool r)] (ndsV ((kidsI L x r).flatMap fun i => B i.id false ++ [⟨i.id, i.rune, decide (i.id ∈ G)⟩] ++ B i.id true)) := by
  have hk := rkids_pure L G x r (by omega)
  have hkl := kidsI_length L x r
  have hdr := fun y => dropped_pure L G y (by omega)
  have hKi := inssC_length (kidsI L x r)
  obtain ⟨f, hf⟩ : ∃ f : Ins → List Nd, f = fun i => B i.id false ++ [⟨i.id, i.rune, decide (i.id ∈ G)⟩] ++ B i.id true := ⟨_, rfl⟩
  have hfi := fun i => congrFun hf i
  rw [← hf] at htot ⊢
  clear hf
  generalize kidsI L x r = K at *
  have hle := flatMap_le f K
  have hst := fun (k : Nat) (h : k < K.length) => flatMap_take f h
  have hend : (K.take K.length).flatMap f = K.flatMap f := by rw [List.take_length]
  generalize K.flatMap f = R at *
  obtain ⟨a, c⟩ := x
  refine apure_of_cwp (c := ⟨Try.prog, 60, [(6, [0, 1, 0, 0, 0, 0, 1, 0, 2, 0]), (7, [0, 0, 0, 0, 0, 1, 0, 0, 0, 0, 1, 1, 0, 0, 0, 0, 1, 0, 0, 0, 2, 0]), (8, [0, 1, 0, 0, 0, 0, 1, 0, 2, 0]), (1000000, [4, 3]), (4000008, [3, 7, 8, 9]), (4000007, [3, 7, 8, 9]), (4000006, [3, 7, 8, 9]), (4000002, [3, 7, 8])], [], []⟩) (rs := [ResultVar.tmp 6]) Try.mixed Try.func37 rfl rfl rfl (Nat.le_of_ble_eq_true rfl) (by kernel_rfl) fun H => ?_
  simp (disch := omega) only [↓runPre, runPost, fieldO, ixA, cutA, lenA, aggA, rowA, appA, mkA, indA, bnd, srcA, sameOp, funcA, cvO, partA, aggD, ↓PostP, resV, resAll, resOne, resVF, resAllF, resOneF, fitsAll, fitsR, fits, frz, Post, Nat.reduceBEq, Nat.reduceLT, reduceCtorEq, ↓reduceIte, initS, AV.cellsOf, AV.fine, AV.one, repA, Nat.reduceMul, Nat.reduceAdd, Nat.reduceLeDiff, Nat.reduceEqDiff, Int.reduceToNat, Nat.reduceSub, Nat.reduceMod, Nat.reduceDiv, indexK.aggOf, Int.reducePow, Int.reduceLE, Int.reduceNeg, Int.reduceLT, Int.reduceBEq, Int.reduceBNe, Int.reduceEq, ownA, nilA, Try.facts]
  intro k1 hk10 hk1 k2 hk20 hk2
  simp (disch := omega) only [↓runPre, runPost, fieldO, ixA, cutA, lenA, aggA, rowA, appA, mkA, indA, bnd, srcA, sameOp, funcA, cvO, partA, aggD, ↓PostP, resV, resAll, resOne, resVF, resAllF, resOneF, fitsAll, fitsR, fits, frz, Post, Nat.reduceBEq, Nat.reduceLT, reduceCtorEq, ↓reduceIte, initS, AV.cellsOf, AV.fine, AV.one, repA, Nat.reduceMul, Nat.reduceAdd, Nat.reduceLeDiff, Nat.reduceEqDiff, Int.reduceToNat, Nat.reduceSub, Nat.reduceMod, Nat.reduceDiv, indexK.aggOf, Int.reducePow, Int.reduceLE, Int.reduceNeg, Int.reduceLT, Int.reduceBEq, Int.reduceBNe, Int.reduceEq, ownA, nilA, Try.facts, kill_box hk2, kill_box hk1]
  first | refine CallK.p (hk) ?_ | refine CallP.i (hk) ?_
  simp (disch := omega) only [↓runPre, runPost, fieldO, ixA, cutA, lenA, aggA, rowA, appA, mkA, indA, bnd, srcA, sameOp, funcA, cvO, partA, aggD, ↓PostP, resV, resAll, resOne, resVF, resAllF, resOneF, fitsAll, fitsR, fits, frz, Post, Nat.reduceBEq, Nat.reduceLT, reduceCtorEq, ↓reduceIte, initS, AV.cellsOf, AV.fine, AV.one, repA, Nat.reduceMul, Nat.reduceAdd, Nat.reduceLeDiff, Nat.reduceEqDiff, Int.reduceToNat, Nat.reduceSub, Nat.reduceMod, Nat.reduceDiv, indexK.aggOf, Int.reducePow, Int.reduceLE, Int.reduceNeg, Int.reduceLT, Int.reduceBEq, Int.reduceBNe, Int.reduceEq, ownA, nilA, Try.facts]
  refine tok_t 7 (by simp (disch := omega) only [↓runPre, runPost, fieldO, ixA, cutA, lenA, aggA, rowA, appA, mkA, indA, bnd, srcA, sameOp, funcA, cvO, partA, aggD, ↓PostP, resV, resAll, resOne, resVF, resAllF, resOneF, fitsAll, fitsR, fits, frz, Post, Nat.reduceBEq, Nat.reduceLT, reduceCtorEq, ↓reduceIte, initS, AV.cellsOf, AV.fine, AV.one, repA, Nat.reduceMul, Nat.reduceAdd, Nat.reduceLeDiff, Nat.reduceEqDiff, Int.reduceToNat, Nat.reduceSub, Nat.reduceMod, Nat.reduceDiv, indexK.aggOf, Int.reducePow, Int.reduceLE, Int.reduceNeg, Int.reduceLT, Int.reduceBEq, Int.reduceBNe, Int.reduceEq, ownA, nilA, Try.facts]) fun kt hkt0 hkt => ?_
  refine loop_t (c := ⟨Try.prog, 60, [(6, [0, 1, 0, 0, 0, 0, 1, 0, 2, 0]), (7, [0, 0, 0, 0, 0, 1, 0, 0, 0, 0, 1, 1, 0, 0, 0, 0, 1, 0, 0, 0, 2, 0]), (8, [0, 1, 0, 0, 0, 0, 1, 0, 2, 0]), (1000000, [4, 3]), (4000008, [3, 7, 8, 9]), (4000007, [3, 7, 8, 9]), (4000006, [3, 7, 8, 9]), (4000002, [3, 7, 8])], [], []⟩) Try.mixed (by kernel_rfl) (fun mm σ H' => Abs.Sub H H' ∧ ∃ (k k7 : Nat) (o7 : AObj) (W : List Nd), k + mm = K.length ∧ W = (K.take k).flatMap f ∧ σ 3 = .ip (treeC L G) 0 ∧ σ 8 = .imm 0 (inssC K) K.length ∧ σ 9 = .sc (.int .i64 (k : Nat)) ∧ k7 ≠ 0 ∧ H k7 = none ∧ H' k7 = some o7 ∧ TokO 44 4 o7 (W.length * 4) ∧ σ 7 = .imm k7 (ndsC W) W.length) K.length ?_ ?_
  · refine ⟨Abs.Sub.set_new hkt, 0, kt, .nilt, [], by omega, rfl, ?_⟩
    simp (disch := omega) only [↓runPre, runPost, fieldO, ixA, cutA, lenA, aggA, rowA, appA, mkA, indA, bnd, srcA, sameOp, funcA, cvO, partA, aggD, ↓PostP, resV, resAll, resOne, resVF, resAllF, resOneF, fitsAll, fitsR, fits, frz, Post, Nat.reduceBEq, Nat.reduceLT, reduceCtorEq, ↓reduceIte, initS, AV.cellsOf, AV.fine, AV.one, repA, Nat.reduceMul, Nat.reduceAdd, Nat.reduceLeDiff, Nat.reduceEqDiff, Int.reduceToNat, Nat.reduceSub, Nat.reduceMod, Nat.reduceDiv, indexK.aggOf, Int.reducePow, Int.reduceLE, Int.reduceNeg, Int.reduceLT, Int.reduceBEq, Int.reduceBNe, Int.reduceEq, ownA, nilA, Try.facts]
    exact ⟨hkt0, hkt, rfl⟩
  · rintro mm σ H' ⟨hsub, k, k7, o7, W, hkm, hW, h3, h8, h9, hk70, hk7, hkv, ho7, h7⟩
    by_cases hlt : k < K.length
    · have hWl := hle (k + 1)
      have hst1 := hst k hlt
      have hB1 := hB _ (List.getElem_mem hlt)
      have hf1 := hfi K[k]
      have hdr1 := hdr K[k].id
      have ld0 := inssC_two hlt (show 0 + 2 ≤ 6 by omega)
      have ld5 := inssC_get hlt (show 5 < 6 by omega)
      have le6 : k * 6 + 6 ≤ K.length * 6 := by omega
      have le2 : k * 6 + 2 ≤ K.length * 6 := by omega
      have le5 : k * 6 + 5 < K.length * 6 := by omega
      generalize K[k] = y at *
      have hb1 := hB1 false
      have hb2 := hB1 true
      generalize B y.id false = B1 at *
      generalize B y.id true = B2 at *
      obtain ⟨⟨y1, y2⟩, ⟨z1, z2⟩, yr, yu⟩ := y
      simp only [insC, Nat.add_zero, List.drop_zero, List.drop_succ_cons, List.take_succ_cons, List.take_zero, List.getElem?_cons_succ, List.getElem?_cons_zero] at ld0 ld5 hb1 hb2 hdr1 hf1
      rw [hst1, ← hW, hf1, List.length_append, List.length_append, List.length_append] at hWl
      have hsA := ndsC_append W B1
      have hsB := ndsC_snoc (W ++ B1) ⟨(y1, y2), yu, decide ((y1, y2) ∈ G)⟩
      have hsC := ndsC_append (W ++ B1 ++ [⟨(y1, y2), yu, decide ((y1, y2) ∈ G)⟩]) B2
      have lA : (W ++ B1).length = W.length + B1.length := by simp
      have lB : (W ++ B1 ++ [(⟨(y1, y2), yu, decide ((y1, y2) ∈ G)⟩ : Nd)]).length = (W ++ B1).length + 1 := by simp only [List.length_append, List.length_singleton]
      have lC : (W ++ B1 ++ [(⟨(y1, y2), yu, decide ((y1, y2) ∈ G)⟩ : Nd)] ++ B2).length = (W ++ B1 ++ [(⟨(y1, y2), yu, decide ((y1, y2) ∈ G)⟩ : Nd)]).length + B2.length := by rw [List.length_append]
      have hfin : (K.take (k + 1)).flatMap f = W ++ B1 ++ [(⟨(y1, y2), yu, decide ((y1, y2) ∈ G)⟩ : Nd)] ++ B2 := by rw [hst1, ← hW, hf1]; simp only [List.append_assoc]
      simp only [ndC] at hsB
      generalize decide ((y1, y2) ∈ G) = gn at *
      generalize W ++ B1 ++ [(⟨(y1, y2), yu, gn⟩ : Nd)] ++ B2 = W3 at *
      generalize W ++ B1 ++ [(⟨(y1, y2), yu, gn⟩ : Nd)] = W2 at *
      generalize W ++ B1 = W1 at *
      simp only [List.length_singleton] at hWl
      have i0 := ndsC_length W
      have i1 := ndsC_length B1
      have i2 := ndsC_length B2
      have i3 := ndsC_length W1
      have i4 := ndsC_length W2
      have i5 := ndsC_length W3
      simp (disch := omega) only [↓runPre, runPost, fieldO, ixA, cutA, lenA, aggA, rowA, appA, mkA, indA, bnd, srcA, sameOp, funcA, cvO, partA, aggD, ↓PostP, resV, resAll, resOne, resVF, resAllF, resOneF, fitsAll, fitsR, fits, frz, Post, Nat.reduceBEq, Nat.reduceLT, reduceCtorEq, ↓reduceIte, initS, AV.cellsOf, AV.fine, AV.one, repA, Nat.reduceMul, Nat.reduceAdd, Nat.reduceLeDiff, Nat.reduceEqDiff, Int.reduceToNat, Nat.reduceSub, Nat.reduceMod, Nat.reduceDiv, indexK.aggOf, Int.reducePow, Int.reduceLE, Int.reduceNeg, Int.reduceLT, Int.reduceBEq, Int.reduceBNe, Int.reduceEq, ownA, nilA, Try.facts, h3, h7, h8, h9, dT, dF, qT, qF, nT, nF, Bool.false_and, Bool.and_false, ld0, ld5, le6, le2, le5, hKi]
      first | refine CallK.p (hb1) ?_ | refine CallP.i (hb1) ?_
      simp (disch := omega) only [↓runPre, runPost, fieldO, ixA, cutA, lenA, aggA, rowA, appA, mkA, indA, bnd, srcA, sameOp, funcA, cvO, partA, aggD, ↓PostP, resV, resAll, resOne, resVF, resAllF, resOneF, fitsAll, fitsR, fits, frz, Post, Nat.reduceBEq, Nat.reduceLT, reduceCtorEq, ↓reduceIte, initS, AV.cellsOf, AV.fine, AV.one, repA, Nat.reduceMul, Nat.reduceAdd, Nat.reduceLeDiff, Nat.reduceEqDiff, Int.reduceToNat, Nat.reduceSub, Nat.reduceMod, Nat.reduceDiv, indexK.aggOf, Int.reducePow, Int.reduceLE, Int.reduceNeg, Int.reduceLT, Int.reduceBEq, Int.reduceBNe, Int.reduceEq, ownA, nilA, Try.facts, h3, h7, h8, h9, dT, dF, qT, qF, nT, nF, Bool.false_and, Bool.and_false, ld0, ld5, le6, le2, le5, hKi, hkv, ho7, i0, i1, hsA, ← lA]
      intro ka oa hka0 hka hoa
      rw [i3] at hoa
      have hA := hsub.free hka
      have subA := (hsub.kill_free hk7).set_free (o := oa) hA
      first | refine CallK.p (hdr1) ?_ | refine CallP.i (hdr1) ?_
      simp (disch := omega) only [↓runPre, runPost, fieldO, ixA, cutA, lenA, aggA, rowA, appA, mkA, indA, bnd, srcA, sameOp, funcA, cvO, partA, aggD, ↓PostP, resV, resAll, resOne, resVF, resAllF, resOneF, fitsAll, fitsR, fits, frz, Post, Nat.reduceBEq, Nat.reduceLT, reduceCtorEq, ↓reduceIte, initS, AV.cellsOf, AV.fine, AV.one, repA, Nat.reduceMul, Nat.reduceAdd, Nat.reduceLeDiff, Nat.reduceEqDiff, Int.reduceToNat, Nat.reduceSub, Nat.reduceMod, Nat.reduceDiv, indexK.aggOf, Int.reducePow, Int.reduceLE, Int.reduceNeg, Int.reduceLT, Int.reduceBEq, Int.reduceBNe, Int.reduceEq, ownA, nilA, Try.facts, h3, h7, h8, h9, dT, dF, qT, qF, nT, nF, Bool.false_and, Bool.and_false, ld0, ld5, le6, le2, le5, hKi, hoa, i3, hsB, ← lB]
      intro kb ob hkb0 hkb hob
      rw [i4] at hob
      have hB' := subA.free hkb
      have subB := (subA.kill_free hA).set_free (o := ob) hB'
      first | refine CallK.p (hb2) ?_ | refine CallP.i (hb2) ?_
      simp (disch := omega) only [↓runPre, runPost, fieldO, ixA, cutA, lenA, aggA, rowA, appA, mkA, indA, bnd, srcA, sameOp, funcA, cvO, partA, aggD, ↓PostP, resV, resAll, resOne, resVF, resAllF, resOneF, fitsAll, fitsR, fits, frz, Post, Nat.reduceBEq, Nat.reduceLT, reduceCtorEq, ↓reduceIte, initS, AV.cellsOf, AV.fine, AV.one, repA, Nat.reduceMul, Nat.reduceAdd, Nat.reduceLeDiff, Nat.reduceEqDiff, Int.reduceToNat, Nat.reduceSub, Nat.reduceMod, Nat.reduceDiv, indexK.aggOf, Int.reducePow, Int.reduceLE, Int.reduceNeg, Int.reduceLT, Int.reduceBEq, Int.reduceBNe, Int.reduceEq, ownA, nilA, Try.facts, h3, h7, h8, h9, dT, dF, qT, qF, nT, nF, Bool.false_and, Bool.and_false, ld0, ld5, le6, le2, le5, hKi, hob, i4, i2, hsC, ← lC]
      intro kc oc hkc0 hkc hoc
      rw [i5] at hoc
      have hC' := subB.free hkc
      have subC := (subB.kill_free hB').set_free (o := oc) hC'
      exact ⟨mm - 1, by omega, subC, k + 1, kc, oc, W3, by omega, hfin.symm, rfl, hkc0, hC', set_get, hoc, rfl⟩
    · obtain rfl : k = K.length := by omega
      rw [hend] at hW
      subst hW
      simp (disch := omega) only [↓runPre, runPost, fieldO, ixA, cutA, lenA, aggA, rowA, appA, mkA, indA, bnd, srcA, sameOp, funcA, cvO, partA, aggD, ↓PostP, resV, resAll, resOne, resVF, resAllF, resOneF, fitsAll, fitsR, fits, frz, Post, Nat.reduceBEq, Nat.reduceLT, reduceCtorEq, ↓reduceIte, initS, AV.cellsOf, AV.fine, AV.one, repA, Nat.reduceMul, Nat.reduceAdd, Nat.reduceLeDiff, Nat.reduceEqDiff, Int.reduceToNat, Nat.reduceSub, Nat.reduceMod, Nat.reduceDiv, indexK.aggOf, Int.reducePow, Int.reduceLE, Int.reduceNeg, Int.reduceLT, Int.reduceBEq, Int.reduceBNe, Int.reduceEq, ownA, nilA, Try.facts, h3, h7, h8, h9, dT, dF, qT, qF, nT, nF, Bool.false_and, Bool.and_false, hKi]
      exact hsub
theorem rbelow_pure (L : List Ins) (G : List EId) (hL : L.length ≤ 10000) (hG : G.length ≤ 10000) (hnd : (L.map (·.id)).Nodup) : ∀ (n : Nat) (x : EId) (r : Bool), n ≤ 10001 → Deep L n x →
    APure Try.prog 37 [treeV L G, idV x, .sc (.bool r)] (ndsV (below L G n x r)) := by
  intro n
  induction n with
  | zero =>
    intro x r _ hd
    have hk : kidsI L x r = [] := by
      cases e : kidsI L x r with
      | nil => rfl
      | cons i l =>
        have hm := mem_kidsI (L := L) (p := x) (r := r) (i := i) (by rw [e]; simp)
        cases hd with
        | mk _ _ h _ => exact absurd (h i hm.1 hm.2.1) (by omega)
    have := rbelow_step L G x r hL hG (fun _ _ => []) (by rw [hk]; simp) (by rw [hk]; simp)
    rw [hk] at this
    exact this
  | succ n ih =>
    intro x r hn hd
    have hres : below L G (n + 1) x r = (kidsI L x r).flatMap fun i => below L G n i.id false ++ [⟨i.id, i.rune, decide (i.id ∈ G)⟩] ++ below L G n i.id true := by
      rw [← belowI_eq hnd]
      simp only [belowI, belowI_eq hnd]
    rw [hres]
    refine rbelow_step L G x r hL hG (fun y b => below L G n y b) (fun i hi b => ?_) ?_
    · have hm := mem_kidsI hi
      cases hd with
      | mk _ _ h1 h2 => exact ih _ b (by omega) (h2 _ hm.1 hm.2.1)
    · rw [← hres]
      have := below_le G hnd (n + 1) x r
      have : (n + 1) * L.length ≤ 10001 * 10000 := Nat.mul_le_mul hn hL
      omega
end Go.Proofs.Ytpmmafmbjconiaa
