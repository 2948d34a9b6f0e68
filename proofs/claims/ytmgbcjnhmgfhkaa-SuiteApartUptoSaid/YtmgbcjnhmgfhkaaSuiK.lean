/-
  The walks of the suite layer: all terms; a clone.
  Conditions: none. Lemmas only.
-/
import Derived.Test.YtmgbcjnhmgfhkaaSuiJ
set_option linter.all false
set_option linter.unusedSimpArgs false
set_option linter.unusedVariables false
namespace Go.Proofs.Ytmgbcjnhmgfhkaa
open Go Go.Abs Go.Proofs

theorem termsC_take (ts : List Term) (i : Nat) (h : i < ts.length) : termsC (ts.take (i + 1)) = termsC (ts.take i) ++ [.sc (.int .u8 ts[i].kind.toNat), .imm 0 (ts[i].parts.map bytesV) ts[i].parts.length] := by
  rw [List.take_succ_eq_append_getElem h, ← termsC_snoc]

theorem terms_live (H : AH) (h m k d : Nat) (ts : List Term) (hts : ∀ x ∈ ts, okT x) (hl : ts.length ≤ 1000000) (g : IsI H h m k d ts) : ACalls Try.prog 20 [.ptr h 0] H fun v H' => v = .imm 0 (termsC ts) ts.length ∧ H' = H := by
  have hmd := made_live H h m k d ts g
  have hTl := termsC_length ts
  obtain ⟨k0, hi, hm, o, hk, ho⟩ := id g
  refine acalls_of_cwp (c := ⟨Try.prog, 45, [(1000006, [5])], [30], []⟩) (rs := [ResultVar.tmp 2]) Try.mixed Try.func20 rfl rfl rfl (Nat.le_of_ble_eq_true rfl) (by kernel_rfl) ?_
  simp (disch := omega) only [↓runPre, runPost, fieldO, ixA, cutA, lenA, aggA, rowA, appA, mkA, indA, bnd, srcA, sameOp, funcA, cvO, partA, aggD, ↓PostP, resV, resAll, resOne, resVF, resAllF, resOneF, fitsAll, fitsR, fits, frz, Post, Nat.reduceBEq, Nat.reduceLT, reduceCtorEq, ↓reduceIte, initS, AV.cellsOf, AV.fine, AV.one, repA, Nat.reduceMul, Nat.reduceAdd, Nat.reduceLeDiff, Nat.reduceEqDiff, Int.reduceToNat, Nat.reduceSub, Nat.reduceMod, Nat.reduceDiv, indexK.aggOf, Int.reducePow, Int.reduceLE, Int.reduceNeg, Int.reduceLT, Int.reduceBEq, Int.reduceBNe, Int.reduceEq, ownA, nilA, Try.facts]
  refine CallK.i hmd ?_
  rintro v H1 ⟨rfl, rfl⟩
  simp (disch := omega) only [↓runPre, runPost, fieldO, ixA, cutA, lenA, aggA, rowA, appA, mkA, indA, bnd, srcA, sameOp, funcA, cvO, partA, aggD, ↓PostP, resV, resAll, resOne, resVF, resAllF, resOneF, fitsAll, fitsR, fits, frz, Post, Nat.reduceBEq, Nat.reduceLT, reduceCtorEq, ↓reduceIte, initS, AV.cellsOf, AV.fine, AV.one, repA, Nat.reduceMul, Nat.reduceAdd, Nat.reduceLeDiff, Nat.reduceEqDiff, Int.reduceToNat, Nat.reduceSub, Nat.reduceMod, Nat.reduceDiv, indexK.aggOf, Int.reducePow, Int.reduceLE, Int.reduceNeg, Int.reduceLT, Int.reduceBEq, Int.reduceBNe, Int.reduceEq, ownA, nilA, Try.facts, hi]
  refine tok_t 3 (by simp (disch := omega) only [↓runPre, runPost, fieldO, ixA, cutA, lenA, aggA, rowA, appA, mkA, indA, bnd, srcA, sameOp, funcA, cvO, partA, aggD, ↓PostP, resV, resAll, resOne, resVF, resAllF, resOneF, fitsAll, fitsR, fits, frz, Post, Nat.reduceBEq, Nat.reduceLT, reduceCtorEq, ↓reduceIte, initS, AV.cellsOf, AV.fine, AV.one, repA, Nat.reduceMul, Nat.reduceAdd, Nat.reduceLeDiff, Nat.reduceEqDiff, Int.reduceToNat, Nat.reduceSub, Nat.reduceMod, Nat.reduceDiv, indexK.aggOf, Int.reducePow, Int.reduceLE, Int.reduceNeg, Int.reduceLT, Int.reduceBEq, Int.reduceBNe, Int.reduceEq, ownA, nilA, Try.facts]) fun kt hkt0 hkt => ?_
  refine loop_t (c := ⟨Try.prog, 45, [(1000006, [5])], [30], []⟩) Try.mixed (by kernel_rfl) (fun mm σ H' => Abs.Sub H1 H' ∧ ∃ i, i + mm = ts.length ∧ σ 16 = .imm k (termsC ts) ts.length ∧ σ 17 = .sc (.int .i64 ts.length) ∧ σ 18 = .sc (.int .i64 i) ∧
    ∃ kp op, kp ≠ 0 ∧ H1 kp = none ∧ H' kp = some op ∧ TokO 51 2 op (i * 2) ∧ σ 3 = .imm kp (termsC (ts.take i)) i) ts.length ?_ ?_
  · refine ⟨Abs.Sub.set_new hkt, 0, by omega, ?_⟩
    simp (disch := omega) only [↓runPre, runPost, fieldO, ixA, cutA, lenA, aggA, rowA, appA, mkA, indA, bnd, srcA, sameOp, funcA, cvO, partA, aggD, ↓PostP, resV, resAll, resOne, resVF, resAllF, resOneF, fitsAll, fitsR, fits, frz, Post, Nat.reduceBEq, Nat.reduceLT, reduceCtorEq, ↓reduceIte, initS, AV.cellsOf, AV.fine, AV.one, repA, Nat.reduceMul, Nat.reduceAdd, Nat.reduceLeDiff, Nat.reduceEqDiff, Int.reduceToNat, Nat.reduceSub, Nat.reduceMod, Nat.reduceDiv, indexK.aggOf, Int.reducePow, Int.reduceLE, Int.reduceNeg, Int.reduceLT, Int.reduceBEq, Int.reduceBNe, Int.reduceEq, ownA, nilA, Try.facts]
    exact ⟨kt, .nilt, hkt0, hkt, set_get, .inr ⟨rfl, rfl⟩, rfl⟩
  · rintro mm σ H' ⟨hsub, i, him, h16, h17, h18, kp, op, hkp0, hkp, hkp', hop, h3⟩
    by_cases hlt : i < ts.length
    · have hb1 : decide ((i : Int) < (ts.length : Int)) = true := by simp; omega
      have hld := termsC_load hlt
      have hle : i * 2 + 2 ≤ (termsC ts).length := by omega
      have hle' : i * 2 + 2 ≤ ts.length * 2 := by omega
      have hz := termsC_take ts i hlt
      have hok := hts _ (List.getElem_mem hlt)
      have htl : (termsC (ts.take i)).length = i * 2 := by rw [termsC_length, List.length_take]; omega
      generalize ts[i] = x at *
      obtain ⟨kd, ps⟩ := x
      have hps : ps.length ≤ 1000000 := hok.2.1
      have hfl : ps.flatten.length ≤ 1000000000000 := hok.2.2
      simp only [] at hld hz
      simp (disch := omega) only [↓runPre, runPost, fieldO, ixA, cutA, lenA, aggA, rowA, appA, mkA, indA, bnd, srcA, sameOp, funcA, cvO, partA, aggD, ↓PostP, resV, resAll, resOne, resVF, resAllF, resOneF, fitsAll, fitsR, fits, frz, Post, Nat.reduceBEq, Nat.reduceLT, reduceCtorEq, ↓reduceIte, initS, AV.cellsOf, AV.fine, AV.one, repA, Nat.reduceMul, Nat.reduceAdd, Nat.reduceLeDiff, Nat.reduceEqDiff, Int.reduceToNat, Nat.reduceSub, Nat.reduceMod, Nat.reduceDiv, indexK.aggOf, Int.reducePow, Int.reduceLE, Int.reduceNeg, Int.reduceLT, Int.reduceBEq, Int.reduceBNe, Int.reduceEq, ownA, nilA, Try.facts, h3, h16, h17, h18, hb1, hld, hle, hle', hTl]
      intro b1 hb10 hb1f
      simp (disch := omega) only [↓runPre, runPost, fieldO, ixA, cutA, lenA, aggA, rowA, appA, mkA, indA, bnd, srcA, sameOp, funcA, cvO, partA, aggD, ↓PostP, resV, resAll, resOne, resVF, resAllF, resOneF, fitsAll, fitsR, fits, frz, Post, Nat.reduceBEq, Nat.reduceLT, reduceCtorEq, ↓reduceIte, initS, AV.cellsOf, AV.fine, AV.one, repA, Nat.reduceMul, Nat.reduceAdd, Nat.reduceLeDiff, Nat.reduceEqDiff, Int.reduceToNat, Nat.reduceSub, Nat.reduceMod, Nat.reduceDiv, indexK.aggOf, Int.reducePow, Int.reduceLE, Int.reduceNeg, Int.reduceLT, Int.reduceBEq, Int.reduceBNe, Int.reduceEq, ownA, nilA, Try.facts, h3, h16, h17, h18, hb1, hld, hle, hle', hTl, putCells_eq, kill_box hb1f]
      refine tok_t 6 (by simp (disch := omega) only [↓runPre, runPost, fieldO, ixA, cutA, lenA, aggA, rowA, appA, mkA, indA, bnd, srcA, sameOp, funcA, cvO, partA, aggD, ↓PostP, resV, resAll, resOne, resVF, resAllF, resOneF, fitsAll, fitsR, fits, frz, Post, Nat.reduceBEq, Nat.reduceLT, reduceCtorEq, ↓reduceIte, initS, AV.cellsOf, AV.fine, AV.one, repA, Nat.reduceMul, Nat.reduceAdd, Nat.reduceLeDiff, Nat.reduceEqDiff, Int.reduceToNat, Nat.reduceSub, Nat.reduceMod, Nat.reduceDiv, indexK.aggOf, Int.reducePow, Int.reduceLE, Int.reduceNeg, Int.reduceLT, Int.reduceBEq, Int.reduceBNe, Int.reduceEq, ownA, nilA, Try.facts]) fun kq hkq0 hkq => ?_
      have hkqH := hsub.free hkq
      refine loop_t (c := ⟨Try.prog, 45, [(1000006, [5])], [30], []⟩) Try.mixed (by kernel_rfl) (fun mj σ H'' => Abs.Sub H1 H'' ∧ ∃ j, j + mj = ps.length ∧ σ 16 = .imm k (termsC ts) ts.length ∧ σ 17 = .sc (.int .i64 ts.length) ∧ σ 18 = .sc (.int .i64 i) ∧
        σ 3 = .imm kp (termsC (ts.take i)) i ∧ H'' kp = some op ∧ σ 5 = .ip [.sc (.int .u8 kd.toNat), rowsV ps] 0 ∧ σ 23 = rowsV ps ∧ σ 24 = .sc (.int .i64 ps.length) ∧ σ 25 = .sc (.int .i64 j) ∧
        ∃ kq oq, kq ≠ 0 ∧ H1 kq = none ∧ kq ≠ kp ∧ H'' kq = some oq ∧ TokO 22 1 oq j ∧ σ 6 = .imm kq ((ps.take j).map bytesV) j) ps.length ?_ ?_
      · refine ⟨hsub.set_free hkqH, 0, by omega, ?_⟩
        simp (disch := omega) only [↓runPre, runPost, fieldO, ixA, cutA, lenA, aggA, rowA, appA, mkA, indA, bnd, srcA, sameOp, funcA, cvO, partA, aggD, ↓PostP, resV, resAll, resOne, resVF, resAllF, resOneF, fitsAll, fitsR, fits, frz, Post, Nat.reduceBEq, Nat.reduceLT, reduceCtorEq, ↓reduceIte, initS, AV.cellsOf, AV.fine, AV.one, repA, Nat.reduceMul, Nat.reduceAdd, Nat.reduceLeDiff, Nat.reduceEqDiff, Int.reduceToNat, Nat.reduceSub, Nat.reduceMod, Nat.reduceDiv, indexK.aggOf, Int.reducePow, Int.reduceLE, Int.reduceNeg, Int.reduceLT, Int.reduceBEq, Int.reduceBNe, Int.reduceEq, ownA, nilA, Try.facts, h3, h16, h17, h18, kill_box hb1f]
        exact ⟨by rw [set_other (ne_live hkp' hkq)]; exact hkp', kq, .nilt, hkq0, hkqH, fun e => ne_live hkp' hkq e.symm, set_get, .inr ⟨rfl, rfl⟩, rfl⟩
      · clear hkqH hkq hkq0
        rintro mj σ H'' ⟨hsub', j, hj, h16, h17, h18, h3, hkp'', h5, h23, h24, h25, kq, oq, hkq0, hkq, hne, hkq', hoq, h6⟩
        by_cases hjt : j < ps.length
        · have hb2 : decide ((j : Int) < (ps.length : Int)) = true := by simp; omega
          have g1 := getR hjt
          have hpl := flat_mem (List.getElem_mem hjt)
          have hzj : (ps.take (j + 1)).map bytesV = (ps.take j).map bytesV ++ [bytesV ps[j]] := by rw [List.take_succ_eq_append_getElem hjt, List.map_append]; rfl
          generalize ps[j] = p at *
          have hil : (ps.take j).length = j := by rw [List.length_take]; omega
          simp (disch := omega) only [↓runPre, runPost, fieldO, ixA, cutA, lenA, aggA, rowA, appA, mkA, indA, bnd, srcA, sameOp, funcA, cvO, partA, aggD, ↓PostP, resV, resAll, resOne, resVF, resAllF, resOneF, fitsAll, fitsR, fits, frz, Post, Nat.reduceBEq, Nat.reduceLT, reduceCtorEq, ↓reduceIte, initS, AV.cellsOf, AV.fine, AV.one, repA, Nat.reduceMul, Nat.reduceAdd, Nat.reduceLeDiff, Nat.reduceEqDiff, Int.reduceToNat, Nat.reduceSub, Nat.reduceMod, Nat.reduceDiv, indexK.aggOf, Int.reducePow, Int.reduceLE, Int.reduceNeg, Int.reduceLT, Int.reduceBEq, Int.reduceBNe, Int.reduceEq, ownA, nilA, Try.facts, h3, h5, h6, h16, h17, h18, h23, h24, h25, hb2, g1]
          intro kb hkb0 hkb
          simp (disch := omega) only [↓runPre, runPost, fieldO, ixA, cutA, lenA, aggA, rowA, appA, mkA, indA, bnd, srcA, sameOp, funcA, cvO, partA, aggD, ↓PostP, resV, resAll, resOne, resVF, resAllF, resOneF, fitsAll, fitsR, fits, frz, Post, Nat.reduceBEq, Nat.reduceLT, reduceCtorEq, ↓reduceIte, initS, AV.cellsOf, AV.fine, AV.one, repA, Nat.reduceMul, Nat.reduceAdd, Nat.reduceLeDiff, Nat.reduceEqDiff, Int.reduceToNat, Nat.reduceSub, Nat.reduceMod, Nat.reduceDiv, indexK.aggOf, Int.reducePow, Int.reduceLE, Int.reduceNeg, Int.reduceLT, Int.reduceBEq, Int.reduceBNe, Int.reduceEq, ownA, nilA, Try.facts, h3, h5, h6, h16, h17, h18, h23, h24, h25, hb2, g1]
          intro k1 o1 hk10 hk1 ho1
          replace hk1 := subset_set hk1
          have hn1 := ne_live hkq' hk1
          have hn2 := ne_live hkp'' hk1
          simp (disch := omega) only [↓runPre, runPost, fieldO, ixA, cutA, lenA, aggA, rowA, appA, mkA, indA, bnd, srcA, sameOp, funcA, cvO, partA, aggD, ↓PostP, resV, resAll, resOne, resVF, resAllF, resOneF, fitsAll, fitsR, fits, frz, Post, Nat.reduceBEq, Nat.reduceLT, reduceCtorEq, ↓reduceIte, initS, AV.cellsOf, AV.fine, AV.one, repA, Nat.reduceMul, Nat.reduceAdd, Nat.reduceLeDiff, Nat.reduceEqDiff, Int.reduceToNat, Nat.reduceSub, Nat.reduceMod, Nat.reduceDiv, indexK.aggOf, Int.reducePow, Int.reduceLE, Int.reduceNeg, Int.reduceLT, Int.reduceBEq, Int.reduceBNe, Int.reduceEq, ownA, nilA, Try.facts, h3, h5, h6, h16, h17, h18, h23, h24, h25, hb2, g1, set_other, hkq', hoq, hil]
          intro k2 o2 hk20 hk2 ho2
          have hk2' : H'' k2 = none := by
            by_cases e : k2 = k1
            · rw [e]; exact hk1
            · first | exact subset_set hk2 | (rw [set_other e] at hk2; exact hk2)
          have hn3 := ne_live hkp'' hk2'
          refine ⟨mj - 1, by omega, ((hsub'.set_free (hsub'.free hk1)).kill_free hkq).set_free (hsub'.free hk2'), j + 1, by omega, ?_⟩
          refine ⟨by rw [set_other hn3, kill_other (fun e => hne e.symm), set_other hn2]; exact hkp'', rfl, k2, o2, hk20, hsub'.free hk2', fun e => hn3 e.symm, set_get, ho2, by rw [hzj]⟩
        · have hb2 : decide ((j : Int) < (ps.length : Int)) = false := by simp; omega
          obtain rfl : j = ps.length := by omega
          rw [List.take_length] at h6
          simp (disch := omega) only [↓runPre, runPost, fieldO, ixA, cutA, lenA, aggA, rowA, appA, mkA, indA, bnd, srcA, sameOp, funcA, cvO, partA, aggD, ↓PostP, resV, resAll, resOne, resVF, resAllF, resOneF, fitsAll, fitsR, fits, frz, Post, Nat.reduceBEq, Nat.reduceLT, reduceCtorEq, ↓reduceIte, initS, AV.cellsOf, AV.fine, AV.one, repA, Nat.reduceMul, Nat.reduceAdd, Nat.reduceLeDiff, Nat.reduceEqDiff, Int.reduceToNat, Nat.reduceSub, Nat.reduceMod, Nat.reduceDiv, indexK.aggOf, Int.reducePow, Int.reduceLE, Int.reduceNeg, Int.reduceLT, Int.reduceBEq, Int.reduceBNe, Int.reduceEq, ownA, nilA, Try.facts, h3, h5, h6, h16, h17, h18, h23, h24, h25, hb2, hkp'', hop, htl]
          intro k3 o3 hk30 hk3 ho3
          exact ⟨mm - 1, by omega, (hsub'.kill_free hkp).set_free (hsub'.free hk3), i + 1, by omega, rfl, k3, o3, hk30, hsub'.free hk3, set_get, by rw [show (i + 1) * 2 = i * 2 + 2 by omega]; exact ho3, by rw [hz]⟩
    · have hb1 : decide ((i : Int) < (ts.length : Int)) = false := by simp; omega
      obtain rfl : i = ts.length := by omega
      simp (disch := omega) only [↓runPre, runPost, fieldO, ixA, cutA, lenA, aggA, rowA, appA, mkA, indA, bnd, srcA, sameOp, funcA, cvO, partA, aggD, ↓PostP, resV, resAll, resOne, resVF, resAllF, resOneF, fitsAll, fitsR, fits, frz, Post, Nat.reduceBEq, Nat.reduceLT, reduceCtorEq, ↓reduceIte, initS, AV.cellsOf, AV.fine, AV.one, repA, Nat.reduceMul, Nat.reduceAdd, Nat.reduceLeDiff, Nat.reduceEqDiff, Int.reduceToNat, Nat.reduceSub, Nat.reduceMod, Nat.reduceDiv, indexK.aggOf, Int.reducePow, Int.reduceLE, Int.reduceNeg, Int.reduceLT, Int.reduceBEq, Int.reduceBNe, Int.reduceEq, ownA, nilA, Try.facts, h3, h16, h17, h18, hb1]
      exact ⟨_, rfl, H1, hsub, by rw [List.take_length], rfl⟩

theorem numT_next {ts : List Term} (hnd : ts.Nodup) {i : Nat} (h : i < ts.length) : numT (ts.take i) ts[i] = (ts.take (i + 1), i + 1) := by
  have hn : ts[i] ∉ ts.take i := by
    intro hm
    obtain ⟨j, hj, he⟩ := List.getElem_of_mem hm
    rw [List.length_take] at hj
    rw [List.getElem_take] at he
    have := (List.getElem_inj hnd).1 he
    omega
  rw [numT, if_neg hn, List.length_take, Nat.min_eq_left (by omega), List.take_succ_eq_append_getElem h]
/-- a suite of its own -/
def CloneR (H : AH) (d : Nat) (ts : List Term) (v : AV) (H' : AH) : Prop := ∃ h m k, v = .ptr h 0 ∧ IsI H' h m k d ts ∧ H h = none ∧ H m = none ∧ H k = none ∧ ∀ x, x ≠ h → x ≠ m → x ≠ k → H' x = H x
theorem clone_live (H : AH) (h m k d : Nat) (ts : List Term) (hts : ∀ x ∈ ts, okT x) (hnd : ts.Nodup) (hl : ts.length ≤ 1000000) (g : IsI H h m k d ts) : ACalls Try.prog 18 [.ptr h 0] H (CloneR H d ts) := by
  have hmd := made_live H h m k d ts g
  have hnew := new_live H
  have hTl := termsC_length ts
  have hnum := fun (H : AH) (h m k i : Nat) (hi : i < ts.length) (g : IsI H h m k d (ts.take i)) =>
    number_live H h m k d (ts.take i) ts[i] (hts _ (List.getElem_mem hi)) (fun x hx => hts x (List.mem_of_mem_take hx)) (by rw [List.length_take]; omega) g
  obtain ⟨k0, hi, hm, o, hk, ho⟩ := id g
  refine acalls_of_cwp (c := ⟨Try.prog, 34, [(8, [0, 0, 0, 1, 2]), (1000007, [5])], [], []⟩) (rs := [ResultVar.tmp 2]) Try.mixed Try.func18 rfl rfl rfl (Nat.le_of_ble_eq_true rfl) (by kernel_rfl) ?_
  simp (disch := omega) only [↓runPre, runPost, fieldO, ixA, cutA, lenA, aggA, rowA, appA, mkA, indA, bnd, srcA, sameOp, funcA, cvO, partA, aggD, ↓PostP, resV, resAll, resOne, resVF, resAllF, resOneF, fitsAll, fitsR, fits, frz, Post, Nat.reduceBEq, Nat.reduceLT, reduceCtorEq, ↓reduceIte, initS, AV.cellsOf, AV.fine, AV.one, repA, Nat.reduceMul, Nat.reduceAdd, Nat.reduceLeDiff, Nat.reduceEqDiff, Int.reduceToNat, Nat.reduceSub, Nat.reduceMod, Nat.reduceDiv, indexK.aggOf, Int.reducePow, Int.reduceLE, Int.reduceNeg, Int.reduceLT, Int.reduceBEq, Int.reduceBNe, Int.reduceEq, ownA, nilA, Try.facts]
  refine CallK.i hmd ?_
  rintro v H1 ⟨rfl, rfl⟩
  simp (disch := omega) only [↓runPre, runPost, fieldO, ixA, cutA, lenA, aggA, rowA, appA, mkA, indA, bnd, srcA, sameOp, funcA, cvO, partA, aggD, ↓PostP, resV, resAll, resOne, resVF, resAllF, resOneF, fitsAll, fitsR, fits, frz, Post, Nat.reduceBEq, Nat.reduceLT, reduceCtorEq, ↓reduceIte, initS, AV.cellsOf, AV.fine, AV.one, repA, Nat.reduceMul, Nat.reduceAdd, Nat.reduceLeDiff, Nat.reduceEqDiff, Int.reduceToNat, Nat.reduceSub, Nat.reduceMod, Nat.reduceDiv, indexK.aggOf, Int.reducePow, Int.reduceLE, Int.reduceNeg, Int.reduceLT, Int.reduceBEq, Int.reduceBNe, Int.reduceEq, ownA, nilA, Try.facts, hi]
  refine CallK.i hnew ?_
  rintro v H2 ⟨h2, m2, k2, rfl, g2, n1, n2, n3, hoth⟩
  have hi' : H2 h = some (.cells [.imm k (termsC ts) ts.length, .mp m, .sc (.int .i64 d)] 57 3) := by
    rw [hoth h (ne_live hi n1) (ne_live hi n2) (ne_live hi n3)]; exact hi
  obtain ⟨z0, zi, zm, oz, zk, zo⟩ := id g2
  have hne : ¬ h = h2 := ne_live hi n1
  simp (disch := omega) only [↓runPre, runPost, fieldO, ixA, cutA, lenA, aggA, rowA, appA, mkA, indA, bnd, srcA, sameOp, funcA, cvO, partA, aggD, ↓PostP, resV, resAll, resOne, resVF, resAllF, resOneF, fitsAll, fitsR, fits, frz, Post, Nat.reduceBEq, Nat.reduceLT, reduceCtorEq, ↓reduceIte, initS, AV.cellsOf, AV.fine, AV.one, repA, Nat.reduceMul, Nat.reduceAdd, Nat.reduceLeDiff, Nat.reduceEqDiff, Int.reduceToNat, Nat.reduceSub, Nat.reduceMod, Nat.reduceDiv, indexK.aggOf, Int.reducePow, Int.reduceLE, Int.reduceNeg, Int.reduceLT, Int.reduceBEq, Int.reduceBNe, Int.reduceEq, ownA, nilA, Try.facts, hi', zi, putCells_eq, set_other hne]
  refine loop_t (c := ⟨Try.prog, 34, [(8, [0, 0, 0, 1, 2]), (1000007, [5])], [], []⟩) Try.mixed (by kernel_rfl) (fun mm σ H' => Abs.Sub H1 H' ∧ ∃ i, i + mm = ts.length ∧ σ 3 = .ptr h2 0 ∧ σ 21 = .imm k (termsC ts) ts.length ∧ σ 22 = .sc (.int .i64 ts.length) ∧ σ 23 = .sc (.int .i64 i) ∧
    ∃ kk, H1 kk = none ∧ IsI H' h2 m2 kk d (ts.take i)) ts.length ?_ ?_
  · have hsub : Abs.Sub H1 H2 := fun x o' hx => by rw [hoth x (ne_live hx n1) (ne_live hx n2) (ne_live hx n3)]; exact hx
    refine ⟨hsub.set_free n1, 0, by omega, ?_⟩
    simp (disch := omega) only [↓runPre, runPost, fieldO, ixA, cutA, lenA, aggA, rowA, appA, mkA, indA, bnd, srcA, sameOp, funcA, cvO, partA, aggD, ↓PostP, resV, resAll, resOne, resVF, resAllF, resOneF, fitsAll, fitsR, fits, frz, Post, Nat.reduceBEq, Nat.reduceLT, reduceCtorEq, ↓reduceIte, initS, AV.cellsOf, AV.fine, AV.one, repA, Nat.reduceMul, Nat.reduceAdd, Nat.reduceLeDiff, Nat.reduceEqDiff, Int.reduceToNat, Nat.reduceSub, Nat.reduceMod, Nat.reduceDiv, indexK.aggOf, Int.reducePow, Int.reduceLE, Int.reduceNeg, Int.reduceLT, Int.reduceBEq, Int.reduceBNe, Int.reduceEq, ownA, nilA, Try.facts, hi', zi, putCells_eq, set_other hne]
    refine ⟨k2, n3, z0, set_get, ?_, oz, ?_, zo⟩
    · rw [set_other (fun e => g2.hmne e.symm)]; exact zm
    · rw [set_other (fun e => g2.hkne e.symm)]; exact zk
  · rintro mm σ H' ⟨hsub, i, him, h3, h21, h22, h23, kk, hkk, gi⟩
    by_cases hlt : i < ts.length
    · have hb1 : decide ((i : Int) < (ts.length : Int)) = true := by simp; omega
      have hld := termsC_load hlt
      have hle' : i * 2 + 2 ≤ ts.length * 2 := by omega
      have hN := hnum H' h2 m2 kk i hlt gi
      have hnx := numT_next hnd hlt
      unfold NumR at hN
      simp only [hnx] at hN
      generalize ts[i] = x at *
      obtain ⟨kd, ps⟩ := x
      simp only [] at hld
      simp (disch := omega) only [↓runPre, runPost, fieldO, ixA, cutA, lenA, aggA, rowA, appA, mkA, indA, bnd, srcA, sameOp, funcA, cvO, partA, aggD, ↓PostP, resV, resAll, resOne, resVF, resAllF, resOneF, fitsAll, fitsR, fits, frz, Post, Nat.reduceBEq, Nat.reduceLT, reduceCtorEq, ↓reduceIte, initS, AV.cellsOf, AV.fine, AV.one, repA, Nat.reduceMul, Nat.reduceAdd, Nat.reduceLeDiff, Nat.reduceEqDiff, Int.reduceToNat, Nat.reduceSub, Nat.reduceMod, Nat.reduceDiv, indexK.aggOf, Int.reducePow, Int.reduceLE, Int.reduceNeg, Int.reduceLT, Int.reduceBEq, Int.reduceBNe, Int.reduceEq, ownA, nilA, Try.facts, h3, h21, h22, h23, hb1, hld, hle', hTl]
      intro b1 hb10 hb1f
      simp (disch := omega) only [↓runPre, runPost, fieldO, ixA, cutA, lenA, aggA, rowA, appA, mkA, indA, bnd, srcA, sameOp, funcA, cvO, partA, aggD, ↓PostP, resV, resAll, resOne, resVF, resAllF, resOneF, fitsAll, fitsR, fits, frz, Post, Nat.reduceBEq, Nat.reduceLT, reduceCtorEq, ↓reduceIte, initS, AV.cellsOf, AV.fine, AV.one, repA, Nat.reduceMul, Nat.reduceAdd, Nat.reduceLeDiff, Nat.reduceEqDiff, Int.reduceToNat, Nat.reduceSub, Nat.reduceMod, Nat.reduceDiv, indexK.aggOf, Int.reducePow, Int.reduceLE, Int.reduceNeg, Int.reduceLT, Int.reduceBEq, Int.reduceBNe, Int.reduceEq, ownA, nilA, Try.facts, h3, h21, h22, h23, hb1, hld, hle', hTl, putCells_eq, kill_box hb1f]
      refine CallK.i hN ?_
      rintro v H3 ⟨rfl, kk', hkk', gi', hoth'⟩
      simp (disch := omega) only [↓runPre, runPost, fieldO, ixA, cutA, lenA, aggA, rowA, appA, mkA, indA, bnd, srcA, sameOp, funcA, cvO, partA, aggD, ↓PostP, resV, resAll, resOne, resVF, resAllF, resOneF, fitsAll, fitsR, fits, frz, Post, Nat.reduceBEq, Nat.reduceLT, reduceCtorEq, ↓reduceIte, initS, AV.cellsOf, AV.fine, AV.one, repA, Nat.reduceMul, Nat.reduceAdd, Nat.reduceLeDiff, Nat.reduceEqDiff, Int.reduceToNat, Nat.reduceSub, Nat.reduceMod, Nat.reduceDiv, indexK.aggOf, Int.reducePow, Int.reduceLE, Int.reduceNeg, Int.reduceLT, Int.reduceBEq, Int.reduceBNe, Int.reduceEq, ownA, nilA, Try.facts, h3, h21, h22, h23, hb1, hld, hle', hTl, putCells_eq, kill_box hb1f]
      have hn' : H1 kk' = none := by
        rcases hkk' with rfl | ⟨-, hf⟩
        · exact hkk
        · exact hsub.free hf
      refine ⟨mm - 1, by omega, fun x ox hx => ?_, i + 1, by omega, rfl, kk', hn', gi'⟩
      rw [hoth' x (ne_live hx n1) (ne_live hx n2) (ne_live hx hkk) (ne_live hx hn')]
      exact hsub x ox hx
    · have hb1 : decide ((i : Int) < (ts.length : Int)) = false := by simp; omega
      obtain rfl : i = ts.length := by omega
      rw [List.take_length] at gi
      simp (disch := omega) only [↓runPre, runPost, fieldO, ixA, cutA, lenA, aggA, rowA, appA, mkA, indA, bnd, srcA, sameOp, funcA, cvO, partA, aggD, ↓PostP, resV, resAll, resOne, resVF, resAllF, resOneF, fitsAll, fitsR, fits, frz, Post, Nat.reduceBEq, Nat.reduceLT, reduceCtorEq, ↓reduceIte, initS, AV.cellsOf, AV.fine, AV.one, repA, Nat.reduceMul, Nat.reduceAdd, Nat.reduceLeDiff, Nat.reduceEqDiff, Int.reduceToNat, Nat.reduceSub, Nat.reduceMod, Nat.reduceDiv, indexK.aggOf, Int.reducePow, Int.reduceLE, Int.reduceNeg, Int.reduceLT, Int.reduceBEq, Int.reduceBNe, Int.reduceEq, ownA, nilA, Try.facts, h3, h21, h22, h23, hb1]
      obtain ⟨y0, yi, ym, oy, yk, yo⟩ := id gi
      refine ⟨_, rfl, fun x => if x = h2 ∨ x = m2 ∨ x = kk then H' x else H1 x, fun x ox hx => ?_, h2, m2, kk, rfl, ⟨y0, ?_, ?_, oy, ?_, yo⟩, n1, n2, hkk, fun x x1 x2 x3 => ?_⟩
      · simp only [] at hx
        split at hx
        · exact hx
        · exact hsub x ox hx
      · simp only [true_or, if_true]; exact yi
      · simp only [true_or, or_true, if_true]; exact ym
      · simp only [or_true, if_true]; exact yk
      · simp only [x1, x2, x3, or_self, if_false]
end Go.Proofs.Ytmgbcjnhmgfhkaa
