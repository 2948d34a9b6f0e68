/-
  The walks of the suite layer: the law of an ideal suite's answers: its walk.
  Conditions: none. Lemmas only.
-/
import Derived.Test.YtmgbcjnhmgfhkaaSuiU
import Derived.Test.YtmgbcjnhmgfhkaaAbsY
set_option linter.all false
set_option linter.unusedSimpArgs false
set_option linter.unusedVariables false
set_option maxRecDepth 8000
set_option maxHeartbeats 4000000
namespace Go.Proofs.Ytmgbcjnhmgfhkaa
open Go Go.Abs Go.Proofs

/-- an ideal suite and a vault of the same terms, beside other live things -/
structure Pair (H Z H' : AH) (h m k4 d : Nat) (ts : List Term) : Prop where
  s : SS Z H' h m d ts
  sub : Abs.Sub H Z
  n4 : H k4 = none
  z4 : Z k4 = some (.cells [.imm 0 (termsC ts) ts.length, .sc (.int .i64 d)] 38 2)
/-- both after a question -/
theorem GotR.row {H0 H' : AH} {h m d : Nat} {ts : List Term} {l : List UInt8} {r : AV} (g : GotR H0 h m d ts l r H') :
    (l = [] ∧ r = .imm 0 [] 0 ∧ SS H0 H' h m d ts) ∨ ∃ kk, kk ≠ 0 ∧ H0 kk = none ∧ r = .own kk 0 l.length ∧ SS (H0.set kk (.cells (encB l) 5 1)) H' h m d ts := by
  rcases g with g | ⟨H1, s, kk, hk0, hk, rfl, rfl⟩
  · exact .inl g
  · exact .inr ⟨kk, hk0, s.sub.free hk, rfl, s.box hk⟩
theorem n8inc (a : UInt8) : IntKind.u8.wrap ((a.toNat : Int) + 1) = ((a + 1).toNat : Int) := n8wadd a 1
theorem encB_get {l : List UInt8} {i : Nat} (h : i < l.length) : (encB l)[i]? = some (.sc (.int .u8 l[i].toNat)) := by simp [encB, h]

theorem ideals_no (l : List AskT) (hl : l.length ≤ 1048576) (hf : fewB l = false) : APure Try.prog 5 [.imm 0 (askCs l) l.length] (.sc (.bool true)) := by
  have hfew := few_pure l hl
  have haw := awake_pure
  rw [hf] at hfew
  refine apure_of_cwp (c := ⟨Try.prog, 145, [(25, [0, 0, 0, 0, 1, 0, 1, 0, 0, 0, 1, 0, 0, 0, 0, 0, 0, 1, 1, 0, 1, 0, 0, 0, 1, 1, 0, 0]), (30, [0, 0, 0, 0, 1, 0, 0, 1, 0, 0, 1, 0, 0, 0, 1, 0, 0, 1, 0, 0]), (1000007, [7]), (1000008, [8]), (4000030, [4, 13, 14, 81, 82, 118, 119, 141]), (4000027, [4, 13, 14, 81, 82, 118, 119]), (4000025, [4, 13, 14, 81, 82, 112]), (4000020, [4, 13, 79]), (4000017, [3, 4, 5, 22, 23, 24]), (4000015, [3, 4, 5, 9, 10, 22, 23, 24, 49, 50]), (4000010, [3, 4, 5, 9, 10, 22, 23, 24, 47]), (4000008, [3, 4, 5, 8, 9, 10, 11, 22, 23, 24]), (4000003, [0, 3, 4])], [], []⟩) (rs := [ResultVar.tmp 2]) Try.mixed Try.func5 rfl rfl rfl (Nat.le_of_ble_eq_true rfl) (by kernel_rfl) fun H => ?_
  simp (disch := omega) only [↓runPre, runPost, fieldO, ixA, cutA, lenA, aggA, rowA, appA, mkA, indA, bnd, srcA, sameOp, funcA, cvO, partA, aggD, ↓PostP, resV, resAll, resOne, resVF, resAllF, resOneF, fitsAll, fitsR, fits, frz, Post, Nat.reduceBEq, Nat.reduceLT, reduceCtorEq, ↓reduceIte, initS, AV.cellsOf, AV.fine, AV.one, repA, Nat.reduceMul, Nat.reduceAdd, Nat.reduceLeDiff, Nat.reduceEqDiff, Int.reduceToNat, Nat.reduceSub, Nat.reduceMod, Nat.reduceDiv, indexK.aggOf, Int.reducePow, Int.reduceLE, Int.reduceNeg, Int.reduceLT, Int.reduceBEq, Int.reduceBNe, Int.reduceEq, ownA, nilA, Try.facts]
  first | refine CallK.p (hfew) ?_ | refine CallP.i (hfew) ?_
  simp (disch := omega) only [↓runPre, runPost, fieldO, ixA, cutA, lenA, aggA, rowA, appA, mkA, indA, bnd, srcA, sameOp, funcA, cvO, partA, aggD, ↓PostP, resV, resAll, resOne, resVF, resAllF, resOneF, fitsAll, fitsR, fits, frz, Post, Nat.reduceBEq, Nat.reduceLT, reduceCtorEq, ↓reduceIte, initS, AV.cellsOf, AV.fine, AV.one, repA, Nat.reduceMul, Nat.reduceAdd, Nat.reduceLeDiff, Nat.reduceEqDiff, Int.reduceToNat, Nat.reduceSub, Nat.reduceMod, Nat.reduceDiv, indexK.aggOf, Int.reducePow, Int.reduceLE, Int.reduceNeg, Int.reduceLT, Int.reduceBEq, Int.reduceBNe, Int.reduceEq, ownA, nilA, Try.facts]
  first | refine CallK.p (haw) ?_ | refine CallP.i (haw) ?_
  simp (disch := omega) only [↓runPre, runPost, fieldO, ixA, cutA, lenA, aggA, rowA, appA, mkA, indA, bnd, srcA, sameOp, funcA, cvO, partA, aggD, ↓PostP, resV, resAll, resOne, resVF, resAllF, resOneF, fitsAll, fitsR, fits, frz, Post, Nat.reduceBEq, Nat.reduceLT, reduceCtorEq, ↓reduceIte, initS, AV.cellsOf, AV.fine, AV.one, repA, Nat.reduceMul, Nat.reduceAdd, Nat.reduceLeDiff, Nat.reduceEqDiff, Int.reduceToNat, Nat.reduceSub, Nat.reduceMod, Nat.reduceDiv, indexK.aggOf, Int.reducePow, Int.reduceLE, Int.reduceNeg, Int.reduceLT, Int.reduceBEq, Int.reduceBNe, Int.reduceEq, ownA, nilA, Try.facts]
  exact Abs.Sub.refl _

theorem kill_none {H : AH} {k k2 : Nat} (h : H k2 = none) : (H.kill k) k2 = none := by
  simp only [AH.kill]
  split
  · rfl
  · exact h
theorem ans_le {B : Nat} {ans : List (List UInt8)} {w : List UInt8} (h : ∀ x ∈ ans, x.length ≤ B) (hw : w.length ≤ B + 64) : ∀ x ∈ ans ++ [w], x.length ≤ B + 64 := fun x hx => by
  rcases List.mem_append.1 hx with h1 | h1
  · have := h x h1; omega
  · rw [List.mem_singleton.1 h1]; exact hw
theorem Pair.end_ {H Z E : AH} {h m k4 d : Nat} {ts : List Term} {k k2 : Nat} {o o2 : AObj} (p : Pair H Z E h m k4 d ts) (hk : Z k = some o) (hH : H k = none) (n2 : (E.kill k) k2 = none) (h24 : k ≠ k4) :
    Pair H ((Z.kill k).set k2 o2) ((E.kill k).set k2 o2) h m k4 d ts := by
  have e4 := p.s.sub _ _ p.z4
  have s2 := p.s.kill (b := k) (o := o) hk
  have s3 := s2.box (o := o2) n2
  have k42 : ¬ k4 = k2 := fun e => by
    rw [← e, kill_other (fun e => h24 e.symm), e4] at n2; cases n2
  refine ⟨s3, ?_, p.n4, ?_⟩
  · exact (p.sub.kill_free hH).set_free (by
      by_cases e' : k2 = k
      · rw [e']; exact hH
      · rw [kill_other e'] at n2
        exact (p.sub.trans p.s.sub).free n2)
  · rw [set_other k42, kill_other (fun e => h24 e.symm)]; exact p.z4

theorem ideals_yes (l : List AskT) (hl : l.length ≤ 40) (hf : fewB l = true) (hr : ∀ k ∈ l, k.a.raw.length ≤ 1048576 ∧ k.b.raw.length ≤ 1048576 ∧ k.c.raw.length ≤ 1048576)
    (hi : ∀ k ∈ l, k.n < 9223372036854775808 ∧ (-9223372036854775808 ≤ k.a.from_ ∧ k.a.from_ < 9223372036854775808) ∧ (-9223372036854775808 ≤ k.b.from_ ∧ k.b.from_ < 9223372036854775808) ∧ (-9223372036854775808 ≤ k.c.from_ ∧ k.c.from_ < 9223372036854775808)) :
    APure Try.prog 5 [.imm 0 (askCs l) l.length] (.sc (.bool true)) := by
  have hfew := few_pure l (by omega)
  have haw := awake_pure
  have hal := askCs_length l
  rw [hf] at hfew
  refine apure_of_cwp (c := ⟨Try.prog, 145, [(25, [0, 0, 0, 0, 1, 0, 1, 0, 0, 0, 1, 0, 0, 0, 0, 0, 0, 1, 1, 0, 1, 0, 0, 0, 1, 1, 0, 0]), (30, [0, 0, 0, 0, 1, 0, 0, 1, 0, 0, 1, 0, 0, 0, 1, 0, 0, 1, 0, 0]), (1000007, [7]), (1000008, [8]), (4000030, [4, 13, 14, 81, 82, 118, 119, 141]), (4000027, [4, 13, 14, 81, 82, 118, 119]), (4000025, [4, 13, 14, 81, 82, 112]), (4000020, [4, 13, 79]), (4000017, [3, 4, 5, 22, 23, 24]), (4000015, [3, 4, 5, 9, 10, 22, 23, 24, 49, 50]), (4000010, [3, 4, 5, 9, 10, 22, 23, 24, 47]), (4000008, [3, 4, 5, 8, 9, 10, 11, 22, 23, 24]), (4000003, [0, 3, 4])], [], []⟩) (rs := [ResultVar.tmp 2]) Try.mixed Try.func5 rfl rfl rfl (Nat.le_of_ble_eq_true rfl) (by kernel_rfl) fun H => ?_
  simp (disch := omega) only [↓runPre, runPost, fieldO, ixA, cutA, lenA, aggA, rowA, appA, mkA, indA, bnd, srcA, sameOp, funcA, cvO, partA, aggD, ↓PostP, resV, resAll, resOne, resVF, resAllF, resOneF, fitsAll, fitsR, fits, frz, Post, Nat.reduceBEq, Nat.reduceLT, reduceCtorEq, ↓reduceIte, initS, AV.cellsOf, AV.fine, AV.one, repA, Nat.reduceMul, Nat.reduceAdd, Nat.reduceLeDiff, Nat.reduceEqDiff, Int.reduceToNat, Nat.reduceSub, Nat.reduceMod, Nat.reduceDiv, indexK.aggOf, Int.reducePow, Int.reduceLE, Int.reduceNeg, Int.reduceLT, Int.reduceBEq, Int.reduceBNe, Int.reduceEq, ownA, nilA, Try.facts]
  first | refine CallK.p (hfew) ?_ | refine CallP.i (hfew) ?_
  simp (disch := omega) only [↓runPre, runPost, fieldO, ixA, cutA, lenA, aggA, rowA, appA, mkA, indA, bnd, srcA, sameOp, funcA, cvO, partA, aggD, ↓PostP, resV, resAll, resOne, resVF, resAllF, resOneF, fitsAll, fitsR, fits, frz, Post, Nat.reduceBEq, Nat.reduceLT, reduceCtorEq, ↓reduceIte, initS, AV.cellsOf, AV.fine, AV.one, repA, Nat.reduceMul, Nat.reduceAdd, Nat.reduceLeDiff, Nat.reduceEqDiff, Int.reduceToNat, Nat.reduceSub, Nat.reduceMod, Nat.reduceDiv, indexK.aggOf, Int.reducePow, Int.reduceLE, Int.reduceNeg, Int.reduceLT, Int.reduceBEq, Int.reduceBNe, Int.reduceEq, ownA, nilA, Try.facts]
  refine CallK.i (new_ss H) ?_
  rintro v H1 ⟨h, m, rfl, s1⟩
  simp (disch := omega) only [↓runPre, runPost, fieldO, ixA, cutA, lenA, aggA, rowA, appA, mkA, indA, bnd, srcA, sameOp, funcA, cvO, partA, aggD, ↓PostP, resV, resAll, resOne, resVF, resAllF, resOneF, fitsAll, fitsR, fits, frz, Post, Nat.reduceBEq, Nat.reduceLT, reduceCtorEq, ↓reduceIte, initS, AV.cellsOf, AV.fine, AV.one, repA, Nat.reduceMul, Nat.reduceAdd, Nat.reduceLeDiff, Nat.reduceEqDiff, Int.reduceToNat, Nat.reduceSub, Nat.reduceMod, Nat.reduceDiv, indexK.aggOf, Int.reducePow, Int.reduceLE, Int.reduceNeg, Int.reduceLT, Int.reduceBEq, Int.reduceBNe, Int.reduceEq, ownA, nilA, Try.facts]
  intro k4 hk40 hk4
  simp (disch := omega) only [↓runPre, runPost, fieldO, ixA, cutA, lenA, aggA, rowA, appA, mkA, indA, bnd, srcA, sameOp, funcA, cvO, partA, aggD, ↓PostP, resV, resAll, resOne, resVF, resAllF, resOneF, fitsAll, fitsR, fits, frz, Post, Nat.reduceBEq, Nat.reduceLT, reduceCtorEq, ↓reduceIte, initS, AV.cellsOf, AV.fine, AV.one, repA, Nat.reduceMul, Nat.reduceAdd, Nat.reduceLeDiff, Nat.reduceEqDiff, Int.reduceToNat, Nat.reduceSub, Nat.reduceMod, Nat.reduceDiv, indexK.aggOf, Int.reducePow, Int.reduceLE, Int.reduceNeg, Int.reduceLT, Int.reduceBEq, Int.reduceBNe, Int.reduceEq, ownA, nilA, Try.facts, putCells_eq]
  have n4 : H k4 = none := s1.sub.free hk4
  refine nil_t k4 0 set_get rfl ?_
  simp only [List.set_cons_zero, set_set]
  refine tok_t 5 (by simp (disch := omega) only [↓runPre, runPost, fieldO, ixA, cutA, lenA, aggA, rowA, appA, mkA, indA, bnd, srcA, sameOp, funcA, cvO, partA, aggD, ↓PostP, resV, resAll, resOne, resVF, resAllF, resOneF, fitsAll, fitsR, fits, frz, Post, Nat.reduceBEq, Nat.reduceLT, reduceCtorEq, ↓reduceIte, initS, AV.cellsOf, AV.fine, AV.one, repA, Nat.reduceMul, Nat.reduceAdd, Nat.reduceLeDiff, Nat.reduceEqDiff, Int.reduceToNat, Nat.reduceSub, Nat.reduceMod, Nat.reduceDiv, indexK.aggOf, Int.reducePow, Int.reduceLE, Int.reduceNeg, Int.reduceLT, Int.reduceBEq, Int.reduceBNe, Int.reduceEq, ownA, nilA, Try.facts]) fun kt hkt0 hkt => ?_
  refine loop_t (c := ⟨Try.prog, 145, [(25, [0, 0, 0, 0, 1, 0, 1, 0, 0, 0, 1, 0, 0, 0, 0, 0, 0, 1, 1, 0, 1, 0, 0, 0, 1, 1, 0, 0]), (30, [0, 0, 0, 0, 1, 0, 0, 1, 0, 0, 1, 0, 0, 0, 1, 0, 0, 1, 0, 0]), (1000007, [7]), (1000008, [8]), (4000030, [4, 13, 14, 81, 82, 118, 119, 141]), (4000027, [4, 13, 14, 81, 82, 118, 119]), (4000025, [4, 13, 14, 81, 82, 112]), (4000020, [4, 13, 79]), (4000017, [3, 4, 5, 22, 23, 24]), (4000015, [3, 4, 5, 9, 10, 22, 23, 24, 49, 50]), (4000010, [3, 4, 5, 9, 10, 22, 23, 24, 47]), (4000008, [3, 4, 5, 8, 9, 10, 11, 22, 23, 24]), (4000003, [0, 3, 4])], [], []⟩) Try.mixed (by kernel_rfl) (fun mm σ H' => ∃ (i d : Nat) (ts : List Term) (ans : List (List UInt8)) (Z : AH) (k : Nat) (o : AObj), i + mm = l.length ∧ Pair H Z H' h m k4 d ts ∧ ans.length = i ∧ (∀ x ∈ ans, x.length ≤ 1048576 + 64 * i) ∧ GB i (1048576 + 64 * i) ts ∧ d ≤ i ∧
    σ 3 = .ptr h 0 ∧ σ 4 = .ptr k4 0 ∧ σ 22 = .imm 0 (askCs l) l.length ∧ σ 23 = .sc (.int .i64 l.length) ∧ σ 24 = .sc (.int .i64 i) ∧ k ≠ 0 ∧ k ≠ k4 ∧ H k = none ∧ Z k = some o ∧ TokO 22 1 o i ∧ σ 5 = .imm k (ans.map bytesV) i) l.length ?_ ?_
  · have s2 := (s1.box (o := .cells [.imm 0 (termsC []) 0, .sc (.int .i64 0)] 38 2) hk4).box (o := .nilt) hkt
    have hne : ¬ k4 = kt := set_ne hkt
    have hktH : H kt = none := s1.sub.free (subset_set hkt)
    refine ⟨0, 0, [], [], _, kt, .nilt, by omega, ⟨s2, (Abs.Sub.set_new n4).trans (Abs.Sub.set_new (by rw [set_other (fun e => hne e.symm)]; exact hktH)), n4, by rw [set_other hne, set_get]; rfl⟩, rfl, by simp, GB.nil, by omega, ?_⟩
    simp (disch := omega) only [↓runPre, runPost, fieldO, ixA, cutA, lenA, aggA, rowA, appA, mkA, indA, bnd, srcA, sameOp, funcA, cvO, partA, aggD, ↓PostP, resV, resAll, resOne, resVF, resAllF, resOneF, fitsAll, fitsR, fits, frz, Post, Nat.reduceBEq, Nat.reduceLT, reduceCtorEq, ↓reduceIte, initS, AV.cellsOf, AV.fine, AV.one, repA, Nat.reduceMul, Nat.reduceAdd, Nat.reduceLeDiff, Nat.reduceEqDiff, Int.reduceToNat, Nat.reduceSub, Nat.reduceMod, Nat.reduceDiv, indexK.aggOf, Int.reducePow, Int.reduceLE, Int.reduceNeg, Int.reduceLT, Int.reduceBEq, Int.reduceBNe, Int.reduceEq, ownA, nilA, Try.facts]
    exact ⟨hkt0, fun e => hne e.symm, hktH⟩
  · rintro mm σ H' ⟨i, d, ts, ans, Z, k, o, him, P, hlen, hans, g, hd, h3, h4, h22, h23, h24, hk0, hkk4, hkH, hkZ, ho, h5⟩
    by_cases hlt : i < l.length
    · have hb1 : decide ((i : Int) < (l.length : Int)) = true := by simp; omega
      have hld := askCs_load hlt
      obtain ⟨r1, r2, r3⟩ := hr _ (List.getElem_mem hlt)
      obtain ⟨i0, i1, i2, i3⟩ := hi _ (List.getElem_mem hlt)
      have hA := asked_live Z H' h m d i (1048576 + 64 * i) ts l[i] ans (by omega) (by omega) (by omega) (by omega) (by omega) (by omega) (by omega) hans i1 i2 i3 i0 g (by omega) P.s
      have hle : i * 8 + 8 ≤ (askCs l).length := by omega
      have hle' : i * 8 + 8 ≤ l.length * 8 := by omega
      generalize l[i] = q at *
      obtain ⟨kd, n, ⟨fa, a⟩, ⟨fb, b⟩, ⟨fc, c⟩⟩ := q
      simp only [askC] at hld hA
      have v4 := P.s.sub _ _ P.z4
      have vk := P.s.sub _ _ hkZ
      simp only [rowsV, hlen] at hA
      simp (disch := omega) only [↓runPre, runPost, fieldO, ixA, cutA, lenA, aggA, rowA, appA, mkA, indA, bnd, srcA, sameOp, funcA, cvO, partA, aggD, ↓PostP, resV, resAll, resOne, resVF, resAllF, resOneF, fitsAll, fitsR, fits, frz, Post, Nat.reduceBEq, Nat.reduceLT, reduceCtorEq, ↓reduceIte, initS, AV.cellsOf, AV.fine, AV.one, repA, Nat.reduceMul, Nat.reduceAdd, Nat.reduceLeDiff, Nat.reduceEqDiff, Int.reduceToNat, Nat.reduceSub, Nat.reduceMod, Nat.reduceDiv, indexK.aggOf, Int.reducePow, Int.reduceLE, Int.reduceNeg, Int.reduceLT, Int.reduceBEq, Int.reduceBNe, Int.reduceEq, ownA, nilA, Try.facts, h3, h4, h5, h22, h23, h24, hb1, hld, hle, hle', hal]
      intro b1 hb10 hb1f
      simp (disch := omega) only [↓runPre, runPost, fieldO, ixA, cutA, lenA, aggA, rowA, appA, mkA, indA, bnd, srcA, sameOp, funcA, cvO, partA, aggD, ↓PostP, resV, resAll, resOne, resVF, resAllF, resOneF, fitsAll, fitsR, fits, frz, Post, Nat.reduceBEq, Nat.reduceLT, reduceCtorEq, ↓reduceIte, initS, AV.cellsOf, AV.fine, AV.one, repA, Nat.reduceMul, Nat.reduceAdd, Nat.reduceLeDiff, Nat.reduceEqDiff, Int.reduceToNat, Nat.reduceSub, Nat.reduceMod, Nat.reduceDiv, indexK.aggOf, Int.reducePow, Int.reduceLE, Int.reduceNeg, Int.reduceLT, Int.reduceBEq, Int.reduceBNe, Int.reduceEq, ownA, nilA, Try.facts, h3, h4, h5, h22, h23, h24, hb1, hld, hle, hle', hal, putCells_eq, kill_box hb1f, v4]
      refine CallK.i hA ?_
      rintro v H2 ⟨ts', d', w, ⟨r, rfl, hg⟩, g', hd', hw⟩
      rcases hg.row with ⟨rfl, rfl, s2⟩ | ⟨kk, hkk0, hkk, rfl, s2⟩
      · have P2 : Pair H (Z.set k4 (.cells [.imm 0 (termsC ts') ts'.length, .sc (.int .i64 d')] 38 2)) (H2.set k4 (.cells [.imm 0 (termsC ts') ts'.length, .sc (.int .i64 d')] 38 2)) h m k4 d' ts' :=
          ⟨s2.put P.z4, P.sub.set_free P.n4, P.n4, set_get⟩
        have v4' := s2.sub _ _ P.z4
        have vk' := s2.sub _ _ hkZ
        simp (disch := omega) only [↓runPre, runPost, fieldO, ixA, cutA, lenA, aggA, rowA, appA, mkA, indA, bnd, srcA, sameOp, funcA, cvO, partA, aggD, ↓PostP, resV, resAll, resOne, resVF, resAllF, resOneF, fitsAll, fitsR, fits, frz, Post, Nat.reduceBEq, Nat.reduceLT, reduceCtorEq, ↓reduceIte, initS, AV.cellsOf, AV.fine, AV.one, repA, Nat.reduceMul, Nat.reduceAdd, Nat.reduceLeDiff, Nat.reduceEqDiff, Int.reduceToNat, Nat.reduceSub, Nat.reduceMod, Nat.reduceDiv, indexK.aggOf, Int.reducePow, Int.reduceLE, Int.reduceNeg, Int.reduceLT, Int.reduceBEq, Int.reduceBNe, Int.reduceEq, ownA, nilA, Try.facts, h3, h4, h5, h22, h23, h24]
        intro b2 hb20 hb2f
        have e0 : ((strOf ([] : List AV)).toList == ({ data := #[] } : ByteArray).toList) = true := by
          show (({ data := #[] } : ByteArray).toList == ({ data := #[] } : ByteArray).toList) = true
          exact beq_self_eq_true _
        simp (disch := omega) only [↓runPre, runPost, fieldO, ixA, cutA, lenA, aggA, rowA, appA, mkA, indA, bnd, srcA, sameOp, funcA, cvO, partA, aggD, ↓PostP, resV, resAll, resOne, resVF, resAllF, resOneF, fitsAll, fitsR, fits, frz, Post, Nat.reduceBEq, Nat.reduceLT, reduceCtorEq, ↓reduceIte, initS, AV.cellsOf, AV.fine, AV.one, repA, Nat.reduceMul, Nat.reduceAdd, Nat.reduceLeDiff, Nat.reduceEqDiff, Int.reduceToNat, Nat.reduceSub, Nat.reduceMod, Nat.reduceDiv, indexK.aggOf, Int.reducePow, Int.reduceLE, Int.reduceNeg, Int.reduceLT, Int.reduceBEq, Int.reduceBNe, Int.reduceEq, ownA, nilA, Try.facts, h3, h4, h5, h22, h23, h24, putCells_eq, kill_box hb2f, v4', e0]
        refine loop_t (c := ⟨Try.prog, 145, [(25, [0, 0, 0, 0, 1, 0, 1, 0, 0, 0, 1, 0, 0, 0, 0, 0, 0, 1, 1, 0, 1, 0, 0, 0, 1, 1, 0, 0]), (30, [0, 0, 0, 0, 1, 0, 0, 1, 0, 0, 1, 0, 0, 0, 1, 0, 0, 1, 0, 0]), (1000007, [7]), (1000008, [8]), (4000030, [4, 13, 14, 81, 82, 118, 119, 141]), (4000027, [4, 13, 14, 81, 82, 118, 119]), (4000025, [4, 13, 14, 81, 82, 112]), (4000020, [4, 13, 79]), (4000017, [3, 4, 5, 22, 23, 24]), (4000015, [3, 4, 5, 9, 10, 22, 23, 24, 49, 50]), (4000010, [3, 4, 5, 9, 10, 22, 23, 24, 47]), (4000008, [3, 4, 5, 8, 9, 10, 11, 22, 23, 24]), (4000003, [0, 3, 4])], [], []⟩) Try.mixed (by kernel_rfl) (fun mj σ H'' => H'' = H2.set k4 (.cells [.imm 0 (termsC ts') ts'.length, .sc (.int .i64 d')] 38 2) ∧ σ 3 = .ptr h 0 ∧ σ 4 = .ptr k4 0 ∧ σ 22 = .imm 0 (askCs l) l.length ∧ σ 23 = .sc (.int .i64 l.length) ∧ σ 24 = .sc (.int .i64 i) ∧ σ 5 = .imm k (ans.map bytesV) i ∧ σ 9 = .imm 0 [] 0 ∧ σ 10 = .imm 0 (encB []) 0 ∧ σ 49 = .sc (.int .i64 0) ∧ σ 50 = .sc (.int .i64 0)) 0 ?_ ?_
        · refine ⟨rfl, ?_⟩
          simp (disch := omega) only [↓runPre, runPost, fieldO, ixA, cutA, lenA, aggA, rowA, appA, mkA, indA, bnd, srcA, sameOp, funcA, cvO, partA, aggD, ↓PostP, resV, resAll, resOne, resVF, resAllF, resOneF, fitsAll, fitsR, fits, frz, Post, Nat.reduceBEq, Nat.reduceLT, reduceCtorEq, ↓reduceIte, initS, AV.cellsOf, AV.fine, AV.one, repA, Nat.reduceMul, Nat.reduceAdd, Nat.reduceLeDiff, Nat.reduceEqDiff, Int.reduceToNat, Nat.reduceSub, Nat.reduceMod, Nat.reduceDiv, indexK.aggOf, Int.reducePow, Int.reduceLE, Int.reduceNeg, Int.reduceLT, Int.reduceBEq, Int.reduceBNe, Int.reduceEq, ownA, nilA, Try.facts, h3, h4, h5, h22, h23, h24]
          try rfl
        · rintro mj σ H'' ⟨rfl, h3, h4, h22, h23, h24, h5, h9, h10, h49, h50⟩
          have hkk4' : ¬ k = k4 := hkk4
          simp (disch := omega) only [↓runPre, runPost, fieldO, ixA, cutA, lenA, aggA, rowA, appA, mkA, indA, bnd, srcA, sameOp, funcA, cvO, partA, aggD, ↓PostP, resV, resAll, resOne, resVF, resAllF, resOneF, fitsAll, fitsR, fits, frz, Post, Nat.reduceBEq, Nat.reduceLT, reduceCtorEq, ↓reduceIte, initS, AV.cellsOf, AV.fine, AV.one, repA, Nat.reduceMul, Nat.reduceAdd, Nat.reduceLeDiff, Nat.reduceEqDiff, Int.reduceToNat, Nat.reduceSub, Nat.reduceMod, Nat.reduceDiv, indexK.aggOf, Int.reducePow, Int.reduceLE, Int.reduceNeg, Int.reduceLT, Int.reduceBEq, Int.reduceBNe, Int.reduceEq, ownA, nilA, Try.facts, h3, h4, h5, h22, h23, h24, h9, h10, h49, h50, set_other, vk', hkk4', ho, hlen]
          intro k2 o2 hk20 hk2 ho2
          have hn2 : ((H2.set k4 (.cells [.imm 0 (termsC ts') ts'.length, .sc (.int .i64 d')] 38 2)).kill k) k2 = none := kill_none hk2
          have hne2 : k2 ≠ k4 := fun e => by rw [e, set_get] at hk2; cases hk2
          have hkfree : H k2 = none := by
            have := subset_set hk2
            exact (P.sub.trans s2.sub).free this
          refine ⟨mm - 1, by omega, i + 1, d', ts', ans ++ [[]], _, k2, o2, by omega, P2.end_ (by rw [set_other hkk4']; exact hkZ) hkH hn2 hkk4, by simp [hlen], ?_, ?_, by omega, rfl, hk20, hne2, ?_, set_get, ho2, ?_⟩
          · exact (ans_le hans (w := []) (by simp))
          · exact g'
          · exact hkfree
          · rw [List.map_append]; rfl
      · have hne4 : ¬ kk = k4 := fun e => by rw [e, P.z4] at hkk; cases hkk
        have hnek : ¬ kk = k := fun e => by rw [e, hkZ] at hkk; cases hkk
        have v4' : H2 k4 = some _ := s2.sub k4 _ (by rw [set_other (fun e => hne4 e.symm)]; exact P.z4)
        have vk' : H2 k = some _ := s2.sub k _ (by rw [set_other (fun e => hnek e.symm)]; exact hkZ)
        have vkk : H2 kk = some _ := s2.sub kk _ set_get
        simp (disch := omega) only [↓runPre, runPost, fieldO, ixA, cutA, lenA, aggA, rowA, appA, mkA, indA, bnd, srcA, sameOp, funcA, cvO, partA, aggD, ↓PostP, resV, resAll, resOne, resVF, resAllF, resOneF, fitsAll, fitsR, fits, frz, Post, Nat.reduceBEq, Nat.reduceLT, reduceCtorEq, ↓reduceIte, initS, AV.cellsOf, AV.fine, AV.one, repA, Nat.reduceMul, Nat.reduceAdd, Nat.reduceLeDiff, Nat.reduceEqDiff, Int.reduceToNat, Nat.reduceSub, Nat.reduceMod, Nat.reduceDiv, indexK.aggOf, Int.reducePow, Int.reduceLE, Int.reduceNeg, Int.reduceLT, Int.reduceBEq, Int.reduceBNe, Int.reduceEq, ownA, nilA, Try.facts, h3, h4, h5, h22, h23, h24]
        intro b2 hb20 hb2f
        simp (disch := omega) only [↓runPre, runPost, fieldO, ixA, cutA, lenA, aggA, rowA, appA, mkA, indA, bnd, srcA, sameOp, funcA, cvO, partA, aggD, ↓PostP, resV, resAll, resOne, resVF, resAllF, resOneF, fitsAll, fitsR, fits, frz, Post, Nat.reduceBEq, Nat.reduceLT, reduceCtorEq, ↓reduceIte, initS, AV.cellsOf, AV.fine, AV.one, repA, Nat.reduceMul, Nat.reduceAdd, Nat.reduceLeDiff, Nat.reduceEqDiff, Int.reduceToNat, Nat.reduceSub, Nat.reduceMod, Nat.reduceDiv, indexK.aggOf, Int.reducePow, Int.reduceLE, Int.reduceNeg, Int.reduceLT, Int.reduceBEq, Int.reduceBNe, Int.reduceEq, ownA, nilA, Try.facts, h3, h4, h5, h22, h23, h24, putCells_eq, kill_box hb2f, v4', set_other, vkk, hne4]
        refine loop_t (c := ⟨Try.prog, 145, [(25, [0, 0, 0, 0, 1, 0, 1, 0, 0, 0, 1, 0, 0, 0, 0, 0, 0, 1, 1, 0, 1, 0, 0, 0, 1, 1, 0, 0]), (30, [0, 0, 0, 0, 1, 0, 0, 1, 0, 0, 1, 0, 0, 0, 1, 0, 0, 1, 0, 0]), (1000007, [7]), (1000008, [8]), (4000030, [4, 13, 14, 81, 82, 118, 119, 141]), (4000027, [4, 13, 14, 81, 82, 118, 119]), (4000025, [4, 13, 14, 81, 82, 112]), (4000020, [4, 13, 79]), (4000017, [3, 4, 5, 22, 23, 24]), (4000015, [3, 4, 5, 9, 10, 22, 23, 24, 49, 50]), (4000010, [3, 4, 5, 9, 10, 22, 23, 24, 47]), (4000008, [3, 4, 5, 8, 9, 10, 11, 22, 23, 24]), (4000003, [0, 3, 4])], [], []⟩) Try.mixed (by kernel_rfl) (fun mj σ H'' => ∃ j bs Z2, j + mj = w.length ∧ bs.length = w.length ∧ Pair H Z2 H'' h m k4 d' ts' ∧ Z2 kk = some (.cells (encB bs) 5 1) ∧ Z2 k = some o ∧
          σ 3 = .ptr h 0 ∧ σ 4 = .ptr k4 0 ∧ σ 22 = .imm 0 (askCs l) l.length ∧ σ 23 = .sc (.int .i64 l.length) ∧ σ 24 = .sc (.int .i64 i) ∧ σ 5 = .imm k (ans.map bytesV) i ∧ σ 9 = .own kk 0 w.length ∧ σ 10 = bytesV w ∧ σ 49 = .sc (.int .i64 w.length) ∧ σ 50 = .sc (.int .i64 (j : Nat))) w.length ?_ ?_
        · refine ⟨0, w, (Z.set kk (.cells (encB w) 5 1)).set k4 (.cells [.imm 0 (termsC ts') ts'.length, .sc (.int .i64 d')] 38 2), by omega, rfl, ⟨s2.put (by rw [set_other (fun e => hne4 e.symm)]; exact P.z4), (P.sub.set_free (P.sub.free hkk)).set_free P.n4, P.n4, set_get⟩, by rw [set_other hne4, set_get], by rw [set_other hkk4, set_other (fun e => hnek e.symm)]; exact hkZ, ?_⟩
          simp (disch := omega) only [↓runPre, runPost, fieldO, ixA, cutA, lenA, aggA, rowA, appA, mkA, indA, bnd, srcA, sameOp, funcA, cvO, partA, aggD, ↓PostP, resV, resAll, resOne, resVF, resAllF, resOneF, fitsAll, fitsR, fits, frz, Post, Nat.reduceBEq, Nat.reduceLT, reduceCtorEq, ↓reduceIte, initS, AV.cellsOf, AV.fine, AV.one, repA, Nat.reduceMul, Nat.reduceAdd, Nat.reduceLeDiff, Nat.reduceEqDiff, Int.reduceToNat, Nat.reduceSub, Nat.reduceMod, Nat.reduceDiv, indexK.aggOf, Int.reducePow, Int.reduceLE, Int.reduceNeg, Int.reduceLT, Int.reduceBEq, Int.reduceBNe, Int.reduceEq, ownA, nilA, Try.facts, h3, h4, h5, h22, h23, h24]
          try rfl
        · clear v4' vk' vkk
          rintro mj σ H'' ⟨j, bs, Z2, hj, hbl, P2, hzk, hzo, h3, h4, h22, h23, h24, h5, h9, h10, h49, h50⟩
          have v4' := P2.s.sub _ _ P2.z4
          have vk' := P2.s.sub _ _ hzo
          have vkk := P2.s.sub _ _ hzk
          by_cases hjl : j < w.length
          · have hb2 : decide ((j : Int) < (w.length : Int)) = true := by simp; omega
            have hg := encB_get (l := bs) (i := j) (by omega)
            have hp := put_bytes (l := bs) (i := j) (b := bs[j]'(by omega) + 1) (by omega)
            have hinc := n8inc (bs[j]'(by omega))
            have hst : (bs.set j (bs[j]'(by omega) + 1)).length = w.length := by rw [List.length_set]; exact hbl
            generalize bs[j]'(by omega) = b at *
            simp (disch := omega) only [↓runPre, runPost, fieldO, ixA, cutA, lenA, aggA, rowA, appA, mkA, indA, bnd, srcA, sameOp, funcA, cvO, partA, aggD, ↓PostP, resV, resAll, resOne, resVF, resAllF, resOneF, fitsAll, fitsR, fits, frz, Post, Nat.reduceBEq, Nat.reduceLT, reduceCtorEq, ↓reduceIte, initS, AV.cellsOf, AV.fine, AV.one, repA, Nat.reduceMul, Nat.reduceAdd, Nat.reduceLeDiff, Nat.reduceEqDiff, Int.reduceToNat, Nat.reduceSub, Nat.reduceMod, Nat.reduceDiv, indexK.aggOf, Int.reducePow, Int.reduceLE, Int.reduceNeg, Int.reduceLT, Int.reduceBEq, Int.reduceBNe, Int.reduceEq, ownA, nilA, Try.facts, h3, h4, h5, h22, h23, h24, h9, h10, h49, h50, hb2, vkk, hg, hp, hinc, hbl]
            refine ⟨mj - 1, by omega, j + 1, bs.set j (b + 1), Z2.set kk (.cells (encB (bs.set j (b + 1))) 5 1), by omega, hst, ⟨P2.s.put hzk, P2.sub.set_free (P.sub.free hkk), P2.n4, by rw [set_other (fun e => hne4 e.symm)]; exact P2.z4⟩, set_get, by rw [set_other (fun e => hnek e.symm)]; exact hzo, rfl⟩
          · have hb2 : decide ((j : Int) < (w.length : Int)) = false := by simp; omega
            simp (disch := omega) only [↓runPre, runPost, fieldO, ixA, cutA, lenA, aggA, rowA, appA, mkA, indA, bnd, srcA, sameOp, funcA, cvO, partA, aggD, ↓PostP, resV, resAll, resOne, resVF, resAllF, resOneF, fitsAll, fitsR, fits, frz, Post, Nat.reduceBEq, Nat.reduceLT, reduceCtorEq, ↓reduceIte, initS, AV.cellsOf, AV.fine, AV.one, repA, Nat.reduceMul, Nat.reduceAdd, Nat.reduceLeDiff, Nat.reduceEqDiff, Int.reduceToNat, Nat.reduceSub, Nat.reduceMod, Nat.reduceDiv, indexK.aggOf, Int.reducePow, Int.reduceLE, Int.reduceNeg, Int.reduceLT, Int.reduceBEq, Int.reduceBNe, Int.reduceEq, ownA, nilA, Try.facts, h3, h4, h5, h22, h23, h24, h9, h10, h49, h50, hb2, vk', ho, hlen]
            intro k2 o2 hk20 hk2 ho2
            have hn2 : (H''.kill k) k2 = none := kill_none hk2
            have hne2 : k2 ≠ k4 := fun e => by rw [e, v4'] at hk2; cases hk2
            have hkfree : H k2 = none := (P2.sub.trans P2.s.sub).free hk2
            refine ⟨mm - 1, by omega, i + 1, d', ts', ans ++ [w], _, k2, o2, by omega, P2.end_ hzo hkH hn2 hkk4, by simp [hlen], (ans_le hans hw), g', by omega, rfl, hk20, hne2, hkfree, set_get, ho2, ?_⟩
            rw [List.map_append]; rfl
    · have hb1 : decide ((i : Int) < (l.length : Int)) = false := by simp; omega
      have hgt : GT 1000000 ts := g.gt.mono (by omega)
      have v4 := P.s.sub _ _ P.z4
      have hTl := termsC_length ts
      have htl := hgt.len
      simp (disch := omega) only [↓runPre, runPost, fieldO, ixA, cutA, lenA, aggA, rowA, appA, mkA, indA, bnd, srcA, sameOp, funcA, cvO, partA, aggD, ↓PostP, resV, resAll, resOne, resVF, resAllF, resOneF, fitsAll, fitsR, fits, frz, Post, Nat.reduceBEq, Nat.reduceLT, reduceCtorEq, ↓reduceIte, initS, AV.cellsOf, AV.fine, AV.one, repA, Nat.reduceMul, Nat.reduceAdd, Nat.reduceLeDiff, Nat.reduceEqDiff, Int.reduceToNat, Nat.reduceSub, Nat.reduceMod, Nat.reduceDiv, indexK.aggOf, Int.reducePow, Int.reduceLE, Int.reduceNeg, Int.reduceLT, Int.reduceBEq, Int.reduceBNe, Int.reduceEq, ownA, nilA, Try.facts, h3, h4, h5, h22, h23, h24, hb1]
      refine CallK.i (terms_ss hgt P.s) ?_
      rintro v H2 ⟨rfl, rfl⟩
      simp (disch := omega) only [↓runPre, runPost, fieldO, ixA, cutA, lenA, aggA, rowA, appA, mkA, indA, bnd, srcA, sameOp, funcA, cvO, partA, aggD, ↓PostP, resV, resAll, resOne, resVF, resAllF, resOneF, fitsAll, fitsR, fits, frz, Post, Nat.reduceBEq, Nat.reduceLT, reduceCtorEq, ↓reduceIte, initS, AV.cellsOf, AV.fine, AV.one, repA, Nat.reduceMul, Nat.reduceAdd, Nat.reduceLeDiff, Nat.reduceEqDiff, Int.reduceToNat, Nat.reduceSub, Nat.reduceMod, Nat.reduceDiv, indexK.aggOf, Int.reducePow, Int.reduceLE, Int.reduceNeg, Int.reduceLT, Int.reduceBEq, Int.reduceBNe, Int.reduceEq, ownA, nilA, Try.facts, h3, h4, v4]
      refine CallK.i (len_ss P.s) ?_
      rintro v H3 ⟨rfl, rfl⟩
      simp (disch := omega) only [↓runPre, runPost, fieldO, ixA, cutA, lenA, aggA, rowA, appA, mkA, indA, bnd, srcA, sameOp, funcA, cvO, partA, aggD, ↓PostP, resV, resAll, resOne, resVF, resAllF, resOneF, fitsAll, fitsR, fits, frz, Post, Nat.reduceBEq, Nat.reduceLT, reduceCtorEq, ↓reduceIte, initS, AV.cellsOf, AV.fine, AV.one, repA, Nat.reduceMul, Nat.reduceAdd, Nat.reduceLeDiff, Nat.reduceEqDiff, Int.reduceToNat, Nat.reduceSub, Nat.reduceMod, Nat.reduceDiv, indexK.aggOf, Int.reducePow, Int.reduceLE, Int.reduceNeg, Int.reduceLT, Int.reduceBEq, Int.reduceBNe, Int.reduceEq, ownA, nilA, Try.facts, h3, h4, v4]
      refine loop_t (c := ⟨Try.prog, 145, [(25, [0, 0, 0, 0, 1, 0, 1, 0, 0, 0, 1, 0, 0, 0, 0, 0, 0, 1, 1, 0, 1, 0, 0, 0, 1, 1, 0, 0]), (30, [0, 0, 0, 0, 1, 0, 0, 1, 0, 0, 1, 0, 0, 0, 1, 0, 0, 1, 0, 0]), (1000007, [7]), (1000008, [8]), (4000030, [4, 13, 14, 81, 82, 118, 119, 141]), (4000027, [4, 13, 14, 81, 82, 118, 119]), (4000025, [4, 13, 14, 81, 82, 112]), (4000020, [4, 13, 79]), (4000017, [3, 4, 5, 22, 23, 24]), (4000015, [3, 4, 5, 9, 10, 22, 23, 24, 49, 50]), (4000010, [3, 4, 5, 9, 10, 22, 23, 24, 47]), (4000008, [3, 4, 5, 8, 9, 10, 11, 22, 23, 24]), (4000003, [0, 3, 4])], [], []⟩) Try.mixed (by kernel_rfl) (fun mj σ H'' => H'' = H3 ∧ ∃ j, j + mj = ts.length ∧ σ 4 = .ptr k4 0 ∧ σ 13 = .imm 0 (termsC ts) ts.length ∧ σ 81 = .sc (.int .i64 ts.length) ∧ σ 82 = .sc (.int .i64 (j : Nat))) ts.length ?_ ?_
      · refine ⟨rfl, 0, by omega, ?_⟩
        simp (disch := omega) only [↓runPre, runPost, fieldO, ixA, cutA, lenA, aggA, rowA, appA, mkA, indA, bnd, srcA, sameOp, funcA, cvO, partA, aggD, ↓PostP, resV, resAll, resOne, resVF, resAllF, resOneF, fitsAll, fitsR, fits, frz, Post, Nat.reduceBEq, Nat.reduceLT, reduceCtorEq, ↓reduceIte, initS, AV.cellsOf, AV.fine, AV.one, repA, Nat.reduceMul, Nat.reduceAdd, Nat.reduceLeDiff, Nat.reduceEqDiff, Int.reduceToNat, Nat.reduceSub, Nat.reduceMod, Nat.reduceDiv, indexK.aggOf, Int.reducePow, Int.reduceLE, Int.reduceNeg, Int.reduceLT, Int.reduceBEq, Int.reduceBNe, Int.reduceEq, ownA, nilA, Try.facts, h3, h4]
        try rfl
      · rintro mj σ H'' ⟨rfl, j, hj, h4, h13, h81, h82⟩
        by_cases hjt : j < ts.length
        · have hb2 : decide ((j : Int) < (ts.length : Int)) = true := by simp; omega
          have hle2 : j * 2 + 2 ≤ ts.length * 2 := by omega
          have hle3 : j * 2 + 1 < ts.length * 2 := by omega
          have hle4 : j * 2 < ts.length * 2 := by omega
          have t0 := termsC_0 hjt
          have t1 := termsC_1 hjt
          have hok := (hgt.wf _ (List.getElem_mem hjt)).1
          have hps : ts[j].parts.length ≤ 1000000 := hok.2.1
          have hfl : ts[j].parts.flatten.length ≤ 1000000000000 := hok.2.2
          generalize ts[j] = x at *
          obtain ⟨kd, ps⟩ := x
          simp only [] at t0 t1 hps hfl
          simp (disch := omega) only [↓runPre, runPost, fieldO, ixA, cutA, lenA, aggA, rowA, appA, mkA, indA, bnd, srcA, sameOp, funcA, cvO, partA, aggD, ↓PostP, resV, resAll, resOne, resVF, resAllF, resOneF, fitsAll, fitsR, fits, frz, Post, Nat.reduceBEq, Nat.reduceLT, reduceCtorEq, ↓reduceIte, initS, AV.cellsOf, AV.fine, AV.one, repA, Nat.reduceMul, Nat.reduceAdd, Nat.reduceLeDiff, Nat.reduceEqDiff, Int.reduceToNat, Nat.reduceSub, Nat.reduceMod, Nat.reduceDiv, indexK.aggOf, Int.reducePow, Int.reduceLE, Int.reduceNeg, Int.reduceLT, Int.reduceBEq, Int.reduceBNe, Int.reduceEq, ownA, nilA, Try.facts, h4, h13, h81, h82, hb2, t0, t1, hle2, hle3, hle4, v4, hTl]
          refine loop_t (c := ⟨Try.prog, 145, [(25, [0, 0, 0, 0, 1, 0, 1, 0, 0, 0, 1, 0, 0, 0, 0, 0, 0, 1, 1, 0, 1, 0, 0, 0, 1, 1, 0, 0]), (30, [0, 0, 0, 0, 1, 0, 0, 1, 0, 0, 1, 0, 0, 0, 1, 0, 0, 1, 0, 0]), (1000007, [7]), (1000008, [8]), (4000030, [4, 13, 14, 81, 82, 118, 119, 141]), (4000027, [4, 13, 14, 81, 82, 118, 119]), (4000025, [4, 13, 14, 81, 82, 112]), (4000020, [4, 13, 79]), (4000017, [3, 4, 5, 22, 23, 24]), (4000015, [3, 4, 5, 9, 10, 22, 23, 24, 49, 50]), (4000010, [3, 4, 5, 9, 10, 22, 23, 24, 47]), (4000008, [3, 4, 5, 8, 9, 10, 11, 22, 23, 24]), (4000003, [0, 3, 4])], [], []⟩) Try.mixed (by kernel_rfl) (fun mp σ H4 => H4 = H'' ∧ ∃ q, q + mp = ps.length ∧ σ 4 = .ptr k4 0 ∧ σ 13 = .imm 0 (termsC ts) ts.length ∧ σ 14 = .sc (.int .i64 (j : Nat)) ∧ σ 81 = .sc (.int .i64 ts.length) ∧ σ 82 = .sc (.int .i64 (j : Nat)) ∧ σ 118 = .sc (.int .i64 ps.length) ∧ σ 119 = .sc (.int .i64 (q : Nat))) ps.length ?_ ?_
          · refine ⟨rfl, 0, by omega, ?_⟩
            simp (disch := omega) only [↓runPre, runPost, fieldO, ixA, cutA, lenA, aggA, rowA, appA, mkA, indA, bnd, srcA, sameOp, funcA, cvO, partA, aggD, ↓PostP, resV, resAll, resOne, resVF, resAllF, resOneF, fitsAll, fitsR, fits, frz, Post, Nat.reduceBEq, Nat.reduceLT, reduceCtorEq, ↓reduceIte, initS, AV.cellsOf, AV.fine, AV.one, repA, Nat.reduceMul, Nat.reduceAdd, Nat.reduceLeDiff, Nat.reduceEqDiff, Int.reduceToNat, Nat.reduceSub, Nat.reduceMod, Nat.reduceDiv, indexK.aggOf, Int.reducePow, Int.reduceLE, Int.reduceNeg, Int.reduceLT, Int.reduceBEq, Int.reduceBNe, Int.reduceEq, ownA, nilA, Try.facts, h4, h13, h81, h82]
            try rfl
          · rintro mp σ H4 ⟨rfl, q, hq, h4, h13, h14, h81, h82, h118, h119⟩
            by_cases hqt : q < ps.length
            · have hb3 : decide ((q : Int) < (ps.length : Int)) = true := by simp; omega
              have g1 := getR hqt
              have hpl := flat_mem (List.getElem_mem hqt)
              generalize ps[q] = p at *
              simp (disch := omega) only [↓runPre, runPost, fieldO, ixA, cutA, lenA, aggA, rowA, appA, mkA, indA, bnd, srcA, sameOp, funcA, cvO, partA, aggD, ↓PostP, resV, resAll, resOne, resVF, resAllF, resOneF, fitsAll, fitsR, fits, frz, Post, Nat.reduceBEq, Nat.reduceLT, reduceCtorEq, ↓reduceIte, initS, AV.cellsOf, AV.fine, AV.one, repA, Nat.reduceMul, Nat.reduceAdd, Nat.reduceLeDiff, Nat.reduceEqDiff, Int.reduceToNat, Nat.reduceSub, Nat.reduceMod, Nat.reduceDiv, indexK.aggOf, Int.reducePow, Int.reduceLE, Int.reduceNeg, Int.reduceLT, Int.reduceBEq, Int.reduceBNe, Int.reduceEq, ownA, nilA, Try.facts, h4, h13, h14, h81, h82, h118, h119, hb3, t0, t1, g1, hle2, hle3, hle4, v4, hTl]
              exact ⟨mp - 1, by omega, q + 1, by omega, rfl⟩
            · have hb3 : decide ((q : Int) < (ps.length : Int)) = false := by simp; omega
              simp (disch := omega) only [↓runPre, runPost, fieldO, ixA, cutA, lenA, aggA, rowA, appA, mkA, indA, bnd, srcA, sameOp, funcA, cvO, partA, aggD, ↓PostP, resV, resAll, resOne, resVF, resAllF, resOneF, fitsAll, fitsR, fits, frz, Post, Nat.reduceBEq, Nat.reduceLT, reduceCtorEq, ↓reduceIte, initS, AV.cellsOf, AV.fine, AV.one, repA, Nat.reduceMul, Nat.reduceAdd, Nat.reduceLeDiff, Nat.reduceEqDiff, Int.reduceToNat, Nat.reduceSub, Nat.reduceMod, Nat.reduceDiv, indexK.aggOf, Int.reducePow, Int.reduceLE, Int.reduceNeg, Int.reduceLT, Int.reduceBEq, Int.reduceBNe, Int.reduceEq, ownA, nilA, Try.facts, h4, h13, h14, h81, h82, h118, h119, hb3]
              exact ⟨mj - 1, by omega, j + 1, by omega, rfl⟩
        · have hb2 : decide ((j : Int) < (ts.length : Int)) = false := by simp; omega
          simp (disch := omega) only [↓runPre, runPost, fieldO, ixA, cutA, lenA, aggA, rowA, appA, mkA, indA, bnd, srcA, sameOp, funcA, cvO, partA, aggD, ↓PostP, resV, resAll, resOne, resVF, resAllF, resOneF, fitsAll, fitsR, fits, frz, Post, Nat.reduceBEq, Nat.reduceLT, reduceCtorEq, ↓reduceIte, initS, AV.cellsOf, AV.fine, AV.one, repA, Nat.reduceMul, Nat.reduceAdd, Nat.reduceLeDiff, Nat.reduceEqDiff, Int.reduceToNat, Nat.reduceSub, Nat.reduceMod, Nat.reduceDiv, indexK.aggOf, Int.reducePow, Int.reduceLE, Int.reduceNeg, Int.reduceLT, Int.reduceBEq, Int.reduceBNe, Int.reduceEq, ownA, nilA, Try.facts, h4, h13, h81, h82, hb2]
          first | refine CallK.p (haw) ?_ | refine CallP.i (haw) ?_
          simp (disch := omega) only [↓runPre, runPost, fieldO, ixA, cutA, lenA, aggA, rowA, appA, mkA, indA, bnd, srcA, sameOp, funcA, cvO, partA, aggD, ↓PostP, resV, resAll, resOne, resVF, resAllF, resOneF, fitsAll, fitsR, fits, frz, Post, Nat.reduceBEq, Nat.reduceLT, reduceCtorEq, ↓reduceIte, initS, AV.cellsOf, AV.fine, AV.one, repA, Nat.reduceMul, Nat.reduceAdd, Nat.reduceLeDiff, Nat.reduceEqDiff, Int.reduceToNat, Nat.reduceSub, Nat.reduceMod, Nat.reduceDiv, indexK.aggOf, Int.reducePow, Int.reduceLE, Int.reduceNeg, Int.reduceLT, Int.reduceBEq, Int.reduceBNe, Int.reduceEq, ownA, nilA, Try.facts]
          exact P.sub.trans P.s.sub
end Go.Proofs.Ytmgbcjnhmgfhkaa
