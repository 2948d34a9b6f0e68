/-
  The walks of the fugue layer: the law of whatever order: its walk.
  Conditions: none. Lemmas only.
-/
import Derived.Test.YtpmmafmbjconiaaFugAh
import Derived.Test.YtpmmafmbjconiaaAbsO
set_option linter.all false
set_option linter.unusedSimpArgs false
set_option linter.unusedVariables false
set_option maxRecDepth 8000
set_option maxHeartbeats 4000000
namespace Go.Proofs.Ytpmmafmbjconiaa
open Go Go.Abs Go.Proofs Go.Fug
def intsC (l : List Int) : List AV := l.map fun n => .sc (.int .i64 n)
theorem intsC_length (l : List Int) : (intsC l).length = l.length := by simp [intsC]
theorem intsC_get {l : List Int} {i : Nat} (h : i < l.length) : (intsC l)[i]? = some (.sc (.int .i64 l[i])) := by
  unfold intsC
  rw [List.getElem?_map, List.getElem?_eq_getElem h]; rfl
theorem dosC_snoc (l : List DoT) (k : DoT) : dosC l ++ doC k = dosC (l ++ [k]) := by simp [dosC]
theorem dosC_put {l : List DoT} {i : Nat} {k : DoT} (h : i < l.length) : putCells (dosC l) (i * 9) (doC k) = dosC (l.set i k) := by
  have hd : ∀ (l : List DoT) (i : Nat), i ≤ l.length → (dosC l).take (i * 9) = dosC (l.take i) ∧ (dosC l).drop (i * 9) = dosC (l.drop i) := by
    intro l
    induction l with
    | nil => intro i _; simp [dosC]
    | cons t r ih =>
      intro i hi
      cases i with
      | zero => simp [dosC]
      | succ i =>
        obtain ⟨h1, h2⟩ := ih i (by simpa using hi)
        have e : (i + 1) * 9 = 9 + i * 9 := by omega
        have e1 : dosC (t :: r) = doC t ++ dosC r := rfl
        have e2 : (doC t).length = 9 := by simp [doC, insC]
        have e3 : (t :: r).take (i + 1) = t :: r.take i := rfl
        have e4 : dosC (t :: r.take i) = doC t ++ dosC (r.take i) := rfl
        refine ⟨?_, ?_⟩
        · rw [e, e1, List.take_append, e2, show 9 + i * 9 - 9 = i * 9 by omega, h1, List.take_of_length_le (by omega), e3, e4]
        · rw [e, ← List.drop_drop, e1, List.drop_left' e2, h2]; rfl
  rw [putCells_eq]
  have e2 : (doC k).length = 9 := by simp [doC, insC]
  have h1 := (hd l i (by omega)).1
  have h2 := (hd l (i + 1) (by omega)).2
  rw [e2, h1, show i * 9 + 9 = (i + 1) * 9 by omega, h2, List.set_eq_take_append_cons_drop, if_pos h]
  simp only [dosC, List.flatMap_append, List.flatMap_cons, List.append_assoc]
def uniqD (O : List DoT) : Prop := ∀ i ∈ adds O, ∀ j ∈ adds O, i.id = j.id → i = j
def sameD (k x : DoT) : Bool := decide (k.kind ≠ 0) && decide (x.kind ≠ 0) && decide (x.ins.id = k.ins.id)
theorem adds_snoc (O : List DoT) (k : DoT) : adds (O ++ [k]) = adds O ++ if k.kind = 0 then [] else [k.ins] := by
  unfold adds
  rw [List.filter_append, List.map_append]
  congr 1
  by_cases h : k.kind = 0
  · simp [isAdd, h]
  · simp [isAdd, h]
theorem uniqD.snoc {O : List DoT} {k : DoT} (h : uniqD O) (hn : O.any (sameD k) = false) : uniqD (O ++ [k]) := by
  unfold uniqD
  rw [adds_snoc]
  by_cases hk : k.kind = 0
  · rw [if_pos hk, List.append_nil]; exact h
  · rw [if_neg hk]
    have hno : ∀ i ∈ adds O, i.id ≠ k.ins.id := fun i hi e => by
      obtain ⟨x, hx, hz, rfl⟩ := mem_adds.1 hi
      have := List.any_eq_false.1 hn x hx
      apply this
      simp [sameD, hk, hz, e]
    intro i hi j hj e
    rcases List.mem_append.1 hi with a | a <;> rcases List.mem_append.1 hj with b | b
    · exact h i a j b e
    · rw [List.mem_singleton.1 b] at e; exact absurd e (hno i a)
    · rw [List.mem_singleton.1 a] at e; exact absurd e.symm (hno j b)
    · rw [List.mem_singleton.1 a, List.mem_singleton.1 b]
theorem any_take {O : List DoT} {f : DoT → Bool} {j : Nat} (h : j < O.length) : (O.take (j + 1)).any f = ((O.take j).any f || f O[j]) := by
  rw [List.take_add_one, List.getElem?_eq_getElem h, List.any_append]
  simp
theorem conv_no (l : List DoT) (ts : List Int) (hl : l.length ≤ 1048576) (hm : ts.length ≤ 1048576) (h : ¬ (l.length ≤ 40 ∧ ts.length ≤ 200)) : APure Try.prog 5 [.imm 0 (dosC l) l.length, .imm 0 (intsC ts) ts.length] (.sc (.bool true)) := by
  have haw := awake_pure
  by_cases h1 : l.length ≤ 40
  all_goals
    refine apure_of_cwp (c := ⟨Try.prog, 125, [(21, [0, 0, 1, 0, 0, 0, 0, 1, 0, 0, 0, 0, 0]), (22, [0, 0, 0, 0, 0, 0, 0, 1, 0, 0, 0, 1, 0, 2, 0, 2]), (1000006, [7]), (1000010, [10]), (4000025, [4]), (4000024, [16, 17]), (4000022, [5, 11, 70, 71, 72]), (4000021, [5, 11, 14, 15, 70, 71, 72]), (4000019, [5, 11, 12, 13, 70, 71, 72]), (4000014, [1, 5, 27, 28, 29]), (4000011, [1, 5, 7, 8, 27, 28, 29, 33, 34, 35]), (4000001, [0, 1, 25])], [1000067, 1000069], []⟩) (rs := [ResultVar.tmp 4]) Try.mixed Try.func5 rfl rfl rfl (Nat.le_of_ble_eq_true rfl) (by kernel_rfl) fun H => ?_
    simp (disch := omega) only [↓runPre, runPost, fieldO, ixA, cutA, lenA, aggA, rowA, appA, mkA, indA, bnd, srcA, sameOp, funcA, cvO, partA, aggD, ↓PostP, resV, resAll, resOne, resVF, resAllF, resOneF, fitsAll, fitsR, fits, frz, Post, Nat.reduceBEq, Nat.reduceLT, reduceCtorEq, ↓reduceIte, initS, AV.cellsOf, AV.fine, AV.one, repA, Nat.reduceMul, Nat.reduceAdd, Nat.reduceLeDiff, Nat.reduceEqDiff, Int.reduceToNat, Nat.reduceSub, Nat.reduceMod, Nat.reduceDiv, indexK.aggOf, Int.reducePow, Int.reduceLE, Int.reduceNeg, Int.reduceLT, Int.reduceBEq, Int.reduceBNe, Int.reduceEq, ownA, nilA, Try.facts, dT, dF, qT, qF, nT, nF, Bool.false_and, Bool.and_false]
    first | refine CallK.p (haw) ?_ | refine CallP.i (haw) ?_
    simp (disch := omega) only [↓runPre, runPost, fieldO, ixA, cutA, lenA, aggA, rowA, appA, mkA, indA, bnd, srcA, sameOp, funcA, cvO, partA, aggD, ↓PostP, resV, resAll, resOne, resVF, resAllF, resOneF, fitsAll, fitsR, fits, frz, Post, Nat.reduceBEq, Nat.reduceLT, reduceCtorEq, ↓reduceIte, initS, AV.cellsOf, AV.fine, AV.one, repA, Nat.reduceMul, Nat.reduceAdd, Nat.reduceLeDiff, Nat.reduceEqDiff, Int.reduceToNat, Nat.reduceSub, Nat.reduceMod, Nat.reduceDiv, indexK.aggOf, Int.reducePow, Int.reduceLE, Int.reduceNeg, Int.reduceLT, Int.reduceBEq, Int.reduceBNe, Int.reduceEq, ownA, nilA, Try.facts]
    exact Abs.Sub.refl _
theorem conv_yes (l : List DoT) (ts : List Int) (hl : l.length ≤ 40) (htl : ts.length ≤ 200) : APure Try.prog 5 [.imm 0 (dosC l) l.length, .imm 0 (intsC ts) ts.length] (.sc (.bool true)) := by
  have haw := awake_pure
  have hdl := dosC_length l
  have hit := intsC_length ts
  refine apure_of_cwp (c := ⟨Try.prog, 125, [(21, [0, 0, 1, 0, 0, 0, 0, 1, 0, 0, 0, 0, 0]), (22, [0, 0, 0, 0, 0, 0, 0, 1, 0, 0, 0, 1, 0, 2, 0, 2]), (1000006, [7]), (1000010, [10]), (4000025, [4]), (4000024, [16, 17]), (4000022, [5, 11, 70, 71, 72]), (4000021, [5, 11, 14, 15, 70, 71, 72]), (4000019, [5, 11, 12, 13, 70, 71, 72]), (4000014, [1, 5, 27, 28, 29]), (4000011, [1, 5, 7, 8, 27, 28, 29, 33, 34, 35]), (4000001, [0, 1, 25])], [1000067, 1000069], []⟩) (rs := [ResultVar.tmp 4]) Try.mixed Try.func5 rfl rfl rfl (Nat.le_of_ble_eq_true rfl) (by kernel_rfl) fun H => ?_
  simp (disch := omega) only [↓runPre, runPost, fieldO, ixA, cutA, lenA, aggA, rowA, appA, mkA, indA, bnd, srcA, sameOp, funcA, cvO, partA, aggD, ↓PostP, resV, resAll, resOne, resVF, resAllF, resOneF, fitsAll, fitsR, fits, frz, Post, Nat.reduceBEq, Nat.reduceLT, reduceCtorEq, ↓reduceIte, initS, AV.cellsOf, AV.fine, AV.one, repA, Nat.reduceMul, Nat.reduceAdd, Nat.reduceLeDiff, Nat.reduceEqDiff, Int.reduceToNat, Nat.reduceSub, Nat.reduceMod, Nat.reduceDiv, indexK.aggOf, Int.reducePow, Int.reduceLE, Int.reduceNeg, Int.reduceLT, Int.reduceBEq, Int.reduceBNe, Int.reduceEq, ownA, nilA, Try.facts, dT, dF, qT, qF, nT, nF, Bool.false_and, Bool.and_false]
  refine tok_t 5 (by simp (disch := omega) only [↓runPre, runPost, fieldO, ixA, cutA, lenA, aggA, rowA, appA, mkA, indA, bnd, srcA, sameOp, funcA, cvO, partA, aggD, ↓PostP, resV, resAll, resOne, resVF, resAllF, resOneF, fitsAll, fitsR, fits, frz, Post, Nat.reduceBEq, Nat.reduceLT, reduceCtorEq, ↓reduceIte, initS, AV.cellsOf, AV.fine, AV.one, repA, Nat.reduceMul, Nat.reduceAdd, Nat.reduceLeDiff, Nat.reduceEqDiff, Int.reduceToNat, Nat.reduceSub, Nat.reduceMod, Nat.reduceDiv, indexK.aggOf, Int.reducePow, Int.reduceLE, Int.reduceNeg, Int.reduceLT, Int.reduceBEq, Int.reduceBNe, Int.reduceEq, ownA, nilA, Try.facts]) fun k hk0 hk => ?_
  refine loop_t (c := ⟨Try.prog, 125, [(21, [0, 0, 1, 0, 0, 0, 0, 1, 0, 0, 0, 0, 0]), (22, [0, 0, 0, 0, 0, 0, 0, 1, 0, 0, 0, 1, 0, 2, 0, 2]), (1000006, [7]), (1000010, [10]), (4000025, [4]), (4000024, [16, 17]), (4000022, [5, 11, 70, 71, 72]), (4000021, [5, 11, 14, 15, 70, 71, 72]), (4000019, [5, 11, 12, 13, 70, 71, 72]), (4000014, [1, 5, 27, 28, 29]), (4000011, [1, 5, 7, 8, 27, 28, 29, 33, 34, 35]), (4000001, [0, 1, 25])], [1000067, 1000069], []⟩) Try.mixed (by kernel_rfl) (fun mm σ H' => ∃ (i : Nat) (O : List DoT) (k : Nat) (o : AObj), i + mm = l.length ∧ O.length ≤ i ∧ uniqD O ∧ k ≠ 0 ∧ H k = none ∧ H' = H.set k o ∧ TokO 35 9 o (O.length * 9) ∧
    σ 5 = .imm k (dosC O) O.length ∧ σ 1 = .imm 0 (intsC ts) ts.length ∧ σ 27 = .imm 0 (dosC l) l.length ∧ σ 28 = .sc (.int .i64 l.length) ∧ σ 29 = .sc (.int .i64 (i : Nat))) l.length ?_ ?_
  · refine ⟨0, [], k, .nilt, by omega, by simp, by intro i hi; simp [adds] at hi, hk0, hk, rfl, .inr ⟨rfl, rfl⟩, ?_⟩
    simp (disch := omega) only [↓runPre, runPost, fieldO, ixA, cutA, lenA, aggA, rowA, appA, mkA, indA, bnd, srcA, sameOp, funcA, cvO, partA, aggD, ↓PostP, resV, resAll, resOne, resVF, resAllF, resOneF, fitsAll, fitsR, fits, frz, Post, Nat.reduceBEq, Nat.reduceLT, reduceCtorEq, ↓reduceIte, initS, AV.cellsOf, AV.fine, AV.one, repA, Nat.reduceMul, Nat.reduceAdd, Nat.reduceLeDiff, Nat.reduceEqDiff, Int.reduceToNat, Nat.reduceSub, Nat.reduceMod, Nat.reduceDiv, indexK.aggOf, Int.reducePow, Int.reduceLE, Int.reduceNeg, Int.reduceLT, Int.reduceBEq, Int.reduceBNe, Int.reduceEq, ownA, nilA, Try.facts]
    rfl
  · clear hk hk0
    rintro mm σ H' ⟨i, O, k, o, him, hOi, hu, hk0, hk, rfl, ho, s5, s1, s27, s28, s29⟩
    have hOd := dosC_length O
    have hi1 : ((i : Nat) : Int) + 1 = ((i + 1 : Nat) : Int) := rfl
    by_cases hlt : i < l.length
    · have hld := dosC_load hlt
      have hle : i * 9 + 9 ≤ l.length * 9 := by omega
      generalize l[i] = q at *
      have hsn := dosC_snoc O q
      have hsu := hu.snoc (k := q)
      have hO1 : (O ++ [q]).length = O.length + 1 := by simp
      have hsl := dosC_length (O ++ [q])
      generalize O ++ [q] = O2 at *
      obtain ⟨sd, hsd⟩ : ∃ sd, sd = sameD q := ⟨_, rfl⟩
      rw [← hsd] at hsu
      obtain ⟨kd, ⟨⟨a, c⟩, ⟨pa, pc⟩, ri, ru⟩, ⟨x1, x2⟩⟩ := q
      simp only [doC, insC, List.cons_append, List.nil_append] at hld hsn
      simp (disch := omega) only [↓runPre, runPost, fieldO, ixA, cutA, lenA, aggA, rowA, appA, mkA, indA, bnd, srcA, sameOp, funcA, cvO, partA, aggD, ↓PostP, resV, resAll, resOne, resVF, resAllF, resOneF, fitsAll, fitsR, fits, frz, Post, Nat.reduceBEq, Nat.reduceLT, reduceCtorEq, ↓reduceIte, initS, AV.cellsOf, AV.fine, AV.one, repA, Nat.reduceMul, Nat.reduceAdd, Nat.reduceLeDiff, Nat.reduceEqDiff, Int.reduceToNat, Nat.reduceSub, Nat.reduceMod, Nat.reduceDiv, indexK.aggOf, Int.reducePow, Int.reduceLE, Int.reduceNeg, Int.reduceLT, Int.reduceBEq, Int.reduceBNe, Int.reduceEq, ownA, nilA, Try.facts, s5, s1, s27, s28, s29, dT, dF, qT, qF, nT, nF, Bool.false_and, Bool.and_false, hld, hle, hdl, hi1]
      intro b1 hb10 hb1f
      simp (disch := omega) only [↓runPre, runPost, fieldO, ixA, cutA, lenA, aggA, rowA, appA, mkA, indA, bnd, srcA, sameOp, funcA, cvO, partA, aggD, ↓PostP, resV, resAll, resOne, resVF, resAllF, resOneF, fitsAll, fitsR, fits, frz, Post, Nat.reduceBEq, Nat.reduceLT, reduceCtorEq, ↓reduceIte, initS, AV.cellsOf, AV.fine, AV.one, repA, Nat.reduceMul, Nat.reduceAdd, Nat.reduceLeDiff, Nat.reduceEqDiff, Int.reduceToNat, Nat.reduceSub, Nat.reduceMod, Nat.reduceDiv, indexK.aggOf, Int.reducePow, Int.reduceLE, Int.reduceNeg, Int.reduceLT, Int.reduceBEq, Int.reduceBNe, Int.reduceEq, ownA, nilA, Try.facts, s5, s1, s27, s28, s29, dT, dF, qT, qF, nT, nF, Bool.false_and, Bool.and_false, hld, hle, hdl, hi1, kill_box hb1f, putCells_eq]
      refine loop_t (c := ⟨Try.prog, 125, [(21, [0, 0, 1, 0, 0, 0, 0, 1, 0, 0, 0, 0, 0]), (22, [0, 0, 0, 0, 0, 0, 0, 1, 0, 0, 0, 1, 0, 2, 0, 2]), (1000006, [7]), (1000010, [10]), (4000025, [4]), (4000024, [16, 17]), (4000022, [5, 11, 70, 71, 72]), (4000021, [5, 11, 14, 15, 70, 71, 72]), (4000019, [5, 11, 12, 13, 70, 71, 72]), (4000014, [1, 5, 27, 28, 29]), (4000011, [1, 5, 7, 8, 27, 28, 29, 33, 34, 35]), (4000001, [0, 1, 25])], [1000067, 1000069], []⟩) Try.mixed (by kernel_rfl) (fun mj σ H' => H' = H.set k o ∧ ∃ (j : Nat), j + mj = O.length ∧
        σ 5 = .imm k (dosC O) O.length ∧ σ 1 = .imm 0 (intsC ts) ts.length ∧ σ 27 = .imm 0 (dosC l) l.length ∧ σ 28 = .sc (.int .i64 l.length) ∧ σ 29 = .sc (.int .i64 (i : Nat)) ∧
        σ 7 = .ip [.sc (.int .i64 kd), .sc (.int .i64 a), .sc (.int .i64 c), .sc (.int .i64 pa), .sc (.int .i64 pc), .sc (.bool ri), .sc (.int .i32 ru), .sc (.int .i64 x1), .sc (.int .i64 x2)] 0 ∧
        σ 8 = .sc (.bool ((O.take j).any sd)) ∧ σ 33 = .imm k (dosC O) O.length ∧ σ 34 = .sc (.int .i64 O.length) ∧ σ 35 = .sc (.int .i64 (j : Nat))) O.length ?_ ?_
      · refine ⟨rfl, 0, by omega, ?_⟩
        simp (disch := omega) only [↓runPre, runPost, fieldO, ixA, cutA, lenA, aggA, rowA, appA, mkA, indA, bnd, srcA, sameOp, funcA, cvO, partA, aggD, ↓PostP, resV, resAll, resOne, resVF, resAllF, resOneF, fitsAll, fitsR, fits, frz, Post, Nat.reduceBEq, Nat.reduceLT, reduceCtorEq, ↓reduceIte, initS, AV.cellsOf, AV.fine, AV.one, repA, Nat.reduceMul, Nat.reduceAdd, Nat.reduceLeDiff, Nat.reduceEqDiff, Int.reduceToNat, Nat.reduceSub, Nat.reduceMod, Nat.reduceDiv, indexK.aggOf, Int.reducePow, Int.reduceLE, Int.reduceNeg, Int.reduceLT, Int.reduceBEq, Int.reduceBNe, Int.reduceEq, ownA, nilA, Try.facts, s5, s1, s27, s28, s29]
        rfl
      · clear s5 s1 s27 s28 s29
        rintro mj σ H' ⟨rfl, j, hjm, s5, s1, s27, s28, s29, s7, s8, s33, s34, s35⟩
        have hj1 : ((j : Nat) : Int) + 1 = ((j + 1 : Nat) : Int) := rfl
        by_cases hlj : j < O.length
        · have hldj := dosC_load hlj
          have hlej : j * 9 + 9 ≤ O.length * 9 := by omega
          have hat := any_take (f := sd) hlj
          generalize O[j] = y at *
          generalize (O.take j).any sd = B at *
          obtain ⟨B2, hB2⟩ : ∃ B2, B2 = (O.take (j + 1)).any sd := ⟨_, rfl⟩
          rw [← hB2] at hat
          have hsy : sd y = (decide (kd ≠ 0) && decide (y.kind ≠ 0) && decide (y.ins.id = (a, c))) := by rw [hsd]; rfl
          rw [hsy] at hat
          obtain ⟨yd, ⟨⟨ya, yc⟩, ⟨yp, yq⟩, yr, yu⟩, ⟨y1, y2⟩⟩ := y
          simp only [doC, insC, List.cons_append, List.nil_append] at hldj hat
          simp (disch := omega) only [↓runPre, runPost, fieldO, ixA, cutA, lenA, aggA, rowA, appA, mkA, indA, bnd, srcA, sameOp, funcA, cvO, partA, aggD, ↓PostP, resV, resAll, resOne, resVF, resAllF, resOneF, fitsAll, fitsR, fits, frz, Post, Nat.reduceBEq, Nat.reduceLT, reduceCtorEq, ↓reduceIte, initS, AV.cellsOf, AV.fine, AV.one, repA, Nat.reduceMul, Nat.reduceAdd, Nat.reduceLeDiff, Nat.reduceEqDiff, Int.reduceToNat, Nat.reduceSub, Nat.reduceMod, Nat.reduceDiv, indexK.aggOf, Int.reducePow, Int.reduceLE, Int.reduceNeg, Int.reduceLT, Int.reduceBEq, Int.reduceBNe, Int.reduceEq, ownA, nilA, Try.facts, s5, s1, s27, s28, s29, s7, s8, s33, s34, s35, dT, dF, qT, qF, nT, nF, Bool.false_and, Bool.and_false, hldj, hlej, hOd]
          intro b2 hb20 hb2f
          cases B with
          | true =>
            obtain rfl : B2 = true := by rw [hat]; rfl
            simp (disch := omega) only [↓runPre, runPost, fieldO, ixA, cutA, lenA, aggA, rowA, appA, mkA, indA, bnd, srcA, sameOp, funcA, cvO, partA, aggD, ↓PostP, resV, resAll, resOne, resVF, resAllF, resOneF, fitsAll, fitsR, fits, frz, Post, Nat.reduceBEq, Nat.reduceLT, reduceCtorEq, ↓reduceIte, initS, AV.cellsOf, AV.fine, AV.one, repA, Nat.reduceMul, Nat.reduceAdd, Nat.reduceLeDiff, Nat.reduceEqDiff, Int.reduceToNat, Nat.reduceSub, Nat.reduceMod, Nat.reduceDiv, indexK.aggOf, Int.reducePow, Int.reduceLE, Int.reduceNeg, Int.reduceLT, Int.reduceBEq, Int.reduceBNe, Int.reduceEq, ownA, nilA, Try.facts, s5, s1, s27, s28, s29, s7, s8, s33, s34, s35, dT, dF, qT, qF, nT, nF, Bool.false_and, Bool.and_false, hldj, hlej, hOd, kill_box hb2f, putCells_eq, hj1]
            exact ⟨mj - 1, by omega, j + 1, by omega, by rw [← hB2], rfl⟩
          | false =>
            by_cases hk0 : kd = 0
            · obtain rfl : B2 = false := by rw [hat, hk0]; rfl
              simp (disch := omega) only [↓runPre, runPost, fieldO, ixA, cutA, lenA, aggA, rowA, appA, mkA, indA, bnd, srcA, sameOp, funcA, cvO, partA, aggD, ↓PostP, resV, resAll, resOne, resVF, resAllF, resOneF, fitsAll, fitsR, fits, frz, Post, Nat.reduceBEq, Nat.reduceLT, reduceCtorEq, ↓reduceIte, initS, AV.cellsOf, AV.fine, AV.one, repA, Nat.reduceMul, Nat.reduceAdd, Nat.reduceLeDiff, Nat.reduceEqDiff, Int.reduceToNat, Nat.reduceSub, Nat.reduceMod, Nat.reduceDiv, indexK.aggOf, Int.reducePow, Int.reduceLE, Int.reduceNeg, Int.reduceLT, Int.reduceBEq, Int.reduceBNe, Int.reduceEq, ownA, nilA, Try.facts, s5, s1, s27, s28, s29, s7, s8, s33, s34, s35, dT, dF, qT, qF, nT, nF, Bool.false_and, Bool.and_false, hldj, hlej, hOd, kill_box hb2f, putCells_eq, hj1]
              exact ⟨mj - 1, by omega, j + 1, by omega, by rw [← hB2], rfl⟩
            · by_cases hy0 : yd = 0
              · obtain rfl : B2 = false := by rw [hat, hy0]; simp
                simp (disch := omega) only [↓runPre, runPost, fieldO, ixA, cutA, lenA, aggA, rowA, appA, mkA, indA, bnd, srcA, sameOp, funcA, cvO, partA, aggD, ↓PostP, resV, resAll, resOne, resVF, resAllF, resOneF, fitsAll, fitsR, fits, frz, Post, Nat.reduceBEq, Nat.reduceLT, reduceCtorEq, ↓reduceIte, initS, AV.cellsOf, AV.fine, AV.one, repA, Nat.reduceMul, Nat.reduceAdd, Nat.reduceLeDiff, Nat.reduceEqDiff, Int.reduceToNat, Nat.reduceSub, Nat.reduceMod, Nat.reduceDiv, indexK.aggOf, Int.reducePow, Int.reduceLE, Int.reduceNeg, Int.reduceLT, Int.reduceBEq, Int.reduceBNe, Int.reduceEq, ownA, nilA, Try.facts, s5, s1, s27, s28, s29, s7, s8, s33, s34, s35, dT, dF, qT, qF, nT, nF, Bool.false_and, Bool.and_false, hldj, hlej, hOd, kill_box hb2f, putCells_eq, hj1]
                exact ⟨mj - 1, by omega, j + 1, by omega, by rw [← hB2], rfl⟩
              · by_cases e : ya = a ∧ yc = c
                · obtain ⟨rfl, rfl⟩ := e
                  obtain rfl : B2 = true := by rw [hat]; simp [hk0, hy0]
                  simp (disch := omega) only [↓runPre, runPost, fieldO, ixA, cutA, lenA, aggA, rowA, appA, mkA, indA, bnd, srcA, sameOp, funcA, cvO, partA, aggD, ↓PostP, resV, resAll, resOne, resVF, resAllF, resOneF, fitsAll, fitsR, fits, frz, Post, Nat.reduceBEq, Nat.reduceLT, reduceCtorEq, ↓reduceIte, initS, AV.cellsOf, AV.fine, AV.one, repA, Nat.reduceMul, Nat.reduceAdd, Nat.reduceLeDiff, Nat.reduceEqDiff, Int.reduceToNat, Nat.reduceSub, Nat.reduceMod, Nat.reduceDiv, indexK.aggOf, Int.reducePow, Int.reduceLE, Int.reduceNeg, Int.reduceLT, Int.reduceBEq, Int.reduceBNe, Int.reduceEq, ownA, nilA, Try.facts, s5, s1, s27, s28, s29, s7, s8, s33, s34, s35, dT, dF, qT, qF, nT, nF, Bool.false_and, Bool.and_false, hldj, hlej, hOd, kill_box hb2f, putCells_eq, hj1, beq_self_eq_true]
                  exact ⟨mj - 1, by omega, j + 1, by omega, by rw [← hB2], rfl⟩
                · obtain rfl : B2 = false := by rw [hat]; simp [e]
                  have hbq : ((ya == a) && (yc == c)) = false := by
                    rw [Bool.eq_false_iff]
                    intro h
                    simp only [Bool.and_eq_true, beq_iff_eq] at h
                    exact e h
                  simp (disch := omega) only [↓runPre, runPost, fieldO, ixA, cutA, lenA, aggA, rowA, appA, mkA, indA, bnd, srcA, sameOp, funcA, cvO, partA, aggD, ↓PostP, resV, resAll, resOne, resVF, resAllF, resOneF, fitsAll, fitsR, fits, frz, Post, Nat.reduceBEq, Nat.reduceLT, reduceCtorEq, ↓reduceIte, initS, AV.cellsOf, AV.fine, AV.one, repA, Nat.reduceMul, Nat.reduceAdd, Nat.reduceLeDiff, Nat.reduceEqDiff, Int.reduceToNat, Nat.reduceSub, Nat.reduceMod, Nat.reduceDiv, indexK.aggOf, Int.reducePow, Int.reduceLE, Int.reduceNeg, Int.reduceLT, Int.reduceBEq, Int.reduceBNe, Int.reduceEq, ownA, nilA, Try.facts, s5, s1, s27, s28, s29, s7, s8, s33, s34, s35, dT, dF, nT, nF, qT, qF, hldj, hlej, hOd, kill_box hb2f, putCells_eq, hj1, hbq]
                  exact ⟨mj - 1, by omega, j + 1, by omega, by rw [← hB2], rfl⟩
        · obtain rfl : j = O.length := by omega
          rw [List.take_length] at s8
          cases hB : O.any sd with
          | true =>
            rw [hB] at s8
            simp (disch := omega) only [↓runPre, runPost, fieldO, ixA, cutA, lenA, aggA, rowA, appA, mkA, indA, bnd, srcA, sameOp, funcA, cvO, partA, aggD, ↓PostP, resV, resAll, resOne, resVF, resAllF, resOneF, fitsAll, fitsR, fits, frz, Post, Nat.reduceBEq, Nat.reduceLT, reduceCtorEq, ↓reduceIte, initS, AV.cellsOf, AV.fine, AV.one, repA, Nat.reduceMul, Nat.reduceAdd, Nat.reduceLeDiff, Nat.reduceEqDiff, Int.reduceToNat, Nat.reduceSub, Nat.reduceMod, Nat.reduceDiv, indexK.aggOf, Int.reducePow, Int.reduceLE, Int.reduceNeg, Int.reduceLT, Int.reduceBEq, Int.reduceBNe, Int.reduceEq, ownA, nilA, Try.facts, s5, s1, s27, s28, s29, s7, s8, s33, s34, s35, dT, dF, qT, qF, nT, nF, Bool.false_and, Bool.and_false, hi1]
            exact ⟨mm - 1, by omega, i + 1, O, k, o, by omega, by omega, hu, hk0, hk, rfl, ho, rfl, rfl⟩
          | false =>
            rw [hB] at s8
            simp (disch := omega) only [↓runPre, runPost, fieldO, ixA, cutA, lenA, aggA, rowA, appA, mkA, indA, bnd, srcA, sameOp, funcA, cvO, partA, aggD, ↓PostP, resV, resAll, resOne, resVF, resAllF, resOneF, fitsAll, fitsR, fits, frz, Post, Nat.reduceBEq, Nat.reduceLT, reduceCtorEq, ↓reduceIte, initS, AV.cellsOf, AV.fine, AV.one, repA, Nat.reduceMul, Nat.reduceAdd, Nat.reduceLeDiff, Nat.reduceEqDiff, Int.reduceToNat, Nat.reduceSub, Nat.reduceMod, Nat.reduceDiv, indexK.aggOf, Int.reducePow, Int.reduceLE, Int.reduceNeg, Int.reduceLT, Int.reduceBEq, Int.reduceBNe, Int.reduceEq, ownA, nilA, Try.facts, s5, s1, s27, s28, s29, s7, s8, s33, s34, s35, dT, dF, qT, qF, nT, nF, Bool.false_and, Bool.and_false, hi1, ho, hOd, hsn]
            intro k2 o2 hk20 hk2 ho2
            exact ⟨mm - 1, by omega, i + 1, O2, k2, o2, by omega, by omega, hsu hB, hk20, subset_set hk2, rfl, by rw [hO1]; rw [hsl, hO1] at ho2; exact ho2, by rw [hO1], rfl⟩
    · obtain rfl : i = l.length := by omega
      simp (disch := omega) only [↓runPre, runPost, fieldO, ixA, cutA, lenA, aggA, rowA, appA, mkA, indA, bnd, srcA, sameOp, funcA, cvO, partA, aggD, ↓PostP, resV, resAll, resOne, resVF, resAllF, resOneF, fitsAll, fitsR, fits, frz, Post, Nat.reduceBEq, Nat.reduceLT, reduceCtorEq, ↓reduceIte, initS, AV.cellsOf, AV.fine, AV.one, repA, Nat.reduceMul, Nat.reduceAdd, Nat.reduceLeDiff, Nat.reduceEqDiff, Int.reduceToNat, Nat.reduceSub, Nat.reduceMod, Nat.reduceDiv, indexK.aggOf, Int.reducePow, Int.reduceLE, Int.reduceNeg, Int.reduceLT, Int.reduceBEq, Int.reduceBNe, Int.reduceEq, ownA, nilA, Try.facts, s5, s1, s27, s28, s29, dT, dF, qT, qF, nT, nF, Bool.false_and, Bool.and_false, hOd]
      intro kb hkb0 hkb k' hk'
      obtain ⟨hk'0, hk'1⟩ := own_next hkb0 hkb hk'
      rw [kill_box hkb]
      have hk'H := subset_set hk'1
      have hkk' := set_ne hk'1
      clear hk'
      refine loop_t (c := ⟨Try.prog, 125, [(21, [0, 0, 1, 0, 0, 0, 0, 1, 0, 0, 0, 0, 0]), (22, [0, 0, 0, 0, 0, 0, 0, 1, 0, 0, 0, 1, 0, 2, 0, 2]), (1000006, [7]), (1000010, [10]), (4000025, [4]), (4000024, [16, 17]), (4000022, [5, 11, 70, 71, 72]), (4000021, [5, 11, 14, 15, 70, 71, 72]), (4000019, [5, 11, 12, 13, 70, 71, 72]), (4000014, [1, 5, 27, 28, 29]), (4000011, [1, 5, 7, 8, 27, 28, 29, 33, 34, 35]), (4000001, [0, 1, 25])], [1000067, 1000069], []⟩) Try.mixed (by kernel_rfl) (fun mm σ H' => ∃ (j : Nat) (M : List DoT), j + mm = ts.length ∧ M.Perm O ∧ H' = (H.set k o).set k' (.cells (dosC M) 35 9) ∧
        σ 5 = .imm k (dosC O) O.length ∧ σ 11 = .own k' 0 O.length ∧ σ 70 = .imm 0 (intsC ts) ts.length ∧ σ 71 = .sc (.int .i64 ts.length) ∧ σ 72 = .sc (.int .i64 (j : Nat))) ts.length ?_ ?_
      · refine ⟨0, O, by omega, List.Perm.refl _, rfl, ?_⟩
        simp (disch := omega) only [↓runPre, runPost, fieldO, ixA, cutA, lenA, aggA, rowA, appA, mkA, indA, bnd, srcA, sameOp, funcA, cvO, partA, aggD, ↓PostP, resV, resAll, resOne, resVF, resAllF, resOneF, fitsAll, fitsR, fits, frz, Post, Nat.reduceBEq, Nat.reduceLT, reduceCtorEq, ↓reduceIte, initS, AV.cellsOf, AV.fine, AV.one, repA, Nat.reduceMul, Nat.reduceAdd, Nat.reduceLeDiff, Nat.reduceEqDiff, Int.reduceToNat, Nat.reduceSub, Nat.reduceMod, Nat.reduceDiv, indexK.aggOf, Int.reducePow, Int.reduceLE, Int.reduceNeg, Int.reduceLT, Int.reduceBEq, Int.reduceBNe, Int.reduceEq, ownA, nilA, Try.facts, s5]
        try rfl
      · clear s5 s1 s27 s28 s29
        rintro mm σ H' ⟨j, M, hjm, hp, rfl, s5, s11, s70, s71, s72⟩
        have hMl := hp.length_eq
        have hMd := dosC_length M
        rw [hMl] at hMd
        have hj1 : ((j : Nat) : Int) + 1 = ((j + 1 : Nat) : Int) := rfl
        by_cases hlt : j < ts.length
        · have hg := intsC_get hlt
          have hjit : j < (intsC ts).length := by omega
          generalize ts[j] = n at *
          by_cases hO : O.length = 0
          · simp (disch := omega) only [↓runPre, runPost, fieldO, ixA, cutA, lenA, aggA, rowA, appA, mkA, indA, bnd, srcA, sameOp, funcA, cvO, partA, aggD, ↓PostP, resV, resAll, resOne, resVF, resAllF, resOneF, fitsAll, fitsR, fits, frz, Post, Nat.reduceBEq, Nat.reduceLT, reduceCtorEq, ↓reduceIte, initS, AV.cellsOf, AV.fine, AV.one, repA, Nat.reduceMul, Nat.reduceAdd, Nat.reduceLeDiff, Nat.reduceEqDiff, Int.reduceToNat, Nat.reduceSub, Nat.reduceMod, Nat.reduceDiv, indexK.aggOf, Int.reducePow, Int.reduceLE, Int.reduceNeg, Int.reduceLT, Int.reduceBEq, Int.reduceBNe, Int.reduceEq, ownA, nilA, Try.facts, s5, s11, s70, s71, s72, dT, dF, qT, qF, nT, nF, Bool.false_and, Bool.and_false, hg, hit, hMd, hj1]
            exact ⟨mm - 1, by omega, j + 1, M, by omega, hp, rfl, rfl⟩
          · obtain ⟨w, hw⟩ : ∃ w : Nat, IntKind.u64.wrap n = (w : Int) := ⟨(IntKind.u64.wrap n).toNat, by rw [IntKind.wrap_u64]; omega⟩
            have tp : ((j : Nat) : Int).tmod ((O.length : Nat) : Int) = ((j % O.length : Nat) : Int) := rfl
            have tq : ((w : Nat) : Int).tmod ((O.length : Nat) : Int) = ((w % O.length : Nat) : Int) := rfl
            have hpl : j % O.length < O.length := Nat.mod_lt _ (by omega)
            have hql : w % O.length < O.length := Nat.mod_lt _ (by omega)
            have wq : IntKind.i64.wrap ((w % O.length : Nat) : Int) = ((w % O.length : Nat) : Int) := wcast64 (by omega)
            generalize j % O.length = p at *
            generalize w % O.length = q at *
            have hpM : p < M.length := by omega
            have hqM : q < M.length := by omega
            have ldp := dosC_load hpM
            have ldq := dosC_load hqM
            have put1 := dosC_put (k := M[q]) hpM
            have put2 := dosC_put (l := M.set p M[q]) (k := M[p]) (show q < _ by rw [List.length_set]; exact hqM)
            have hperm : ((M.set p M[q]).set q M[p]).Perm O := (List.set_set_perm hpM hqM).trans hp
            have hM1 := dosC_length (M.set p M[q])
            rw [List.length_set, hMl] at hM1
            have lep : p * 9 + 9 ≤ O.length * 9 := by omega
            have leq : q * 9 + 9 ≤ O.length * 9 := by omega
            generalize M[p] = x at *
            generalize M[q] = y at *
            generalize M.set p y = M1 at *
            generalize M1.set q x = M2 at *
            obtain ⟨xd, ⟨⟨xa, xc⟩, ⟨xp, xq⟩, xr, xu⟩, ⟨x1, x2⟩⟩ := x
            obtain ⟨yd, ⟨⟨ya, yc⟩, ⟨yp, yq⟩, yr, yu⟩, ⟨y1, y2⟩⟩ := y
            simp only [doC, insC, List.cons_append, List.nil_append] at ldp ldq put1 put2
            simp (disch := omega) only [↓runPre, runPost, fieldO, ixA, cutA, lenA, aggA, rowA, appA, mkA, indA, bnd, srcA, sameOp, funcA, cvO, partA, aggD, ↓PostP, resV, resAll, resOne, resVF, resAllF, resOneF, fitsAll, fitsR, fits, frz, Post, Nat.reduceBEq, Nat.reduceLT, reduceCtorEq, ↓reduceIte, initS, AV.cellsOf, AV.fine, AV.one, repA, Nat.reduceMul, Nat.reduceAdd, Nat.reduceLeDiff, Nat.reduceEqDiff, Int.reduceToNat, Nat.reduceSub, Nat.reduceMod, Nat.reduceDiv, indexK.aggOf, Int.reducePow, Int.reduceLE, Int.reduceNeg, Int.reduceLT, Int.reduceBEq, Int.reduceBNe, Int.reduceEq, ownA, nilA, Try.facts, s5, s11, s70, s71, s72, dT, dF, qT, qF, nT, nF, Bool.false_and, Bool.and_false, hg, hit, hMd, hM1, hj1, hw, tp, tq, wq, ↓wcastU, lep, leq, ldp, ldq, put1, put2]
            exact ⟨mm - 1, by omega, j + 1, M2, by omega, hperm, rfl, rfl⟩
        · obtain rfl : j = ts.length := by omega
          have hc := converges (D := O) (D' := M) (by omega) hp hu
          have hs1 := fun H' => settled_live H' O (by omega)
          have hs2 := fun H' => settled_live H' M (by omega)
          generalize rounds O (O.length + 1) = S1 at *
          generalize rounds M (M.length + 1) = S2 at *
          obtain ⟨L1, G1⟩ := S1
          obtain ⟨L2, G2⟩ := S2
          simp only [] at hs1 hs2 hc
          have hsub0 : Abs.Sub H ((H.set k o).set k' (.cells (dosC M) 35 9)) := ((Abs.Sub.refl H).set_free hk).set_free hk'H
          have hrow : ((H.set k o).set k' (.cells (dosC M) 35 9)) k' = some (.cells (dosC M) 35 9) := set_get
          simp (disch := omega) only [↓runPre, runPost, fieldO, ixA, cutA, lenA, aggA, rowA, appA, mkA, indA, bnd, srcA, sameOp, funcA, cvO, partA, aggD, ↓PostP, resV, resAll, resOne, resVF, resAllF, resOneF, fitsAll, fitsR, fits, frz, Post, Nat.reduceBEq, Nat.reduceLT, reduceCtorEq, ↓reduceIte, initS, AV.cellsOf, AV.fine, AV.one, repA, Nat.reduceMul, Nat.reduceAdd, Nat.reduceLeDiff, Nat.reduceEqDiff, Int.reduceToNat, Nat.reduceSub, Nat.reduceMod, Nat.reduceDiv, indexK.aggOf, Int.reducePow, Int.reduceLE, Int.reduceNeg, Int.reduceLT, Int.reduceBEq, Int.reduceBNe, Int.reduceEq, ownA, nilA, Try.facts, s5, s11, s70, s71, s72, dT, dF, qT, qF, nT, nF, Bool.false_and, Bool.and_false]
          generalize (H.set k o).set k' (.cells (dosC M) 35 9) = HA at *
          refine CallK.i (hs1 _) ?_
          rintro v E ⟨h1, m1, rfl, hh1, hm1, hE, t1⟩
          have hrowE := hE _ _ hrow
          have hHE : Abs.Sub H E := fun y o hy => hE _ _ (hsub0 _ _ hy)
          have hHK : Abs.Sub H (E.kill k') := hHE.kill_free hk'H
          have q1 : ¬ h1 = k' := fun e => by subst e; rw [hrow] at hh1; cases hh1
          have q2 : ¬ m1 = k' := fun e => by subst e; rw [hrow] at hm1; cases hm1
          have t1K : IsT (E.kill k') h1 m1 L1 G1 := ⟨by rw [kill_other q1]; exact t1.hi, by rw [kill_other q2]; exact t1.hm, t1.g, t1.gs, t1.gn, t1.small⟩
          try simp (disch := omega) only [↓runPre, runPost, fieldO, ixA, cutA, lenA, aggA, rowA, appA, mkA, indA, bnd, srcA, sameOp, funcA, cvO, partA, aggD, ↓PostP, resV, resAll, resOne, resVF, resAllF, resOneF, fitsAll, fitsR, fits, frz, Post, Nat.reduceBEq, Nat.reduceLT, reduceCtorEq, ↓reduceIte, initS, AV.cellsOf, AV.fine, AV.one, repA, Nat.reduceMul, Nat.reduceAdd, Nat.reduceLeDiff, Nat.reduceEqDiff, Int.reduceToNat, Nat.reduceSub, Nat.reduceMod, Nat.reduceDiv, indexK.aggOf, Int.reducePow, Int.reduceLE, Int.reduceNeg, Int.reduceLT, Int.reduceBEq, Int.reduceBNe, Int.reduceEq, ownA, nilA, Try.facts, s5, s11, s70, s71, s72, dT, dF, qT, qF, nT, nF, Bool.false_and, Bool.and_false]
          have hgive := (hs2 (E.kill k'))
          rw [hMl] at hgive
          refine CallK.i (ACalls.give1 hrowE (by omega) (by rw [List.take_of_length_le (by omega)]; exact hgive)) ?_
          rintro v E2 ⟨h2, m2, rfl, hh2, hm2, hE2, t2⟩
          have t1F := t1K.mono hE2
          have hHF : Abs.Sub H E2 := fun y o hy => hE2 _ _ (hHK _ _ hy)
          have hn1 := nodes_live _ h1 m1 L1 G1 t1F
          have hn2 := nodes_live _ h2 m2 L2 G2 t2
          have hx1 := text_live _ h1 m1 L1 G1 t1F
          have hx2 := text_live _ h2 m2 L2 G2 t2
          have hnl := nodes_le G1 t1F.g.nd (by have := t1F.small; omega)
          rw [← hc] at hn2 hx2
          have hsm := same_pure (nodes L1 G1) (nodes L1 G1) hnl hnl
          rw [dT rfl] at hsm
          try simp (disch := omega) only [↓runPre, runPost, fieldO, ixA, cutA, lenA, aggA, rowA, appA, mkA, indA, bnd, srcA, sameOp, funcA, cvO, partA, aggD, ↓PostP, resV, resAll, resOne, resVF, resAllF, resOneF, fitsAll, fitsR, fits, frz, Post, Nat.reduceBEq, Nat.reduceLT, reduceCtorEq, ↓reduceIte, initS, AV.cellsOf, AV.fine, AV.one, repA, Nat.reduceMul, Nat.reduceAdd, Nat.reduceLeDiff, Nat.reduceEqDiff, Int.reduceToNat, Nat.reduceSub, Nat.reduceMod, Nat.reduceDiv, indexK.aggOf, Int.reducePow, Int.reduceLE, Int.reduceNeg, Int.reduceLT, Int.reduceBEq, Int.reduceBNe, Int.reduceEq, ownA, nilA, Try.facts, s5, s11, s70, s71, s72, dT, dF, qT, qF, nT, nF, Bool.false_and, Bool.and_false]
          refine CallK.i hn1 ?_
          rintro v F ⟨rfl, rfl⟩
          try simp (disch := omega) only [↓runPre, runPost, fieldO, ixA, cutA, lenA, aggA, rowA, appA, mkA, indA, bnd, srcA, sameOp, funcA, cvO, partA, aggD, ↓PostP, resV, resAll, resOne, resVF, resAllF, resOneF, fitsAll, fitsR, fits, frz, Post, Nat.reduceBEq, Nat.reduceLT, reduceCtorEq, ↓reduceIte, initS, AV.cellsOf, AV.fine, AV.one, repA, Nat.reduceMul, Nat.reduceAdd, Nat.reduceLeDiff, Nat.reduceEqDiff, Int.reduceToNat, Nat.reduceSub, Nat.reduceMod, Nat.reduceDiv, indexK.aggOf, Int.reducePow, Int.reduceLE, Int.reduceNeg, Int.reduceLT, Int.reduceBEq, Int.reduceBNe, Int.reduceEq, ownA, nilA, Try.facts]
          refine CallK.i hn2 ?_
          rintro v F ⟨rfl, rfl⟩
          try simp (disch := omega) only [↓runPre, runPost, fieldO, ixA, cutA, lenA, aggA, rowA, appA, mkA, indA, bnd, srcA, sameOp, funcA, cvO, partA, aggD, ↓PostP, resV, resAll, resOne, resVF, resAllF, resOneF, fitsAll, fitsR, fits, frz, Post, Nat.reduceBEq, Nat.reduceLT, reduceCtorEq, ↓reduceIte, initS, AV.cellsOf, AV.fine, AV.one, repA, Nat.reduceMul, Nat.reduceAdd, Nat.reduceLeDiff, Nat.reduceEqDiff, Int.reduceToNat, Nat.reduceSub, Nat.reduceMod, Nat.reduceDiv, indexK.aggOf, Int.reducePow, Int.reduceLE, Int.reduceNeg, Int.reduceLT, Int.reduceBEq, Int.reduceBNe, Int.reduceEq, ownA, nilA, Try.facts]
          first | refine CallK.p (hsm) ?_ | refine CallP.i (hsm) ?_
          simp (disch := omega) only [↓runPre, runPost, fieldO, ixA, cutA, lenA, aggA, rowA, appA, mkA, indA, bnd, srcA, sameOp, funcA, cvO, partA, aggD, ↓PostP, resV, resAll, resOne, resVF, resAllF, resOneF, fitsAll, fitsR, fits, frz, Post, Nat.reduceBEq, Nat.reduceLT, reduceCtorEq, ↓reduceIte, initS, AV.cellsOf, AV.fine, AV.one, repA, Nat.reduceMul, Nat.reduceAdd, Nat.reduceLeDiff, Nat.reduceEqDiff, Int.reduceToNat, Nat.reduceSub, Nat.reduceMod, Nat.reduceDiv, indexK.aggOf, Int.reducePow, Int.reduceLE, Int.reduceNeg, Int.reduceLT, Int.reduceBEq, Int.reduceBNe, Int.reduceEq, ownA, nilA, Try.facts]
          refine CallK.i hx1 ?_
          rintro v F ⟨rfl, rfl⟩
          try simp (disch := omega) only [↓runPre, runPost, fieldO, ixA, cutA, lenA, aggA, rowA, appA, mkA, indA, bnd, srcA, sameOp, funcA, cvO, partA, aggD, ↓PostP, resV, resAll, resOne, resVF, resAllF, resOneF, fitsAll, fitsR, fits, frz, Post, Nat.reduceBEq, Nat.reduceLT, reduceCtorEq, ↓reduceIte, initS, AV.cellsOf, AV.fine, AV.one, repA, Nat.reduceMul, Nat.reduceAdd, Nat.reduceLeDiff, Nat.reduceEqDiff, Int.reduceToNat, Nat.reduceSub, Nat.reduceMod, Nat.reduceDiv, indexK.aggOf, Int.reducePow, Int.reduceLE, Int.reduceNeg, Int.reduceLT, Int.reduceBEq, Int.reduceBNe, Int.reduceEq, ownA, nilA, Try.facts]
          refine CallK.i hx2 ?_
          rintro v F ⟨rfl, rfl⟩
          simp (disch := omega) only [↓runPre, runPost, fieldO, ixA, cutA, lenA, aggA, rowA, appA, mkA, indA, bnd, srcA, sameOp, funcA, cvO, partA, aggD, ↓PostP, resV, resAll, resOne, resVF, resAllF, resOneF, fitsAll, fitsR, fits, frz, Post, Nat.reduceBEq, Nat.reduceLT, reduceCtorEq, ↓reduceIte, initS, AV.cellsOf, AV.fine, AV.one, repA, Nat.reduceMul, Nat.reduceAdd, Nat.reduceLeDiff, Nat.reduceEqDiff, Int.reduceToNat, Nat.reduceSub, Nat.reduceMod, Nat.reduceDiv, indexK.aggOf, Int.reducePow, Int.reduceLE, Int.reduceNeg, Int.reduceLT, Int.reduceBEq, Int.reduceBNe, Int.reduceEq, ownA, nilA, Try.facts, beq_self_eq_true]
          first | refine CallK.p (haw) ?_ | refine CallP.i (haw) ?_
          simp (disch := omega) only [↓runPre, runPost, fieldO, ixA, cutA, lenA, aggA, rowA, appA, mkA, indA, bnd, srcA, sameOp, funcA, cvO, partA, aggD, ↓PostP, resV, resAll, resOne, resVF, resAllF, resOneF, fitsAll, fitsR, fits, frz, Post, Nat.reduceBEq, Nat.reduceLT, reduceCtorEq, ↓reduceIte, initS, AV.cellsOf, AV.fine, AV.one, repA, Nat.reduceMul, Nat.reduceAdd, Nat.reduceLeDiff, Nat.reduceEqDiff, Int.reduceToNat, Nat.reduceSub, Nat.reduceMod, Nat.reduceDiv, indexK.aggOf, Int.reducePow, Int.reduceLE, Int.reduceNeg, Int.reduceLT, Int.reduceBEq, Int.reduceBNe, Int.reduceEq, ownA, nilA, Try.facts]
          exact hHF
end Go.Proofs.Ytpmmafmbjconiaa
