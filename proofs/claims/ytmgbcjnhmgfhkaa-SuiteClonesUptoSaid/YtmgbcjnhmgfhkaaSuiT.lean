/-
  The walks of the suite layer: a question to both.
  Conditions: none. Lemmas only.
-/
import Derived.Test.YtmgbcjnhmgfhkaaSuiS
set_option linter.all false
set_option linter.unusedSimpArgs false
set_option linter.unusedVariables false
set_option maxRecDepth 8000
set_option maxHeartbeats 4000000
namespace Go.Proofs.Ytmgbcjnhmgfhkaa
open Go Go.Abs Go.Proofs

/-- what is told, in a row of the caller's, or nothing -/
def GotR (H0 : AH) (h m d : Nat) (ts : List Term) (l : List UInt8) (r : AV) (H' : AH) : Prop :=
  (l = [] ∧ r = .imm 0 [] 0 ∧ SS H0 H' h m d ts) ∨ GiveR H0 h m d ts l r H'
def AskedR (H0 : AH) (h m d : Nat) (ts : List Term) (l : List UInt8) (v : AV) (H' : AH) : Prop :=
  ∃ r, v = .tup [vaultV ts d, r, bytesV l, .sc (.bool true)] ∧ GotR H0 h m d ts l r H'
theorem two_less {H0 : AH} {k5 k8 : Nat} {o5 o8 : AObj} (n5 : H0 k5 = none) (n8 : H0 k8 = none) : Abs.Sub H0 ((((H0.set k5 o5).set k8 o8).kill k5).kill k8) := fun x o hx => by
  have h5 : ¬ x = k5 := by rintro rfl; rw [n5] at hx; cases hx
  have h8 : ¬ x = k8 := by rintro rfl; rw [n8] at hx; cases hx
  rw [kill_other h8, kill_other h5, set_other h8, set_other h5]
  exact hx
theorem two_kill {H0 H2 : AH} {h m d : Nat} {ts : List Term} {k5 k8 : Nat} {o5 o8 : AObj} (s2 : SS ((H0.set k5 o5).set k8 o8) H2 h m d ts) (n5 : H0 k5 = none) (n8 : H0 k8 = none) (n58 : ¬ k5 = k8) : SS H0 ((H2.kill k5).kill k8) h m d ts := by
  have b5 : ((H0.set k5 o5).set k8 o8) k5 = some o5 := by rw [set_other n58, set_get]
  have b8 : (((H0.set k5 o5).set k8 o8).kill k5) k8 = some o8 := by rw [kill_other (fun e => n58 e.symm), set_get]
  exact ((s2.kill b5).kill b8).less (two_less n5 n8)
theorem asked_end {H0 H2 : AH} {h m d : Nat} {ts : List Term} {k5 k8 kk : Nat} {o5 o8 o5' o8' : AObj} (s2 : SS ((H0.set k5 o5).set k8 o8) H2 h m d ts) (n5 : H0 k5 = none) (n8 : H0 k8 = none) (n58 : ¬ k5 = k8) (hkk0 : kk ≠ 0) (hkk : H2 kk = none) (l : List UInt8) :
    ∃ H', Abs.Sub H' (((H2.set kk (.cells (encB l) 5 1)).set k5 o5').set k8 o8') ∧ GiveR H0 h m d ts l (.own kk 0 l.length) H' := by
  have l5 : H2 k5 = some o5 := s2.sub k5 o5 (by rw [set_other n58, set_get])
  have l8 : H2 k8 = some o8 := s2.sub k8 o8 set_get
  have m5 := ne_live l5 hkk
  have m8 := ne_live l8 hkk
  have hk2 : ((H2.kill k5).kill k8) kk = none := by rw [kill_other (fun e => m8 e.symm), kill_other (fun e => m5 e.symm)]; exact hkk
  refine ⟨((H2.kill k5).kill k8).set kk (.cells (encB l) 5 1), fun x o hx => ?_, (H2.kill k5).kill k8, two_kill s2 n5 n8 n58, kk, hkk0, hk2, rfl, rfl⟩
  by_cases hxk : x = kk
  · subst hxk
    rw [set_get] at hx
    rw [set_other (fun e => m8 e.symm), set_other (fun e => m5 e.symm), set_get]
    exact hx
  · rw [set_other hxk] at hx
    have h8 : ¬ x = k8 := by rintro rfl; simp [AH.kill] at hx
    have h5 : ¬ x = k5 := by rintro rfl; simp [AH.kill] at hx
    rw [kill_other h8, kill_other h5] at hx
    rw [set_other h8, set_other h5, set_other hxk]
    exact hx
theorem asked_end0 {H0 H2 : AH} {h m d : Nat} {ts : List Term} {k5 k8 : Nat} {o5 o8 o5' o8' : AObj} (s2 : SS ((H0.set k5 o5).set k8 o8) H2 h m d ts) (n5 : H0 k5 = none) (n8 : H0 k8 = none) (n58 : ¬ k5 = k8) :
    ∃ H', Abs.Sub H' ((H2.set k5 o5').set k8 o8') ∧ SS H0 H' h m d ts := by
  refine ⟨(H2.kill k5).kill k8, fun x o hx => ?_, two_kill s2 n5 n8 n58⟩
  have h8 : ¬ x = k8 := by rintro rfl; simp [AH.kill] at hx
  have h5 : ¬ x = k5 := by rintro rfl; simp [AH.kill] at hx
  rw [kill_other h8, kill_other h5] at hx
  rw [set_other h8, set_other h5]
  exact hx
theorem asked_end1 {H0 H2 : AH} {h m d : Nat} {ts : List Term} {k5 k8 : Nat} {o5 o8 o8' : AObj} (s2 : SS ((H0.set k5 o5).set k8 o8) H2 h m d ts) (n5 : H0 k5 = none) (n8 : H0 k8 = none) (n58 : ¬ k5 = k8) :
    ∃ H', Abs.Sub H' (H2.set k8 o8') ∧ SS H0 H' h m d ts := by
  obtain ⟨H', h1, h2⟩ := asked_end0 (o5' := o5) (o8' := o8') s2 n5 n8 n58
  have l5 : H2 k5 = some o5 := s2.sub k5 o5 (by rw [set_other n58, set_get])
  refine ⟨H', fun x o hx => ?_, h2⟩
  have := h1 x o hx
  by_cases h8 : x = k8
  · subst h8; rw [set_get] at this ⊢; exact this
  · rw [set_other h8] at this ⊢
    by_cases h5 : x = k5
    · subst h5; rw [set_get] at this; rw [l5]; exact this
    · rw [set_other h5] at this; exact this
theorem asked_end2 {H0 H2 : AH} {h m d : Nat} {ts : List Term} {k5 k8 kk : Nat} {o5 o8 o8' : AObj} (s2 : SS ((H0.set k5 o5).set k8 o8) H2 h m d ts) (n5 : H0 k5 = none) (n8 : H0 k8 = none) (n58 : ¬ k5 = k8) (hkk0 : kk ≠ 0) (hkk : H2 kk = none) (l : List UInt8) :
    ∃ H', Abs.Sub H' ((H2.set kk (.cells (encB l) 5 1)).set k8 o8') ∧ GiveR H0 h m d ts l (.own kk 0 l.length) H' := by
  obtain ⟨H', h1, h2⟩ := asked_end (o5' := o5) (o8' := o8') s2 n5 n8 n58 hkk0 hkk l
  have l5 : H2 k5 = some o5 := s2.sub k5 o5 (by rw [set_other n58, set_get])
  have m5 := ne_live l5 hkk
  refine ⟨H', fun x o hx => ?_, h2⟩
  have := h1 x o hx
  by_cases h8 : x = k8
  · subst h8; rw [set_get] at this ⊢; exact this
  · rw [set_other h8] at this ⊢
    by_cases h5 : x = k5
    · subst h5; rw [set_get] at this; rw [set_other m5, l5]; exact this
    · rw [set_other h5] at this; exact this

theorem asked_hash (H0 H : AH) (h m d : Nat) (ts : List Term) (k : AskT) (l : List (List UInt8)) (a b c : List UInt8) (hl : l.length ≤ 1000000) (ha : k.a.of l = a) (hb : k.b.of l = b) (hc : k.c.of l = c)
    (ha0 : a.length ≤ 100000000) (hb0 : b.length ≤ 100000000) (hc0 : c.length ≤ 100000000) (hka : -9223372036854775808 ≤ k.a.from_ ∧ k.a.from_ < 9223372036854775808) (hkb : -9223372036854775808 ≤ k.b.from_ ∧ k.b.from_ < 9223372036854775808) (hkc : -9223372036854775808 ≤ k.c.from_ ∧ k.c.from_ < 9223372036854775808)
    (hg : GT 1000000 ts) (hd : d ≤ 1000000) (s : SS H0 H h m d ts) (hk : k.kind = 1) : ACalls Try.prog 17 [.ptr h 0, vaultV ts d, .agg (askC k), rowsV l] H
      (AskedR H0 h m d (numT ts ⟨104, [a]⟩).1 (nameT ⟨104, [a]⟩ (numT ts ⟨104, [a]⟩).2)) := by
  have pa := of_pure k.a l hka hl
  have pb := of_pure k.b l hkb hl
  have pc := of_pure k.c l hkc hl
  have oa := own_pure a (by omega)
  have ob := own_pure b (by omega)
  have oc := own_pure c (by omega)
  rw [ha] at pa
  rw [hb] at pb
  rw [hc] at pc
  have hq := fun (B B' : AH) (ss : SS B B' h m d ts) => hash_give a ⟨fun h => absurd h (by simp), by simp, by simp; omega⟩ hg ss
  have hv := vhash_pure ts d a ⟨fun h => absurd h (by simp), by simp, by simp; omega⟩ (fun x hx => (hg.wf x hx).1) hg.len
  generalize (numT ts ⟨104, [a]⟩).1 = Z1 at *
  generalize nameT ⟨104, [a]⟩ (numT ts ⟨104, [a]⟩).2 = Z2 at *
  obtain ⟨kd, n, ⟨fa, ra⟩, ⟨fb, rb⟩, ⟨fc, rc⟩⟩ := k
  simp only [askC] at *
  subst hk
  clear ha hb hc hka hkb hkc
  refine acalls_of_cwp (c := ⟨Try.prog, 225, [(1, [0, 1, 0, 0, 0, 1, 0, 0, 0, 1, 0, 0, 0, 0, 0]), (30, [0, 0, 0, 0, 1, 1, 0, 0, 0, 0, 0, 0]), (38, [1, 0, 0, 0, 0, 0, 0, 0, 0, 0, 0, 0, 0, 0, 0, 0, 0, 0, 0, 0, 0, 0, 0, 0, 0, 2, 0, 0, 0]), (1000000, [6]), (1000017, [23]), (4000038, [8, 9, 10, 11]), (4000008, [5, 8, 12, 13, 14, 15, 16, 17, 18, 19, 20]), (4000011, [5, 8, 12, 13, 14, 15, 16, 17, 18, 19, 20]), (4000014, [5, 8, 12, 13, 14, 15, 16, 17, 18, 19, 20]), (4000019, [5, 8, 12, 13, 14, 15, 16, 17, 18, 19, 20]), (4000017, [5, 8, 12, 13, 14, 15, 16, 17, 21, 22, 23, 24, 25]), (4000016, [5, 8, 12, 13, 14, 15, 16, 17, 21, 22]), (4000022, [5, 8, 12, 13, 14, 15, 16, 17, 18, 19, 20]), (4000021, [5, 8, 12, 13, 14, 15, 16, 17, 18, 20]), (4000025, [5, 8, 12, 13, 14, 15, 16, 17, 18, 19, 20]), (4000028, [5, 8, 12, 13, 14, 15, 16, 17, 18, 19, 20]), (4000027, [5, 8, 12, 13, 14, 15, 16, 17, 18, 20]), (4000030, [5, 8, 12, 13, 14, 15, 16, 17, 18, 19, 20]), (4000033, [5, 8, 12, 13, 14, 15, 16, 17, 18, 19, 20]), (4000032, [5, 6, 8, 12, 13, 14, 15, 16, 17, 18, 20]), (4000037, [5, 8, 12, 13, 14, 15, 16, 17, 18, 19, 20]), (4000036, [5, 8, 12, 13, 14, 15, 16, 17, 26, 27, 28, 29]), (4000035, [5, 6, 8, 12, 13, 14, 15, 16, 17, 26, 27]), (4000002, [0, 5, 6, 8, 12, 13, 14, 15, 16, 17]), (4000001, [0, 5, 6, 8, 12, 13, 14]), (4000000, [0, 3, 5, 6, 8])], [], []⟩) (rs := [ResultVar.cell 8 38, ResultVar.tmp 9, ResultVar.tmp 10, ResultVar.tmp 11]) Try.mixed Try.func17 rfl rfl rfl (Nat.le_of_ble_eq_true rfl) (by kernel_rfl) ?_
  simp (disch := omega) only [↓runPre, runPost, fieldO, ixA, cutA, lenA, aggA, rowA, appA, mkA, indA, bnd, srcA, sameOp, funcA, cvO, partA, aggD, ↓PostP, resV, resAll, resOne, resVF, resAllF, resOneF, fitsAll, fitsR, fits, frz, Post, Nat.reduceBEq, Nat.reduceLT, reduceCtorEq, ↓reduceIte, initS, AV.cellsOf, AV.fine, AV.one, repA, Nat.reduceMul, Nat.reduceAdd, Nat.reduceLeDiff, Nat.reduceEqDiff, Int.reduceToNat, Nat.reduceSub, Nat.reduceMod, Nat.reduceDiv, indexK.aggOf, Int.reducePow, Int.reduceLE, Int.reduceNeg, Int.reduceLT, Int.reduceBEq, Int.reduceBNe, Int.reduceEq, ownA, nilA, Try.facts]
  intro k5 hk50 hk5 k6 hk60 hk6 k8 hk80 hk8
  have n68 := set_ne hk8
  have n58 := set_ne (subset_set hk8)
  have hk8H := subset_set (subset_set hk8)
  have n5 := s.sub.free hk5
  have n8 := s.sub.free hk8H
  have s1 := (s.box (o := .cells [.imm 0 (termsC ts) ts.length, .sc (.int .i64 d)] 38 2) hk5).box (o := .cells [.sc (.slice none 0 0), .sc (.int .i64 0)] 38 2) (subset_set hk8)
  simp (disch := omega) only [↓runPre, runPost, fieldO, ixA, cutA, lenA, aggA, rowA, appA, mkA, indA, bnd, srcA, sameOp, funcA, cvO, partA, aggD, ↓PostP, resV, resAll, resOne, resVF, resAllF, resOneF, fitsAll, fitsR, fits, frz, Post, Nat.reduceBEq, Nat.reduceLT, reduceCtorEq, ↓reduceIte, initS, AV.cellsOf, AV.fine, AV.one, repA, Nat.reduceMul, Nat.reduceAdd, Nat.reduceLeDiff, Nat.reduceEqDiff, Int.reduceToNat, Nat.reduceSub, Nat.reduceMod, Nat.reduceDiv, indexK.aggOf, Int.reducePow, Int.reduceLE, Int.reduceNeg, Int.reduceLT, Int.reduceBEq, Int.reduceBNe, Int.reduceEq, ownA, nilA, Try.facts, set_other, kill_under hk6 n68]
  first | refine CallK.p (pa) ?_ | refine CallP.i (pa) ?_
  simp (disch := omega) only [↓runPre, runPost, fieldO, ixA, cutA, lenA, aggA, rowA, appA, mkA, indA, bnd, srcA, sameOp, funcA, cvO, partA, aggD, ↓PostP, resV, resAll, resOne, resVF, resAllF, resOneF, fitsAll, fitsR, fits, frz, Post, Nat.reduceBEq, Nat.reduceLT, reduceCtorEq, ↓reduceIte, initS, AV.cellsOf, AV.fine, AV.one, repA, Nat.reduceMul, Nat.reduceAdd, Nat.reduceLeDiff, Nat.reduceEqDiff, Int.reduceToNat, Nat.reduceSub, Nat.reduceMod, Nat.reduceDiv, indexK.aggOf, Int.reducePow, Int.reduceLE, Int.reduceNeg, Int.reduceLT, Int.reduceBEq, Int.reduceBNe, Int.reduceEq, ownA, nilA, Try.facts]
  first | refine CallK.p (pb) ?_ | refine CallP.i (pb) ?_
  simp (disch := omega) only [↓runPre, runPost, fieldO, ixA, cutA, lenA, aggA, rowA, appA, mkA, indA, bnd, srcA, sameOp, funcA, cvO, partA, aggD, ↓PostP, resV, resAll, resOne, resVF, resAllF, resOneF, fitsAll, fitsR, fits, frz, Post, Nat.reduceBEq, Nat.reduceLT, reduceCtorEq, ↓reduceIte, initS, AV.cellsOf, AV.fine, AV.one, repA, Nat.reduceMul, Nat.reduceAdd, Nat.reduceLeDiff, Nat.reduceEqDiff, Int.reduceToNat, Nat.reduceSub, Nat.reduceMod, Nat.reduceDiv, indexK.aggOf, Int.reducePow, Int.reduceLE, Int.reduceNeg, Int.reduceLT, Int.reduceBEq, Int.reduceBNe, Int.reduceEq, ownA, nilA, Try.facts]
  first | refine CallK.p (pc) ?_ | refine CallP.i (pc) ?_
  simp (disch := omega) only [↓runPre, runPost, fieldO, ixA, cutA, lenA, aggA, rowA, appA, mkA, indA, bnd, srcA, sameOp, funcA, cvO, partA, aggD, ↓PostP, resV, resAll, resOne, resVF, resAllF, resOneF, fitsAll, fitsR, fits, frz, Post, Nat.reduceBEq, Nat.reduceLT, reduceCtorEq, ↓reduceIte, initS, AV.cellsOf, AV.fine, AV.one, repA, Nat.reduceMul, Nat.reduceAdd, Nat.reduceLeDiff, Nat.reduceEqDiff, Int.reduceToNat, Nat.reduceSub, Nat.reduceMod, Nat.reduceDiv, indexK.aggOf, Int.reducePow, Int.reduceLE, Int.reduceNeg, Int.reduceLT, Int.reduceBEq, Int.reduceBNe, Int.reduceEq, ownA, nilA, Try.facts]
  first | refine CallK.p (oa) ?_ | refine CallP.i (oa) ?_
  simp (disch := omega) only [↓runPre, runPost, fieldO, ixA, cutA, lenA, aggA, rowA, appA, mkA, indA, bnd, srcA, sameOp, funcA, cvO, partA, aggD, ↓PostP, resV, resAll, resOne, resVF, resAllF, resOneF, fitsAll, fitsR, fits, frz, Post, Nat.reduceBEq, Nat.reduceLT, reduceCtorEq, ↓reduceIte, initS, AV.cellsOf, AV.fine, AV.one, repA, Nat.reduceMul, Nat.reduceAdd, Nat.reduceLeDiff, Nat.reduceEqDiff, Int.reduceToNat, Nat.reduceSub, Nat.reduceMod, Nat.reduceDiv, indexK.aggOf, Int.reducePow, Int.reduceLE, Int.reduceNeg, Int.reduceLT, Int.reduceBEq, Int.reduceBNe, Int.reduceEq, ownA, nilA, Try.facts]
  first | refine CallK.p (ob) ?_ | refine CallP.i (ob) ?_
  simp (disch := omega) only [↓runPre, runPost, fieldO, ixA, cutA, lenA, aggA, rowA, appA, mkA, indA, bnd, srcA, sameOp, funcA, cvO, partA, aggD, ↓PostP, resV, resAll, resOne, resVF, resAllF, resOneF, fitsAll, fitsR, fits, frz, Post, Nat.reduceBEq, Nat.reduceLT, reduceCtorEq, ↓reduceIte, initS, AV.cellsOf, AV.fine, AV.one, repA, Nat.reduceMul, Nat.reduceAdd, Nat.reduceLeDiff, Nat.reduceEqDiff, Int.reduceToNat, Nat.reduceSub, Nat.reduceMod, Nat.reduceDiv, indexK.aggOf, Int.reducePow, Int.reduceLE, Int.reduceNeg, Int.reduceLT, Int.reduceBEq, Int.reduceBNe, Int.reduceEq, ownA, nilA, Try.facts]
  first | refine CallK.p (oc) ?_ | refine CallP.i (oc) ?_
  simp (disch := omega) only [↓runPre, runPost, fieldO, ixA, cutA, lenA, aggA, rowA, appA, mkA, indA, bnd, srcA, sameOp, funcA, cvO, partA, aggD, ↓PostP, resV, resAll, resOne, resVF, resAllF, resOneF, fitsAll, fitsR, fits, frz, Post, Nat.reduceBEq, Nat.reduceLT, reduceCtorEq, ↓reduceIte, initS, AV.cellsOf, AV.fine, AV.one, repA, Nat.reduceMul, Nat.reduceAdd, Nat.reduceLeDiff, Nat.reduceEqDiff, Int.reduceToNat, Nat.reduceSub, Nat.reduceMod, Nat.reduceDiv, indexK.aggOf, Int.reducePow, Int.reduceLE, Int.reduceNeg, Int.reduceLT, Int.reduceBEq, Int.reduceBNe, Int.reduceEq, ownA, nilA, Try.facts]
  refine CallK.i (hq _ _ s1) ?_
  rintro v H3 ⟨H2, s2, kk, hkk0, hkk, rfl, rfl⟩
  have l5 := s2.sub k5 _ (by rw [set_other n58, set_get])
  have l8 := s2.sub k8 _ set_get
  have m5 := ne_live l5 hkk
  have m8 := ne_live l8 hkk
  simp (disch := omega) only [↓runPre, runPost, fieldO, ixA, cutA, lenA, aggA, rowA, appA, mkA, indA, bnd, srcA, sameOp, funcA, cvO, partA, aggD, ↓PostP, resV, resAll, resOne, resVF, resAllF, resOneF, fitsAll, fitsR, fits, frz, Post, Nat.reduceBEq, Nat.reduceLT, reduceCtorEq, ↓reduceIte, initS, AV.cellsOf, AV.fine, AV.one, repA, Nat.reduceMul, Nat.reduceAdd, Nat.reduceLeDiff, Nat.reduceEqDiff, Int.reduceToNat, Nat.reduceSub, Nat.reduceMod, Nat.reduceDiv, indexK.aggOf, Int.reducePow, Int.reduceLE, Int.reduceNeg, Int.reduceLT, Int.reduceBEq, Int.reduceBNe, Int.reduceEq, ownA, nilA, Try.facts, set_other, l5, l8]
  first | refine CallK.p (hv) ?_ | refine CallP.i (hv) ?_
  simp (disch := omega) only [↓runPre, runPost, fieldO, ixA, cutA, lenA, aggA, rowA, appA, mkA, indA, bnd, srcA, sameOp, funcA, cvO, partA, aggD, ↓PostP, resV, resAll, resOne, resVF, resAllF, resOneF, fitsAll, fitsR, fits, frz, Post, Nat.reduceBEq, Nat.reduceLT, reduceCtorEq, ↓reduceIte, initS, AV.cellsOf, AV.fine, AV.one, repA, Nat.reduceMul, Nat.reduceAdd, Nat.reduceLeDiff, Nat.reduceEqDiff, Int.reduceToNat, Nat.reduceSub, Nat.reduceMod, Nat.reduceDiv, indexK.aggOf, Int.reducePow, Int.reduceLE, Int.reduceNeg, Int.reduceLT, Int.reduceBEq, Int.reduceBNe, Int.reduceEq, ownA, nilA, Try.facts, set_other, l5, l8, putCells_eq, baToList]
  obtain ⟨H9, q1, q2⟩ := asked_end s2 n5 n8 n58 hkk0 hkk Z2
  exact ⟨_, rfl, H9, q1, _, rfl, .inr q2⟩

theorem asked_draw (H0 H : AH) (h m d : Nat) (ts : List Term) (k : AskT) (l : List (List UInt8)) (a b c : List UInt8) (hl : l.length ≤ 1000000) (ha : k.a.of l = a) (hb : k.b.of l = b) (hc : k.c.of l = c)
    (ha0 : a.length ≤ 100000000) (hb0 : b.length ≤ 100000000) (hc0 : c.length ≤ 100000000) (hka : -9223372036854775808 ≤ k.a.from_ ∧ k.a.from_ < 9223372036854775808) (hkb : -9223372036854775808 ≤ k.b.from_ ∧ k.b.from_ < 9223372036854775808) (hkc : -9223372036854775808 ≤ k.c.from_ ∧ k.c.from_ < 9223372036854775808)
    (hg : GT 1000000 ts) (hd : d ≤ 1000000) (s : SS H0 H h m d ts) (hk : k.kind = 0) : ACalls Try.prog 17 [.ptr h 0, vaultV ts d, .agg (askC k), rowsV l] H
      (AskedR H0 h m (d + 1) (numT ts ⟨115, [lowL 8 (d + 1)]⟩).1 (nameT ⟨115, [lowL 8 (d + 1)]⟩ (numT ts ⟨115, [lowL 8 (d + 1)]⟩).2)) := by
  have pa := of_pure k.a l hka hl
  have pb := of_pure k.b l hkb hl
  have pc := of_pure k.c l hkc hl
  have oa := own_pure a (by omega)
  have ob := own_pure b (by omega)
  have oc := own_pure c (by omega)
  rw [ha] at pa
  rw [hb] at pb
  rw [hc] at pc
  have hq := fun (B B' : AH) (ss : SS B B' h m d ts) => draw_give hd hg ss
  have hv := vdraw_pure ts d hd (fun x hx => (hg.wf x hx).1) hg.len
  generalize (numT ts ⟨115, [lowL 8 (d + 1)]⟩).1 = Z1 at *
  generalize nameT ⟨115, [lowL 8 (d + 1)]⟩ (numT ts ⟨115, [lowL 8 (d + 1)]⟩).2 = Z2 at *
  obtain ⟨kd, n, ⟨fa, ra⟩, ⟨fb, rb⟩, ⟨fc, rc⟩⟩ := k
  simp only [askC] at *
  subst hk
  clear ha hb hc hka hkb hkc
  refine acalls_of_cwp (c := ⟨Try.prog, 225, [(1, [0, 1, 0, 0, 0, 1, 0, 0, 0, 1, 0, 0, 0, 0, 0]), (30, [0, 0, 0, 0, 1, 1, 0, 0, 0, 0, 0, 0]), (38, [1, 0, 0, 0, 0, 0, 0, 0, 0, 0, 0, 0, 0, 0, 0, 0, 0, 0, 0, 0, 0, 0, 0, 0, 0, 2, 0, 0, 0]), (1000000, [6]), (1000017, [23]), (4000038, [8, 9, 10, 11]), (4000008, [5, 8, 12, 13, 14, 15, 16, 17, 18, 19, 20]), (4000011, [5, 8, 12, 13, 14, 15, 16, 17, 18, 19, 20]), (4000014, [5, 8, 12, 13, 14, 15, 16, 17, 18, 19, 20]), (4000019, [5, 8, 12, 13, 14, 15, 16, 17, 18, 19, 20]), (4000017, [5, 8, 12, 13, 14, 15, 16, 17, 21, 22, 23, 24, 25]), (4000016, [5, 8, 12, 13, 14, 15, 16, 17, 21, 22]), (4000022, [5, 8, 12, 13, 14, 15, 16, 17, 18, 19, 20]), (4000021, [5, 8, 12, 13, 14, 15, 16, 17, 18, 20]), (4000025, [5, 8, 12, 13, 14, 15, 16, 17, 18, 19, 20]), (4000028, [5, 8, 12, 13, 14, 15, 16, 17, 18, 19, 20]), (4000027, [5, 8, 12, 13, 14, 15, 16, 17, 18, 20]), (4000030, [5, 8, 12, 13, 14, 15, 16, 17, 18, 19, 20]), (4000033, [5, 8, 12, 13, 14, 15, 16, 17, 18, 19, 20]), (4000032, [5, 6, 8, 12, 13, 14, 15, 16, 17, 18, 20]), (4000037, [5, 8, 12, 13, 14, 15, 16, 17, 18, 19, 20]), (4000036, [5, 8, 12, 13, 14, 15, 16, 17, 26, 27, 28, 29]), (4000035, [5, 6, 8, 12, 13, 14, 15, 16, 17, 26, 27]), (4000002, [0, 5, 6, 8, 12, 13, 14, 15, 16, 17]), (4000001, [0, 5, 6, 8, 12, 13, 14]), (4000000, [0, 3, 5, 6, 8])], [], []⟩) (rs := [ResultVar.cell 8 38, ResultVar.tmp 9, ResultVar.tmp 10, ResultVar.tmp 11]) Try.mixed Try.func17 rfl rfl rfl (Nat.le_of_ble_eq_true rfl) (by kernel_rfl) ?_
  simp (disch := omega) only [↓runPre, runPost, fieldO, ixA, cutA, lenA, aggA, rowA, appA, mkA, indA, bnd, srcA, sameOp, funcA, cvO, partA, aggD, ↓PostP, resV, resAll, resOne, resVF, resAllF, resOneF, fitsAll, fitsR, fits, frz, Post, Nat.reduceBEq, Nat.reduceLT, reduceCtorEq, ↓reduceIte, initS, AV.cellsOf, AV.fine, AV.one, repA, Nat.reduceMul, Nat.reduceAdd, Nat.reduceLeDiff, Nat.reduceEqDiff, Int.reduceToNat, Nat.reduceSub, Nat.reduceMod, Nat.reduceDiv, indexK.aggOf, Int.reducePow, Int.reduceLE, Int.reduceNeg, Int.reduceLT, Int.reduceBEq, Int.reduceBNe, Int.reduceEq, ownA, nilA, Try.facts]
  intro k5 hk50 hk5 k6 hk60 hk6 k8 hk80 hk8
  have n68 := set_ne hk8
  have n58 := set_ne (subset_set hk8)
  have hk8H := subset_set (subset_set hk8)
  have n5 := s.sub.free hk5
  have n8 := s.sub.free hk8H
  have s1 := (s.box (o := .cells [.imm 0 (termsC ts) ts.length, .sc (.int .i64 d)] 38 2) hk5).box (o := .cells [.sc (.slice none 0 0), .sc (.int .i64 0)] 38 2) (subset_set hk8)
  simp (disch := omega) only [↓runPre, runPost, fieldO, ixA, cutA, lenA, aggA, rowA, appA, mkA, indA, bnd, srcA, sameOp, funcA, cvO, partA, aggD, ↓PostP, resV, resAll, resOne, resVF, resAllF, resOneF, fitsAll, fitsR, fits, frz, Post, Nat.reduceBEq, Nat.reduceLT, reduceCtorEq, ↓reduceIte, initS, AV.cellsOf, AV.fine, AV.one, repA, Nat.reduceMul, Nat.reduceAdd, Nat.reduceLeDiff, Nat.reduceEqDiff, Int.reduceToNat, Nat.reduceSub, Nat.reduceMod, Nat.reduceDiv, indexK.aggOf, Int.reducePow, Int.reduceLE, Int.reduceNeg, Int.reduceLT, Int.reduceBEq, Int.reduceBNe, Int.reduceEq, ownA, nilA, Try.facts, set_other, kill_under hk6 n68]
  first | refine CallK.p (pa) ?_ | refine CallP.i (pa) ?_
  simp (disch := omega) only [↓runPre, runPost, fieldO, ixA, cutA, lenA, aggA, rowA, appA, mkA, indA, bnd, srcA, sameOp, funcA, cvO, partA, aggD, ↓PostP, resV, resAll, resOne, resVF, resAllF, resOneF, fitsAll, fitsR, fits, frz, Post, Nat.reduceBEq, Nat.reduceLT, reduceCtorEq, ↓reduceIte, initS, AV.cellsOf, AV.fine, AV.one, repA, Nat.reduceMul, Nat.reduceAdd, Nat.reduceLeDiff, Nat.reduceEqDiff, Int.reduceToNat, Nat.reduceSub, Nat.reduceMod, Nat.reduceDiv, indexK.aggOf, Int.reducePow, Int.reduceLE, Int.reduceNeg, Int.reduceLT, Int.reduceBEq, Int.reduceBNe, Int.reduceEq, ownA, nilA, Try.facts]
  first | refine CallK.p (pb) ?_ | refine CallP.i (pb) ?_
  simp (disch := omega) only [↓runPre, runPost, fieldO, ixA, cutA, lenA, aggA, rowA, appA, mkA, indA, bnd, srcA, sameOp, funcA, cvO, partA, aggD, ↓PostP, resV, resAll, resOne, resVF, resAllF, resOneF, fitsAll, fitsR, fits, frz, Post, Nat.reduceBEq, Nat.reduceLT, reduceCtorEq, ↓reduceIte, initS, AV.cellsOf, AV.fine, AV.one, repA, Nat.reduceMul, Nat.reduceAdd, Nat.reduceLeDiff, Nat.reduceEqDiff, Int.reduceToNat, Nat.reduceSub, Nat.reduceMod, Nat.reduceDiv, indexK.aggOf, Int.reducePow, Int.reduceLE, Int.reduceNeg, Int.reduceLT, Int.reduceBEq, Int.reduceBNe, Int.reduceEq, ownA, nilA, Try.facts]
  first | refine CallK.p (pc) ?_ | refine CallP.i (pc) ?_
  simp (disch := omega) only [↓runPre, runPost, fieldO, ixA, cutA, lenA, aggA, rowA, appA, mkA, indA, bnd, srcA, sameOp, funcA, cvO, partA, aggD, ↓PostP, resV, resAll, resOne, resVF, resAllF, resOneF, fitsAll, fitsR, fits, frz, Post, Nat.reduceBEq, Nat.reduceLT, reduceCtorEq, ↓reduceIte, initS, AV.cellsOf, AV.fine, AV.one, repA, Nat.reduceMul, Nat.reduceAdd, Nat.reduceLeDiff, Nat.reduceEqDiff, Int.reduceToNat, Nat.reduceSub, Nat.reduceMod, Nat.reduceDiv, indexK.aggOf, Int.reducePow, Int.reduceLE, Int.reduceNeg, Int.reduceLT, Int.reduceBEq, Int.reduceBNe, Int.reduceEq, ownA, nilA, Try.facts]
  first | refine CallK.p (oa) ?_ | refine CallP.i (oa) ?_
  simp (disch := omega) only [↓runPre, runPost, fieldO, ixA, cutA, lenA, aggA, rowA, appA, mkA, indA, bnd, srcA, sameOp, funcA, cvO, partA, aggD, ↓PostP, resV, resAll, resOne, resVF, resAllF, resOneF, fitsAll, fitsR, fits, frz, Post, Nat.reduceBEq, Nat.reduceLT, reduceCtorEq, ↓reduceIte, initS, AV.cellsOf, AV.fine, AV.one, repA, Nat.reduceMul, Nat.reduceAdd, Nat.reduceLeDiff, Nat.reduceEqDiff, Int.reduceToNat, Nat.reduceSub, Nat.reduceMod, Nat.reduceDiv, indexK.aggOf, Int.reducePow, Int.reduceLE, Int.reduceNeg, Int.reduceLT, Int.reduceBEq, Int.reduceBNe, Int.reduceEq, ownA, nilA, Try.facts]
  first | refine CallK.p (ob) ?_ | refine CallP.i (ob) ?_
  simp (disch := omega) only [↓runPre, runPost, fieldO, ixA, cutA, lenA, aggA, rowA, appA, mkA, indA, bnd, srcA, sameOp, funcA, cvO, partA, aggD, ↓PostP, resV, resAll, resOne, resVF, resAllF, resOneF, fitsAll, fitsR, fits, frz, Post, Nat.reduceBEq, Nat.reduceLT, reduceCtorEq, ↓reduceIte, initS, AV.cellsOf, AV.fine, AV.one, repA, Nat.reduceMul, Nat.reduceAdd, Nat.reduceLeDiff, Nat.reduceEqDiff, Int.reduceToNat, Nat.reduceSub, Nat.reduceMod, Nat.reduceDiv, indexK.aggOf, Int.reducePow, Int.reduceLE, Int.reduceNeg, Int.reduceLT, Int.reduceBEq, Int.reduceBNe, Int.reduceEq, ownA, nilA, Try.facts]
  first | refine CallK.p (oc) ?_ | refine CallP.i (oc) ?_
  simp (disch := omega) only [↓runPre, runPost, fieldO, ixA, cutA, lenA, aggA, rowA, appA, mkA, indA, bnd, srcA, sameOp, funcA, cvO, partA, aggD, ↓PostP, resV, resAll, resOne, resVF, resAllF, resOneF, fitsAll, fitsR, fits, frz, Post, Nat.reduceBEq, Nat.reduceLT, reduceCtorEq, ↓reduceIte, initS, AV.cellsOf, AV.fine, AV.one, repA, Nat.reduceMul, Nat.reduceAdd, Nat.reduceLeDiff, Nat.reduceEqDiff, Int.reduceToNat, Nat.reduceSub, Nat.reduceMod, Nat.reduceDiv, indexK.aggOf, Int.reducePow, Int.reduceLE, Int.reduceNeg, Int.reduceLT, Int.reduceBEq, Int.reduceBNe, Int.reduceEq, ownA, nilA, Try.facts]
  refine CallK.i (hq _ _ s1) ?_
  rintro v H3 ⟨H2, s2, kk, hkk0, hkk, rfl, rfl⟩
  have l5 := s2.sub k5 _ (by rw [set_other n58, set_get])
  have l8 := s2.sub k8 _ set_get
  have m5 := ne_live l5 hkk
  have m8 := ne_live l8 hkk
  simp (disch := omega) only [↓runPre, runPost, fieldO, ixA, cutA, lenA, aggA, rowA, appA, mkA, indA, bnd, srcA, sameOp, funcA, cvO, partA, aggD, ↓PostP, resV, resAll, resOne, resVF, resAllF, resOneF, fitsAll, fitsR, fits, frz, Post, Nat.reduceBEq, Nat.reduceLT, reduceCtorEq, ↓reduceIte, initS, AV.cellsOf, AV.fine, AV.one, repA, Nat.reduceMul, Nat.reduceAdd, Nat.reduceLeDiff, Nat.reduceEqDiff, Int.reduceToNat, Nat.reduceSub, Nat.reduceMod, Nat.reduceDiv, indexK.aggOf, Int.reducePow, Int.reduceLE, Int.reduceNeg, Int.reduceLT, Int.reduceBEq, Int.reduceBNe, Int.reduceEq, ownA, nilA, Try.facts, set_other, l5, l8]
  first | refine CallK.p (hv) ?_ | refine CallP.i (hv) ?_
  simp (disch := omega) only [↓runPre, runPost, fieldO, ixA, cutA, lenA, aggA, rowA, appA, mkA, indA, bnd, srcA, sameOp, funcA, cvO, partA, aggD, ↓PostP, resV, resAll, resOne, resVF, resAllF, resOneF, fitsAll, fitsR, fits, frz, Post, Nat.reduceBEq, Nat.reduceLT, reduceCtorEq, ↓reduceIte, initS, AV.cellsOf, AV.fine, AV.one, repA, Nat.reduceMul, Nat.reduceAdd, Nat.reduceLeDiff, Nat.reduceEqDiff, Int.reduceToNat, Nat.reduceSub, Nat.reduceMod, Nat.reduceDiv, indexK.aggOf, Int.reducePow, Int.reduceLE, Int.reduceNeg, Int.reduceLT, Int.reduceBEq, Int.reduceBNe, Int.reduceEq, ownA, nilA, Try.facts, set_other, l5, l8, putCells_eq, baToList]
  obtain ⟨H9, q1, q2⟩ := asked_end s2 n5 n8 n58 hkk0 hkk Z2
  exact ⟨_, rfl, H9, q1, _, rfl, .inr q2⟩

theorem asked_public_yes (H0 H : AH) (h m d : Nat) (ts : List Term) (k : AskT) (l : List (List UInt8)) (a b c : List UInt8) (hl : l.length ≤ 1000000) (ha : k.a.of l = a) (hb : k.b.of l = b) (hc : k.c.of l = c)
    (ha0 : a.length ≤ 100000000) (hb0 : b.length ≤ 100000000) (hc0 : c.length ≤ 100000000) (hka : -9223372036854775808 ≤ k.a.from_ ∧ k.a.from_ < 9223372036854775808) (hkb : -9223372036854775808 ≤ k.b.from_ ∧ k.b.from_ < 9223372036854775808) (hkc : -9223372036854775808 ≤ k.c.from_ ∧ k.c.from_ < 9223372036854775808)
    (hg : GT 1000000 ts) (hd : d ≤ 1000000) (s : SS H0 H h m d ts) (hk : k.kind = 2) (h32 : a.length = 32) : ACalls Try.prog 17 [.ptr h 0, vaultV ts d, .agg (askC k), rowsV l] H
      (AskedR H0 h m d (numT ts ⟨112, [a]⟩).1 (nameT ⟨112, [a]⟩ (numT ts ⟨112, [a]⟩).2)) := by
  have pa := of_pure k.a l hka hl
  have pb := of_pure k.b l hkb hl
  have pc := of_pure k.c l hkc hl
  have oa := own_pure a (by omega)
  have ob := own_pure b (by omega)
  have oc := own_pure c (by omega)
  rw [ha] at pa
  rw [hb] at pb
  rw [hc] at pc
  have hq := fun (B B' : AH) (ss : SS B B' h m d ts) => public_give a ⟨fun h => absurd h (by simp), by simp, by simp; omega⟩ hg h32 ss
  have hv := (show APure Try.prog 34 _ (.tup [vaultV (numT ts ⟨112, [a]⟩).1 d, bytesV (nameT ⟨112, [a]⟩ (numT ts ⟨112, [a]⟩).2)]) from by have := vpublic_pure ts d a ⟨fun h => absurd h (by simp), by simp, by simp; omega⟩ (fun x hx => (hg.wf x hx).1) hg.len; rwa [if_pos h32] at this)
  generalize (numT ts ⟨112, [a]⟩).1 = Z1 at *
  generalize nameT ⟨112, [a]⟩ (numT ts ⟨112, [a]⟩).2 = Z2 at *
  obtain ⟨kd, n, ⟨fa, ra⟩, ⟨fb, rb⟩, ⟨fc, rc⟩⟩ := k
  simp only [askC] at *
  subst hk
  clear ha hb hc hka hkb hkc
  refine acalls_of_cwp (c := ⟨Try.prog, 225, [(1, [0, 1, 0, 0, 0, 1, 0, 0, 0, 1, 0, 0, 0, 0, 0]), (30, [0, 0, 0, 0, 1, 1, 0, 0, 0, 0, 0, 0]), (38, [1, 0, 0, 0, 0, 0, 0, 0, 0, 0, 0, 0, 0, 0, 0, 0, 0, 0, 0, 0, 0, 0, 0, 0, 0, 2, 0, 0, 0]), (1000000, [6]), (1000017, [23]), (4000038, [8, 9, 10, 11]), (4000008, [5, 8, 12, 13, 14, 15, 16, 17, 18, 19, 20]), (4000011, [5, 8, 12, 13, 14, 15, 16, 17, 18, 19, 20]), (4000014, [5, 8, 12, 13, 14, 15, 16, 17, 18, 19, 20]), (4000019, [5, 8, 12, 13, 14, 15, 16, 17, 18, 19, 20]), (4000017, [5, 8, 12, 13, 14, 15, 16, 17, 21, 22, 23, 24, 25]), (4000016, [5, 8, 12, 13, 14, 15, 16, 17, 21, 22]), (4000022, [5, 8, 12, 13, 14, 15, 16, 17, 18, 19, 20]), (4000021, [5, 8, 12, 13, 14, 15, 16, 17, 18, 20]), (4000025, [5, 8, 12, 13, 14, 15, 16, 17, 18, 19, 20]), (4000028, [5, 8, 12, 13, 14, 15, 16, 17, 18, 19, 20]), (4000027, [5, 8, 12, 13, 14, 15, 16, 17, 18, 20]), (4000030, [5, 8, 12, 13, 14, 15, 16, 17, 18, 19, 20]), (4000033, [5, 8, 12, 13, 14, 15, 16, 17, 18, 19, 20]), (4000032, [5, 6, 8, 12, 13, 14, 15, 16, 17, 18, 20]), (4000037, [5, 8, 12, 13, 14, 15, 16, 17, 18, 19, 20]), (4000036, [5, 8, 12, 13, 14, 15, 16, 17, 26, 27, 28, 29]), (4000035, [5, 6, 8, 12, 13, 14, 15, 16, 17, 26, 27]), (4000002, [0, 5, 6, 8, 12, 13, 14, 15, 16, 17]), (4000001, [0, 5, 6, 8, 12, 13, 14]), (4000000, [0, 3, 5, 6, 8])], [], []⟩) (rs := [ResultVar.cell 8 38, ResultVar.tmp 9, ResultVar.tmp 10, ResultVar.tmp 11]) Try.mixed Try.func17 rfl rfl rfl (Nat.le_of_ble_eq_true rfl) (by kernel_rfl) ?_
  simp (disch := omega) only [↓runPre, runPost, fieldO, ixA, cutA, lenA, aggA, rowA, appA, mkA, indA, bnd, srcA, sameOp, funcA, cvO, partA, aggD, ↓PostP, resV, resAll, resOne, resVF, resAllF, resOneF, fitsAll, fitsR, fits, frz, Post, Nat.reduceBEq, Nat.reduceLT, reduceCtorEq, ↓reduceIte, initS, AV.cellsOf, AV.fine, AV.one, repA, Nat.reduceMul, Nat.reduceAdd, Nat.reduceLeDiff, Nat.reduceEqDiff, Int.reduceToNat, Nat.reduceSub, Nat.reduceMod, Nat.reduceDiv, indexK.aggOf, Int.reducePow, Int.reduceLE, Int.reduceNeg, Int.reduceLT, Int.reduceBEq, Int.reduceBNe, Int.reduceEq, ownA, nilA, Try.facts]
  intro k5 hk50 hk5 k6 hk60 hk6 k8 hk80 hk8
  have n68 := set_ne hk8
  have n58 := set_ne (subset_set hk8)
  have hk8H := subset_set (subset_set hk8)
  have n5 := s.sub.free hk5
  have n8 := s.sub.free hk8H
  have s1 := (s.box (o := .cells [.imm 0 (termsC ts) ts.length, .sc (.int .i64 d)] 38 2) hk5).box (o := .cells [.sc (.slice none 0 0), .sc (.int .i64 0)] 38 2) (subset_set hk8)
  simp (disch := omega) only [↓runPre, runPost, fieldO, ixA, cutA, lenA, aggA, rowA, appA, mkA, indA, bnd, srcA, sameOp, funcA, cvO, partA, aggD, ↓PostP, resV, resAll, resOne, resVF, resAllF, resOneF, fitsAll, fitsR, fits, frz, Post, Nat.reduceBEq, Nat.reduceLT, reduceCtorEq, ↓reduceIte, initS, AV.cellsOf, AV.fine, AV.one, repA, Nat.reduceMul, Nat.reduceAdd, Nat.reduceLeDiff, Nat.reduceEqDiff, Int.reduceToNat, Nat.reduceSub, Nat.reduceMod, Nat.reduceDiv, indexK.aggOf, Int.reducePow, Int.reduceLE, Int.reduceNeg, Int.reduceLT, Int.reduceBEq, Int.reduceBNe, Int.reduceEq, ownA, nilA, Try.facts, set_other, kill_under hk6 n68]
  first | refine CallK.p (pa) ?_ | refine CallP.i (pa) ?_
  simp (disch := omega) only [↓runPre, runPost, fieldO, ixA, cutA, lenA, aggA, rowA, appA, mkA, indA, bnd, srcA, sameOp, funcA, cvO, partA, aggD, ↓PostP, resV, resAll, resOne, resVF, resAllF, resOneF, fitsAll, fitsR, fits, frz, Post, Nat.reduceBEq, Nat.reduceLT, reduceCtorEq, ↓reduceIte, initS, AV.cellsOf, AV.fine, AV.one, repA, Nat.reduceMul, Nat.reduceAdd, Nat.reduceLeDiff, Nat.reduceEqDiff, Int.reduceToNat, Nat.reduceSub, Nat.reduceMod, Nat.reduceDiv, indexK.aggOf, Int.reducePow, Int.reduceLE, Int.reduceNeg, Int.reduceLT, Int.reduceBEq, Int.reduceBNe, Int.reduceEq, ownA, nilA, Try.facts]
  first | refine CallK.p (pb) ?_ | refine CallP.i (pb) ?_
  simp (disch := omega) only [↓runPre, runPost, fieldO, ixA, cutA, lenA, aggA, rowA, appA, mkA, indA, bnd, srcA, sameOp, funcA, cvO, partA, aggD, ↓PostP, resV, resAll, resOne, resVF, resAllF, resOneF, fitsAll, fitsR, fits, frz, Post, Nat.reduceBEq, Nat.reduceLT, reduceCtorEq, ↓reduceIte, initS, AV.cellsOf, AV.fine, AV.one, repA, Nat.reduceMul, Nat.reduceAdd, Nat.reduceLeDiff, Nat.reduceEqDiff, Int.reduceToNat, Nat.reduceSub, Nat.reduceMod, Nat.reduceDiv, indexK.aggOf, Int.reducePow, Int.reduceLE, Int.reduceNeg, Int.reduceLT, Int.reduceBEq, Int.reduceBNe, Int.reduceEq, ownA, nilA, Try.facts]
  first | refine CallK.p (pc) ?_ | refine CallP.i (pc) ?_
  simp (disch := omega) only [↓runPre, runPost, fieldO, ixA, cutA, lenA, aggA, rowA, appA, mkA, indA, bnd, srcA, sameOp, funcA, cvO, partA, aggD, ↓PostP, resV, resAll, resOne, resVF, resAllF, resOneF, fitsAll, fitsR, fits, frz, Post, Nat.reduceBEq, Nat.reduceLT, reduceCtorEq, ↓reduceIte, initS, AV.cellsOf, AV.fine, AV.one, repA, Nat.reduceMul, Nat.reduceAdd, Nat.reduceLeDiff, Nat.reduceEqDiff, Int.reduceToNat, Nat.reduceSub, Nat.reduceMod, Nat.reduceDiv, indexK.aggOf, Int.reducePow, Int.reduceLE, Int.reduceNeg, Int.reduceLT, Int.reduceBEq, Int.reduceBNe, Int.reduceEq, ownA, nilA, Try.facts]
  first | refine CallK.p (oa) ?_ | refine CallP.i (oa) ?_
  simp (disch := omega) only [↓runPre, runPost, fieldO, ixA, cutA, lenA, aggA, rowA, appA, mkA, indA, bnd, srcA, sameOp, funcA, cvO, partA, aggD, ↓PostP, resV, resAll, resOne, resVF, resAllF, resOneF, fitsAll, fitsR, fits, frz, Post, Nat.reduceBEq, Nat.reduceLT, reduceCtorEq, ↓reduceIte, initS, AV.cellsOf, AV.fine, AV.one, repA, Nat.reduceMul, Nat.reduceAdd, Nat.reduceLeDiff, Nat.reduceEqDiff, Int.reduceToNat, Nat.reduceSub, Nat.reduceMod, Nat.reduceDiv, indexK.aggOf, Int.reducePow, Int.reduceLE, Int.reduceNeg, Int.reduceLT, Int.reduceBEq, Int.reduceBNe, Int.reduceEq, ownA, nilA, Try.facts]
  first | refine CallK.p (ob) ?_ | refine CallP.i (ob) ?_
  simp (disch := omega) only [↓runPre, runPost, fieldO, ixA, cutA, lenA, aggA, rowA, appA, mkA, indA, bnd, srcA, sameOp, funcA, cvO, partA, aggD, ↓PostP, resV, resAll, resOne, resVF, resAllF, resOneF, fitsAll, fitsR, fits, frz, Post, Nat.reduceBEq, Nat.reduceLT, reduceCtorEq, ↓reduceIte, initS, AV.cellsOf, AV.fine, AV.one, repA, Nat.reduceMul, Nat.reduceAdd, Nat.reduceLeDiff, Nat.reduceEqDiff, Int.reduceToNat, Nat.reduceSub, Nat.reduceMod, Nat.reduceDiv, indexK.aggOf, Int.reducePow, Int.reduceLE, Int.reduceNeg, Int.reduceLT, Int.reduceBEq, Int.reduceBNe, Int.reduceEq, ownA, nilA, Try.facts]
  first | refine CallK.p (oc) ?_ | refine CallP.i (oc) ?_
  simp (disch := omega) only [↓runPre, runPost, fieldO, ixA, cutA, lenA, aggA, rowA, appA, mkA, indA, bnd, srcA, sameOp, funcA, cvO, partA, aggD, ↓PostP, resV, resAll, resOne, resVF, resAllF, resOneF, fitsAll, fitsR, fits, frz, Post, Nat.reduceBEq, Nat.reduceLT, reduceCtorEq, ↓reduceIte, initS, AV.cellsOf, AV.fine, AV.one, repA, Nat.reduceMul, Nat.reduceAdd, Nat.reduceLeDiff, Nat.reduceEqDiff, Int.reduceToNat, Nat.reduceSub, Nat.reduceMod, Nat.reduceDiv, indexK.aggOf, Int.reducePow, Int.reduceLE, Int.reduceNeg, Int.reduceLT, Int.reduceBEq, Int.reduceBNe, Int.reduceEq, ownA, nilA, Try.facts]
  refine CallK.i (hq _ _ s1) ?_
  rintro v H3 ⟨H2, s2, kk, hkk0, hkk, rfl, rfl⟩
  have l5 := s2.sub k5 _ (by rw [set_other n58, set_get])
  have l8 := s2.sub k8 _ set_get
  have m5 := ne_live l5 hkk
  have m8 := ne_live l8 hkk
  simp (disch := omega) only [↓runPre, runPost, fieldO, ixA, cutA, lenA, aggA, rowA, appA, mkA, indA, bnd, srcA, sameOp, funcA, cvO, partA, aggD, ↓PostP, resV, resAll, resOne, resVF, resAllF, resOneF, fitsAll, fitsR, fits, frz, Post, Nat.reduceBEq, Nat.reduceLT, reduceCtorEq, ↓reduceIte, initS, AV.cellsOf, AV.fine, AV.one, repA, Nat.reduceMul, Nat.reduceAdd, Nat.reduceLeDiff, Nat.reduceEqDiff, Int.reduceToNat, Nat.reduceSub, Nat.reduceMod, Nat.reduceDiv, indexK.aggOf, Int.reducePow, Int.reduceLE, Int.reduceNeg, Int.reduceLT, Int.reduceBEq, Int.reduceBNe, Int.reduceEq, ownA, nilA, Try.facts, set_other, l5, l8]
  first | refine CallK.p (hv) ?_ | refine CallP.i (hv) ?_
  simp (disch := omega) only [↓runPre, runPost, fieldO, ixA, cutA, lenA, aggA, rowA, appA, mkA, indA, bnd, srcA, sameOp, funcA, cvO, partA, aggD, ↓PostP, resV, resAll, resOne, resVF, resAllF, resOneF, fitsAll, fitsR, fits, frz, Post, Nat.reduceBEq, Nat.reduceLT, reduceCtorEq, ↓reduceIte, initS, AV.cellsOf, AV.fine, AV.one, repA, Nat.reduceMul, Nat.reduceAdd, Nat.reduceLeDiff, Nat.reduceEqDiff, Int.reduceToNat, Nat.reduceSub, Nat.reduceMod, Nat.reduceDiv, indexK.aggOf, Int.reducePow, Int.reduceLE, Int.reduceNeg, Int.reduceLT, Int.reduceBEq, Int.reduceBNe, Int.reduceEq, ownA, nilA, Try.facts, set_other, l5, l8, putCells_eq, baToList]
  obtain ⟨H9, q1, q2⟩ := asked_end s2 n5 n8 n58 hkk0 hkk Z2
  exact ⟨_, rfl, H9, q1, _, rfl, .inr q2⟩

theorem asked_public_no (H0 H : AH) (h m d : Nat) (ts : List Term) (k : AskT) (l : List (List UInt8)) (a b c : List UInt8) (hl : l.length ≤ 1000000) (ha : k.a.of l = a) (hb : k.b.of l = b) (hc : k.c.of l = c)
    (ha0 : a.length ≤ 100000000) (hb0 : b.length ≤ 100000000) (hc0 : c.length ≤ 100000000) (hka : -9223372036854775808 ≤ k.a.from_ ∧ k.a.from_ < 9223372036854775808) (hkb : -9223372036854775808 ≤ k.b.from_ ∧ k.b.from_ < 9223372036854775808) (hkc : -9223372036854775808 ≤ k.c.from_ ∧ k.c.from_ < 9223372036854775808)
    (hg : GT 1000000 ts) (hd : d ≤ 1000000) (s : SS H0 H h m d ts) (hk : k.kind = 2) (h32 : a.length ≠ 32) : ACalls Try.prog 17 [.ptr h 0, vaultV ts d, .agg (askC k), rowsV l] H
      (AskedR H0 h m d ts []) := by
  have pa := of_pure k.a l hka hl
  have pb := of_pure k.b l hkb hl
  have pc := of_pure k.c l hkc hl
  have oa := own_pure a (by omega)
  have ob := own_pure b (by omega)
  have oc := own_pure c (by omega)
  rw [ha] at pa
  rw [hb] at pb
  rw [hc] at pc
  have hq := fun (B B' : AH) (ss : SS B B' h m d ts) => public_none a ⟨fun h => absurd h (by simp), by simp, by simp; omega⟩ hg h32 ss
  have hv := (show APure Try.prog 34 _ (.tup [vaultV ts d, .imm 0 [] 0]) from by have := vpublic_pure ts d a ⟨fun h => absurd h (by simp), by simp, by simp; omega⟩ (fun x hx => (hg.wf x hx).1) hg.len; rwa [if_neg h32] at this)
  obtain ⟨kd, n, ⟨fa, ra⟩, ⟨fb, rb⟩, ⟨fc, rc⟩⟩ := k
  simp only [askC] at *
  subst hk
  clear ha hb hc hka hkb hkc
  refine acalls_of_cwp (c := ⟨Try.prog, 225, [(1, [0, 1, 0, 0, 0, 1, 0, 0, 0, 1, 0, 0, 0, 0, 0]), (30, [0, 0, 0, 0, 1, 1, 0, 0, 0, 0, 0, 0]), (38, [1, 0, 0, 0, 0, 0, 0, 0, 0, 0, 0, 0, 0, 0, 0, 0, 0, 0, 0, 0, 0, 0, 0, 0, 0, 2, 0, 0, 0]), (1000000, [6]), (1000017, [23]), (4000038, [8, 9, 10, 11]), (4000008, [5, 8, 12, 13, 14, 15, 16, 17, 18, 19, 20]), (4000011, [5, 8, 12, 13, 14, 15, 16, 17, 18, 19, 20]), (4000014, [5, 8, 12, 13, 14, 15, 16, 17, 18, 19, 20]), (4000019, [5, 8, 12, 13, 14, 15, 16, 17, 18, 19, 20]), (4000017, [5, 8, 12, 13, 14, 15, 16, 17, 21, 22, 23, 24, 25]), (4000016, [5, 8, 12, 13, 14, 15, 16, 17, 21, 22]), (4000022, [5, 8, 12, 13, 14, 15, 16, 17, 18, 19, 20]), (4000021, [5, 8, 12, 13, 14, 15, 16, 17, 18, 20]), (4000025, [5, 8, 12, 13, 14, 15, 16, 17, 18, 19, 20]), (4000028, [5, 8, 12, 13, 14, 15, 16, 17, 18, 19, 20]), (4000027, [5, 8, 12, 13, 14, 15, 16, 17, 18, 20]), (4000030, [5, 8, 12, 13, 14, 15, 16, 17, 18, 19, 20]), (4000033, [5, 8, 12, 13, 14, 15, 16, 17, 18, 19, 20]), (4000032, [5, 6, 8, 12, 13, 14, 15, 16, 17, 18, 20]), (4000037, [5, 8, 12, 13, 14, 15, 16, 17, 18, 19, 20]), (4000036, [5, 8, 12, 13, 14, 15, 16, 17, 26, 27, 28, 29]), (4000035, [5, 6, 8, 12, 13, 14, 15, 16, 17, 26, 27]), (4000002, [0, 5, 6, 8, 12, 13, 14, 15, 16, 17]), (4000001, [0, 5, 6, 8, 12, 13, 14]), (4000000, [0, 3, 5, 6, 8])], [], []⟩) (rs := [ResultVar.cell 8 38, ResultVar.tmp 9, ResultVar.tmp 10, ResultVar.tmp 11]) Try.mixed Try.func17 rfl rfl rfl (Nat.le_of_ble_eq_true rfl) (by kernel_rfl) ?_
  simp (disch := omega) only [↓runPre, runPost, fieldO, ixA, cutA, lenA, aggA, rowA, appA, mkA, indA, bnd, srcA, sameOp, funcA, cvO, partA, aggD, ↓PostP, resV, resAll, resOne, resVF, resAllF, resOneF, fitsAll, fitsR, fits, frz, Post, Nat.reduceBEq, Nat.reduceLT, reduceCtorEq, ↓reduceIte, initS, AV.cellsOf, AV.fine, AV.one, repA, Nat.reduceMul, Nat.reduceAdd, Nat.reduceLeDiff, Nat.reduceEqDiff, Int.reduceToNat, Nat.reduceSub, Nat.reduceMod, Nat.reduceDiv, indexK.aggOf, Int.reducePow, Int.reduceLE, Int.reduceNeg, Int.reduceLT, Int.reduceBEq, Int.reduceBNe, Int.reduceEq, ownA, nilA, Try.facts]
  intro k5 hk50 hk5 k6 hk60 hk6 k8 hk80 hk8
  have n68 := set_ne hk8
  have n58 := set_ne (subset_set hk8)
  have hk8H := subset_set (subset_set hk8)
  have n5 := s.sub.free hk5
  have n8 := s.sub.free hk8H
  have s1 := (s.box (o := .cells [.imm 0 (termsC ts) ts.length, .sc (.int .i64 d)] 38 2) hk5).box (o := .cells [.sc (.slice none 0 0), .sc (.int .i64 0)] 38 2) (subset_set hk8)
  simp (disch := omega) only [↓runPre, runPost, fieldO, ixA, cutA, lenA, aggA, rowA, appA, mkA, indA, bnd, srcA, sameOp, funcA, cvO, partA, aggD, ↓PostP, resV, resAll, resOne, resVF, resAllF, resOneF, fitsAll, fitsR, fits, frz, Post, Nat.reduceBEq, Nat.reduceLT, reduceCtorEq, ↓reduceIte, initS, AV.cellsOf, AV.fine, AV.one, repA, Nat.reduceMul, Nat.reduceAdd, Nat.reduceLeDiff, Nat.reduceEqDiff, Int.reduceToNat, Nat.reduceSub, Nat.reduceMod, Nat.reduceDiv, indexK.aggOf, Int.reducePow, Int.reduceLE, Int.reduceNeg, Int.reduceLT, Int.reduceBEq, Int.reduceBNe, Int.reduceEq, ownA, nilA, Try.facts, set_other, kill_under hk6 n68]
  first | refine CallK.p (pa) ?_ | refine CallP.i (pa) ?_
  simp (disch := omega) only [↓runPre, runPost, fieldO, ixA, cutA, lenA, aggA, rowA, appA, mkA, indA, bnd, srcA, sameOp, funcA, cvO, partA, aggD, ↓PostP, resV, resAll, resOne, resVF, resAllF, resOneF, fitsAll, fitsR, fits, frz, Post, Nat.reduceBEq, Nat.reduceLT, reduceCtorEq, ↓reduceIte, initS, AV.cellsOf, AV.fine, AV.one, repA, Nat.reduceMul, Nat.reduceAdd, Nat.reduceLeDiff, Nat.reduceEqDiff, Int.reduceToNat, Nat.reduceSub, Nat.reduceMod, Nat.reduceDiv, indexK.aggOf, Int.reducePow, Int.reduceLE, Int.reduceNeg, Int.reduceLT, Int.reduceBEq, Int.reduceBNe, Int.reduceEq, ownA, nilA, Try.facts]
  first | refine CallK.p (pb) ?_ | refine CallP.i (pb) ?_
  simp (disch := omega) only [↓runPre, runPost, fieldO, ixA, cutA, lenA, aggA, rowA, appA, mkA, indA, bnd, srcA, sameOp, funcA, cvO, partA, aggD, ↓PostP, resV, resAll, resOne, resVF, resAllF, resOneF, fitsAll, fitsR, fits, frz, Post, Nat.reduceBEq, Nat.reduceLT, reduceCtorEq, ↓reduceIte, initS, AV.cellsOf, AV.fine, AV.one, repA, Nat.reduceMul, Nat.reduceAdd, Nat.reduceLeDiff, Nat.reduceEqDiff, Int.reduceToNat, Nat.reduceSub, Nat.reduceMod, Nat.reduceDiv, indexK.aggOf, Int.reducePow, Int.reduceLE, Int.reduceNeg, Int.reduceLT, Int.reduceBEq, Int.reduceBNe, Int.reduceEq, ownA, nilA, Try.facts]
  first | refine CallK.p (pc) ?_ | refine CallP.i (pc) ?_
  simp (disch := omega) only [↓runPre, runPost, fieldO, ixA, cutA, lenA, aggA, rowA, appA, mkA, indA, bnd, srcA, sameOp, funcA, cvO, partA, aggD, ↓PostP, resV, resAll, resOne, resVF, resAllF, resOneF, fitsAll, fitsR, fits, frz, Post, Nat.reduceBEq, Nat.reduceLT, reduceCtorEq, ↓reduceIte, initS, AV.cellsOf, AV.fine, AV.one, repA, Nat.reduceMul, Nat.reduceAdd, Nat.reduceLeDiff, Nat.reduceEqDiff, Int.reduceToNat, Nat.reduceSub, Nat.reduceMod, Nat.reduceDiv, indexK.aggOf, Int.reducePow, Int.reduceLE, Int.reduceNeg, Int.reduceLT, Int.reduceBEq, Int.reduceBNe, Int.reduceEq, ownA, nilA, Try.facts]
  first | refine CallK.p (oa) ?_ | refine CallP.i (oa) ?_
  simp (disch := omega) only [↓runPre, runPost, fieldO, ixA, cutA, lenA, aggA, rowA, appA, mkA, indA, bnd, srcA, sameOp, funcA, cvO, partA, aggD, ↓PostP, resV, resAll, resOne, resVF, resAllF, resOneF, fitsAll, fitsR, fits, frz, Post, Nat.reduceBEq, Nat.reduceLT, reduceCtorEq, ↓reduceIte, initS, AV.cellsOf, AV.fine, AV.one, repA, Nat.reduceMul, Nat.reduceAdd, Nat.reduceLeDiff, Nat.reduceEqDiff, Int.reduceToNat, Nat.reduceSub, Nat.reduceMod, Nat.reduceDiv, indexK.aggOf, Int.reducePow, Int.reduceLE, Int.reduceNeg, Int.reduceLT, Int.reduceBEq, Int.reduceBNe, Int.reduceEq, ownA, nilA, Try.facts]
  first | refine CallK.p (ob) ?_ | refine CallP.i (ob) ?_
  simp (disch := omega) only [↓runPre, runPost, fieldO, ixA, cutA, lenA, aggA, rowA, appA, mkA, indA, bnd, srcA, sameOp, funcA, cvO, partA, aggD, ↓PostP, resV, resAll, resOne, resVF, resAllF, resOneF, fitsAll, fitsR, fits, frz, Post, Nat.reduceBEq, Nat.reduceLT, reduceCtorEq, ↓reduceIte, initS, AV.cellsOf, AV.fine, AV.one, repA, Nat.reduceMul, Nat.reduceAdd, Nat.reduceLeDiff, Nat.reduceEqDiff, Int.reduceToNat, Nat.reduceSub, Nat.reduceMod, Nat.reduceDiv, indexK.aggOf, Int.reducePow, Int.reduceLE, Int.reduceNeg, Int.reduceLT, Int.reduceBEq, Int.reduceBNe, Int.reduceEq, ownA, nilA, Try.facts]
  first | refine CallK.p (oc) ?_ | refine CallP.i (oc) ?_
  simp (disch := omega) only [↓runPre, runPost, fieldO, ixA, cutA, lenA, aggA, rowA, appA, mkA, indA, bnd, srcA, sameOp, funcA, cvO, partA, aggD, ↓PostP, resV, resAll, resOne, resVF, resAllF, resOneF, fitsAll, fitsR, fits, frz, Post, Nat.reduceBEq, Nat.reduceLT, reduceCtorEq, ↓reduceIte, initS, AV.cellsOf, AV.fine, AV.one, repA, Nat.reduceMul, Nat.reduceAdd, Nat.reduceLeDiff, Nat.reduceEqDiff, Int.reduceToNat, Nat.reduceSub, Nat.reduceMod, Nat.reduceDiv, indexK.aggOf, Int.reducePow, Int.reduceLE, Int.reduceNeg, Int.reduceLT, Int.reduceBEq, Int.reduceBNe, Int.reduceEq, ownA, nilA, Try.facts]
  refine CallK.i (hq _ _ s1) ?_
  rintro v H2 ⟨rfl, s2⟩
  have l5 := s2.sub k5 _ (by rw [set_other n58, set_get])
  have l8 := s2.sub k8 _ set_get
  simp (disch := omega) only [↓runPre, runPost, fieldO, ixA, cutA, lenA, aggA, rowA, appA, mkA, indA, bnd, srcA, sameOp, funcA, cvO, partA, aggD, ↓PostP, resV, resAll, resOne, resVF, resAllF, resOneF, fitsAll, fitsR, fits, frz, Post, Nat.reduceBEq, Nat.reduceLT, reduceCtorEq, ↓reduceIte, initS, AV.cellsOf, AV.fine, AV.one, repA, Nat.reduceMul, Nat.reduceAdd, Nat.reduceLeDiff, Nat.reduceEqDiff, Int.reduceToNat, Nat.reduceSub, Nat.reduceMod, Nat.reduceDiv, indexK.aggOf, Int.reducePow, Int.reduceLE, Int.reduceNeg, Int.reduceLT, Int.reduceBEq, Int.reduceBNe, Int.reduceEq, ownA, nilA, Try.facts, set_other, l5, l8]
  first | refine CallK.p (hv) ?_ | refine CallP.i (hv) ?_
  simp (disch := omega) only [↓runPre, runPost, fieldO, ixA, cutA, lenA, aggA, rowA, appA, mkA, indA, bnd, srcA, sameOp, funcA, cvO, partA, aggD, ↓PostP, resV, resAll, resOne, resVF, resAllF, resOneF, fitsAll, fitsR, fits, frz, Post, Nat.reduceBEq, Nat.reduceLT, reduceCtorEq, ↓reduceIte, initS, AV.cellsOf, AV.fine, AV.one, repA, Nat.reduceMul, Nat.reduceAdd, Nat.reduceLeDiff, Nat.reduceEqDiff, Int.reduceToNat, Nat.reduceSub, Nat.reduceMod, Nat.reduceDiv, indexK.aggOf, Int.reducePow, Int.reduceLE, Int.reduceNeg, Int.reduceLT, Int.reduceBEq, Int.reduceBNe, Int.reduceEq, ownA, nilA, Try.facts, set_other, l5, l8, putCells_eq, baToList]
  obtain ⟨H9, q1, q2⟩ := asked_end0 s2 n5 n8 n58
  exact ⟨_, rfl, H9, q1, _, rfl, .inl ⟨rfl, rfl, q2⟩⟩

theorem asked_derive_yes (H0 H : AH) (h m d : Nat) (ts : List Term) (k : AskT) (l : List (List UInt8)) (a b c : List UInt8) (hl : l.length ≤ 1000000) (ha : k.a.of l = a) (hb : k.b.of l = b) (hc : k.c.of l = c)
    (ha0 : a.length ≤ 100000000) (hb0 : b.length ≤ 100000000) (hc0 : c.length ≤ 100000000) (hka : -9223372036854775808 ≤ k.a.from_ ∧ k.a.from_ < 9223372036854775808) (hkb : -9223372036854775808 ≤ k.b.from_ ∧ k.b.from_ < 9223372036854775808) (hkc : -9223372036854775808 ≤ k.c.from_ ∧ k.c.from_ < 9223372036854775808)
    (hg : GT 1000000 ts) (hd : d ≤ 1000000) (s : SS H0 H h m d ts) (hk : k.kind = 4) (h32 : a.length = 32) : ACalls Try.prog 17 [.ptr h 0, vaultV ts d, .agg (askC k), rowsV l] H
      (AskedR H0 h m d (numT ts ⟨107, [a, b]⟩).1 (nameT ⟨107, [a, b]⟩ (numT ts ⟨107, [a, b]⟩).2)) := by
  have pa := of_pure k.a l hka hl
  have pb := of_pure k.b l hkb hl
  have pc := of_pure k.c l hkc hl
  have oa := own_pure a (by omega)
  have ob := own_pure b (by omega)
  have oc := own_pure c (by omega)
  rw [ha] at pa
  rw [hb] at pb
  rw [hc] at pc
  have hq := fun (B B' : AH) (ss : SS B B' h m d ts) => derive_give a b ⟨fun h => absurd h (by simp), by simp, by simp; omega⟩ hg h32 ss
  have hv := (show APure Try.prog 36 _ (.tup [vaultV (numT ts ⟨107, [a, b]⟩).1 d, bytesV (nameT ⟨107, [a, b]⟩ (numT ts ⟨107, [a, b]⟩).2)]) from by have := vderive_pure ts d a b ⟨fun h => absurd h (by simp), by simp, by simp; omega⟩ (fun x hx => (hg.wf x hx).1) hg.len; rwa [if_pos h32] at this)
  generalize (numT ts ⟨107, [a, b]⟩).1 = Z1 at *
  generalize nameT ⟨107, [a, b]⟩ (numT ts ⟨107, [a, b]⟩).2 = Z2 at *
  obtain ⟨kd, n, ⟨fa, ra⟩, ⟨fb, rb⟩, ⟨fc, rc⟩⟩ := k
  simp only [askC] at *
  subst hk
  clear ha hb hc hka hkb hkc
  refine acalls_of_cwp (c := ⟨Try.prog, 225, [(1, [0, 1, 0, 0, 0, 1, 0, 0, 0, 1, 0, 0, 0, 0, 0]), (30, [0, 0, 0, 0, 1, 1, 0, 0, 0, 0, 0, 0]), (38, [1, 0, 0, 0, 0, 0, 0, 0, 0, 0, 0, 0, 0, 0, 0, 0, 0, 0, 0, 0, 0, 0, 0, 0, 0, 2, 0, 0, 0]), (1000000, [6]), (1000017, [23]), (4000038, [8, 9, 10, 11]), (4000008, [5, 8, 12, 13, 14, 15, 16, 17, 18, 19, 20]), (4000011, [5, 8, 12, 13, 14, 15, 16, 17, 18, 19, 20]), (4000014, [5, 8, 12, 13, 14, 15, 16, 17, 18, 19, 20]), (4000019, [5, 8, 12, 13, 14, 15, 16, 17, 18, 19, 20]), (4000017, [5, 8, 12, 13, 14, 15, 16, 17, 21, 22, 23, 24, 25]), (4000016, [5, 8, 12, 13, 14, 15, 16, 17, 21, 22]), (4000022, [5, 8, 12, 13, 14, 15, 16, 17, 18, 19, 20]), (4000021, [5, 8, 12, 13, 14, 15, 16, 17, 18, 20]), (4000025, [5, 8, 12, 13, 14, 15, 16, 17, 18, 19, 20]), (4000028, [5, 8, 12, 13, 14, 15, 16, 17, 18, 19, 20]), (4000027, [5, 8, 12, 13, 14, 15, 16, 17, 18, 20]), (4000030, [5, 8, 12, 13, 14, 15, 16, 17, 18, 19, 20]), (4000033, [5, 8, 12, 13, 14, 15, 16, 17, 18, 19, 20]), (4000032, [5, 6, 8, 12, 13, 14, 15, 16, 17, 18, 20]), (4000037, [5, 8, 12, 13, 14, 15, 16, 17, 18, 19, 20]), (4000036, [5, 8, 12, 13, 14, 15, 16, 17, 26, 27, 28, 29]), (4000035, [5, 6, 8, 12, 13, 14, 15, 16, 17, 26, 27]), (4000002, [0, 5, 6, 8, 12, 13, 14, 15, 16, 17]), (4000001, [0, 5, 6, 8, 12, 13, 14]), (4000000, [0, 3, 5, 6, 8])], [], []⟩) (rs := [ResultVar.cell 8 38, ResultVar.tmp 9, ResultVar.tmp 10, ResultVar.tmp 11]) Try.mixed Try.func17 rfl rfl rfl (Nat.le_of_ble_eq_true rfl) (by kernel_rfl) ?_
  simp (disch := omega) only [↓runPre, runPost, fieldO, ixA, cutA, lenA, aggA, rowA, appA, mkA, indA, bnd, srcA, sameOp, funcA, cvO, partA, aggD, ↓PostP, resV, resAll, resOne, resVF, resAllF, resOneF, fitsAll, fitsR, fits, frz, Post, Nat.reduceBEq, Nat.reduceLT, reduceCtorEq, ↓reduceIte, initS, AV.cellsOf, AV.fine, AV.one, repA, Nat.reduceMul, Nat.reduceAdd, Nat.reduceLeDiff, Nat.reduceEqDiff, Int.reduceToNat, Nat.reduceSub, Nat.reduceMod, Nat.reduceDiv, indexK.aggOf, Int.reducePow, Int.reduceLE, Int.reduceNeg, Int.reduceLT, Int.reduceBEq, Int.reduceBNe, Int.reduceEq, ownA, nilA, Try.facts]
  intro k5 hk50 hk5 k6 hk60 hk6 k8 hk80 hk8
  have n68 := set_ne hk8
  have n58 := set_ne (subset_set hk8)
  have hk8H := subset_set (subset_set hk8)
  have n5 := s.sub.free hk5
  have n8 := s.sub.free hk8H
  have s1 := (s.box (o := .cells [.imm 0 (termsC ts) ts.length, .sc (.int .i64 d)] 38 2) hk5).box (o := .cells [.sc (.slice none 0 0), .sc (.int .i64 0)] 38 2) (subset_set hk8)
  simp (disch := omega) only [↓runPre, runPost, fieldO, ixA, cutA, lenA, aggA, rowA, appA, mkA, indA, bnd, srcA, sameOp, funcA, cvO, partA, aggD, ↓PostP, resV, resAll, resOne, resVF, resAllF, resOneF, fitsAll, fitsR, fits, frz, Post, Nat.reduceBEq, Nat.reduceLT, reduceCtorEq, ↓reduceIte, initS, AV.cellsOf, AV.fine, AV.one, repA, Nat.reduceMul, Nat.reduceAdd, Nat.reduceLeDiff, Nat.reduceEqDiff, Int.reduceToNat, Nat.reduceSub, Nat.reduceMod, Nat.reduceDiv, indexK.aggOf, Int.reducePow, Int.reduceLE, Int.reduceNeg, Int.reduceLT, Int.reduceBEq, Int.reduceBNe, Int.reduceEq, ownA, nilA, Try.facts, set_other, kill_under hk6 n68]
  first | refine CallK.p (pa) ?_ | refine CallP.i (pa) ?_
  simp (disch := omega) only [↓runPre, runPost, fieldO, ixA, cutA, lenA, aggA, rowA, appA, mkA, indA, bnd, srcA, sameOp, funcA, cvO, partA, aggD, ↓PostP, resV, resAll, resOne, resVF, resAllF, resOneF, fitsAll, fitsR, fits, frz, Post, Nat.reduceBEq, Nat.reduceLT, reduceCtorEq, ↓reduceIte, initS, AV.cellsOf, AV.fine, AV.one, repA, Nat.reduceMul, Nat.reduceAdd, Nat.reduceLeDiff, Nat.reduceEqDiff, Int.reduceToNat, Nat.reduceSub, Nat.reduceMod, Nat.reduceDiv, indexK.aggOf, Int.reducePow, Int.reduceLE, Int.reduceNeg, Int.reduceLT, Int.reduceBEq, Int.reduceBNe, Int.reduceEq, ownA, nilA, Try.facts]
  first | refine CallK.p (pb) ?_ | refine CallP.i (pb) ?_
  simp (disch := omega) only [↓runPre, runPost, fieldO, ixA, cutA, lenA, aggA, rowA, appA, mkA, indA, bnd, srcA, sameOp, funcA, cvO, partA, aggD, ↓PostP, resV, resAll, resOne, resVF, resAllF, resOneF, fitsAll, fitsR, fits, frz, Post, Nat.reduceBEq, Nat.reduceLT, reduceCtorEq, ↓reduceIte, initS, AV.cellsOf, AV.fine, AV.one, repA, Nat.reduceMul, Nat.reduceAdd, Nat.reduceLeDiff, Nat.reduceEqDiff, Int.reduceToNat, Nat.reduceSub, Nat.reduceMod, Nat.reduceDiv, indexK.aggOf, Int.reducePow, Int.reduceLE, Int.reduceNeg, Int.reduceLT, Int.reduceBEq, Int.reduceBNe, Int.reduceEq, ownA, nilA, Try.facts]
  first | refine CallK.p (pc) ?_ | refine CallP.i (pc) ?_
  simp (disch := omega) only [↓runPre, runPost, fieldO, ixA, cutA, lenA, aggA, rowA, appA, mkA, indA, bnd, srcA, sameOp, funcA, cvO, partA, aggD, ↓PostP, resV, resAll, resOne, resVF, resAllF, resOneF, fitsAll, fitsR, fits, frz, Post, Nat.reduceBEq, Nat.reduceLT, reduceCtorEq, ↓reduceIte, initS, AV.cellsOf, AV.fine, AV.one, repA, Nat.reduceMul, Nat.reduceAdd, Nat.reduceLeDiff, Nat.reduceEqDiff, Int.reduceToNat, Nat.reduceSub, Nat.reduceMod, Nat.reduceDiv, indexK.aggOf, Int.reducePow, Int.reduceLE, Int.reduceNeg, Int.reduceLT, Int.reduceBEq, Int.reduceBNe, Int.reduceEq, ownA, nilA, Try.facts]
  first | refine CallK.p (oa) ?_ | refine CallP.i (oa) ?_
  simp (disch := omega) only [↓runPre, runPost, fieldO, ixA, cutA, lenA, aggA, rowA, appA, mkA, indA, bnd, srcA, sameOp, funcA, cvO, partA, aggD, ↓PostP, resV, resAll, resOne, resVF, resAllF, resOneF, fitsAll, fitsR, fits, frz, Post, Nat.reduceBEq, Nat.reduceLT, reduceCtorEq, ↓reduceIte, initS, AV.cellsOf, AV.fine, AV.one, repA, Nat.reduceMul, Nat.reduceAdd, Nat.reduceLeDiff, Nat.reduceEqDiff, Int.reduceToNat, Nat.reduceSub, Nat.reduceMod, Nat.reduceDiv, indexK.aggOf, Int.reducePow, Int.reduceLE, Int.reduceNeg, Int.reduceLT, Int.reduceBEq, Int.reduceBNe, Int.reduceEq, ownA, nilA, Try.facts]
  first | refine CallK.p (ob) ?_ | refine CallP.i (ob) ?_
  simp (disch := omega) only [↓runPre, runPost, fieldO, ixA, cutA, lenA, aggA, rowA, appA, mkA, indA, bnd, srcA, sameOp, funcA, cvO, partA, aggD, ↓PostP, resV, resAll, resOne, resVF, resAllF, resOneF, fitsAll, fitsR, fits, frz, Post, Nat.reduceBEq, Nat.reduceLT, reduceCtorEq, ↓reduceIte, initS, AV.cellsOf, AV.fine, AV.one, repA, Nat.reduceMul, Nat.reduceAdd, Nat.reduceLeDiff, Nat.reduceEqDiff, Int.reduceToNat, Nat.reduceSub, Nat.reduceMod, Nat.reduceDiv, indexK.aggOf, Int.reducePow, Int.reduceLE, Int.reduceNeg, Int.reduceLT, Int.reduceBEq, Int.reduceBNe, Int.reduceEq, ownA, nilA, Try.facts]
  first | refine CallK.p (oc) ?_ | refine CallP.i (oc) ?_
  simp (disch := omega) only [↓runPre, runPost, fieldO, ixA, cutA, lenA, aggA, rowA, appA, mkA, indA, bnd, srcA, sameOp, funcA, cvO, partA, aggD, ↓PostP, resV, resAll, resOne, resVF, resAllF, resOneF, fitsAll, fitsR, fits, frz, Post, Nat.reduceBEq, Nat.reduceLT, reduceCtorEq, ↓reduceIte, initS, AV.cellsOf, AV.fine, AV.one, repA, Nat.reduceMul, Nat.reduceAdd, Nat.reduceLeDiff, Nat.reduceEqDiff, Int.reduceToNat, Nat.reduceSub, Nat.reduceMod, Nat.reduceDiv, indexK.aggOf, Int.reducePow, Int.reduceLE, Int.reduceNeg, Int.reduceLT, Int.reduceBEq, Int.reduceBNe, Int.reduceEq, ownA, nilA, Try.facts]
  refine CallK.i (hq _ _ s1) ?_
  rintro v H3 ⟨H2, s2, kk, hkk0, hkk, rfl, rfl⟩
  have l5 := s2.sub k5 _ (by rw [set_other n58, set_get])
  have l8 := s2.sub k8 _ set_get
  have m5 := ne_live l5 hkk
  have m8 := ne_live l8 hkk
  simp (disch := omega) only [↓runPre, runPost, fieldO, ixA, cutA, lenA, aggA, rowA, appA, mkA, indA, bnd, srcA, sameOp, funcA, cvO, partA, aggD, ↓PostP, resV, resAll, resOne, resVF, resAllF, resOneF, fitsAll, fitsR, fits, frz, Post, Nat.reduceBEq, Nat.reduceLT, reduceCtorEq, ↓reduceIte, initS, AV.cellsOf, AV.fine, AV.one, repA, Nat.reduceMul, Nat.reduceAdd, Nat.reduceLeDiff, Nat.reduceEqDiff, Int.reduceToNat, Nat.reduceSub, Nat.reduceMod, Nat.reduceDiv, indexK.aggOf, Int.reducePow, Int.reduceLE, Int.reduceNeg, Int.reduceLT, Int.reduceBEq, Int.reduceBNe, Int.reduceEq, ownA, nilA, Try.facts, set_other, l5, l8]
  first | refine CallK.p (hv) ?_ | refine CallP.i (hv) ?_
  simp (disch := omega) only [↓runPre, runPost, fieldO, ixA, cutA, lenA, aggA, rowA, appA, mkA, indA, bnd, srcA, sameOp, funcA, cvO, partA, aggD, ↓PostP, resV, resAll, resOne, resVF, resAllF, resOneF, fitsAll, fitsR, fits, frz, Post, Nat.reduceBEq, Nat.reduceLT, reduceCtorEq, ↓reduceIte, initS, AV.cellsOf, AV.fine, AV.one, repA, Nat.reduceMul, Nat.reduceAdd, Nat.reduceLeDiff, Nat.reduceEqDiff, Int.reduceToNat, Nat.reduceSub, Nat.reduceMod, Nat.reduceDiv, indexK.aggOf, Int.reducePow, Int.reduceLE, Int.reduceNeg, Int.reduceLT, Int.reduceBEq, Int.reduceBNe, Int.reduceEq, ownA, nilA, Try.facts, set_other, l5, l8, putCells_eq, baToList]
  obtain ⟨H9, q1, q2⟩ := asked_end s2 n5 n8 n58 hkk0 hkk Z2
  exact ⟨_, rfl, H9, q1, _, rfl, .inr q2⟩

theorem asked_derive_no (H0 H : AH) (h m d : Nat) (ts : List Term) (k : AskT) (l : List (List UInt8)) (a b c : List UInt8) (hl : l.length ≤ 1000000) (ha : k.a.of l = a) (hb : k.b.of l = b) (hc : k.c.of l = c)
    (ha0 : a.length ≤ 100000000) (hb0 : b.length ≤ 100000000) (hc0 : c.length ≤ 100000000) (hka : -9223372036854775808 ≤ k.a.from_ ∧ k.a.from_ < 9223372036854775808) (hkb : -9223372036854775808 ≤ k.b.from_ ∧ k.b.from_ < 9223372036854775808) (hkc : -9223372036854775808 ≤ k.c.from_ ∧ k.c.from_ < 9223372036854775808)
    (hg : GT 1000000 ts) (hd : d ≤ 1000000) (s : SS H0 H h m d ts) (hk : k.kind = 4) (h32 : a.length ≠ 32) : ACalls Try.prog 17 [.ptr h 0, vaultV ts d, .agg (askC k), rowsV l] H
      (AskedR H0 h m d ts []) := by
  have pa := of_pure k.a l hka hl
  have pb := of_pure k.b l hkb hl
  have pc := of_pure k.c l hkc hl
  have oa := own_pure a (by omega)
  have ob := own_pure b (by omega)
  have oc := own_pure c (by omega)
  rw [ha] at pa
  rw [hb] at pb
  rw [hc] at pc
  have hq := fun (B B' : AH) (ss : SS B B' h m d ts) => derive_none a b ⟨fun h => absurd h (by simp), by simp, by simp; omega⟩ hg h32 ss
  have hv := (show APure Try.prog 36 _ (.tup [vaultV ts d, .imm 0 [] 0]) from by have := vderive_pure ts d a b ⟨fun h => absurd h (by simp), by simp, by simp; omega⟩ (fun x hx => (hg.wf x hx).1) hg.len; rwa [if_neg h32] at this)
  obtain ⟨kd, n, ⟨fa, ra⟩, ⟨fb, rb⟩, ⟨fc, rc⟩⟩ := k
  simp only [askC] at *
  subst hk
  clear ha hb hc hka hkb hkc
  refine acalls_of_cwp (c := ⟨Try.prog, 225, [(1, [0, 1, 0, 0, 0, 1, 0, 0, 0, 1, 0, 0, 0, 0, 0]), (30, [0, 0, 0, 0, 1, 1, 0, 0, 0, 0, 0, 0]), (38, [1, 0, 0, 0, 0, 0, 0, 0, 0, 0, 0, 0, 0, 0, 0, 0, 0, 0, 0, 0, 0, 0, 0, 0, 0, 2, 0, 0, 0]), (1000000, [6]), (1000017, [23]), (4000038, [8, 9, 10, 11]), (4000008, [5, 8, 12, 13, 14, 15, 16, 17, 18, 19, 20]), (4000011, [5, 8, 12, 13, 14, 15, 16, 17, 18, 19, 20]), (4000014, [5, 8, 12, 13, 14, 15, 16, 17, 18, 19, 20]), (4000019, [5, 8, 12, 13, 14, 15, 16, 17, 18, 19, 20]), (4000017, [5, 8, 12, 13, 14, 15, 16, 17, 21, 22, 23, 24, 25]), (4000016, [5, 8, 12, 13, 14, 15, 16, 17, 21, 22]), (4000022, [5, 8, 12, 13, 14, 15, 16, 17, 18, 19, 20]), (4000021, [5, 8, 12, 13, 14, 15, 16, 17, 18, 20]), (4000025, [5, 8, 12, 13, 14, 15, 16, 17, 18, 19, 20]), (4000028, [5, 8, 12, 13, 14, 15, 16, 17, 18, 19, 20]), (4000027, [5, 8, 12, 13, 14, 15, 16, 17, 18, 20]), (4000030, [5, 8, 12, 13, 14, 15, 16, 17, 18, 19, 20]), (4000033, [5, 8, 12, 13, 14, 15, 16, 17, 18, 19, 20]), (4000032, [5, 6, 8, 12, 13, 14, 15, 16, 17, 18, 20]), (4000037, [5, 8, 12, 13, 14, 15, 16, 17, 18, 19, 20]), (4000036, [5, 8, 12, 13, 14, 15, 16, 17, 26, 27, 28, 29]), (4000035, [5, 6, 8, 12, 13, 14, 15, 16, 17, 26, 27]), (4000002, [0, 5, 6, 8, 12, 13, 14, 15, 16, 17]), (4000001, [0, 5, 6, 8, 12, 13, 14]), (4000000, [0, 3, 5, 6, 8])], [], []⟩) (rs := [ResultVar.cell 8 38, ResultVar.tmp 9, ResultVar.tmp 10, ResultVar.tmp 11]) Try.mixed Try.func17 rfl rfl rfl (Nat.le_of_ble_eq_true rfl) (by kernel_rfl) ?_
  simp (disch := omega) only [↓runPre, runPost, fieldO, ixA, cutA, lenA, aggA, rowA, appA, mkA, indA, bnd, srcA, sameOp, funcA, cvO, partA, aggD, ↓PostP, resV, resAll, resOne, resVF, resAllF, resOneF, fitsAll, fitsR, fits, frz, Post, Nat.reduceBEq, Nat.reduceLT, reduceCtorEq, ↓reduceIte, initS, AV.cellsOf, AV.fine, AV.one, repA, Nat.reduceMul, Nat.reduceAdd, Nat.reduceLeDiff, Nat.reduceEqDiff, Int.reduceToNat, Nat.reduceSub, Nat.reduceMod, Nat.reduceDiv, indexK.aggOf, Int.reducePow, Int.reduceLE, Int.reduceNeg, Int.reduceLT, Int.reduceBEq, Int.reduceBNe, Int.reduceEq, ownA, nilA, Try.facts]
  intro k5 hk50 hk5 k6 hk60 hk6 k8 hk80 hk8
  have n68 := set_ne hk8
  have n58 := set_ne (subset_set hk8)
  have hk8H := subset_set (subset_set hk8)
  have n5 := s.sub.free hk5
  have n8 := s.sub.free hk8H
  have s1 := (s.box (o := .cells [.imm 0 (termsC ts) ts.length, .sc (.int .i64 d)] 38 2) hk5).box (o := .cells [.sc (.slice none 0 0), .sc (.int .i64 0)] 38 2) (subset_set hk8)
  simp (disch := omega) only [↓runPre, runPost, fieldO, ixA, cutA, lenA, aggA, rowA, appA, mkA, indA, bnd, srcA, sameOp, funcA, cvO, partA, aggD, ↓PostP, resV, resAll, resOne, resVF, resAllF, resOneF, fitsAll, fitsR, fits, frz, Post, Nat.reduceBEq, Nat.reduceLT, reduceCtorEq, ↓reduceIte, initS, AV.cellsOf, AV.fine, AV.one, repA, Nat.reduceMul, Nat.reduceAdd, Nat.reduceLeDiff, Nat.reduceEqDiff, Int.reduceToNat, Nat.reduceSub, Nat.reduceMod, Nat.reduceDiv, indexK.aggOf, Int.reducePow, Int.reduceLE, Int.reduceNeg, Int.reduceLT, Int.reduceBEq, Int.reduceBNe, Int.reduceEq, ownA, nilA, Try.facts, set_other, kill_under hk6 n68]
  first | refine CallK.p (pa) ?_ | refine CallP.i (pa) ?_
  simp (disch := omega) only [↓runPre, runPost, fieldO, ixA, cutA, lenA, aggA, rowA, appA, mkA, indA, bnd, srcA, sameOp, funcA, cvO, partA, aggD, ↓PostP, resV, resAll, resOne, resVF, resAllF, resOneF, fitsAll, fitsR, fits, frz, Post, Nat.reduceBEq, Nat.reduceLT, reduceCtorEq, ↓reduceIte, initS, AV.cellsOf, AV.fine, AV.one, repA, Nat.reduceMul, Nat.reduceAdd, Nat.reduceLeDiff, Nat.reduceEqDiff, Int.reduceToNat, Nat.reduceSub, Nat.reduceMod, Nat.reduceDiv, indexK.aggOf, Int.reducePow, Int.reduceLE, Int.reduceNeg, Int.reduceLT, Int.reduceBEq, Int.reduceBNe, Int.reduceEq, ownA, nilA, Try.facts]
  first | refine CallK.p (pb) ?_ | refine CallP.i (pb) ?_
  simp (disch := omega) only [↓runPre, runPost, fieldO, ixA, cutA, lenA, aggA, rowA, appA, mkA, indA, bnd, srcA, sameOp, funcA, cvO, partA, aggD, ↓PostP, resV, resAll, resOne, resVF, resAllF, resOneF, fitsAll, fitsR, fits, frz, Post, Nat.reduceBEq, Nat.reduceLT, reduceCtorEq, ↓reduceIte, initS, AV.cellsOf, AV.fine, AV.one, repA, Nat.reduceMul, Nat.reduceAdd, Nat.reduceLeDiff, Nat.reduceEqDiff, Int.reduceToNat, Nat.reduceSub, Nat.reduceMod, Nat.reduceDiv, indexK.aggOf, Int.reducePow, Int.reduceLE, Int.reduceNeg, Int.reduceLT, Int.reduceBEq, Int.reduceBNe, Int.reduceEq, ownA, nilA, Try.facts]
  first | refine CallK.p (pc) ?_ | refine CallP.i (pc) ?_
  simp (disch := omega) only [↓runPre, runPost, fieldO, ixA, cutA, lenA, aggA, rowA, appA, mkA, indA, bnd, srcA, sameOp, funcA, cvO, partA, aggD, ↓PostP, resV, resAll, resOne, resVF, resAllF, resOneF, fitsAll, fitsR, fits, frz, Post, Nat.reduceBEq, Nat.reduceLT, reduceCtorEq, ↓reduceIte, initS, AV.cellsOf, AV.fine, AV.one, repA, Nat.reduceMul, Nat.reduceAdd, Nat.reduceLeDiff, Nat.reduceEqDiff, Int.reduceToNat, Nat.reduceSub, Nat.reduceMod, Nat.reduceDiv, indexK.aggOf, Int.reducePow, Int.reduceLE, Int.reduceNeg, Int.reduceLT, Int.reduceBEq, Int.reduceBNe, Int.reduceEq, ownA, nilA, Try.facts]
  first | refine CallK.p (oa) ?_ | refine CallP.i (oa) ?_
  simp (disch := omega) only [↓runPre, runPost, fieldO, ixA, cutA, lenA, aggA, rowA, appA, mkA, indA, bnd, srcA, sameOp, funcA, cvO, partA, aggD, ↓PostP, resV, resAll, resOne, resVF, resAllF, resOneF, fitsAll, fitsR, fits, frz, Post, Nat.reduceBEq, Nat.reduceLT, reduceCtorEq, ↓reduceIte, initS, AV.cellsOf, AV.fine, AV.one, repA, Nat.reduceMul, Nat.reduceAdd, Nat.reduceLeDiff, Nat.reduceEqDiff, Int.reduceToNat, Nat.reduceSub, Nat.reduceMod, Nat.reduceDiv, indexK.aggOf, Int.reducePow, Int.reduceLE, Int.reduceNeg, Int.reduceLT, Int.reduceBEq, Int.reduceBNe, Int.reduceEq, ownA, nilA, Try.facts]
  first | refine CallK.p (ob) ?_ | refine CallP.i (ob) ?_
  simp (disch := omega) only [↓runPre, runPost, fieldO, ixA, cutA, lenA, aggA, rowA, appA, mkA, indA, bnd, srcA, sameOp, funcA, cvO, partA, aggD, ↓PostP, resV, resAll, resOne, resVF, resAllF, resOneF, fitsAll, fitsR, fits, frz, Post, Nat.reduceBEq, Nat.reduceLT, reduceCtorEq, ↓reduceIte, initS, AV.cellsOf, AV.fine, AV.one, repA, Nat.reduceMul, Nat.reduceAdd, Nat.reduceLeDiff, Nat.reduceEqDiff, Int.reduceToNat, Nat.reduceSub, Nat.reduceMod, Nat.reduceDiv, indexK.aggOf, Int.reducePow, Int.reduceLE, Int.reduceNeg, Int.reduceLT, Int.reduceBEq, Int.reduceBNe, Int.reduceEq, ownA, nilA, Try.facts]
  first | refine CallK.p (oc) ?_ | refine CallP.i (oc) ?_
  simp (disch := omega) only [↓runPre, runPost, fieldO, ixA, cutA, lenA, aggA, rowA, appA, mkA, indA, bnd, srcA, sameOp, funcA, cvO, partA, aggD, ↓PostP, resV, resAll, resOne, resVF, resAllF, resOneF, fitsAll, fitsR, fits, frz, Post, Nat.reduceBEq, Nat.reduceLT, reduceCtorEq, ↓reduceIte, initS, AV.cellsOf, AV.fine, AV.one, repA, Nat.reduceMul, Nat.reduceAdd, Nat.reduceLeDiff, Nat.reduceEqDiff, Int.reduceToNat, Nat.reduceSub, Nat.reduceMod, Nat.reduceDiv, indexK.aggOf, Int.reducePow, Int.reduceLE, Int.reduceNeg, Int.reduceLT, Int.reduceBEq, Int.reduceBNe, Int.reduceEq, ownA, nilA, Try.facts]
  refine CallK.i (hq _ _ s1) ?_
  rintro v H2 ⟨rfl, s2⟩
  have l5 := s2.sub k5 _ (by rw [set_other n58, set_get])
  have l8 := s2.sub k8 _ set_get
  simp (disch := omega) only [↓runPre, runPost, fieldO, ixA, cutA, lenA, aggA, rowA, appA, mkA, indA, bnd, srcA, sameOp, funcA, cvO, partA, aggD, ↓PostP, resV, resAll, resOne, resVF, resAllF, resOneF, fitsAll, fitsR, fits, frz, Post, Nat.reduceBEq, Nat.reduceLT, reduceCtorEq, ↓reduceIte, initS, AV.cellsOf, AV.fine, AV.one, repA, Nat.reduceMul, Nat.reduceAdd, Nat.reduceLeDiff, Nat.reduceEqDiff, Int.reduceToNat, Nat.reduceSub, Nat.reduceMod, Nat.reduceDiv, indexK.aggOf, Int.reducePow, Int.reduceLE, Int.reduceNeg, Int.reduceLT, Int.reduceBEq, Int.reduceBNe, Int.reduceEq, ownA, nilA, Try.facts, set_other, l5, l8]
  first | refine CallK.p (hv) ?_ | refine CallP.i (hv) ?_
  simp (disch := omega) only [↓runPre, runPost, fieldO, ixA, cutA, lenA, aggA, rowA, appA, mkA, indA, bnd, srcA, sameOp, funcA, cvO, partA, aggD, ↓PostP, resV, resAll, resOne, resVF, resAllF, resOneF, fitsAll, fitsR, fits, frz, Post, Nat.reduceBEq, Nat.reduceLT, reduceCtorEq, ↓reduceIte, initS, AV.cellsOf, AV.fine, AV.one, repA, Nat.reduceMul, Nat.reduceAdd, Nat.reduceLeDiff, Nat.reduceEqDiff, Int.reduceToNat, Nat.reduceSub, Nat.reduceMod, Nat.reduceDiv, indexK.aggOf, Int.reducePow, Int.reduceLE, Int.reduceNeg, Int.reduceLT, Int.reduceBEq, Int.reduceBNe, Int.reduceEq, ownA, nilA, Try.facts, set_other, l5, l8, putCells_eq, baToList]
  obtain ⟨H9, q1, q2⟩ := asked_end0 s2 n5 n8 n58
  exact ⟨_, rfl, H9, q1, _, rfl, .inl ⟨rfl, rfl, q2⟩⟩

theorem asked_signer_yes (H0 H : AH) (h m d : Nat) (ts : List Term) (k : AskT) (l : List (List UInt8)) (a b c : List UInt8) (hl : l.length ≤ 1000000) (ha : k.a.of l = a) (hb : k.b.of l = b) (hc : k.c.of l = c)
    (ha0 : a.length ≤ 100000000) (hb0 : b.length ≤ 100000000) (hc0 : c.length ≤ 100000000) (hka : -9223372036854775808 ≤ k.a.from_ ∧ k.a.from_ < 9223372036854775808) (hkb : -9223372036854775808 ≤ k.b.from_ ∧ k.b.from_ < 9223372036854775808) (hkc : -9223372036854775808 ≤ k.c.from_ ∧ k.c.from_ < 9223372036854775808)
    (hg : GT 1000000 ts) (hd : d ≤ 1000000) (s : SS H0 H h m d ts) (hk : k.kind = 5) (h32 : a.length = 32) : ACalls Try.prog 17 [.ptr h 0, vaultV ts d, .agg (askC k), rowsV l] H
      (AskedR H0 h m d (numT ts ⟨118, [a]⟩).1 (nameT ⟨118, [a]⟩ (numT ts ⟨118, [a]⟩).2)) := by
  have pa := of_pure k.a l hka hl
  have pb := of_pure k.b l hkb hl
  have pc := of_pure k.c l hkc hl
  have oa := own_pure a (by omega)
  have ob := own_pure b (by omega)
  have oc := own_pure c (by omega)
  rw [ha] at pa
  rw [hb] at pb
  rw [hc] at pc
  have hq := fun (B B' : AH) (ss : SS B B' h m d ts) => signer_give a ⟨fun h => absurd h (by simp), by simp, by simp; omega⟩ hg h32 ss
  have hv := (show APure Try.prog 37 _ (.tup [vaultV (numT ts ⟨118, [a]⟩).1 d, bytesV (nameT ⟨118, [a]⟩ (numT ts ⟨118, [a]⟩).2)]) from by have := vsigner_pure ts d a ⟨fun h => absurd h (by simp), by simp, by simp; omega⟩ (fun x hx => (hg.wf x hx).1) hg.len; rwa [if_pos h32] at this)
  generalize (numT ts ⟨118, [a]⟩).1 = Z1 at *
  generalize nameT ⟨118, [a]⟩ (numT ts ⟨118, [a]⟩).2 = Z2 at *
  obtain ⟨kd, n, ⟨fa, ra⟩, ⟨fb, rb⟩, ⟨fc, rc⟩⟩ := k
  simp only [askC] at *
  subst hk
  clear ha hb hc hka hkb hkc
  refine acalls_of_cwp (c := ⟨Try.prog, 225, [(1, [0, 1, 0, 0, 0, 1, 0, 0, 0, 1, 0, 0, 0, 0, 0]), (30, [0, 0, 0, 0, 1, 1, 0, 0, 0, 0, 0, 0]), (38, [1, 0, 0, 0, 0, 0, 0, 0, 0, 0, 0, 0, 0, 0, 0, 0, 0, 0, 0, 0, 0, 0, 0, 0, 0, 2, 0, 0, 0]), (1000000, [6]), (1000017, [23]), (4000038, [8, 9, 10, 11]), (4000008, [5, 8, 12, 13, 14, 15, 16, 17, 18, 19, 20]), (4000011, [5, 8, 12, 13, 14, 15, 16, 17, 18, 19, 20]), (4000014, [5, 8, 12, 13, 14, 15, 16, 17, 18, 19, 20]), (4000019, [5, 8, 12, 13, 14, 15, 16, 17, 18, 19, 20]), (4000017, [5, 8, 12, 13, 14, 15, 16, 17, 21, 22, 23, 24, 25]), (4000016, [5, 8, 12, 13, 14, 15, 16, 17, 21, 22]), (4000022, [5, 8, 12, 13, 14, 15, 16, 17, 18, 19, 20]), (4000021, [5, 8, 12, 13, 14, 15, 16, 17, 18, 20]), (4000025, [5, 8, 12, 13, 14, 15, 16, 17, 18, 19, 20]), (4000028, [5, 8, 12, 13, 14, 15, 16, 17, 18, 19, 20]), (4000027, [5, 8, 12, 13, 14, 15, 16, 17, 18, 20]), (4000030, [5, 8, 12, 13, 14, 15, 16, 17, 18, 19, 20]), (4000033, [5, 8, 12, 13, 14, 15, 16, 17, 18, 19, 20]), (4000032, [5, 6, 8, 12, 13, 14, 15, 16, 17, 18, 20]), (4000037, [5, 8, 12, 13, 14, 15, 16, 17, 18, 19, 20]), (4000036, [5, 8, 12, 13, 14, 15, 16, 17, 26, 27, 28, 29]), (4000035, [5, 6, 8, 12, 13, 14, 15, 16, 17, 26, 27]), (4000002, [0, 5, 6, 8, 12, 13, 14, 15, 16, 17]), (4000001, [0, 5, 6, 8, 12, 13, 14]), (4000000, [0, 3, 5, 6, 8])], [], []⟩) (rs := [ResultVar.cell 8 38, ResultVar.tmp 9, ResultVar.tmp 10, ResultVar.tmp 11]) Try.mixed Try.func17 rfl rfl rfl (Nat.le_of_ble_eq_true rfl) (by kernel_rfl) ?_
  simp (disch := omega) only [↓runPre, runPost, fieldO, ixA, cutA, lenA, aggA, rowA, appA, mkA, indA, bnd, srcA, sameOp, funcA, cvO, partA, aggD, ↓PostP, resV, resAll, resOne, resVF, resAllF, resOneF, fitsAll, fitsR, fits, frz, Post, Nat.reduceBEq, Nat.reduceLT, reduceCtorEq, ↓reduceIte, initS, AV.cellsOf, AV.fine, AV.one, repA, Nat.reduceMul, Nat.reduceAdd, Nat.reduceLeDiff, Nat.reduceEqDiff, Int.reduceToNat, Nat.reduceSub, Nat.reduceMod, Nat.reduceDiv, indexK.aggOf, Int.reducePow, Int.reduceLE, Int.reduceNeg, Int.reduceLT, Int.reduceBEq, Int.reduceBNe, Int.reduceEq, ownA, nilA, Try.facts]
  intro k5 hk50 hk5 k6 hk60 hk6 k8 hk80 hk8
  have n68 := set_ne hk8
  have n58 := set_ne (subset_set hk8)
  have hk8H := subset_set (subset_set hk8)
  have n5 := s.sub.free hk5
  have n8 := s.sub.free hk8H
  have s1 := (s.box (o := .cells [.imm 0 (termsC ts) ts.length, .sc (.int .i64 d)] 38 2) hk5).box (o := .cells [.sc (.slice none 0 0), .sc (.int .i64 0)] 38 2) (subset_set hk8)
  simp (disch := omega) only [↓runPre, runPost, fieldO, ixA, cutA, lenA, aggA, rowA, appA, mkA, indA, bnd, srcA, sameOp, funcA, cvO, partA, aggD, ↓PostP, resV, resAll, resOne, resVF, resAllF, resOneF, fitsAll, fitsR, fits, frz, Post, Nat.reduceBEq, Nat.reduceLT, reduceCtorEq, ↓reduceIte, initS, AV.cellsOf, AV.fine, AV.one, repA, Nat.reduceMul, Nat.reduceAdd, Nat.reduceLeDiff, Nat.reduceEqDiff, Int.reduceToNat, Nat.reduceSub, Nat.reduceMod, Nat.reduceDiv, indexK.aggOf, Int.reducePow, Int.reduceLE, Int.reduceNeg, Int.reduceLT, Int.reduceBEq, Int.reduceBNe, Int.reduceEq, ownA, nilA, Try.facts, set_other, kill_under hk6 n68]
  first | refine CallK.p (pa) ?_ | refine CallP.i (pa) ?_
  simp (disch := omega) only [↓runPre, runPost, fieldO, ixA, cutA, lenA, aggA, rowA, appA, mkA, indA, bnd, srcA, sameOp, funcA, cvO, partA, aggD, ↓PostP, resV, resAll, resOne, resVF, resAllF, resOneF, fitsAll, fitsR, fits, frz, Post, Nat.reduceBEq, Nat.reduceLT, reduceCtorEq, ↓reduceIte, initS, AV.cellsOf, AV.fine, AV.one, repA, Nat.reduceMul, Nat.reduceAdd, Nat.reduceLeDiff, Nat.reduceEqDiff, Int.reduceToNat, Nat.reduceSub, Nat.reduceMod, Nat.reduceDiv, indexK.aggOf, Int.reducePow, Int.reduceLE, Int.reduceNeg, Int.reduceLT, Int.reduceBEq, Int.reduceBNe, Int.reduceEq, ownA, nilA, Try.facts]
  first | refine CallK.p (pb) ?_ | refine CallP.i (pb) ?_
  simp (disch := omega) only [↓runPre, runPost, fieldO, ixA, cutA, lenA, aggA, rowA, appA, mkA, indA, bnd, srcA, sameOp, funcA, cvO, partA, aggD, ↓PostP, resV, resAll, resOne, resVF, resAllF, resOneF, fitsAll, fitsR, fits, frz, Post, Nat.reduceBEq, Nat.reduceLT, reduceCtorEq, ↓reduceIte, initS, AV.cellsOf, AV.fine, AV.one, repA, Nat.reduceMul, Nat.reduceAdd, Nat.reduceLeDiff, Nat.reduceEqDiff, Int.reduceToNat, Nat.reduceSub, Nat.reduceMod, Nat.reduceDiv, indexK.aggOf, Int.reducePow, Int.reduceLE, Int.reduceNeg, Int.reduceLT, Int.reduceBEq, Int.reduceBNe, Int.reduceEq, ownA, nilA, Try.facts]
  first | refine CallK.p (pc) ?_ | refine CallP.i (pc) ?_
  simp (disch := omega) only [↓runPre, runPost, fieldO, ixA, cutA, lenA, aggA, rowA, appA, mkA, indA, bnd, srcA, sameOp, funcA, cvO, partA, aggD, ↓PostP, resV, resAll, resOne, resVF, resAllF, resOneF, fitsAll, fitsR, fits, frz, Post, Nat.reduceBEq, Nat.reduceLT, reduceCtorEq, ↓reduceIte, initS, AV.cellsOf, AV.fine, AV.one, repA, Nat.reduceMul, Nat.reduceAdd, Nat.reduceLeDiff, Nat.reduceEqDiff, Int.reduceToNat, Nat.reduceSub, Nat.reduceMod, Nat.reduceDiv, indexK.aggOf, Int.reducePow, Int.reduceLE, Int.reduceNeg, Int.reduceLT, Int.reduceBEq, Int.reduceBNe, Int.reduceEq, ownA, nilA, Try.facts]
  first | refine CallK.p (oa) ?_ | refine CallP.i (oa) ?_
  simp (disch := omega) only [↓runPre, runPost, fieldO, ixA, cutA, lenA, aggA, rowA, appA, mkA, indA, bnd, srcA, sameOp, funcA, cvO, partA, aggD, ↓PostP, resV, resAll, resOne, resVF, resAllF, resOneF, fitsAll, fitsR, fits, frz, Post, Nat.reduceBEq, Nat.reduceLT, reduceCtorEq, ↓reduceIte, initS, AV.cellsOf, AV.fine, AV.one, repA, Nat.reduceMul, Nat.reduceAdd, Nat.reduceLeDiff, Nat.reduceEqDiff, Int.reduceToNat, Nat.reduceSub, Nat.reduceMod, Nat.reduceDiv, indexK.aggOf, Int.reducePow, Int.reduceLE, Int.reduceNeg, Int.reduceLT, Int.reduceBEq, Int.reduceBNe, Int.reduceEq, ownA, nilA, Try.facts]
  first | refine CallK.p (ob) ?_ | refine CallP.i (ob) ?_
  simp (disch := omega) only [↓runPre, runPost, fieldO, ixA, cutA, lenA, aggA, rowA, appA, mkA, indA, bnd, srcA, sameOp, funcA, cvO, partA, aggD, ↓PostP, resV, resAll, resOne, resVF, resAllF, resOneF, fitsAll, fitsR, fits, frz, Post, Nat.reduceBEq, Nat.reduceLT, reduceCtorEq, ↓reduceIte, initS, AV.cellsOf, AV.fine, AV.one, repA, Nat.reduceMul, Nat.reduceAdd, Nat.reduceLeDiff, Nat.reduceEqDiff, Int.reduceToNat, Nat.reduceSub, Nat.reduceMod, Nat.reduceDiv, indexK.aggOf, Int.reducePow, Int.reduceLE, Int.reduceNeg, Int.reduceLT, Int.reduceBEq, Int.reduceBNe, Int.reduceEq, ownA, nilA, Try.facts]
  first | refine CallK.p (oc) ?_ | refine CallP.i (oc) ?_
  simp (disch := omega) only [↓runPre, runPost, fieldO, ixA, cutA, lenA, aggA, rowA, appA, mkA, indA, bnd, srcA, sameOp, funcA, cvO, partA, aggD, ↓PostP, resV, resAll, resOne, resVF, resAllF, resOneF, fitsAll, fitsR, fits, frz, Post, Nat.reduceBEq, Nat.reduceLT, reduceCtorEq, ↓reduceIte, initS, AV.cellsOf, AV.fine, AV.one, repA, Nat.reduceMul, Nat.reduceAdd, Nat.reduceLeDiff, Nat.reduceEqDiff, Int.reduceToNat, Nat.reduceSub, Nat.reduceMod, Nat.reduceDiv, indexK.aggOf, Int.reducePow, Int.reduceLE, Int.reduceNeg, Int.reduceLT, Int.reduceBEq, Int.reduceBNe, Int.reduceEq, ownA, nilA, Try.facts]
  refine CallK.i (hq _ _ s1) ?_
  rintro v H3 ⟨H2, s2, kk, hkk0, hkk, rfl, rfl⟩
  have l5 := s2.sub k5 _ (by rw [set_other n58, set_get])
  have l8 := s2.sub k8 _ set_get
  have m5 := ne_live l5 hkk
  have m8 := ne_live l8 hkk
  simp (disch := omega) only [↓runPre, runPost, fieldO, ixA, cutA, lenA, aggA, rowA, appA, mkA, indA, bnd, srcA, sameOp, funcA, cvO, partA, aggD, ↓PostP, resV, resAll, resOne, resVF, resAllF, resOneF, fitsAll, fitsR, fits, frz, Post, Nat.reduceBEq, Nat.reduceLT, reduceCtorEq, ↓reduceIte, initS, AV.cellsOf, AV.fine, AV.one, repA, Nat.reduceMul, Nat.reduceAdd, Nat.reduceLeDiff, Nat.reduceEqDiff, Int.reduceToNat, Nat.reduceSub, Nat.reduceMod, Nat.reduceDiv, indexK.aggOf, Int.reducePow, Int.reduceLE, Int.reduceNeg, Int.reduceLT, Int.reduceBEq, Int.reduceBNe, Int.reduceEq, ownA, nilA, Try.facts, set_other, l5, l8]
  first | refine CallK.p (hv) ?_ | refine CallP.i (hv) ?_
  simp (disch := omega) only [↓runPre, runPost, fieldO, ixA, cutA, lenA, aggA, rowA, appA, mkA, indA, bnd, srcA, sameOp, funcA, cvO, partA, aggD, ↓PostP, resV, resAll, resOne, resVF, resAllF, resOneF, fitsAll, fitsR, fits, frz, Post, Nat.reduceBEq, Nat.reduceLT, reduceCtorEq, ↓reduceIte, initS, AV.cellsOf, AV.fine, AV.one, repA, Nat.reduceMul, Nat.reduceAdd, Nat.reduceLeDiff, Nat.reduceEqDiff, Int.reduceToNat, Nat.reduceSub, Nat.reduceMod, Nat.reduceDiv, indexK.aggOf, Int.reducePow, Int.reduceLE, Int.reduceNeg, Int.reduceLT, Int.reduceBEq, Int.reduceBNe, Int.reduceEq, ownA, nilA, Try.facts, set_other, l5, l8, putCells_eq, baToList]
  obtain ⟨H9, q1, q2⟩ := asked_end s2 n5 n8 n58 hkk0 hkk Z2
  exact ⟨_, rfl, H9, q1, _, rfl, .inr q2⟩

theorem asked_signer_no (H0 H : AH) (h m d : Nat) (ts : List Term) (k : AskT) (l : List (List UInt8)) (a b c : List UInt8) (hl : l.length ≤ 1000000) (ha : k.a.of l = a) (hb : k.b.of l = b) (hc : k.c.of l = c)
    (ha0 : a.length ≤ 100000000) (hb0 : b.length ≤ 100000000) (hc0 : c.length ≤ 100000000) (hka : -9223372036854775808 ≤ k.a.from_ ∧ k.a.from_ < 9223372036854775808) (hkb : -9223372036854775808 ≤ k.b.from_ ∧ k.b.from_ < 9223372036854775808) (hkc : -9223372036854775808 ≤ k.c.from_ ∧ k.c.from_ < 9223372036854775808)
    (hg : GT 1000000 ts) (hd : d ≤ 1000000) (s : SS H0 H h m d ts) (hk : k.kind = 5) (h32 : a.length ≠ 32) : ACalls Try.prog 17 [.ptr h 0, vaultV ts d, .agg (askC k), rowsV l] H
      (AskedR H0 h m d ts []) := by
  have pa := of_pure k.a l hka hl
  have pb := of_pure k.b l hkb hl
  have pc := of_pure k.c l hkc hl
  have oa := own_pure a (by omega)
  have ob := own_pure b (by omega)
  have oc := own_pure c (by omega)
  rw [ha] at pa
  rw [hb] at pb
  rw [hc] at pc
  have hq := fun (B B' : AH) (ss : SS B B' h m d ts) => signer_none a ⟨fun h => absurd h (by simp), by simp, by simp; omega⟩ hg h32 ss
  have hv := (show APure Try.prog 37 _ (.tup [vaultV ts d, .imm 0 [] 0]) from by have := vsigner_pure ts d a ⟨fun h => absurd h (by simp), by simp, by simp; omega⟩ (fun x hx => (hg.wf x hx).1) hg.len; rwa [if_neg h32] at this)
  obtain ⟨kd, n, ⟨fa, ra⟩, ⟨fb, rb⟩, ⟨fc, rc⟩⟩ := k
  simp only [askC] at *
  subst hk
  clear ha hb hc hka hkb hkc
  refine acalls_of_cwp (c := ⟨Try.prog, 225, [(1, [0, 1, 0, 0, 0, 1, 0, 0, 0, 1, 0, 0, 0, 0, 0]), (30, [0, 0, 0, 0, 1, 1, 0, 0, 0, 0, 0, 0]), (38, [1, 0, 0, 0, 0, 0, 0, 0, 0, 0, 0, 0, 0, 0, 0, 0, 0, 0, 0, 0, 0, 0, 0, 0, 0, 2, 0, 0, 0]), (1000000, [6]), (1000017, [23]), (4000038, [8, 9, 10, 11]), (4000008, [5, 8, 12, 13, 14, 15, 16, 17, 18, 19, 20]), (4000011, [5, 8, 12, 13, 14, 15, 16, 17, 18, 19, 20]), (4000014, [5, 8, 12, 13, 14, 15, 16, 17, 18, 19, 20]), (4000019, [5, 8, 12, 13, 14, 15, 16, 17, 18, 19, 20]), (4000017, [5, 8, 12, 13, 14, 15, 16, 17, 21, 22, 23, 24, 25]), (4000016, [5, 8, 12, 13, 14, 15, 16, 17, 21, 22]), (4000022, [5, 8, 12, 13, 14, 15, 16, 17, 18, 19, 20]), (4000021, [5, 8, 12, 13, 14, 15, 16, 17, 18, 20]), (4000025, [5, 8, 12, 13, 14, 15, 16, 17, 18, 19, 20]), (4000028, [5, 8, 12, 13, 14, 15, 16, 17, 18, 19, 20]), (4000027, [5, 8, 12, 13, 14, 15, 16, 17, 18, 20]), (4000030, [5, 8, 12, 13, 14, 15, 16, 17, 18, 19, 20]), (4000033, [5, 8, 12, 13, 14, 15, 16, 17, 18, 19, 20]), (4000032, [5, 6, 8, 12, 13, 14, 15, 16, 17, 18, 20]), (4000037, [5, 8, 12, 13, 14, 15, 16, 17, 18, 19, 20]), (4000036, [5, 8, 12, 13, 14, 15, 16, 17, 26, 27, 28, 29]), (4000035, [5, 6, 8, 12, 13, 14, 15, 16, 17, 26, 27]), (4000002, [0, 5, 6, 8, 12, 13, 14, 15, 16, 17]), (4000001, [0, 5, 6, 8, 12, 13, 14]), (4000000, [0, 3, 5, 6, 8])], [], []⟩) (rs := [ResultVar.cell 8 38, ResultVar.tmp 9, ResultVar.tmp 10, ResultVar.tmp 11]) Try.mixed Try.func17 rfl rfl rfl (Nat.le_of_ble_eq_true rfl) (by kernel_rfl) ?_
  simp (disch := omega) only [↓runPre, runPost, fieldO, ixA, cutA, lenA, aggA, rowA, appA, mkA, indA, bnd, srcA, sameOp, funcA, cvO, partA, aggD, ↓PostP, resV, resAll, resOne, resVF, resAllF, resOneF, fitsAll, fitsR, fits, frz, Post, Nat.reduceBEq, Nat.reduceLT, reduceCtorEq, ↓reduceIte, initS, AV.cellsOf, AV.fine, AV.one, repA, Nat.reduceMul, Nat.reduceAdd, Nat.reduceLeDiff, Nat.reduceEqDiff, Int.reduceToNat, Nat.reduceSub, Nat.reduceMod, Nat.reduceDiv, indexK.aggOf, Int.reducePow, Int.reduceLE, Int.reduceNeg, Int.reduceLT, Int.reduceBEq, Int.reduceBNe, Int.reduceEq, ownA, nilA, Try.facts]
  intro k5 hk50 hk5 k6 hk60 hk6 k8 hk80 hk8
  have n68 := set_ne hk8
  have n58 := set_ne (subset_set hk8)
  have hk8H := subset_set (subset_set hk8)
  have n5 := s.sub.free hk5
  have n8 := s.sub.free hk8H
  have s1 := (s.box (o := .cells [.imm 0 (termsC ts) ts.length, .sc (.int .i64 d)] 38 2) hk5).box (o := .cells [.sc (.slice none 0 0), .sc (.int .i64 0)] 38 2) (subset_set hk8)
  simp (disch := omega) only [↓runPre, runPost, fieldO, ixA, cutA, lenA, aggA, rowA, appA, mkA, indA, bnd, srcA, sameOp, funcA, cvO, partA, aggD, ↓PostP, resV, resAll, resOne, resVF, resAllF, resOneF, fitsAll, fitsR, fits, frz, Post, Nat.reduceBEq, Nat.reduceLT, reduceCtorEq, ↓reduceIte, initS, AV.cellsOf, AV.fine, AV.one, repA, Nat.reduceMul, Nat.reduceAdd, Nat.reduceLeDiff, Nat.reduceEqDiff, Int.reduceToNat, Nat.reduceSub, Nat.reduceMod, Nat.reduceDiv, indexK.aggOf, Int.reducePow, Int.reduceLE, Int.reduceNeg, Int.reduceLT, Int.reduceBEq, Int.reduceBNe, Int.reduceEq, ownA, nilA, Try.facts, set_other, kill_under hk6 n68]
  first | refine CallK.p (pa) ?_ | refine CallP.i (pa) ?_
  simp (disch := omega) only [↓runPre, runPost, fieldO, ixA, cutA, lenA, aggA, rowA, appA, mkA, indA, bnd, srcA, sameOp, funcA, cvO, partA, aggD, ↓PostP, resV, resAll, resOne, resVF, resAllF, resOneF, fitsAll, fitsR, fits, frz, Post, Nat.reduceBEq, Nat.reduceLT, reduceCtorEq, ↓reduceIte, initS, AV.cellsOf, AV.fine, AV.one, repA, Nat.reduceMul, Nat.reduceAdd, Nat.reduceLeDiff, Nat.reduceEqDiff, Int.reduceToNat, Nat.reduceSub, Nat.reduceMod, Nat.reduceDiv, indexK.aggOf, Int.reducePow, Int.reduceLE, Int.reduceNeg, Int.reduceLT, Int.reduceBEq, Int.reduceBNe, Int.reduceEq, ownA, nilA, Try.facts]
  first | refine CallK.p (pb) ?_ | refine CallP.i (pb) ?_
  simp (disch := omega) only [↓runPre, runPost, fieldO, ixA, cutA, lenA, aggA, rowA, appA, mkA, indA, bnd, srcA, sameOp, funcA, cvO, partA, aggD, ↓PostP, resV, resAll, resOne, resVF, resAllF, resOneF, fitsAll, fitsR, fits, frz, Post, Nat.reduceBEq, Nat.reduceLT, reduceCtorEq, ↓reduceIte, initS, AV.cellsOf, AV.fine, AV.one, repA, Nat.reduceMul, Nat.reduceAdd, Nat.reduceLeDiff, Nat.reduceEqDiff, Int.reduceToNat, Nat.reduceSub, Nat.reduceMod, Nat.reduceDiv, indexK.aggOf, Int.reducePow, Int.reduceLE, Int.reduceNeg, Int.reduceLT, Int.reduceBEq, Int.reduceBNe, Int.reduceEq, ownA, nilA, Try.facts]
  first | refine CallK.p (pc) ?_ | refine CallP.i (pc) ?_
  simp (disch := omega) only [↓runPre, runPost, fieldO, ixA, cutA, lenA, aggA, rowA, appA, mkA, indA, bnd, srcA, sameOp, funcA, cvO, partA, aggD, ↓PostP, resV, resAll, resOne, resVF, resAllF, resOneF, fitsAll, fitsR, fits, frz, Post, Nat.reduceBEq, Nat.reduceLT, reduceCtorEq, ↓reduceIte, initS, AV.cellsOf, AV.fine, AV.one, repA, Nat.reduceMul, Nat.reduceAdd, Nat.reduceLeDiff, Nat.reduceEqDiff, Int.reduceToNat, Nat.reduceSub, Nat.reduceMod, Nat.reduceDiv, indexK.aggOf, Int.reducePow, Int.reduceLE, Int.reduceNeg, Int.reduceLT, Int.reduceBEq, Int.reduceBNe, Int.reduceEq, ownA, nilA, Try.facts]
  first | refine CallK.p (oa) ?_ | refine CallP.i (oa) ?_
  simp (disch := omega) only [↓runPre, runPost, fieldO, ixA, cutA, lenA, aggA, rowA, appA, mkA, indA, bnd, srcA, sameOp, funcA, cvO, partA, aggD, ↓PostP, resV, resAll, resOne, resVF, resAllF, resOneF, fitsAll, fitsR, fits, frz, Post, Nat.reduceBEq, Nat.reduceLT, reduceCtorEq, ↓reduceIte, initS, AV.cellsOf, AV.fine, AV.one, repA, Nat.reduceMul, Nat.reduceAdd, Nat.reduceLeDiff, Nat.reduceEqDiff, Int.reduceToNat, Nat.reduceSub, Nat.reduceMod, Nat.reduceDiv, indexK.aggOf, Int.reducePow, Int.reduceLE, Int.reduceNeg, Int.reduceLT, Int.reduceBEq, Int.reduceBNe, Int.reduceEq, ownA, nilA, Try.facts]
  first | refine CallK.p (ob) ?_ | refine CallP.i (ob) ?_
  simp (disch := omega) only [↓runPre, runPost, fieldO, ixA, cutA, lenA, aggA, rowA, appA, mkA, indA, bnd, srcA, sameOp, funcA, cvO, partA, aggD, ↓PostP, resV, resAll, resOne, resVF, resAllF, resOneF, fitsAll, fitsR, fits, frz, Post, Nat.reduceBEq, Nat.reduceLT, reduceCtorEq, ↓reduceIte, initS, AV.cellsOf, AV.fine, AV.one, repA, Nat.reduceMul, Nat.reduceAdd, Nat.reduceLeDiff, Nat.reduceEqDiff, Int.reduceToNat, Nat.reduceSub, Nat.reduceMod, Nat.reduceDiv, indexK.aggOf, Int.reducePow, Int.reduceLE, Int.reduceNeg, Int.reduceLT, Int.reduceBEq, Int.reduceBNe, Int.reduceEq, ownA, nilA, Try.facts]
  first | refine CallK.p (oc) ?_ | refine CallP.i (oc) ?_
  simp (disch := omega) only [↓runPre, runPost, fieldO, ixA, cutA, lenA, aggA, rowA, appA, mkA, indA, bnd, srcA, sameOp, funcA, cvO, partA, aggD, ↓PostP, resV, resAll, resOne, resVF, resAllF, resOneF, fitsAll, fitsR, fits, frz, Post, Nat.reduceBEq, Nat.reduceLT, reduceCtorEq, ↓reduceIte, initS, AV.cellsOf, AV.fine, AV.one, repA, Nat.reduceMul, Nat.reduceAdd, Nat.reduceLeDiff, Nat.reduceEqDiff, Int.reduceToNat, Nat.reduceSub, Nat.reduceMod, Nat.reduceDiv, indexK.aggOf, Int.reducePow, Int.reduceLE, Int.reduceNeg, Int.reduceLT, Int.reduceBEq, Int.reduceBNe, Int.reduceEq, ownA, nilA, Try.facts]
  refine CallK.i (hq _ _ s1) ?_
  rintro v H2 ⟨rfl, s2⟩
  have l5 := s2.sub k5 _ (by rw [set_other n58, set_get])
  have l8 := s2.sub k8 _ set_get
  simp (disch := omega) only [↓runPre, runPost, fieldO, ixA, cutA, lenA, aggA, rowA, appA, mkA, indA, bnd, srcA, sameOp, funcA, cvO, partA, aggD, ↓PostP, resV, resAll, resOne, resVF, resAllF, resOneF, fitsAll, fitsR, fits, frz, Post, Nat.reduceBEq, Nat.reduceLT, reduceCtorEq, ↓reduceIte, initS, AV.cellsOf, AV.fine, AV.one, repA, Nat.reduceMul, Nat.reduceAdd, Nat.reduceLeDiff, Nat.reduceEqDiff, Int.reduceToNat, Nat.reduceSub, Nat.reduceMod, Nat.reduceDiv, indexK.aggOf, Int.reducePow, Int.reduceLE, Int.reduceNeg, Int.reduceLT, Int.reduceBEq, Int.reduceBNe, Int.reduceEq, ownA, nilA, Try.facts, set_other, l5, l8]
  first | refine CallK.p (hv) ?_ | refine CallP.i (hv) ?_
  simp (disch := omega) only [↓runPre, runPost, fieldO, ixA, cutA, lenA, aggA, rowA, appA, mkA, indA, bnd, srcA, sameOp, funcA, cvO, partA, aggD, ↓PostP, resV, resAll, resOne, resVF, resAllF, resOneF, fitsAll, fitsR, fits, frz, Post, Nat.reduceBEq, Nat.reduceLT, reduceCtorEq, ↓reduceIte, initS, AV.cellsOf, AV.fine, AV.one, repA, Nat.reduceMul, Nat.reduceAdd, Nat.reduceLeDiff, Nat.reduceEqDiff, Int.reduceToNat, Nat.reduceSub, Nat.reduceMod, Nat.reduceDiv, indexK.aggOf, Int.reducePow, Int.reduceLE, Int.reduceNeg, Int.reduceLT, Int.reduceBEq, Int.reduceBNe, Int.reduceEq, ownA, nilA, Try.facts, set_other, l5, l8, putCells_eq, baToList]
  obtain ⟨H9, q1, q2⟩ := asked_end0 s2 n5 n8 n58
  exact ⟨_, rfl, H9, q1, _, rfl, .inl ⟨rfl, rfl, q2⟩⟩

theorem asked_sign_yes (H0 H : AH) (h m d : Nat) (ts : List Term) (k : AskT) (l : List (List UInt8)) (a b c : List UInt8) (hl : l.length ≤ 1000000) (ha : k.a.of l = a) (hb : k.b.of l = b) (hc : k.c.of l = c)
    (ha0 : a.length ≤ 100000000) (hb0 : b.length ≤ 100000000) (hc0 : c.length ≤ 100000000) (hka : -9223372036854775808 ≤ k.a.from_ ∧ k.a.from_ < 9223372036854775808) (hkb : -9223372036854775808 ≤ k.b.from_ ∧ k.b.from_ < 9223372036854775808) (hkc : -9223372036854775808 ≤ k.c.from_ ∧ k.c.from_ < 9223372036854775808)
    (hg : GT 1000000 ts) (hd : d ≤ 1000000) (s : SS H0 H h m d ts) (hk : k.kind = 6) (h32 : a.length = 32) : ACalls Try.prog 17 [.ptr h 0, vaultV ts d, .agg (askC k), rowsV l] H
      (AskedR H0 h m d (numT ts ⟨103, [a, b]⟩).1 (nameT ⟨103, [a, b]⟩ (numT ts ⟨103, [a, b]⟩).2)) := by
  have pa := of_pure k.a l hka hl
  have pb := of_pure k.b l hkb hl
  have pc := of_pure k.c l hkc hl
  have oa := own_pure a (by omega)
  have ob := own_pure b (by omega)
  have oc := own_pure c (by omega)
  rw [ha] at pa
  rw [hb] at pb
  rw [hc] at pc
  have hq := fun (B B' : AH) (ss : SS B B' h m d ts) => sign_give a b ⟨fun h => absurd h (by simp), by simp, by simp; omega⟩ hg h32 ss
  have hv := (show APure Try.prog 38 _ (.tup [vaultV (numT ts ⟨103, [a, b]⟩).1 d, bytesV (nameT ⟨103, [a, b]⟩ (numT ts ⟨103, [a, b]⟩).2)]) from by have := vsign_pure ts d a b ⟨fun h => absurd h (by simp), by simp, by simp; omega⟩ (fun x hx => (hg.wf x hx).1) hg.len; rwa [if_pos h32] at this)
  generalize (numT ts ⟨103, [a, b]⟩).1 = Z1 at *
  generalize nameT ⟨103, [a, b]⟩ (numT ts ⟨103, [a, b]⟩).2 = Z2 at *
  obtain ⟨kd, n, ⟨fa, ra⟩, ⟨fb, rb⟩, ⟨fc, rc⟩⟩ := k
  simp only [askC] at *
  subst hk
  clear ha hb hc hka hkb hkc
  refine acalls_of_cwp (c := ⟨Try.prog, 225, [(1, [0, 1, 0, 0, 0, 1, 0, 0, 0, 1, 0, 0, 0, 0, 0]), (30, [0, 0, 0, 0, 1, 1, 0, 0, 0, 0, 0, 0]), (38, [1, 0, 0, 0, 0, 0, 0, 0, 0, 0, 0, 0, 0, 0, 0, 0, 0, 0, 0, 0, 0, 0, 0, 0, 0, 2, 0, 0, 0]), (1000000, [6]), (1000017, [23]), (4000038, [8, 9, 10, 11]), (4000008, [5, 8, 12, 13, 14, 15, 16, 17, 18, 19, 20]), (4000011, [5, 8, 12, 13, 14, 15, 16, 17, 18, 19, 20]), (4000014, [5, 8, 12, 13, 14, 15, 16, 17, 18, 19, 20]), (4000019, [5, 8, 12, 13, 14, 15, 16, 17, 18, 19, 20]), (4000017, [5, 8, 12, 13, 14, 15, 16, 17, 21, 22, 23, 24, 25]), (4000016, [5, 8, 12, 13, 14, 15, 16, 17, 21, 22]), (4000022, [5, 8, 12, 13, 14, 15, 16, 17, 18, 19, 20]), (4000021, [5, 8, 12, 13, 14, 15, 16, 17, 18, 20]), (4000025, [5, 8, 12, 13, 14, 15, 16, 17, 18, 19, 20]), (4000028, [5, 8, 12, 13, 14, 15, 16, 17, 18, 19, 20]), (4000027, [5, 8, 12, 13, 14, 15, 16, 17, 18, 20]), (4000030, [5, 8, 12, 13, 14, 15, 16, 17, 18, 19, 20]), (4000033, [5, 8, 12, 13, 14, 15, 16, 17, 18, 19, 20]), (4000032, [5, 6, 8, 12, 13, 14, 15, 16, 17, 18, 20]), (4000037, [5, 8, 12, 13, 14, 15, 16, 17, 18, 19, 20]), (4000036, [5, 8, 12, 13, 14, 15, 16, 17, 26, 27, 28, 29]), (4000035, [5, 6, 8, 12, 13, 14, 15, 16, 17, 26, 27]), (4000002, [0, 5, 6, 8, 12, 13, 14, 15, 16, 17]), (4000001, [0, 5, 6, 8, 12, 13, 14]), (4000000, [0, 3, 5, 6, 8])], [], []⟩) (rs := [ResultVar.cell 8 38, ResultVar.tmp 9, ResultVar.tmp 10, ResultVar.tmp 11]) Try.mixed Try.func17 rfl rfl rfl (Nat.le_of_ble_eq_true rfl) (by kernel_rfl) ?_
  simp (disch := omega) only [↓runPre, runPost, fieldO, ixA, cutA, lenA, aggA, rowA, appA, mkA, indA, bnd, srcA, sameOp, funcA, cvO, partA, aggD, ↓PostP, resV, resAll, resOne, resVF, resAllF, resOneF, fitsAll, fitsR, fits, frz, Post, Nat.reduceBEq, Nat.reduceLT, reduceCtorEq, ↓reduceIte, initS, AV.cellsOf, AV.fine, AV.one, repA, Nat.reduceMul, Nat.reduceAdd, Nat.reduceLeDiff, Nat.reduceEqDiff, Int.reduceToNat, Nat.reduceSub, Nat.reduceMod, Nat.reduceDiv, indexK.aggOf, Int.reducePow, Int.reduceLE, Int.reduceNeg, Int.reduceLT, Int.reduceBEq, Int.reduceBNe, Int.reduceEq, ownA, nilA, Try.facts]
  intro k5 hk50 hk5 k6 hk60 hk6 k8 hk80 hk8
  have n68 := set_ne hk8
  have n58 := set_ne (subset_set hk8)
  have hk8H := subset_set (subset_set hk8)
  have n5 := s.sub.free hk5
  have n8 := s.sub.free hk8H
  have s1 := (s.box (o := .cells [.imm 0 (termsC ts) ts.length, .sc (.int .i64 d)] 38 2) hk5).box (o := .cells [.sc (.slice none 0 0), .sc (.int .i64 0)] 38 2) (subset_set hk8)
  simp (disch := omega) only [↓runPre, runPost, fieldO, ixA, cutA, lenA, aggA, rowA, appA, mkA, indA, bnd, srcA, sameOp, funcA, cvO, partA, aggD, ↓PostP, resV, resAll, resOne, resVF, resAllF, resOneF, fitsAll, fitsR, fits, frz, Post, Nat.reduceBEq, Nat.reduceLT, reduceCtorEq, ↓reduceIte, initS, AV.cellsOf, AV.fine, AV.one, repA, Nat.reduceMul, Nat.reduceAdd, Nat.reduceLeDiff, Nat.reduceEqDiff, Int.reduceToNat, Nat.reduceSub, Nat.reduceMod, Nat.reduceDiv, indexK.aggOf, Int.reducePow, Int.reduceLE, Int.reduceNeg, Int.reduceLT, Int.reduceBEq, Int.reduceBNe, Int.reduceEq, ownA, nilA, Try.facts, set_other, kill_under hk6 n68]
  first | refine CallK.p (pa) ?_ | refine CallP.i (pa) ?_
  simp (disch := omega) only [↓runPre, runPost, fieldO, ixA, cutA, lenA, aggA, rowA, appA, mkA, indA, bnd, srcA, sameOp, funcA, cvO, partA, aggD, ↓PostP, resV, resAll, resOne, resVF, resAllF, resOneF, fitsAll, fitsR, fits, frz, Post, Nat.reduceBEq, Nat.reduceLT, reduceCtorEq, ↓reduceIte, initS, AV.cellsOf, AV.fine, AV.one, repA, Nat.reduceMul, Nat.reduceAdd, Nat.reduceLeDiff, Nat.reduceEqDiff, Int.reduceToNat, Nat.reduceSub, Nat.reduceMod, Nat.reduceDiv, indexK.aggOf, Int.reducePow, Int.reduceLE, Int.reduceNeg, Int.reduceLT, Int.reduceBEq, Int.reduceBNe, Int.reduceEq, ownA, nilA, Try.facts]
  first | refine CallK.p (pb) ?_ | refine CallP.i (pb) ?_
  simp (disch := omega) only [↓runPre, runPost, fieldO, ixA, cutA, lenA, aggA, rowA, appA, mkA, indA, bnd, srcA, sameOp, funcA, cvO, partA, aggD, ↓PostP, resV, resAll, resOne, resVF, resAllF, resOneF, fitsAll, fitsR, fits, frz, Post, Nat.reduceBEq, Nat.reduceLT, reduceCtorEq, ↓reduceIte, initS, AV.cellsOf, AV.fine, AV.one, repA, Nat.reduceMul, Nat.reduceAdd, Nat.reduceLeDiff, Nat.reduceEqDiff, Int.reduceToNat, Nat.reduceSub, Nat.reduceMod, Nat.reduceDiv, indexK.aggOf, Int.reducePow, Int.reduceLE, Int.reduceNeg, Int.reduceLT, Int.reduceBEq, Int.reduceBNe, Int.reduceEq, ownA, nilA, Try.facts]
  first | refine CallK.p (pc) ?_ | refine CallP.i (pc) ?_
  simp (disch := omega) only [↓runPre, runPost, fieldO, ixA, cutA, lenA, aggA, rowA, appA, mkA, indA, bnd, srcA, sameOp, funcA, cvO, partA, aggD, ↓PostP, resV, resAll, resOne, resVF, resAllF, resOneF, fitsAll, fitsR, fits, frz, Post, Nat.reduceBEq, Nat.reduceLT, reduceCtorEq, ↓reduceIte, initS, AV.cellsOf, AV.fine, AV.one, repA, Nat.reduceMul, Nat.reduceAdd, Nat.reduceLeDiff, Nat.reduceEqDiff, Int.reduceToNat, Nat.reduceSub, Nat.reduceMod, Nat.reduceDiv, indexK.aggOf, Int.reducePow, Int.reduceLE, Int.reduceNeg, Int.reduceLT, Int.reduceBEq, Int.reduceBNe, Int.reduceEq, ownA, nilA, Try.facts]
  first | refine CallK.p (oa) ?_ | refine CallP.i (oa) ?_
  simp (disch := omega) only [↓runPre, runPost, fieldO, ixA, cutA, lenA, aggA, rowA, appA, mkA, indA, bnd, srcA, sameOp, funcA, cvO, partA, aggD, ↓PostP, resV, resAll, resOne, resVF, resAllF, resOneF, fitsAll, fitsR, fits, frz, Post, Nat.reduceBEq, Nat.reduceLT, reduceCtorEq, ↓reduceIte, initS, AV.cellsOf, AV.fine, AV.one, repA, Nat.reduceMul, Nat.reduceAdd, Nat.reduceLeDiff, Nat.reduceEqDiff, Int.reduceToNat, Nat.reduceSub, Nat.reduceMod, Nat.reduceDiv, indexK.aggOf, Int.reducePow, Int.reduceLE, Int.reduceNeg, Int.reduceLT, Int.reduceBEq, Int.reduceBNe, Int.reduceEq, ownA, nilA, Try.facts]
  first | refine CallK.p (ob) ?_ | refine CallP.i (ob) ?_
  simp (disch := omega) only [↓runPre, runPost, fieldO, ixA, cutA, lenA, aggA, rowA, appA, mkA, indA, bnd, srcA, sameOp, funcA, cvO, partA, aggD, ↓PostP, resV, resAll, resOne, resVF, resAllF, resOneF, fitsAll, fitsR, fits, frz, Post, Nat.reduceBEq, Nat.reduceLT, reduceCtorEq, ↓reduceIte, initS, AV.cellsOf, AV.fine, AV.one, repA, Nat.reduceMul, Nat.reduceAdd, Nat.reduceLeDiff, Nat.reduceEqDiff, Int.reduceToNat, Nat.reduceSub, Nat.reduceMod, Nat.reduceDiv, indexK.aggOf, Int.reducePow, Int.reduceLE, Int.reduceNeg, Int.reduceLT, Int.reduceBEq, Int.reduceBNe, Int.reduceEq, ownA, nilA, Try.facts]
  first | refine CallK.p (oc) ?_ | refine CallP.i (oc) ?_
  simp (disch := omega) only [↓runPre, runPost, fieldO, ixA, cutA, lenA, aggA, rowA, appA, mkA, indA, bnd, srcA, sameOp, funcA, cvO, partA, aggD, ↓PostP, resV, resAll, resOne, resVF, resAllF, resOneF, fitsAll, fitsR, fits, frz, Post, Nat.reduceBEq, Nat.reduceLT, reduceCtorEq, ↓reduceIte, initS, AV.cellsOf, AV.fine, AV.one, repA, Nat.reduceMul, Nat.reduceAdd, Nat.reduceLeDiff, Nat.reduceEqDiff, Int.reduceToNat, Nat.reduceSub, Nat.reduceMod, Nat.reduceDiv, indexK.aggOf, Int.reducePow, Int.reduceLE, Int.reduceNeg, Int.reduceLT, Int.reduceBEq, Int.reduceBNe, Int.reduceEq, ownA, nilA, Try.facts]
  refine CallK.i (hq _ _ s1) ?_
  rintro v H3 ⟨H2, s2, kk, hkk0, hkk, rfl, rfl⟩
  have l5 := s2.sub k5 _ (by rw [set_other n58, set_get])
  have l8 := s2.sub k8 _ set_get
  have m5 := ne_live l5 hkk
  have m8 := ne_live l8 hkk
  simp (disch := omega) only [↓runPre, runPost, fieldO, ixA, cutA, lenA, aggA, rowA, appA, mkA, indA, bnd, srcA, sameOp, funcA, cvO, partA, aggD, ↓PostP, resV, resAll, resOne, resVF, resAllF, resOneF, fitsAll, fitsR, fits, frz, Post, Nat.reduceBEq, Nat.reduceLT, reduceCtorEq, ↓reduceIte, initS, AV.cellsOf, AV.fine, AV.one, repA, Nat.reduceMul, Nat.reduceAdd, Nat.reduceLeDiff, Nat.reduceEqDiff, Int.reduceToNat, Nat.reduceSub, Nat.reduceMod, Nat.reduceDiv, indexK.aggOf, Int.reducePow, Int.reduceLE, Int.reduceNeg, Int.reduceLT, Int.reduceBEq, Int.reduceBNe, Int.reduceEq, ownA, nilA, Try.facts, set_other, l5, l8]
  first | refine CallK.p (hv) ?_ | refine CallP.i (hv) ?_
  simp (disch := omega) only [↓runPre, runPost, fieldO, ixA, cutA, lenA, aggA, rowA, appA, mkA, indA, bnd, srcA, sameOp, funcA, cvO, partA, aggD, ↓PostP, resV, resAll, resOne, resVF, resAllF, resOneF, fitsAll, fitsR, fits, frz, Post, Nat.reduceBEq, Nat.reduceLT, reduceCtorEq, ↓reduceIte, initS, AV.cellsOf, AV.fine, AV.one, repA, Nat.reduceMul, Nat.reduceAdd, Nat.reduceLeDiff, Nat.reduceEqDiff, Int.reduceToNat, Nat.reduceSub, Nat.reduceMod, Nat.reduceDiv, indexK.aggOf, Int.reducePow, Int.reduceLE, Int.reduceNeg, Int.reduceLT, Int.reduceBEq, Int.reduceBNe, Int.reduceEq, ownA, nilA, Try.facts, set_other, l5, l8, putCells_eq, baToList]
  obtain ⟨H9, q1, q2⟩ := asked_end s2 n5 n8 n58 hkk0 hkk Z2
  exact ⟨_, rfl, H9, q1, _, rfl, .inr q2⟩

theorem asked_sign_no (H0 H : AH) (h m d : Nat) (ts : List Term) (k : AskT) (l : List (List UInt8)) (a b c : List UInt8) (hl : l.length ≤ 1000000) (ha : k.a.of l = a) (hb : k.b.of l = b) (hc : k.c.of l = c)
    (ha0 : a.length ≤ 100000000) (hb0 : b.length ≤ 100000000) (hc0 : c.length ≤ 100000000) (hka : -9223372036854775808 ≤ k.a.from_ ∧ k.a.from_ < 9223372036854775808) (hkb : -9223372036854775808 ≤ k.b.from_ ∧ k.b.from_ < 9223372036854775808) (hkc : -9223372036854775808 ≤ k.c.from_ ∧ k.c.from_ < 9223372036854775808)
    (hg : GT 1000000 ts) (hd : d ≤ 1000000) (s : SS H0 H h m d ts) (hk : k.kind = 6) (h32 : a.length ≠ 32) : ACalls Try.prog 17 [.ptr h 0, vaultV ts d, .agg (askC k), rowsV l] H
      (AskedR H0 h m d ts []) := by
  have pa := of_pure k.a l hka hl
  have pb := of_pure k.b l hkb hl
  have pc := of_pure k.c l hkc hl
  have oa := own_pure a (by omega)
  have ob := own_pure b (by omega)
  have oc := own_pure c (by omega)
  rw [ha] at pa
  rw [hb] at pb
  rw [hc] at pc
  have hq := fun (B B' : AH) (ss : SS B B' h m d ts) => sign_none a b ⟨fun h => absurd h (by simp), by simp, by simp; omega⟩ hg h32 ss
  have hv := (show APure Try.prog 38 _ (.tup [vaultV ts d, .imm 0 [] 0]) from by have := vsign_pure ts d a b ⟨fun h => absurd h (by simp), by simp, by simp; omega⟩ (fun x hx => (hg.wf x hx).1) hg.len; rwa [if_neg h32] at this)
  obtain ⟨kd, n, ⟨fa, ra⟩, ⟨fb, rb⟩, ⟨fc, rc⟩⟩ := k
  simp only [askC] at *
  subst hk
  clear ha hb hc hka hkb hkc
  refine acalls_of_cwp (c := ⟨Try.prog, 225, [(1, [0, 1, 0, 0, 0, 1, 0, 0, 0, 1, 0, 0, 0, 0, 0]), (30, [0, 0, 0, 0, 1, 1, 0, 0, 0, 0, 0, 0]), (38, [1, 0, 0, 0, 0, 0, 0, 0, 0, 0, 0, 0, 0, 0, 0, 0, 0, 0, 0, 0, 0, 0, 0, 0, 0, 2, 0, 0, 0]), (1000000, [6]), (1000017, [23]), (4000038, [8, 9, 10, 11]), (4000008, [5, 8, 12, 13, 14, 15, 16, 17, 18, 19, 20]), (4000011, [5, 8, 12, 13, 14, 15, 16, 17, 18, 19, 20]), (4000014, [5, 8, 12, 13, 14, 15, 16, 17, 18, 19, 20]), (4000019, [5, 8, 12, 13, 14, 15, 16, 17, 18, 19, 20]), (4000017, [5, 8, 12, 13, 14, 15, 16, 17, 21, 22, 23, 24, 25]), (4000016, [5, 8, 12, 13, 14, 15, 16, 17, 21, 22]), (4000022, [5, 8, 12, 13, 14, 15, 16, 17, 18, 19, 20]), (4000021, [5, 8, 12, 13, 14, 15, 16, 17, 18, 20]), (4000025, [5, 8, 12, 13, 14, 15, 16, 17, 18, 19, 20]), (4000028, [5, 8, 12, 13, 14, 15, 16, 17, 18, 19, 20]), (4000027, [5, 8, 12, 13, 14, 15, 16, 17, 18, 20]), (4000030, [5, 8, 12, 13, 14, 15, 16, 17, 18, 19, 20]), (4000033, [5, 8, 12, 13, 14, 15, 16, 17, 18, 19, 20]), (4000032, [5, 6, 8, 12, 13, 14, 15, 16, 17, 18, 20]), (4000037, [5, 8, 12, 13, 14, 15, 16, 17, 18, 19, 20]), (4000036, [5, 8, 12, 13, 14, 15, 16, 17, 26, 27, 28, 29]), (4000035, [5, 6, 8, 12, 13, 14, 15, 16, 17, 26, 27]), (4000002, [0, 5, 6, 8, 12, 13, 14, 15, 16, 17]), (4000001, [0, 5, 6, 8, 12, 13, 14]), (4000000, [0, 3, 5, 6, 8])], [], []⟩) (rs := [ResultVar.cell 8 38, ResultVar.tmp 9, ResultVar.tmp 10, ResultVar.tmp 11]) Try.mixed Try.func17 rfl rfl rfl (Nat.le_of_ble_eq_true rfl) (by kernel_rfl) ?_
  simp (disch := omega) only [↓runPre, runPost, fieldO, ixA, cutA, lenA, aggA, rowA, appA, mkA, indA, bnd, srcA, sameOp, funcA, cvO, partA, aggD, ↓PostP, resV, resAll, resOne, resVF, resAllF, resOneF, fitsAll, fitsR, fits, frz, Post, Nat.reduceBEq, Nat.reduceLT, reduceCtorEq, ↓reduceIte, initS, AV.cellsOf, AV.fine, AV.one, repA, Nat.reduceMul, Nat.reduceAdd, Nat.reduceLeDiff, Nat.reduceEqDiff, Int.reduceToNat, Nat.reduceSub, Nat.reduceMod, Nat.reduceDiv, indexK.aggOf, Int.reducePow, Int.reduceLE, Int.reduceNeg, Int.reduceLT, Int.reduceBEq, Int.reduceBNe, Int.reduceEq, ownA, nilA, Try.facts]
  intro k5 hk50 hk5 k6 hk60 hk6 k8 hk80 hk8
  have n68 := set_ne hk8
  have n58 := set_ne (subset_set hk8)
  have hk8H := subset_set (subset_set hk8)
  have n5 := s.sub.free hk5
  have n8 := s.sub.free hk8H
  have s1 := (s.box (o := .cells [.imm 0 (termsC ts) ts.length, .sc (.int .i64 d)] 38 2) hk5).box (o := .cells [.sc (.slice none 0 0), .sc (.int .i64 0)] 38 2) (subset_set hk8)
  simp (disch := omega) only [↓runPre, runPost, fieldO, ixA, cutA, lenA, aggA, rowA, appA, mkA, indA, bnd, srcA, sameOp, funcA, cvO, partA, aggD, ↓PostP, resV, resAll, resOne, resVF, resAllF, resOneF, fitsAll, fitsR, fits, frz, Post, Nat.reduceBEq, Nat.reduceLT, reduceCtorEq, ↓reduceIte, initS, AV.cellsOf, AV.fine, AV.one, repA, Nat.reduceMul, Nat.reduceAdd, Nat.reduceLeDiff, Nat.reduceEqDiff, Int.reduceToNat, Nat.reduceSub, Nat.reduceMod, Nat.reduceDiv, indexK.aggOf, Int.reducePow, Int.reduceLE, Int.reduceNeg, Int.reduceLT, Int.reduceBEq, Int.reduceBNe, Int.reduceEq, ownA, nilA, Try.facts, set_other, kill_under hk6 n68]
  first | refine CallK.p (pa) ?_ | refine CallP.i (pa) ?_
  simp (disch := omega) only [↓runPre, runPost, fieldO, ixA, cutA, lenA, aggA, rowA, appA, mkA, indA, bnd, srcA, sameOp, funcA, cvO, partA, aggD, ↓PostP, resV, resAll, resOne, resVF, resAllF, resOneF, fitsAll, fitsR, fits, frz, Post, Nat.reduceBEq, Nat.reduceLT, reduceCtorEq, ↓reduceIte, initS, AV.cellsOf, AV.fine, AV.one, repA, Nat.reduceMul, Nat.reduceAdd, Nat.reduceLeDiff, Nat.reduceEqDiff, Int.reduceToNat, Nat.reduceSub, Nat.reduceMod, Nat.reduceDiv, indexK.aggOf, Int.reducePow, Int.reduceLE, Int.reduceNeg, Int.reduceLT, Int.reduceBEq, Int.reduceBNe, Int.reduceEq, ownA, nilA, Try.facts]
  first | refine CallK.p (pb) ?_ | refine CallP.i (pb) ?_
  simp (disch := omega) only [↓runPre, runPost, fieldO, ixA, cutA, lenA, aggA, rowA, appA, mkA, indA, bnd, srcA, sameOp, funcA, cvO, partA, aggD, ↓PostP, resV, resAll, resOne, resVF, resAllF, resOneF, fitsAll, fitsR, fits, frz, Post, Nat.reduceBEq, Nat.reduceLT, reduceCtorEq, ↓reduceIte, initS, AV.cellsOf, AV.fine, AV.one, repA, Nat.reduceMul, Nat.reduceAdd, Nat.reduceLeDiff, Nat.reduceEqDiff, Int.reduceToNat, Nat.reduceSub, Nat.reduceMod, Nat.reduceDiv, indexK.aggOf, Int.reducePow, Int.reduceLE, Int.reduceNeg, Int.reduceLT, Int.reduceBEq, Int.reduceBNe, Int.reduceEq, ownA, nilA, Try.facts]
  first | refine CallK.p (pc) ?_ | refine CallP.i (pc) ?_
  simp (disch := omega) only [↓runPre, runPost, fieldO, ixA, cutA, lenA, aggA, rowA, appA, mkA, indA, bnd, srcA, sameOp, funcA, cvO, partA, aggD, ↓PostP, resV, resAll, resOne, resVF, resAllF, resOneF, fitsAll, fitsR, fits, frz, Post, Nat.reduceBEq, Nat.reduceLT, reduceCtorEq, ↓reduceIte, initS, AV.cellsOf, AV.fine, AV.one, repA, Nat.reduceMul, Nat.reduceAdd, Nat.reduceLeDiff, Nat.reduceEqDiff, Int.reduceToNat, Nat.reduceSub, Nat.reduceMod, Nat.reduceDiv, indexK.aggOf, Int.reducePow, Int.reduceLE, Int.reduceNeg, Int.reduceLT, Int.reduceBEq, Int.reduceBNe, Int.reduceEq, ownA, nilA, Try.facts]
  first | refine CallK.p (oa) ?_ | refine CallP.i (oa) ?_
  simp (disch := omega) only [↓runPre, runPost, fieldO, ixA, cutA, lenA, aggA, rowA, appA, mkA, indA, bnd, srcA, sameOp, funcA, cvO, partA, aggD, ↓PostP, resV, resAll, resOne, resVF, resAllF, resOneF, fitsAll, fitsR, fits, frz, Post, Nat.reduceBEq, Nat.reduceLT, reduceCtorEq, ↓reduceIte, initS, AV.cellsOf, AV.fine, AV.one, repA, Nat.reduceMul, Nat.reduceAdd, Nat.reduceLeDiff, Nat.reduceEqDiff, Int.reduceToNat, Nat.reduceSub, Nat.reduceMod, Nat.reduceDiv, indexK.aggOf, Int.reducePow, Int.reduceLE, Int.reduceNeg, Int.reduceLT, Int.reduceBEq, Int.reduceBNe, Int.reduceEq, ownA, nilA, Try.facts]
  first | refine CallK.p (ob) ?_ | refine CallP.i (ob) ?_
  simp (disch := omega) only [↓runPre, runPost, fieldO, ixA, cutA, lenA, aggA, rowA, appA, mkA, indA, bnd, srcA, sameOp, funcA, cvO, partA, aggD, ↓PostP, resV, resAll, resOne, resVF, resAllF, resOneF, fitsAll, fitsR, fits, frz, Post, Nat.reduceBEq, Nat.reduceLT, reduceCtorEq, ↓reduceIte, initS, AV.cellsOf, AV.fine, AV.one, repA, Nat.reduceMul, Nat.reduceAdd, Nat.reduceLeDiff, Nat.reduceEqDiff, Int.reduceToNat, Nat.reduceSub, Nat.reduceMod, Nat.reduceDiv, indexK.aggOf, Int.reducePow, Int.reduceLE, Int.reduceNeg, Int.reduceLT, Int.reduceBEq, Int.reduceBNe, Int.reduceEq, ownA, nilA, Try.facts]
  first | refine CallK.p (oc) ?_ | refine CallP.i (oc) ?_
  simp (disch := omega) only [↓runPre, runPost, fieldO, ixA, cutA, lenA, aggA, rowA, appA, mkA, indA, bnd, srcA, sameOp, funcA, cvO, partA, aggD, ↓PostP, resV, resAll, resOne, resVF, resAllF, resOneF, fitsAll, fitsR, fits, frz, Post, Nat.reduceBEq, Nat.reduceLT, reduceCtorEq, ↓reduceIte, initS, AV.cellsOf, AV.fine, AV.one, repA, Nat.reduceMul, Nat.reduceAdd, Nat.reduceLeDiff, Nat.reduceEqDiff, Int.reduceToNat, Nat.reduceSub, Nat.reduceMod, Nat.reduceDiv, indexK.aggOf, Int.reducePow, Int.reduceLE, Int.reduceNeg, Int.reduceLT, Int.reduceBEq, Int.reduceBNe, Int.reduceEq, ownA, nilA, Try.facts]
  refine CallK.i (hq _ _ s1) ?_
  rintro v H2 ⟨rfl, s2⟩
  have l5 := s2.sub k5 _ (by rw [set_other n58, set_get])
  have l8 := s2.sub k8 _ set_get
  simp (disch := omega) only [↓runPre, runPost, fieldO, ixA, cutA, lenA, aggA, rowA, appA, mkA, indA, bnd, srcA, sameOp, funcA, cvO, partA, aggD, ↓PostP, resV, resAll, resOne, resVF, resAllF, resOneF, fitsAll, fitsR, fits, frz, Post, Nat.reduceBEq, Nat.reduceLT, reduceCtorEq, ↓reduceIte, initS, AV.cellsOf, AV.fine, AV.one, repA, Nat.reduceMul, Nat.reduceAdd, Nat.reduceLeDiff, Nat.reduceEqDiff, Int.reduceToNat, Nat.reduceSub, Nat.reduceMod, Nat.reduceDiv, indexK.aggOf, Int.reducePow, Int.reduceLE, Int.reduceNeg, Int.reduceLT, Int.reduceBEq, Int.reduceBNe, Int.reduceEq, ownA, nilA, Try.facts, set_other, l5, l8]
  first | refine CallK.p (hv) ?_ | refine CallP.i (hv) ?_
  simp (disch := omega) only [↓runPre, runPost, fieldO, ixA, cutA, lenA, aggA, rowA, appA, mkA, indA, bnd, srcA, sameOp, funcA, cvO, partA, aggD, ↓PostP, resV, resAll, resOne, resVF, resAllF, resOneF, fitsAll, fitsR, fits, frz, Post, Nat.reduceBEq, Nat.reduceLT, reduceCtorEq, ↓reduceIte, initS, AV.cellsOf, AV.fine, AV.one, repA, Nat.reduceMul, Nat.reduceAdd, Nat.reduceLeDiff, Nat.reduceEqDiff, Int.reduceToNat, Nat.reduceSub, Nat.reduceMod, Nat.reduceDiv, indexK.aggOf, Int.reducePow, Int.reduceLE, Int.reduceNeg, Int.reduceLT, Int.reduceBEq, Int.reduceBNe, Int.reduceEq, ownA, nilA, Try.facts, set_other, l5, l8, putCells_eq, baToList]
  obtain ⟨H9, q1, q2⟩ := asked_end0 s2 n5 n8 n58
  exact ⟨_, rfl, H9, q1, _, rfl, .inl ⟨rfl, rfl, q2⟩⟩
end Go.Proofs.Ytmgbcjnhmgfhkaa
