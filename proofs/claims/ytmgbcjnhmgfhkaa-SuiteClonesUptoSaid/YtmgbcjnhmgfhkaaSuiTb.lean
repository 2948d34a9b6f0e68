/-
  The walks of the suite layer: a question to both: the other kinds.
  Conditions: none. Lemmas only.
-/
import Derived.Test.YtmgbcjnhmgfhkaaSuiT
set_option linter.all false
set_option linter.unusedSimpArgs false
set_option linter.unusedVariables false
set_option maxRecDepth 8000
set_option maxHeartbeats 4000000
namespace Go.Proofs.Ytmgbcjnhmgfhkaa
open Go Go.Abs Go.Proofs
theorem shared_arg {H0 H : AH} {h m d : Nat} {ts : List Term} (s p : List UInt8) (h1 : p.length ≤ 140737488355328) (hg : GT 1000000 ts) (h32 : s.length ≠ 32) (ss : SS H0 H h m d ts) : ACalls Try.prog 21 [.ptr h 0, bytesV s, bytesV p] H fun v H' => v = .tup [.imm 0 [] 0, .sc (.int .i64 1)] ∧ H' = H := by
  obtain ⟨k, g, n1, n2, n3, hs⟩ := ss
  refine (shared_live H h m k d ts s p h1 hg.pub hg.wf hg.len g).mono fun v H' r => ?_
  rcases r with ⟨_, r1, r2⟩ | ⟨h, _⟩ | ⟨h, _⟩
  · exact ⟨r1, r2⟩
  · exact absurd h h32
  · exact absurd h h32
theorem shared_miss {H0 H : AH} {h m d : Nat} {ts : List Term} (s p : List UInt8) (h1 : p.length ≤ 140737488355328) (hg : GT 1000000 ts) (h32 : s.length = 32) (hf : (findT ts p 112).2 = false) (ss : SS H0 H h m d ts) : ACalls Try.prog 21 [.ptr h 0, bytesV s, bytesV p] H fun v H' => v = .tup [.imm 0 [] 0, .sc (.int .i64 8)] ∧ H' = H := by
  obtain ⟨k, g, n1, n2, n3, hs⟩ := ss
  refine (shared_live H h m k d ts s p h1 hg.pub hg.wf hg.len g).mono fun v H' r => ?_
  rcases r with ⟨h, _⟩ | ⟨_, _, r1, r2⟩ | ⟨_, h, _⟩
  · exact absurd h32 h
  · exact ⟨r1, r2⟩
  · rw [hf] at h; cases h
theorem shared_hit {H0 H : AH} {h m d : Nat} {ts : List Term} (s p : List UInt8) (h1 : p.length ≤ 140737488355328) (hg : GT 1000000 ts) (h32 : s.length = 32) (hf : (findT ts p 112).2 = true) (ss : SS H0 H h m d ts) : ACalls Try.prog 21 [.ptr h 0, bytesV s, bytesV p] H fun v H' =>
    ∃ r, v = .tup [r, .sc (.int .i64 0)] ∧ GiveR H0 h m d (numT ts (shT s (partT (findT ts p 112).1 0))).1 (nameT (shT s (partT (findT ts p 112).1 0)) (numT ts (shT s (partT (findT ts p 112).1 0))).2) r H' := by
  obtain ⟨k, g, n1, n2, n3, hs⟩ := ss
  refine (shared_live H h m k d ts s p h1 hg.pub hg.wf hg.len g).mono fun v H' r => ?_
  rcases r with ⟨h, _⟩ | ⟨_, h, _⟩ | ⟨_, _, r, hr, rfl⟩
  · exact absurd h32 h
  · rw [hf] at h; cases h
  · exact ⟨r, rfl, name_give g n1 n2 n3 hs hr⟩
theorem open_miss {H0 H : AH} {h m d : Nat} {ts : List Term} (key : List UInt8) (n : Nat) (o b : List UInt8) (h32 : key.length = 32) (hn : n < 9223372036854775808) (h1 : b.length ≤ 140737488355328) (hg : GT 1000000 ts) (ho : opT ts key n o b = false) (s : SS H0 H h m d ts) : ACalls Try.prog 14 [.ptr h 0, bytesV key, .sc (.int .i64 n), bytesV o, bytesV b] H fun v H' => v = .tup [.imm 0 [] 0, .sc (.int .i64 9)] ∧ H' = H :=
  (open_ss key n o b h32 hn h1 hg s).mono fun v H' r => by
    rcases r with ⟨_, r1, r2⟩ | ⟨h, _⟩
    · exact ⟨r1, r2⟩
    · rw [ho] at h; cases h
theorem open_hit {H0 H : AH} {h m d : Nat} {ts : List Term} (key : List UInt8) (n : Nat) (o b : List UInt8) (h32 : key.length = 32) (hn : n < 9223372036854775808) (h1 : b.length ≤ 140737488355328) (hg : GT 1000000 ts) (ho : opT ts key n o b = true) (s : SS H0 H h m d ts) : ACalls Try.prog 14 [.ptr h 0, bytesV key, .sc (.int .i64 n), bytesV o, bytesV b] H fun v H' =>
    ∃ r, v = .tup [r, .sc (.int .i64 0)] ∧ GiveR H0 h m d ts (partT (findT ts b 98).1 3) r H' :=
  (open_ss key n o b h32 hn h1 hg s).mono fun v H' r => by
    rcases r with ⟨h, _⟩ | ⟨_, r, hr, rfl⟩
    · rw [ho] at h; cases h
    · exact ⟨r, rfl, H, s, hr⟩

theorem asked_shared_arg (H0 H : AH) (h m d : Nat) (ts : List Term) (k : AskT) (l : List (List UInt8)) (a b c : List UInt8) (hl : l.length ≤ 1000000) (ha : k.a.of l = a) (hb : k.b.of l = b) (hc : k.c.of l = c)
    (ha0 : a.length ≤ 100000000) (hb0 : b.length ≤ 100000000) (hc0 : c.length ≤ 100000000) (hka : -9223372036854775808 ≤ k.a.from_ ∧ k.a.from_ < 9223372036854775808) (hkb : -9223372036854775808 ≤ k.b.from_ ∧ k.b.from_ < 9223372036854775808) (hkc : -9223372036854775808 ≤ k.c.from_ ∧ k.c.from_ < 9223372036854775808)
    (hg : GT 1000000 ts) (hd : d ≤ 1000000) (s : SS H0 H h m d ts) (hk : k.kind = 3) (h32 : a.length ≠ 32) : ACalls Try.prog 17 [.ptr h 0, vaultV ts d, .agg (askC k), rowsV l] H
      (AskedR H0 h m d ts []) := by
  have pa := of_pure k.a l hka hl
  have pb := of_pure k.b l hkb hl
  have pc := of_pure k.c l hkc hl
  have oa := own_pure a (by omega)
  have ob := own_pure b (by omega)
  have oc := own_pure c (by omega)
  rw [ha] at pa
  rw [hb] at pb
  rw [hc] at pc
  have hq := fun (B B' : AH) (ss : SS B B' h m d ts) => shared_arg a b (by omega) hg h32 ss
  have hv := (show APure Try.prog 35 _ (.tup [vaultV ts d, .imm 0 [] 0, .sc (.int .i64 1)]) from by have := vshared_pure ts d a b hg.pub hg.wf hg.len; unfold shV at this; rwa [if_pos h32] at this)
  obtain ⟨kd, n, ⟨fa, ra⟩, ⟨fb, rb⟩, ⟨fc, rc⟩⟩ := k
  simp only [askC] at *
  subst hk
  clear ha hb hc hka hkb hkc
  refine acalls_of_cwp (c := ⟨Try.prog, 225, [(1, [0, 1, 0, 0, 0, 1, 0, 0, 0, 1, 0, 0, 0, 0, 0]), (30, [0, 0, 0, 0, 1, 1, 0, 0, 0, 0, 0, 0]), (38, [1, 0, 0, 0, 0, 0, 0, 0, 0, 0, 0, 0, 0, 0, 0, 0, 0, 0, 0, 0, 0, 0, 0, 0, 0, 2, 0, 0, 0]), (1000000, [6]), (1000017, [23]), (4000038, [8, 9, 10, 11]), (4000008, [5, 8, 12, 13, 14, 15, 16, 17, 18, 19, 20]), (4000011, [5, 8, 12, 13, 14, 15, 16, 17, 18, 19, 20]), (4000014, [5, 8, 12, 13, 14, 15, 16, 17, 18, 19, 20]), (4000019, [5, 8, 12, 13, 14, 15, 16, 17, 18, 19, 20]), (4000017, [5, 8, 12, 13, 14, 15, 16, 17, 21, 22, 23, 24, 25]), (4000016, [5, 8, 12, 13, 14, 15, 16, 17, 21, 22]), (4000022, [5, 8, 12, 13, 14, 15, 16, 17, 18, 19, 20]), (4000021, [5, 8, 12, 13, 14, 15, 16, 17, 18, 20]), (4000025, [5, 8, 12, 13, 14, 15, 16, 17, 18, 19, 20]), (4000028, [5, 8, 12, 13, 14, 15, 16, 17, 18, 19, 20]), (4000027, [5, 8, 12, 13, 14, 15, 16, 17, 18, 20]), (4000030, [5, 8, 12, 13, 14, 15, 16, 17, 18, 19, 20]), (4000033, [5, 8, 12, 13, 14, 15, 16, 17, 18, 19, 20]), (4000032, [5, 6, 8, 12, 13, 14, 15, 16, 17, 18, 20]), (4000037, [5, 8, 12, 13, 14, 15, 16, 17, 18, 19, 20]), (4000036, [5, 8, 12, 13, 14, 15, 16, 17, 26, 27, 28, 29]), (4000035, [5, 6, 8, 12, 13, 14, 15, 16, 17, 26, 27]), (4000002, [0, 5, 6, 8, 12, 13, 14, 15, 16, 17]), (4000001, [0, 5, 6, 8, 12, 13, 14]), (4000000, [0, 3, 5, 6, 8])], [], []⟩) (rs := [ResultVar.cell 8 38, ResultVar.tmp 9, ResultVar.tmp 10, ResultVar.tmp 11]) Try.mixed Try.func17 rfl rfl rfl (Nat.le_of_ble_eq_true rfl) (by kernel_rfl) ?_
  simp (disch := omega) only [↓runPre, runPost, fieldO, ixA, cutA, lenA, aggA, rowA, appA, mkA, indA, bnd, srcA, sameOp, funcA, cvO, partA, aggD, ↓PostP, resV, resAll, resOne, resVF, resAllF, resOneF, fitsAll, fitsR, fits, frz, Post, Nat.reduceBEq, Nat.reduceLT, reduceCtorEq, ↓reduceIte, initS, AV.cellsOf, AV.fine, AV.one, repA, Nat.reduceMul, Nat.reduceAdd, Nat.reduceLeDiff, Nat.reduceEqDiff, Int.reduceToNat, Nat.reduceSub, Nat.reduceMod, Nat.reduceDiv, indexK.aggOf, Int.reducePow, Int.reduceLE, Int.reduceNeg, Int.reduceLT, Int.reduceBEq, Int.reduceBNe, Int.reduceEq, ownA, nilA, Try.facts]
  intro k5 hk50 hk5 k6 hk60 hk6 k8 hk80 hk8
  have n68 := set_ne hk8
  have n58 := set_ne (subset_set hk8)
  have hk8H := subset_set (subset_set hk8)
  have n5 := s.sub.free hk5
  have n8 := s.sub.free hk8H
  have s1 := (s.box (o := .cells [.imm 0 (termsC ts) ts.length, .sc (.int .i64 d)] 38 2) hk5).box (o := .cells [.sc (.slice none 0 0), .sc (.int .i64 0)] 38 2) (subset_set hk8)
  simp (disch := omega) only [↓runPre, runPost, fieldO, ixA, cutA, lenA, aggA, rowA, appA, mkA, indA, bnd, srcA, sameOp, funcA, cvO, partA, aggD, ↓PostP, resV, resAll, resOne, resVF, resAllF, resOneF, fitsAll, fitsR, fits, frz, Post, Nat.reduceBEq, Nat.reduceLT, reduceCtorEq, ↓reduceIte, initS, AV.cellsOf, AV.fine, AV.one, repA, Nat.reduceMul, Nat.reduceAdd, Nat.reduceLeDiff, Nat.reduceEqDiff, Int.reduceToNat, Nat.reduceSub, Nat.reduceMod, Nat.reduceDiv, indexK.aggOf, Int.reducePow, Int.reduceLE, Int.reduceNeg, Int.reduceLT, Int.reduceBEq, Int.reduceBNe, Int.reduceEq, ownA, nilA, Try.facts, set_other, kill_under hk6 n68]
  first | refine CallK.p (pa) ?_ | refine CallP.i (pa) ?_
  simp (disch := omega) only [↓runPre, runPost, fieldO, ixA, cutA, lenA, aggA, rowA, appA, mkA, indA, bnd, srcA, sameOp, funcA, cvO, partA, aggD, ↓PostP, resV, resAll, resOne, resVF, resAllF, resOneF, fitsAll, fitsR, fits, frz, Post, Nat.reduceBEq, Nat.reduceLT, reduceCtorEq, ↓reduceIte, initS, AV.cellsOf, AV.fine, AV.one, repA, Nat.reduceMul, Nat.reduceAdd, Nat.reduceLeDiff, Nat.reduceEqDiff, Int.reduceToNat, Nat.reduceSub, Nat.reduceMod, Nat.reduceDiv, indexK.aggOf, Int.reducePow, Int.reduceLE, Int.reduceNeg, Int.reduceLT, Int.reduceBEq, Int.reduceBNe, Int.reduceEq, ownA, nilA, Try.facts]
  first | refine CallK.p (pb) ?_ | refine CallP.i (pb) ?_
  simp (disch := omega) only [↓runPre, runPost, fieldO, ixA, cutA, lenA, aggA, rowA, appA, mkA, indA, bnd, srcA, sameOp, funcA, cvO, partA, aggD, ↓PostP, resV, resAll, resOne, resVF, resAllF, resOneF, fitsAll, fitsR, fits, frz, Post, Nat.reduceBEq, Nat.reduceLT, reduceCtorEq, ↓reduceIte, initS, AV.cellsOf, AV.fine, AV.one, repA, Nat.reduceMul, Nat.reduceAdd, Nat.reduceLeDiff, Nat.reduceEqDiff, Int.reduceToNat, Nat.reduceSub, Nat.reduceMod, Nat.reduceDiv, indexK.aggOf, Int.reducePow, Int.reduceLE, Int.reduceNeg, Int.reduceLT, Int.reduceBEq, Int.reduceBNe, Int.reduceEq, ownA, nilA, Try.facts]
  first | refine CallK.p (pc) ?_ | refine CallP.i (pc) ?_
  simp (disch := omega) only [↓runPre, runPost, fieldO, ixA, cutA, lenA, aggA, rowA, appA, mkA, indA, bnd, srcA, sameOp, funcA, cvO, partA, aggD, ↓PostP, resV, resAll, resOne, resVF, resAllF, resOneF, fitsAll, fitsR, fits, frz, Post, Nat.reduceBEq, Nat.reduceLT, reduceCtorEq, ↓reduceIte, initS, AV.cellsOf, AV.fine, AV.one, repA, Nat.reduceMul, Nat.reduceAdd, Nat.reduceLeDiff, Nat.reduceEqDiff, Int.reduceToNat, Nat.reduceSub, Nat.reduceMod, Nat.reduceDiv, indexK.aggOf, Int.reducePow, Int.reduceLE, Int.reduceNeg, Int.reduceLT, Int.reduceBEq, Int.reduceBNe, Int.reduceEq, ownA, nilA, Try.facts]
  first | refine CallK.p (oa) ?_ | refine CallP.i (oa) ?_
  simp (disch := omega) only [↓runPre, runPost, fieldO, ixA, cutA, lenA, aggA, rowA, appA, mkA, indA, bnd, srcA, sameOp, funcA, cvO, partA, aggD, ↓PostP, resV, resAll, resOne, resVF, resAllF, resOneF, fitsAll, fitsR, fits, frz, Post, Nat.reduceBEq, Nat.reduceLT, reduceCtorEq, ↓reduceIte, initS, AV.cellsOf, AV.fine, AV.one, repA, Nat.reduceMul, Nat.reduceAdd, Nat.reduceLeDiff, Nat.reduceEqDiff, Int.reduceToNat, Nat.reduceSub, Nat.reduceMod, Nat.reduceDiv, indexK.aggOf, Int.reducePow, Int.reduceLE, Int.reduceNeg, Int.reduceLT, Int.reduceBEq, Int.reduceBNe, Int.reduceEq, ownA, nilA, Try.facts]
  first | refine CallK.p (ob) ?_ | refine CallP.i (ob) ?_
  simp (disch := omega) only [↓runPre, runPost, fieldO, ixA, cutA, lenA, aggA, rowA, appA, mkA, indA, bnd, srcA, sameOp, funcA, cvO, partA, aggD, ↓PostP, resV, resAll, resOne, resVF, resAllF, resOneF, fitsAll, fitsR, fits, frz, Post, Nat.reduceBEq, Nat.reduceLT, reduceCtorEq, ↓reduceIte, initS, AV.cellsOf, AV.fine, AV.one, repA, Nat.reduceMul, Nat.reduceAdd, Nat.reduceLeDiff, Nat.reduceEqDiff, Int.reduceToNat, Nat.reduceSub, Nat.reduceMod, Nat.reduceDiv, indexK.aggOf, Int.reducePow, Int.reduceLE, Int.reduceNeg, Int.reduceLT, Int.reduceBEq, Int.reduceBNe, Int.reduceEq, ownA, nilA, Try.facts]
  first | refine CallK.p (oc) ?_ | refine CallP.i (oc) ?_
  simp (disch := omega) only [↓runPre, runPost, fieldO, ixA, cutA, lenA, aggA, rowA, appA, mkA, indA, bnd, srcA, sameOp, funcA, cvO, partA, aggD, ↓PostP, resV, resAll, resOne, resVF, resAllF, resOneF, fitsAll, fitsR, fits, frz, Post, Nat.reduceBEq, Nat.reduceLT, reduceCtorEq, ↓reduceIte, initS, AV.cellsOf, AV.fine, AV.one, repA, Nat.reduceMul, Nat.reduceAdd, Nat.reduceLeDiff, Nat.reduceEqDiff, Int.reduceToNat, Nat.reduceSub, Nat.reduceMod, Nat.reduceDiv, indexK.aggOf, Int.reducePow, Int.reduceLE, Int.reduceNeg, Int.reduceLT, Int.reduceBEq, Int.reduceBNe, Int.reduceEq, ownA, nilA, Try.facts]
  refine CallK.i (hq _ _ s1) ?_
  rintro v H2 ⟨rfl, rfl⟩
  have s2 := s1
  have l5 := s2.sub k5 _ (by rw [set_other n58, set_get])
  have l8 := s2.sub k8 _ set_get
  simp (disch := omega) only [↓runPre, runPost, fieldO, ixA, cutA, lenA, aggA, rowA, appA, mkA, indA, bnd, srcA, sameOp, funcA, cvO, partA, aggD, ↓PostP, resV, resAll, resOne, resVF, resAllF, resOneF, fitsAll, fitsR, fits, frz, Post, Nat.reduceBEq, Nat.reduceLT, reduceCtorEq, ↓reduceIte, initS, AV.cellsOf, AV.fine, AV.one, repA, Nat.reduceMul, Nat.reduceAdd, Nat.reduceLeDiff, Nat.reduceEqDiff, Int.reduceToNat, Nat.reduceSub, Nat.reduceMod, Nat.reduceDiv, indexK.aggOf, Int.reducePow, Int.reduceLE, Int.reduceNeg, Int.reduceLT, Int.reduceBEq, Int.reduceBNe, Int.reduceEq, ownA, nilA, Try.facts, set_other, l5, l8]
  first | refine CallK.p (hv) ?_ | refine CallP.i (hv) ?_
  simp (disch := omega) only [↓runPre, runPost, fieldO, ixA, cutA, lenA, aggA, rowA, appA, mkA, indA, bnd, srcA, sameOp, funcA, cvO, partA, aggD, ↓PostP, resV, resAll, resOne, resVF, resAllF, resOneF, fitsAll, fitsR, fits, frz, Post, Nat.reduceBEq, Nat.reduceLT, reduceCtorEq, ↓reduceIte, initS, AV.cellsOf, AV.fine, AV.one, repA, Nat.reduceMul, Nat.reduceAdd, Nat.reduceLeDiff, Nat.reduceEqDiff, Int.reduceToNat, Nat.reduceSub, Nat.reduceMod, Nat.reduceDiv, indexK.aggOf, Int.reducePow, Int.reduceLE, Int.reduceNeg, Int.reduceLT, Int.reduceBEq, Int.reduceBNe, Int.reduceEq, ownA, nilA, Try.facts, set_other, l5, l8, putCells_eq, baToList]
  intro k23 hk230 hk23
  have m5 := ne_live l5 hk23
  have m8 := ne_live l8 hk23
  simp (disch := omega) only [↓runPre, runPost, fieldO, ixA, cutA, lenA, aggA, rowA, appA, mkA, indA, bnd, srcA, sameOp, funcA, cvO, partA, aggD, ↓PostP, resV, resAll, resOne, resVF, resAllF, resOneF, fitsAll, fitsR, fits, frz, Post, Nat.reduceBEq, Nat.reduceLT, reduceCtorEq, ↓reduceIte, initS, AV.cellsOf, AV.fine, AV.one, repA, Nat.reduceMul, Nat.reduceAdd, Nat.reduceLeDiff, Nat.reduceEqDiff, Int.reduceToNat, Nat.reduceSub, Nat.reduceMod, Nat.reduceDiv, indexK.aggOf, Int.reducePow, Int.reduceLE, Int.reduceNeg, Int.reduceLT, Int.reduceBEq, Int.reduceBNe, Int.reduceEq, ownA, nilA, Try.facts, kill_box hk23, set_other, l5, l8, putCells_eq, baToList]
  obtain ⟨H9, q1, q2⟩ := asked_end0 s2 n5 n8 n58
  exact ⟨_, rfl, H9, q1, _, rfl, .inl ⟨rfl, rfl, q2⟩⟩

theorem asked_shared_miss (H0 H : AH) (h m d : Nat) (ts : List Term) (k : AskT) (l : List (List UInt8)) (a b c : List UInt8) (hl : l.length ≤ 1000000) (ha : k.a.of l = a) (hb : k.b.of l = b) (hc : k.c.of l = c)
    (ha0 : a.length ≤ 100000000) (hb0 : b.length ≤ 100000000) (hc0 : c.length ≤ 100000000) (hka : -9223372036854775808 ≤ k.a.from_ ∧ k.a.from_ < 9223372036854775808) (hkb : -9223372036854775808 ≤ k.b.from_ ∧ k.b.from_ < 9223372036854775808) (hkc : -9223372036854775808 ≤ k.c.from_ ∧ k.c.from_ < 9223372036854775808)
    (hg : GT 1000000 ts) (hd : d ≤ 1000000) (s : SS H0 H h m d ts) (hk : k.kind = 3) (h32 : a.length = 32) (hf : (findT ts b 112).2 = false) : ACalls Try.prog 17 [.ptr h 0, vaultV ts d, .agg (askC k), rowsV l] H
      (AskedR H0 h m d ts []) := by
  have pa := of_pure k.a l hka hl
  have pb := of_pure k.b l hkb hl
  have pc := of_pure k.c l hkc hl
  have oa := own_pure a (by omega)
  have ob := own_pure b (by omega)
  have oc := own_pure c (by omega)
  rw [ha] at pa
  rw [hb] at pb
  rw [hc] at pc
  have hq := fun (B B' : AH) (ss : SS B B' h m d ts) => shared_miss a b (by omega) hg h32 hf ss
  have hv := (show APure Try.prog 35 _ (.tup [vaultV ts d, .imm 0 [] 0, .sc (.int .i64 8)]) from by have := vshared_pure ts d a b hg.pub hg.wf hg.len; unfold shV at this; rwa [if_neg (by omega), if_pos hf] at this)
  obtain ⟨kd, n, ⟨fa, ra⟩, ⟨fb, rb⟩, ⟨fc, rc⟩⟩ := k
  simp only [askC] at *
  subst hk
  clear ha hb hc hka hkb hkc
  refine acalls_of_cwp (c := ⟨Try.prog, 225, [(1, [0, 1, 0, 0, 0, 1, 0, 0, 0, 1, 0, 0, 0, 0, 0]), (30, [0, 0, 0, 0, 1, 1, 0, 0, 0, 0, 0, 0]), (38, [1, 0, 0, 0, 0, 0, 0, 0, 0, 0, 0, 0, 0, 0, 0, 0, 0, 0, 0, 0, 0, 0, 0, 0, 0, 2, 0, 0, 0]), (1000000, [6]), (1000017, [23]), (4000038, [8, 9, 10, 11]), (4000008, [5, 8, 12, 13, 14, 15, 16, 17, 18, 19, 20]), (4000011, [5, 8, 12, 13, 14, 15, 16, 17, 18, 19, 20]), (4000014, [5, 8, 12, 13, 14, 15, 16, 17, 18, 19, 20]), (4000019, [5, 8, 12, 13, 14, 15, 16, 17, 18, 19, 20]), (4000017, [5, 8, 12, 13, 14, 15, 16, 17, 21, 22, 23, 24, 25]), (4000016, [5, 8, 12, 13, 14, 15, 16, 17, 21, 22]), (4000022, [5, 8, 12, 13, 14, 15, 16, 17, 18, 19, 20]), (4000021, [5, 8, 12, 13, 14, 15, 16, 17, 18, 20]), (4000025, [5, 8, 12, 13, 14, 15, 16, 17, 18, 19, 20]), (4000028, [5, 8, 12, 13, 14, 15, 16, 17, 18, 19, 20]), (4000027, [5, 8, 12, 13, 14, 15, 16, 17, 18, 20]), (4000030, [5, 8, 12, 13, 14, 15, 16, 17, 18, 19, 20]), (4000033, [5, 8, 12, 13, 14, 15, 16, 17, 18, 19, 20]), (4000032, [5, 6, 8, 12, 13, 14, 15, 16, 17, 18, 20]), (4000037, [5, 8, 12, 13, 14, 15, 16, 17, 18, 19, 20]), (4000036, [5, 8, 12, 13, 14, 15, 16, 17, 26, 27, 28, 29]), (4000035, [5, 6, 8, 12, 13, 14, 15, 16, 17, 26, 27]), (4000002, [0, 5, 6, 8, 12, 13, 14, 15, 16, 17]), (4000001, [0, 5, 6, 8, 12, 13, 14]), (4000000, [0, 3, 5, 6, 8])], [], []⟩) (rs := [ResultVar.cell 8 38, ResultVar.tmp 9, ResultVar.tmp 10, ResultVar.tmp 11]) Try.mixed Try.func17 rfl rfl rfl (Nat.le_of_ble_eq_true rfl) (by kernel_rfl) ?_
  simp (disch := omega) only [↓runPre, runPost, fieldO, ixA, cutA, lenA, aggA, rowA, appA, mkA, indA, bnd, srcA, sameOp, funcA, cvO, partA, aggD, ↓PostP, resV, resAll, resOne, resVF, resAllF, resOneF, fitsAll, fitsR, fits, frz, Post, Nat.reduceBEq, Nat.reduceLT, reduceCtorEq, ↓reduceIte, initS, AV.cellsOf, AV.fine, AV.one, repA, Nat.reduceMul, Nat.reduceAdd, Nat.reduceLeDiff, Nat.reduceEqDiff, Int.reduceToNat, Nat.reduceSub, Nat.reduceMod, Nat.reduceDiv, indexK.aggOf, Int.reducePow, Int.reduceLE, Int.reduceNeg, Int.reduceLT, Int.reduceBEq, Int.reduceBNe, Int.reduceEq, ownA, nilA, Try.facts]
  intro k5 hk50 hk5 k6 hk60 hk6 k8 hk80 hk8
  have n68 := set_ne hk8
  have n58 := set_ne (subset_set hk8)
  have hk8H := subset_set (subset_set hk8)
  have n5 := s.sub.free hk5
  have n8 := s.sub.free hk8H
  have s1 := (s.box (o := .cells [.imm 0 (termsC ts) ts.length, .sc (.int .i64 d)] 38 2) hk5).box (o := .cells [.sc (.slice none 0 0), .sc (.int .i64 0)] 38 2) (subset_set hk8)
  simp (disch := omega) only [↓runPre, runPost, fieldO, ixA, cutA, lenA, aggA, rowA, appA, mkA, indA, bnd, srcA, sameOp, funcA, cvO, partA, aggD, ↓PostP, resV, resAll, resOne, resVF, resAllF, resOneF, fitsAll, fitsR, fits, frz, Post, Nat.reduceBEq, Nat.reduceLT, reduceCtorEq, ↓reduceIte, initS, AV.cellsOf, AV.fine, AV.one, repA, Nat.reduceMul, Nat.reduceAdd, Nat.reduceLeDiff, Nat.reduceEqDiff, Int.reduceToNat, Nat.reduceSub, Nat.reduceMod, Nat.reduceDiv, indexK.aggOf, Int.reducePow, Int.reduceLE, Int.reduceNeg, Int.reduceLT, Int.reduceBEq, Int.reduceBNe, Int.reduceEq, ownA, nilA, Try.facts, set_other, kill_under hk6 n68]
  first | refine CallK.p (pa) ?_ | refine CallP.i (pa) ?_
  simp (disch := omega) only [↓runPre, runPost, fieldO, ixA, cutA, lenA, aggA, rowA, appA, mkA, indA, bnd, srcA, sameOp, funcA, cvO, partA, aggD, ↓PostP, resV, resAll, resOne, resVF, resAllF, resOneF, fitsAll, fitsR, fits, frz, Post, Nat.reduceBEq, Nat.reduceLT, reduceCtorEq, ↓reduceIte, initS, AV.cellsOf, AV.fine, AV.one, repA, Nat.reduceMul, Nat.reduceAdd, Nat.reduceLeDiff, Nat.reduceEqDiff, Int.reduceToNat, Nat.reduceSub, Nat.reduceMod, Nat.reduceDiv, indexK.aggOf, Int.reducePow, Int.reduceLE, Int.reduceNeg, Int.reduceLT, Int.reduceBEq, Int.reduceBNe, Int.reduceEq, ownA, nilA, Try.facts]
  first | refine CallK.p (pb) ?_ | refine CallP.i (pb) ?_
  simp (disch := omega) only [↓runPre, runPost, fieldO, ixA, cutA, lenA, aggA, rowA, appA, mkA, indA, bnd, srcA, sameOp, funcA, cvO, partA, aggD, ↓PostP, resV, resAll, resOne, resVF, resAllF, resOneF, fitsAll, fitsR, fits, frz, Post, Nat.reduceBEq, Nat.reduceLT, reduceCtorEq, ↓reduceIte, initS, AV.cellsOf, AV.fine, AV.one, repA, Nat.reduceMul, Nat.reduceAdd, Nat.reduceLeDiff, Nat.reduceEqDiff, Int.reduceToNat, Nat.reduceSub, Nat.reduceMod, Nat.reduceDiv, indexK.aggOf, Int.reducePow, Int.reduceLE, Int.reduceNeg, Int.reduceLT, Int.reduceBEq, Int.reduceBNe, Int.reduceEq, ownA, nilA, Try.facts]
  first | refine CallK.p (pc) ?_ | refine CallP.i (pc) ?_
  simp (disch := omega) only [↓runPre, runPost, fieldO, ixA, cutA, lenA, aggA, rowA, appA, mkA, indA, bnd, srcA, sameOp, funcA, cvO, partA, aggD, ↓PostP, resV, resAll, resOne, resVF, resAllF, resOneF, fitsAll, fitsR, fits, frz, Post, Nat.reduceBEq, Nat.reduceLT, reduceCtorEq, ↓reduceIte, initS, AV.cellsOf, AV.fine, AV.one, repA, Nat.reduceMul, Nat.reduceAdd, Nat.reduceLeDiff, Nat.reduceEqDiff, Int.reduceToNat, Nat.reduceSub, Nat.reduceMod, Nat.reduceDiv, indexK.aggOf, Int.reducePow, Int.reduceLE, Int.reduceNeg, Int.reduceLT, Int.reduceBEq, Int.reduceBNe, Int.reduceEq, ownA, nilA, Try.facts]
  first | refine CallK.p (oa) ?_ | refine CallP.i (oa) ?_
  simp (disch := omega) only [↓runPre, runPost, fieldO, ixA, cutA, lenA, aggA, rowA, appA, mkA, indA, bnd, srcA, sameOp, funcA, cvO, partA, aggD, ↓PostP, resV, resAll, resOne, resVF, resAllF, resOneF, fitsAll, fitsR, fits, frz, Post, Nat.reduceBEq, Nat.reduceLT, reduceCtorEq, ↓reduceIte, initS, AV.cellsOf, AV.fine, AV.one, repA, Nat.reduceMul, Nat.reduceAdd, Nat.reduceLeDiff, Nat.reduceEqDiff, Int.reduceToNat, Nat.reduceSub, Nat.reduceMod, Nat.reduceDiv, indexK.aggOf, Int.reducePow, Int.reduceLE, Int.reduceNeg, Int.reduceLT, Int.reduceBEq, Int.reduceBNe, Int.reduceEq, ownA, nilA, Try.facts]
  first | refine CallK.p (ob) ?_ | refine CallP.i (ob) ?_
  simp (disch := omega) only [↓runPre, runPost, fieldO, ixA, cutA, lenA, aggA, rowA, appA, mkA, indA, bnd, srcA, sameOp, funcA, cvO, partA, aggD, ↓PostP, resV, resAll, resOne, resVF, resAllF, resOneF, fitsAll, fitsR, fits, frz, Post, Nat.reduceBEq, Nat.reduceLT, reduceCtorEq, ↓reduceIte, initS, AV.cellsOf, AV.fine, AV.one, repA, Nat.reduceMul, Nat.reduceAdd, Nat.reduceLeDiff, Nat.reduceEqDiff, Int.reduceToNat, Nat.reduceSub, Nat.reduceMod, Nat.reduceDiv, indexK.aggOf, Int.reducePow, Int.reduceLE, Int.reduceNeg, Int.reduceLT, Int.reduceBEq, Int.reduceBNe, Int.reduceEq, ownA, nilA, Try.facts]
  first | refine CallK.p (oc) ?_ | refine CallP.i (oc) ?_
  simp (disch := omega) only [↓runPre, runPost, fieldO, ixA, cutA, lenA, aggA, rowA, appA, mkA, indA, bnd, srcA, sameOp, funcA, cvO, partA, aggD, ↓PostP, resV, resAll, resOne, resVF, resAllF, resOneF, fitsAll, fitsR, fits, frz, Post, Nat.reduceBEq, Nat.reduceLT, reduceCtorEq, ↓reduceIte, initS, AV.cellsOf, AV.fine, AV.one, repA, Nat.reduceMul, Nat.reduceAdd, Nat.reduceLeDiff, Nat.reduceEqDiff, Int.reduceToNat, Nat.reduceSub, Nat.reduceMod, Nat.reduceDiv, indexK.aggOf, Int.reducePow, Int.reduceLE, Int.reduceNeg, Int.reduceLT, Int.reduceBEq, Int.reduceBNe, Int.reduceEq, ownA, nilA, Try.facts]
  refine CallK.i (hq _ _ s1) ?_
  rintro v H2 ⟨rfl, rfl⟩
  have s2 := s1
  have l5 := s2.sub k5 _ (by rw [set_other n58, set_get])
  have l8 := s2.sub k8 _ set_get
  simp (disch := omega) only [↓runPre, runPost, fieldO, ixA, cutA, lenA, aggA, rowA, appA, mkA, indA, bnd, srcA, sameOp, funcA, cvO, partA, aggD, ↓PostP, resV, resAll, resOne, resVF, resAllF, resOneF, fitsAll, fitsR, fits, frz, Post, Nat.reduceBEq, Nat.reduceLT, reduceCtorEq, ↓reduceIte, initS, AV.cellsOf, AV.fine, AV.one, repA, Nat.reduceMul, Nat.reduceAdd, Nat.reduceLeDiff, Nat.reduceEqDiff, Int.reduceToNat, Nat.reduceSub, Nat.reduceMod, Nat.reduceDiv, indexK.aggOf, Int.reducePow, Int.reduceLE, Int.reduceNeg, Int.reduceLT, Int.reduceBEq, Int.reduceBNe, Int.reduceEq, ownA, nilA, Try.facts, set_other, l5, l8]
  first | refine CallK.p (hv) ?_ | refine CallP.i (hv) ?_
  simp (disch := omega) only [↓runPre, runPost, fieldO, ixA, cutA, lenA, aggA, rowA, appA, mkA, indA, bnd, srcA, sameOp, funcA, cvO, partA, aggD, ↓PostP, resV, resAll, resOne, resVF, resAllF, resOneF, fitsAll, fitsR, fits, frz, Post, Nat.reduceBEq, Nat.reduceLT, reduceCtorEq, ↓reduceIte, initS, AV.cellsOf, AV.fine, AV.one, repA, Nat.reduceMul, Nat.reduceAdd, Nat.reduceLeDiff, Nat.reduceEqDiff, Int.reduceToNat, Nat.reduceSub, Nat.reduceMod, Nat.reduceDiv, indexK.aggOf, Int.reducePow, Int.reduceLE, Int.reduceNeg, Int.reduceLT, Int.reduceBEq, Int.reduceBNe, Int.reduceEq, ownA, nilA, Try.facts, set_other, l5, l8, putCells_eq, baToList]
  intro k23 hk230 hk23
  have m5 := ne_live l5 hk23
  have m8 := ne_live l8 hk23
  simp (disch := omega) only [↓runPre, runPost, fieldO, ixA, cutA, lenA, aggA, rowA, appA, mkA, indA, bnd, srcA, sameOp, funcA, cvO, partA, aggD, ↓PostP, resV, resAll, resOne, resVF, resAllF, resOneF, fitsAll, fitsR, fits, frz, Post, Nat.reduceBEq, Nat.reduceLT, reduceCtorEq, ↓reduceIte, initS, AV.cellsOf, AV.fine, AV.one, repA, Nat.reduceMul, Nat.reduceAdd, Nat.reduceLeDiff, Nat.reduceEqDiff, Int.reduceToNat, Nat.reduceSub, Nat.reduceMod, Nat.reduceDiv, indexK.aggOf, Int.reducePow, Int.reduceLE, Int.reduceNeg, Int.reduceLT, Int.reduceBEq, Int.reduceBNe, Int.reduceEq, ownA, nilA, Try.facts, kill_box hk23, set_other, l5, l8, putCells_eq, baToList]
  obtain ⟨H9, q1, q2⟩ := asked_end0 s2 n5 n8 n58
  exact ⟨_, rfl, H9, q1, _, rfl, .inl ⟨rfl, rfl, q2⟩⟩

theorem asked_shared_hit (H0 H : AH) (h m d : Nat) (ts : List Term) (k : AskT) (l : List (List UInt8)) (a b c : List UInt8) (hl : l.length ≤ 1000000) (ha : k.a.of l = a) (hb : k.b.of l = b) (hc : k.c.of l = c)
    (ha0 : a.length ≤ 100000000) (hb0 : b.length ≤ 100000000) (hc0 : c.length ≤ 100000000) (hka : -9223372036854775808 ≤ k.a.from_ ∧ k.a.from_ < 9223372036854775808) (hkb : -9223372036854775808 ≤ k.b.from_ ∧ k.b.from_ < 9223372036854775808) (hkc : -9223372036854775808 ≤ k.c.from_ ∧ k.c.from_ < 9223372036854775808)
    (hg : GT 1000000 ts) (hd : d ≤ 1000000) (s : SS H0 H h m d ts) (hk : k.kind = 3) (h32 : a.length = 32) (hf : (findT ts b 112).2 = true) : ACalls Try.prog 17 [.ptr h 0, vaultV ts d, .agg (askC k), rowsV l] H
      (AskedR H0 h m d (numT ts (shT a (partT (findT ts b 112).1 0))).1 (nameT (shT a (partT (findT ts b 112).1 0)) (numT ts (shT a (partT (findT ts b 112).1 0))).2)) := by
  have pa := of_pure k.a l hka hl
  have pb := of_pure k.b l hkb hl
  have pc := of_pure k.c l hkc hl
  have oa := own_pure a (by omega)
  have ob := own_pure b (by omega)
  have oc := own_pure c (by omega)
  rw [ha] at pa
  rw [hb] at pb
  rw [hc] at pc
  have hq := fun (B B' : AH) (ss : SS B B' h m d ts) => shared_hit a b (by omega) hg h32 hf ss
  have hv := (show APure Try.prog 35 _ (.tup [vaultV (numT ts (shT a (partT (findT ts b 112).1 0))).1 d, bytesV (nameT (shT a (partT (findT ts b 112).1 0)) (numT ts (shT a (partT (findT ts b 112).1 0))).2), .sc (.int .i64 0)]) from by have := vshared_pure ts d a b hg.pub hg.wf hg.len; unfold shV at this; rwa [if_neg (by omega), if_neg (by rw [hf]; simp)] at this)
  generalize (numT ts (shT a (partT (findT ts b 112).1 0))).1 = Z1 at *
  generalize nameT (shT a (partT (findT ts b 112).1 0)) (numT ts (shT a (partT (findT ts b 112).1 0))).2 = Z2 at *
  obtain ⟨kd, n, ⟨fa, ra⟩, ⟨fb, rb⟩, ⟨fc, rc⟩⟩ := k
  simp only [askC] at *
  subst hk
  clear ha hb hc hka hkb hkc
  refine acalls_of_cwp (c := ⟨Try.prog, 225, [(1, [0, 1, 0, 0, 0, 1, 0, 0, 0, 1, 0, 0, 0, 0, 0]), (30, [0, 0, 0, 0, 1, 1, 0, 0, 0, 0, 0, 0]), (38, [1, 0, 0, 0, 0, 0, 0, 0, 0, 0, 0, 0, 0, 0, 0, 0, 0, 0, 0, 0, 0, 0, 0, 0, 0, 2, 0, 0, 0]), (1000000, [6]), (1000017, [23]), (4000038, [8, 9, 10, 11]), (4000008, [5, 8, 12, 13, 14, 15, 16, 17, 18, 19, 20]), (4000011, [5, 8, 12, 13, 14, 15, 16, 17, 18, 19, 20]), (4000014, [5, 8, 12, 13, 14, 15, 16, 17, 18, 19, 20]), (4000019, [5, 8, 12, 13, 14, 15, 16, 17, 18, 19, 20]), (4000017, [5, 8, 12, 13, 14, 15, 16, 17, 21, 22, 23, 24, 25]), (4000016, [5, 8, 12, 13, 14, 15, 16, 17, 21, 22]), (4000022, [5, 8, 12, 13, 14, 15, 16, 17, 18, 19, 20]), (4000021, [5, 8, 12, 13, 14, 15, 16, 17, 18, 20]), (4000025, [5, 8, 12, 13, 14, 15, 16, 17, 18, 19, 20]), (4000028, [5, 8, 12, 13, 14, 15, 16, 17, 18, 19, 20]), (4000027, [5, 8, 12, 13, 14, 15, 16, 17, 18, 20]), (4000030, [5, 8, 12, 13, 14, 15, 16, 17, 18, 19, 20]), (4000033, [5, 8, 12, 13, 14, 15, 16, 17, 18, 19, 20]), (4000032, [5, 6, 8, 12, 13, 14, 15, 16, 17, 18, 20]), (4000037, [5, 8, 12, 13, 14, 15, 16, 17, 18, 19, 20]), (4000036, [5, 8, 12, 13, 14, 15, 16, 17, 26, 27, 28, 29]), (4000035, [5, 6, 8, 12, 13, 14, 15, 16, 17, 26, 27]), (4000002, [0, 5, 6, 8, 12, 13, 14, 15, 16, 17]), (4000001, [0, 5, 6, 8, 12, 13, 14]), (4000000, [0, 3, 5, 6, 8])], [], []⟩) (rs := [ResultVar.cell 8 38, ResultVar.tmp 9, ResultVar.tmp 10, ResultVar.tmp 11]) Try.mixed Try.func17 rfl rfl rfl (Nat.le_of_ble_eq_true rfl) (by kernel_rfl) ?_
  simp (disch := omega) only [↓runPre, runPost, fieldO, ixA, cutA, lenA, aggA, rowA, appA, mkA, indA, bnd, srcA, sameOp, funcA, cvO, partA, aggD, ↓PostP, resV, resAll, resOne, resVF, resAllF, resOneF, fitsAll, fitsR, fits, frz, Post, Nat.reduceBEq, Nat.reduceLT, reduceCtorEq, ↓reduceIte, initS, AV.cellsOf, AV.fine, AV.one, repA, Nat.reduceMul, Nat.reduceAdd, Nat.reduceLeDiff, Nat.reduceEqDiff, Int.reduceToNat, Nat.reduceSub, Nat.reduceMod, Nat.reduceDiv, indexK.aggOf, Int.reducePow, Int.reduceLE, Int.reduceNeg, Int.reduceLT, Int.reduceBEq, Int.reduceBNe, Int.reduceEq, ownA, nilA, Try.facts]
  intro k5 hk50 hk5 k6 hk60 hk6 k8 hk80 hk8
  have n68 := set_ne hk8
  have n58 := set_ne (subset_set hk8)
  have hk8H := subset_set (subset_set hk8)
  have n5 := s.sub.free hk5
  have n8 := s.sub.free hk8H
  have s1 := (s.box (o := .cells [.imm 0 (termsC ts) ts.length, .sc (.int .i64 d)] 38 2) hk5).box (o := .cells [.sc (.slice none 0 0), .sc (.int .i64 0)] 38 2) (subset_set hk8)
  simp (disch := omega) only [↓runPre, runPost, fieldO, ixA, cutA, lenA, aggA, rowA, appA, mkA, indA, bnd, srcA, sameOp, funcA, cvO, partA, aggD, ↓PostP, resV, resAll, resOne, resVF, resAllF, resOneF, fitsAll, fitsR, fits, frz, Post, Nat.reduceBEq, Nat.reduceLT, reduceCtorEq, ↓reduceIte, initS, AV.cellsOf, AV.fine, AV.one, repA, Nat.reduceMul, Nat.reduceAdd, Nat.reduceLeDiff, Nat.reduceEqDiff, Int.reduceToNat, Nat.reduceSub, Nat.reduceMod, Nat.reduceDiv, indexK.aggOf, Int.reducePow, Int.reduceLE, Int.reduceNeg, Int.reduceLT, Int.reduceBEq, Int.reduceBNe, Int.reduceEq, ownA, nilA, Try.facts, set_other, kill_under hk6 n68]
  first | refine CallK.p (pa) ?_ | refine CallP.i (pa) ?_
  simp (disch := omega) only [↓runPre, runPost, fieldO, ixA, cutA, lenA, aggA, rowA, appA, mkA, indA, bnd, srcA, sameOp, funcA, cvO, partA, aggD, ↓PostP, resV, resAll, resOne, resVF, resAllF, resOneF, fitsAll, fitsR, fits, frz, Post, Nat.reduceBEq, Nat.reduceLT, reduceCtorEq, ↓reduceIte, initS, AV.cellsOf, AV.fine, AV.one, repA, Nat.reduceMul, Nat.reduceAdd, Nat.reduceLeDiff, Nat.reduceEqDiff, Int.reduceToNat, Nat.reduceSub, Nat.reduceMod, Nat.reduceDiv, indexK.aggOf, Int.reducePow, Int.reduceLE, Int.reduceNeg, Int.reduceLT, Int.reduceBEq, Int.reduceBNe, Int.reduceEq, ownA, nilA, Try.facts]
  first | refine CallK.p (pb) ?_ | refine CallP.i (pb) ?_
  simp (disch := omega) only [↓runPre, runPost, fieldO, ixA, cutA, lenA, aggA, rowA, appA, mkA, indA, bnd, srcA, sameOp, funcA, cvO, partA, aggD, ↓PostP, resV, resAll, resOne, resVF, resAllF, resOneF, fitsAll, fitsR, fits, frz, Post, Nat.reduceBEq, Nat.reduceLT, reduceCtorEq, ↓reduceIte, initS, AV.cellsOf, AV.fine, AV.one, repA, Nat.reduceMul, Nat.reduceAdd, Nat.reduceLeDiff, Nat.reduceEqDiff, Int.reduceToNat, Nat.reduceSub, Nat.reduceMod, Nat.reduceDiv, indexK.aggOf, Int.reducePow, Int.reduceLE, Int.reduceNeg, Int.reduceLT, Int.reduceBEq, Int.reduceBNe, Int.reduceEq, ownA, nilA, Try.facts]
  first | refine CallK.p (pc) ?_ | refine CallP.i (pc) ?_
  simp (disch := omega) only [↓runPre, runPost, fieldO, ixA, cutA, lenA, aggA, rowA, appA, mkA, indA, bnd, srcA, sameOp, funcA, cvO, partA, aggD, ↓PostP, resV, resAll, resOne, resVF, resAllF, resOneF, fitsAll, fitsR, fits, frz, Post, Nat.reduceBEq, Nat.reduceLT, reduceCtorEq, ↓reduceIte, initS, AV.cellsOf, AV.fine, AV.one, repA, Nat.reduceMul, Nat.reduceAdd, Nat.reduceLeDiff, Nat.reduceEqDiff, Int.reduceToNat, Nat.reduceSub, Nat.reduceMod, Nat.reduceDiv, indexK.aggOf, Int.reducePow, Int.reduceLE, Int.reduceNeg, Int.reduceLT, Int.reduceBEq, Int.reduceBNe, Int.reduceEq, ownA, nilA, Try.facts]
  first | refine CallK.p (oa) ?_ | refine CallP.i (oa) ?_
  simp (disch := omega) only [↓runPre, runPost, fieldO, ixA, cutA, lenA, aggA, rowA, appA, mkA, indA, bnd, srcA, sameOp, funcA, cvO, partA, aggD, ↓PostP, resV, resAll, resOne, resVF, resAllF, resOneF, fitsAll, fitsR, fits, frz, Post, Nat.reduceBEq, Nat.reduceLT, reduceCtorEq, ↓reduceIte, initS, AV.cellsOf, AV.fine, AV.one, repA, Nat.reduceMul, Nat.reduceAdd, Nat.reduceLeDiff, Nat.reduceEqDiff, Int.reduceToNat, Nat.reduceSub, Nat.reduceMod, Nat.reduceDiv, indexK.aggOf, Int.reducePow, Int.reduceLE, Int.reduceNeg, Int.reduceLT, Int.reduceBEq, Int.reduceBNe, Int.reduceEq, ownA, nilA, Try.facts]
  first | refine CallK.p (ob) ?_ | refine CallP.i (ob) ?_
  simp (disch := omega) only [↓runPre, runPost, fieldO, ixA, cutA, lenA, aggA, rowA, appA, mkA, indA, bnd, srcA, sameOp, funcA, cvO, partA, aggD, ↓PostP, resV, resAll, resOne, resVF, resAllF, resOneF, fitsAll, fitsR, fits, frz, Post, Nat.reduceBEq, Nat.reduceLT, reduceCtorEq, ↓reduceIte, initS, AV.cellsOf, AV.fine, AV.one, repA, Nat.reduceMul, Nat.reduceAdd, Nat.reduceLeDiff, Nat.reduceEqDiff, Int.reduceToNat, Nat.reduceSub, Nat.reduceMod, Nat.reduceDiv, indexK.aggOf, Int.reducePow, Int.reduceLE, Int.reduceNeg, Int.reduceLT, Int.reduceBEq, Int.reduceBNe, Int.reduceEq, ownA, nilA, Try.facts]
  first | refine CallK.p (oc) ?_ | refine CallP.i (oc) ?_
  simp (disch := omega) only [↓runPre, runPost, fieldO, ixA, cutA, lenA, aggA, rowA, appA, mkA, indA, bnd, srcA, sameOp, funcA, cvO, partA, aggD, ↓PostP, resV, resAll, resOne, resVF, resAllF, resOneF, fitsAll, fitsR, fits, frz, Post, Nat.reduceBEq, Nat.reduceLT, reduceCtorEq, ↓reduceIte, initS, AV.cellsOf, AV.fine, AV.one, repA, Nat.reduceMul, Nat.reduceAdd, Nat.reduceLeDiff, Nat.reduceEqDiff, Int.reduceToNat, Nat.reduceSub, Nat.reduceMod, Nat.reduceDiv, indexK.aggOf, Int.reducePow, Int.reduceLE, Int.reduceNeg, Int.reduceLT, Int.reduceBEq, Int.reduceBNe, Int.reduceEq, ownA, nilA, Try.facts]
  refine CallK.i (hq _ _ s1) ?_
  rintro v H3 ⟨r, rfl, H2, s2, kk, hkk0, hkk, rfl, rfl⟩
  have l5 := s2.sub k5 _ (by rw [set_other n58, set_get])
  have l8 := s2.sub k8 _ set_get
  have m5 := ne_live l5 hkk
  have m8 := ne_live l8 hkk
  simp (disch := omega) only [↓runPre, runPost, fieldO, ixA, cutA, lenA, aggA, rowA, appA, mkA, indA, bnd, srcA, sameOp, funcA, cvO, partA, aggD, ↓PostP, resV, resAll, resOne, resVF, resAllF, resOneF, fitsAll, fitsR, fits, frz, Post, Nat.reduceBEq, Nat.reduceLT, reduceCtorEq, ↓reduceIte, initS, AV.cellsOf, AV.fine, AV.one, repA, Nat.reduceMul, Nat.reduceAdd, Nat.reduceLeDiff, Nat.reduceEqDiff, Int.reduceToNat, Nat.reduceSub, Nat.reduceMod, Nat.reduceDiv, indexK.aggOf, Int.reducePow, Int.reduceLE, Int.reduceNeg, Int.reduceLT, Int.reduceBEq, Int.reduceBNe, Int.reduceEq, ownA, nilA, Try.facts, set_other, l5, l8]
  first | refine CallK.p (hv) ?_ | refine CallP.i (hv) ?_
  simp (disch := omega) only [↓runPre, runPost, fieldO, ixA, cutA, lenA, aggA, rowA, appA, mkA, indA, bnd, srcA, sameOp, funcA, cvO, partA, aggD, ↓PostP, resV, resAll, resOne, resVF, resAllF, resOneF, fitsAll, fitsR, fits, frz, Post, Nat.reduceBEq, Nat.reduceLT, reduceCtorEq, ↓reduceIte, initS, AV.cellsOf, AV.fine, AV.one, repA, Nat.reduceMul, Nat.reduceAdd, Nat.reduceLeDiff, Nat.reduceEqDiff, Int.reduceToNat, Nat.reduceSub, Nat.reduceMod, Nat.reduceDiv, indexK.aggOf, Int.reducePow, Int.reduceLE, Int.reduceNeg, Int.reduceLT, Int.reduceBEq, Int.reduceBNe, Int.reduceEq, ownA, nilA, Try.facts, set_other, l5, l8, putCells_eq, baToList]
  intro k23 hk230 hk23
  have j5 : ¬ k5 = k23 := by rintro rfl; rw [set_other m5, l5] at hk23; cases hk23
  have j8 : ¬ k8 = k23 := by rintro rfl; rw [set_other m8, l8] at hk23; cases hk23
  simp (disch := omega) only [↓runPre, runPost, fieldO, ixA, cutA, lenA, aggA, rowA, appA, mkA, indA, bnd, srcA, sameOp, funcA, cvO, partA, aggD, ↓PostP, resV, resAll, resOne, resVF, resAllF, resOneF, fitsAll, fitsR, fits, frz, Post, Nat.reduceBEq, Nat.reduceLT, reduceCtorEq, ↓reduceIte, initS, AV.cellsOf, AV.fine, AV.one, repA, Nat.reduceMul, Nat.reduceAdd, Nat.reduceLeDiff, Nat.reduceEqDiff, Int.reduceToNat, Nat.reduceSub, Nat.reduceMod, Nat.reduceDiv, indexK.aggOf, Int.reducePow, Int.reduceLE, Int.reduceNeg, Int.reduceLT, Int.reduceBEq, Int.reduceBNe, Int.reduceEq, ownA, nilA, Try.facts, kill_box hk23, set_other, l5, l8, putCells_eq, baToList]
  obtain ⟨H9, q1, q2⟩ := asked_end s2 n5 n8 n58 hkk0 hkk Z2
  exact ⟨_, rfl, H9, q1, _, rfl, .inr q2⟩

theorem asked_verify (H0 H : AH) (h m d : Nat) (ts : List Term) (k : AskT) (l : List (List UInt8)) (a b c : List UInt8) (hl : l.length ≤ 1000000) (ha : k.a.of l = a) (hb : k.b.of l = b) (hc : k.c.of l = c)
    (ha0 : a.length ≤ 100000000) (hb0 : b.length ≤ 100000000) (hc0 : c.length ≤ 100000000) (hka : -9223372036854775808 ≤ k.a.from_ ∧ k.a.from_ < 9223372036854775808) (hkb : -9223372036854775808 ≤ k.b.from_ ∧ k.b.from_ < 9223372036854775808) (hkc : -9223372036854775808 ≤ k.c.from_ ∧ k.c.from_ < 9223372036854775808)
    (hg : GT 1000000 ts) (hd : d ≤ 1000000) (s : SS H0 H h m d ts) (hk : k.kind = 7) : ACalls Try.prog 17 [.ptr h 0, vaultV ts d, .agg (askC k), rowsV l] H
      (AskedR H0 h m d ts []) := by
  have pa := of_pure k.a l hka hl
  have pb := of_pure k.b l hkb hl
  have pc := of_pure k.c l hkc hl
  have oa := own_pure a (by omega)
  have ob := own_pure b (by omega)
  have oc := own_pure c (by omega)
  rw [ha] at pa
  rw [hb] at pb
  rw [hc] at pc
  have hq := fun (B B' : AH) (ss : SS B B' h m d ts) => verify_ss a b c (by omega) (by omega) hg ss
  have hv := vverify_pure ts d a b c hg.wf hg.len
  generalize verT ts a b c = V at *
  obtain ⟨kd, n, ⟨fa, ra⟩, ⟨fb, rb⟩, ⟨fc, rc⟩⟩ := k
  simp only [askC] at *
  subst hk
  clear ha hb hc hka hkb hkc
  refine acalls_of_cwp (c := ⟨Try.prog, 225, [(1, [0, 1, 0, 0, 0, 1, 0, 0, 0, 1, 0, 0, 0, 0, 0]), (30, [0, 0, 0, 0, 1, 1, 0, 0, 0, 0, 0, 0]), (38, [1, 0, 0, 0, 0, 0, 0, 0, 0, 0, 0, 0, 0, 0, 0, 0, 0, 0, 0, 0, 0, 0, 0, 0, 0, 2, 0, 0, 0]), (1000000, [6]), (1000017, [23]), (4000038, [8, 9, 10, 11]), (4000008, [5, 8, 12, 13, 14, 15, 16, 17, 18, 19, 20]), (4000011, [5, 8, 12, 13, 14, 15, 16, 17, 18, 19, 20]), (4000014, [5, 8, 12, 13, 14, 15, 16, 17, 18, 19, 20]), (4000019, [5, 8, 12, 13, 14, 15, 16, 17, 18, 19, 20]), (4000017, [5, 8, 12, 13, 14, 15, 16, 17, 21, 22, 23, 24, 25]), (4000016, [5, 8, 12, 13, 14, 15, 16, 17, 21, 22]), (4000022, [5, 8, 12, 13, 14, 15, 16, 17, 18, 19, 20]), (4000021, [5, 8, 12, 13, 14, 15, 16, 17, 18, 20]), (4000025, [5, 8, 12, 13, 14, 15, 16, 17, 18, 19, 20]), (4000028, [5, 8, 12, 13, 14, 15, 16, 17, 18, 19, 20]), (4000027, [5, 8, 12, 13, 14, 15, 16, 17, 18, 20]), (4000030, [5, 8, 12, 13, 14, 15, 16, 17, 18, 19, 20]), (4000033, [5, 8, 12, 13, 14, 15, 16, 17, 18, 19, 20]), (4000032, [5, 6, 8, 12, 13, 14, 15, 16, 17, 18, 20]), (4000037, [5, 8, 12, 13, 14, 15, 16, 17, 18, 19, 20]), (4000036, [5, 8, 12, 13, 14, 15, 16, 17, 26, 27, 28, 29]), (4000035, [5, 6, 8, 12, 13, 14, 15, 16, 17, 26, 27]), (4000002, [0, 5, 6, 8, 12, 13, 14, 15, 16, 17]), (4000001, [0, 5, 6, 8, 12, 13, 14]), (4000000, [0, 3, 5, 6, 8])], [], []⟩) (rs := [ResultVar.cell 8 38, ResultVar.tmp 9, ResultVar.tmp 10, ResultVar.tmp 11]) Try.mixed Try.func17 rfl rfl rfl (Nat.le_of_ble_eq_true rfl) (by kernel_rfl) ?_
  simp (disch := omega) only [↓runPre, runPost, fieldO, ixA, cutA, lenA, aggA, rowA, appA, mkA, indA, bnd, srcA, sameOp, funcA, cvO, partA, aggD, ↓PostP, resV, resAll, resOne, resVF, resAllF, resOneF, fitsAll, fitsR, fits, frz, Post, Nat.reduceBEq, Nat.reduceLT, reduceCtorEq, ↓reduceIte, initS, AV.cellsOf, AV.fine, AV.one, repA, Nat.reduceMul, Nat.reduceAdd, Nat.reduceLeDiff, Nat.reduceEqDiff, Int.reduceToNat, Nat.reduceSub, Nat.reduceMod, Nat.reduceDiv, indexK.aggOf, Int.reducePow, Int.reduceLE, Int.reduceNeg, Int.reduceLT, Int.reduceBEq, Int.reduceBNe, Int.reduceEq, ownA, nilA, Try.facts]
  intro k5 hk50 hk5 k6 hk60 hk6 k8 hk80 hk8
  have n68 := set_ne hk8
  have n58 := set_ne (subset_set hk8)
  have hk8H := subset_set (subset_set hk8)
  have n5 := s.sub.free hk5
  have n8 := s.sub.free hk8H
  have s1 := (s.box (o := .cells [.imm 0 (termsC ts) ts.length, .sc (.int .i64 d)] 38 2) hk5).box (o := .cells [.sc (.slice none 0 0), .sc (.int .i64 0)] 38 2) (subset_set hk8)
  simp (disch := omega) only [↓runPre, runPost, fieldO, ixA, cutA, lenA, aggA, rowA, appA, mkA, indA, bnd, srcA, sameOp, funcA, cvO, partA, aggD, ↓PostP, resV, resAll, resOne, resVF, resAllF, resOneF, fitsAll, fitsR, fits, frz, Post, Nat.reduceBEq, Nat.reduceLT, reduceCtorEq, ↓reduceIte, initS, AV.cellsOf, AV.fine, AV.one, repA, Nat.reduceMul, Nat.reduceAdd, Nat.reduceLeDiff, Nat.reduceEqDiff, Int.reduceToNat, Nat.reduceSub, Nat.reduceMod, Nat.reduceDiv, indexK.aggOf, Int.reducePow, Int.reduceLE, Int.reduceNeg, Int.reduceLT, Int.reduceBEq, Int.reduceBNe, Int.reduceEq, ownA, nilA, Try.facts, set_other, kill_under hk6 n68]
  first | refine CallK.p (pa) ?_ | refine CallP.i (pa) ?_
  simp (disch := omega) only [↓runPre, runPost, fieldO, ixA, cutA, lenA, aggA, rowA, appA, mkA, indA, bnd, srcA, sameOp, funcA, cvO, partA, aggD, ↓PostP, resV, resAll, resOne, resVF, resAllF, resOneF, fitsAll, fitsR, fits, frz, Post, Nat.reduceBEq, Nat.reduceLT, reduceCtorEq, ↓reduceIte, initS, AV.cellsOf, AV.fine, AV.one, repA, Nat.reduceMul, Nat.reduceAdd, Nat.reduceLeDiff, Nat.reduceEqDiff, Int.reduceToNat, Nat.reduceSub, Nat.reduceMod, Nat.reduceDiv, indexK.aggOf, Int.reducePow, Int.reduceLE, Int.reduceNeg, Int.reduceLT, Int.reduceBEq, Int.reduceBNe, Int.reduceEq, ownA, nilA, Try.facts]
  first | refine CallK.p (pb) ?_ | refine CallP.i (pb) ?_
  simp (disch := omega) only [↓runPre, runPost, fieldO, ixA, cutA, lenA, aggA, rowA, appA, mkA, indA, bnd, srcA, sameOp, funcA, cvO, partA, aggD, ↓PostP, resV, resAll, resOne, resVF, resAllF, resOneF, fitsAll, fitsR, fits, frz, Post, Nat.reduceBEq, Nat.reduceLT, reduceCtorEq, ↓reduceIte, initS, AV.cellsOf, AV.fine, AV.one, repA, Nat.reduceMul, Nat.reduceAdd, Nat.reduceLeDiff, Nat.reduceEqDiff, Int.reduceToNat, Nat.reduceSub, Nat.reduceMod, Nat.reduceDiv, indexK.aggOf, Int.reducePow, Int.reduceLE, Int.reduceNeg, Int.reduceLT, Int.reduceBEq, Int.reduceBNe, Int.reduceEq, ownA, nilA, Try.facts]
  first | refine CallK.p (pc) ?_ | refine CallP.i (pc) ?_
  simp (disch := omega) only [↓runPre, runPost, fieldO, ixA, cutA, lenA, aggA, rowA, appA, mkA, indA, bnd, srcA, sameOp, funcA, cvO, partA, aggD, ↓PostP, resV, resAll, resOne, resVF, resAllF, resOneF, fitsAll, fitsR, fits, frz, Post, Nat.reduceBEq, Nat.reduceLT, reduceCtorEq, ↓reduceIte, initS, AV.cellsOf, AV.fine, AV.one, repA, Nat.reduceMul, Nat.reduceAdd, Nat.reduceLeDiff, Nat.reduceEqDiff, Int.reduceToNat, Nat.reduceSub, Nat.reduceMod, Nat.reduceDiv, indexK.aggOf, Int.reducePow, Int.reduceLE, Int.reduceNeg, Int.reduceLT, Int.reduceBEq, Int.reduceBNe, Int.reduceEq, ownA, nilA, Try.facts]
  first | refine CallK.p (oa) ?_ | refine CallP.i (oa) ?_
  simp (disch := omega) only [↓runPre, runPost, fieldO, ixA, cutA, lenA, aggA, rowA, appA, mkA, indA, bnd, srcA, sameOp, funcA, cvO, partA, aggD, ↓PostP, resV, resAll, resOne, resVF, resAllF, resOneF, fitsAll, fitsR, fits, frz, Post, Nat.reduceBEq, Nat.reduceLT, reduceCtorEq, ↓reduceIte, initS, AV.cellsOf, AV.fine, AV.one, repA, Nat.reduceMul, Nat.reduceAdd, Nat.reduceLeDiff, Nat.reduceEqDiff, Int.reduceToNat, Nat.reduceSub, Nat.reduceMod, Nat.reduceDiv, indexK.aggOf, Int.reducePow, Int.reduceLE, Int.reduceNeg, Int.reduceLT, Int.reduceBEq, Int.reduceBNe, Int.reduceEq, ownA, nilA, Try.facts]
  first | refine CallK.p (ob) ?_ | refine CallP.i (ob) ?_
  simp (disch := omega) only [↓runPre, runPost, fieldO, ixA, cutA, lenA, aggA, rowA, appA, mkA, indA, bnd, srcA, sameOp, funcA, cvO, partA, aggD, ↓PostP, resV, resAll, resOne, resVF, resAllF, resOneF, fitsAll, fitsR, fits, frz, Post, Nat.reduceBEq, Nat.reduceLT, reduceCtorEq, ↓reduceIte, initS, AV.cellsOf, AV.fine, AV.one, repA, Nat.reduceMul, Nat.reduceAdd, Nat.reduceLeDiff, Nat.reduceEqDiff, Int.reduceToNat, Nat.reduceSub, Nat.reduceMod, Nat.reduceDiv, indexK.aggOf, Int.reducePow, Int.reduceLE, Int.reduceNeg, Int.reduceLT, Int.reduceBEq, Int.reduceBNe, Int.reduceEq, ownA, nilA, Try.facts]
  first | refine CallK.p (oc) ?_ | refine CallP.i (oc) ?_
  simp (disch := omega) only [↓runPre, runPost, fieldO, ixA, cutA, lenA, aggA, rowA, appA, mkA, indA, bnd, srcA, sameOp, funcA, cvO, partA, aggD, ↓PostP, resV, resAll, resOne, resVF, resAllF, resOneF, fitsAll, fitsR, fits, frz, Post, Nat.reduceBEq, Nat.reduceLT, reduceCtorEq, ↓reduceIte, initS, AV.cellsOf, AV.fine, AV.one, repA, Nat.reduceMul, Nat.reduceAdd, Nat.reduceLeDiff, Nat.reduceEqDiff, Int.reduceToNat, Nat.reduceSub, Nat.reduceMod, Nat.reduceDiv, indexK.aggOf, Int.reducePow, Int.reduceLE, Int.reduceNeg, Int.reduceLT, Int.reduceBEq, Int.reduceBNe, Int.reduceEq, ownA, nilA, Try.facts]
  have s2 := s1
  have l5 := s2.sub k5 _ (by rw [set_other n58, set_get])
  have l8 := s2.sub k8 _ set_get
  refine CallR.i (hq _ _ s1) ?_
  simp (disch := omega) only [↓runPre, runPost, fieldO, ixA, cutA, lenA, aggA, rowA, appA, mkA, indA, bnd, srcA, sameOp, funcA, cvO, partA, aggD, ↓PostP, resV, resAll, resOne, resVF, resAllF, resOneF, fitsAll, fitsR, fits, frz, Post, Nat.reduceBEq, Nat.reduceLT, reduceCtorEq, ↓reduceIte, initS, AV.cellsOf, AV.fine, AV.one, repA, Nat.reduceMul, Nat.reduceAdd, Nat.reduceLeDiff, Nat.reduceEqDiff, Int.reduceToNat, Nat.reduceSub, Nat.reduceMod, Nat.reduceDiv, indexK.aggOf, Int.reducePow, Int.reduceLE, Int.reduceNeg, Int.reduceLT, Int.reduceBEq, Int.reduceBNe, Int.reduceEq, ownA, nilA, Try.facts, set_other, l5, l8]
  first | refine CallK.p (hv) ?_ | refine CallP.i (hv) ?_
  simp (disch := omega) only [↓runPre, runPost, fieldO, ixA, cutA, lenA, aggA, rowA, appA, mkA, indA, bnd, srcA, sameOp, funcA, cvO, partA, aggD, ↓PostP, resV, resAll, resOne, resVF, resAllF, resOneF, fitsAll, fitsR, fits, frz, Post, Nat.reduceBEq, Nat.reduceLT, reduceCtorEq, ↓reduceIte, initS, AV.cellsOf, AV.fine, AV.one, repA, Nat.reduceMul, Nat.reduceAdd, Nat.reduceLeDiff, Nat.reduceEqDiff, Int.reduceToNat, Nat.reduceSub, Nat.reduceMod, Nat.reduceDiv, indexK.aggOf, Int.reducePow, Int.reduceLE, Int.reduceNeg, Int.reduceLT, Int.reduceBEq, Int.reduceBNe, Int.reduceEq, ownA, nilA, Try.facts, set_other, l5, l8, putCells_eq, baToList]
  obtain ⟨H9, q1, q2⟩ := asked_end1 s2 n5 n8 n58
  rw [set_set] at q1
  exact ⟨_, rfl, H9, q1, _, rfl, .inl ⟨rfl, rfl, q2⟩⟩

theorem asked_seal_neg (H0 H : AH) (h m d : Nat) (ts : List Term) (k : AskT) (l : List (List UInt8)) (a b c : List UInt8) (hl : l.length ≤ 1000000) (ha : k.a.of l = a) (hb : k.b.of l = b) (hc : k.c.of l = c)
    (ha0 : a.length ≤ 100000000) (hb0 : b.length ≤ 100000000) (hc0 : c.length ≤ 100000000) (hka : -9223372036854775808 ≤ k.a.from_ ∧ k.a.from_ < 9223372036854775808) (hkb : -9223372036854775808 ≤ k.b.from_ ∧ k.b.from_ < 9223372036854775808) (hkc : -9223372036854775808 ≤ k.c.from_ ∧ k.c.from_ < 9223372036854775808)
    (hg : GT 1000000 ts) (hd : d ≤ 1000000) (s : SS H0 H h m d ts) (hk : k.kind = 8) (hn : k.n < 0) : ACalls Try.prog 17 [.ptr h 0, vaultV ts d, .agg (askC k), rowsV l] H
      (AskedR H0 h m d ts []) := by
  have pa := of_pure k.a l hka hl
  have pb := of_pure k.b l hkb hl
  have pc := of_pure k.c l hkc hl
  have oa := own_pure a (by omega)
  have ob := own_pure b (by omega)
  have oc := own_pure c (by omega)
  rw [ha] at pa
  rw [hb] at pb
  rw [hc] at pc
  have hq := fun (B B' : AH) (ss : SS B B' h m d ts) => seal_neg (H := B') (h := h) k.n a b c hn
  have hv := vseal_no ts d a k.n b c hn
  obtain ⟨kd, n, ⟨fa, ra⟩, ⟨fb, rb⟩, ⟨fc, rc⟩⟩ := k
  simp only [askC] at *
  subst hk
  clear ha hb hc hka hkb hkc
  refine acalls_of_cwp (c := ⟨Try.prog, 225, [(1, [0, 1, 0, 0, 0, 1, 0, 0, 0, 1, 0, 0, 0, 0, 0]), (30, [0, 0, 0, 0, 1, 1, 0, 0, 0, 0, 0, 0]), (38, [1, 0, 0, 0, 0, 0, 0, 0, 0, 0, 0, 0, 0, 0, 0, 0, 0, 0, 0, 0, 0, 0, 0, 0, 0, 2, 0, 0, 0]), (1000000, [6]), (1000017, [23]), (4000038, [8, 9, 10, 11]), (4000008, [5, 8, 12, 13, 14, 15, 16, 17, 18, 19, 20]), (4000011, [5, 8, 12, 13, 14, 15, 16, 17, 18, 19, 20]), (4000014, [5, 8, 12, 13, 14, 15, 16, 17, 18, 19, 20]), (4000019, [5, 8, 12, 13, 14, 15, 16, 17, 18, 19, 20]), (4000017, [5, 8, 12, 13, 14, 15, 16, 17, 21, 22, 23, 24, 25]), (4000016, [5, 8, 12, 13, 14, 15, 16, 17, 21, 22]), (4000022, [5, 8, 12, 13, 14, 15, 16, 17, 18, 19, 20]), (4000021, [5, 8, 12, 13, 14, 15, 16, 17, 18, 20]), (4000025, [5, 8, 12, 13, 14, 15, 16, 17, 18, 19, 20]), (4000028, [5, 8, 12, 13, 14, 15, 16, 17, 18, 19, 20]), (4000027, [5, 8, 12, 13, 14, 15, 16, 17, 18, 20]), (4000030, [5, 8, 12, 13, 14, 15, 16, 17, 18, 19, 20]), (4000033, [5, 8, 12, 13, 14, 15, 16, 17, 18, 19, 20]), (4000032, [5, 6, 8, 12, 13, 14, 15, 16, 17, 18, 20]), (4000037, [5, 8, 12, 13, 14, 15, 16, 17, 18, 19, 20]), (4000036, [5, 8, 12, 13, 14, 15, 16, 17, 26, 27, 28, 29]), (4000035, [5, 6, 8, 12, 13, 14, 15, 16, 17, 26, 27]), (4000002, [0, 5, 6, 8, 12, 13, 14, 15, 16, 17]), (4000001, [0, 5, 6, 8, 12, 13, 14]), (4000000, [0, 3, 5, 6, 8])], [], []⟩) (rs := [ResultVar.cell 8 38, ResultVar.tmp 9, ResultVar.tmp 10, ResultVar.tmp 11]) Try.mixed Try.func17 rfl rfl rfl (Nat.le_of_ble_eq_true rfl) (by kernel_rfl) ?_
  simp (disch := omega) only [↓runPre, runPost, fieldO, ixA, cutA, lenA, aggA, rowA, appA, mkA, indA, bnd, srcA, sameOp, funcA, cvO, partA, aggD, ↓PostP, resV, resAll, resOne, resVF, resAllF, resOneF, fitsAll, fitsR, fits, frz, Post, Nat.reduceBEq, Nat.reduceLT, reduceCtorEq, ↓reduceIte, initS, AV.cellsOf, AV.fine, AV.one, repA, Nat.reduceMul, Nat.reduceAdd, Nat.reduceLeDiff, Nat.reduceEqDiff, Int.reduceToNat, Nat.reduceSub, Nat.reduceMod, Nat.reduceDiv, indexK.aggOf, Int.reducePow, Int.reduceLE, Int.reduceNeg, Int.reduceLT, Int.reduceBEq, Int.reduceBNe, Int.reduceEq, ownA, nilA, Try.facts]
  intro k5 hk50 hk5 k6 hk60 hk6 k8 hk80 hk8
  have n68 := set_ne hk8
  have n58 := set_ne (subset_set hk8)
  have hk8H := subset_set (subset_set hk8)
  have n5 := s.sub.free hk5
  have n8 := s.sub.free hk8H
  have s1 := (s.box (o := .cells [.imm 0 (termsC ts) ts.length, .sc (.int .i64 d)] 38 2) hk5).box (o := .cells [.sc (.slice none 0 0), .sc (.int .i64 0)] 38 2) (subset_set hk8)
  simp (disch := omega) only [↓runPre, runPost, fieldO, ixA, cutA, lenA, aggA, rowA, appA, mkA, indA, bnd, srcA, sameOp, funcA, cvO, partA, aggD, ↓PostP, resV, resAll, resOne, resVF, resAllF, resOneF, fitsAll, fitsR, fits, frz, Post, Nat.reduceBEq, Nat.reduceLT, reduceCtorEq, ↓reduceIte, initS, AV.cellsOf, AV.fine, AV.one, repA, Nat.reduceMul, Nat.reduceAdd, Nat.reduceLeDiff, Nat.reduceEqDiff, Int.reduceToNat, Nat.reduceSub, Nat.reduceMod, Nat.reduceDiv, indexK.aggOf, Int.reducePow, Int.reduceLE, Int.reduceNeg, Int.reduceLT, Int.reduceBEq, Int.reduceBNe, Int.reduceEq, ownA, nilA, Try.facts, set_other, kill_under hk6 n68]
  first | refine CallK.p (pa) ?_ | refine CallP.i (pa) ?_
  simp (disch := omega) only [↓runPre, runPost, fieldO, ixA, cutA, lenA, aggA, rowA, appA, mkA, indA, bnd, srcA, sameOp, funcA, cvO, partA, aggD, ↓PostP, resV, resAll, resOne, resVF, resAllF, resOneF, fitsAll, fitsR, fits, frz, Post, Nat.reduceBEq, Nat.reduceLT, reduceCtorEq, ↓reduceIte, initS, AV.cellsOf, AV.fine, AV.one, repA, Nat.reduceMul, Nat.reduceAdd, Nat.reduceLeDiff, Nat.reduceEqDiff, Int.reduceToNat, Nat.reduceSub, Nat.reduceMod, Nat.reduceDiv, indexK.aggOf, Int.reducePow, Int.reduceLE, Int.reduceNeg, Int.reduceLT, Int.reduceBEq, Int.reduceBNe, Int.reduceEq, ownA, nilA, Try.facts]
  first | refine CallK.p (pb) ?_ | refine CallP.i (pb) ?_
  simp (disch := omega) only [↓runPre, runPost, fieldO, ixA, cutA, lenA, aggA, rowA, appA, mkA, indA, bnd, srcA, sameOp, funcA, cvO, partA, aggD, ↓PostP, resV, resAll, resOne, resVF, resAllF, resOneF, fitsAll, fitsR, fits, frz, Post, Nat.reduceBEq, Nat.reduceLT, reduceCtorEq, ↓reduceIte, initS, AV.cellsOf, AV.fine, AV.one, repA, Nat.reduceMul, Nat.reduceAdd, Nat.reduceLeDiff, Nat.reduceEqDiff, Int.reduceToNat, Nat.reduceSub, Nat.reduceMod, Nat.reduceDiv, indexK.aggOf, Int.reducePow, Int.reduceLE, Int.reduceNeg, Int.reduceLT, Int.reduceBEq, Int.reduceBNe, Int.reduceEq, ownA, nilA, Try.facts]
  first | refine CallK.p (pc) ?_ | refine CallP.i (pc) ?_
  simp (disch := omega) only [↓runPre, runPost, fieldO, ixA, cutA, lenA, aggA, rowA, appA, mkA, indA, bnd, srcA, sameOp, funcA, cvO, partA, aggD, ↓PostP, resV, resAll, resOne, resVF, resAllF, resOneF, fitsAll, fitsR, fits, frz, Post, Nat.reduceBEq, Nat.reduceLT, reduceCtorEq, ↓reduceIte, initS, AV.cellsOf, AV.fine, AV.one, repA, Nat.reduceMul, Nat.reduceAdd, Nat.reduceLeDiff, Nat.reduceEqDiff, Int.reduceToNat, Nat.reduceSub, Nat.reduceMod, Nat.reduceDiv, indexK.aggOf, Int.reducePow, Int.reduceLE, Int.reduceNeg, Int.reduceLT, Int.reduceBEq, Int.reduceBNe, Int.reduceEq, ownA, nilA, Try.facts]
  first | refine CallK.p (oa) ?_ | refine CallP.i (oa) ?_
  simp (disch := omega) only [↓runPre, runPost, fieldO, ixA, cutA, lenA, aggA, rowA, appA, mkA, indA, bnd, srcA, sameOp, funcA, cvO, partA, aggD, ↓PostP, resV, resAll, resOne, resVF, resAllF, resOneF, fitsAll, fitsR, fits, frz, Post, Nat.reduceBEq, Nat.reduceLT, reduceCtorEq, ↓reduceIte, initS, AV.cellsOf, AV.fine, AV.one, repA, Nat.reduceMul, Nat.reduceAdd, Nat.reduceLeDiff, Nat.reduceEqDiff, Int.reduceToNat, Nat.reduceSub, Nat.reduceMod, Nat.reduceDiv, indexK.aggOf, Int.reducePow, Int.reduceLE, Int.reduceNeg, Int.reduceLT, Int.reduceBEq, Int.reduceBNe, Int.reduceEq, ownA, nilA, Try.facts]
  first | refine CallK.p (ob) ?_ | refine CallP.i (ob) ?_
  simp (disch := omega) only [↓runPre, runPost, fieldO, ixA, cutA, lenA, aggA, rowA, appA, mkA, indA, bnd, srcA, sameOp, funcA, cvO, partA, aggD, ↓PostP, resV, resAll, resOne, resVF, resAllF, resOneF, fitsAll, fitsR, fits, frz, Post, Nat.reduceBEq, Nat.reduceLT, reduceCtorEq, ↓reduceIte, initS, AV.cellsOf, AV.fine, AV.one, repA, Nat.reduceMul, Nat.reduceAdd, Nat.reduceLeDiff, Nat.reduceEqDiff, Int.reduceToNat, Nat.reduceSub, Nat.reduceMod, Nat.reduceDiv, indexK.aggOf, Int.reducePow, Int.reduceLE, Int.reduceNeg, Int.reduceLT, Int.reduceBEq, Int.reduceBNe, Int.reduceEq, ownA, nilA, Try.facts]
  first | refine CallK.p (oc) ?_ | refine CallP.i (oc) ?_
  simp (disch := omega) only [↓runPre, runPost, fieldO, ixA, cutA, lenA, aggA, rowA, appA, mkA, indA, bnd, srcA, sameOp, funcA, cvO, partA, aggD, ↓PostP, resV, resAll, resOne, resVF, resAllF, resOneF, fitsAll, fitsR, fits, frz, Post, Nat.reduceBEq, Nat.reduceLT, reduceCtorEq, ↓reduceIte, initS, AV.cellsOf, AV.fine, AV.one, repA, Nat.reduceMul, Nat.reduceAdd, Nat.reduceLeDiff, Nat.reduceEqDiff, Int.reduceToNat, Nat.reduceSub, Nat.reduceMod, Nat.reduceDiv, indexK.aggOf, Int.reducePow, Int.reduceLE, Int.reduceNeg, Int.reduceLT, Int.reduceBEq, Int.reduceBNe, Int.reduceEq, ownA, nilA, Try.facts]
  refine CallK.i (hq _ _ s1) ?_
  rintro v H2 ⟨rfl, rfl⟩
  have s2 := s1
  have l5 := s2.sub k5 _ (by rw [set_other n58, set_get])
  have l8 := s2.sub k8 _ set_get
  simp (disch := omega) only [↓runPre, runPost, fieldO, ixA, cutA, lenA, aggA, rowA, appA, mkA, indA, bnd, srcA, sameOp, funcA, cvO, partA, aggD, ↓PostP, resV, resAll, resOne, resVF, resAllF, resOneF, fitsAll, fitsR, fits, frz, Post, Nat.reduceBEq, Nat.reduceLT, reduceCtorEq, ↓reduceIte, initS, AV.cellsOf, AV.fine, AV.one, repA, Nat.reduceMul, Nat.reduceAdd, Nat.reduceLeDiff, Nat.reduceEqDiff, Int.reduceToNat, Nat.reduceSub, Nat.reduceMod, Nat.reduceDiv, indexK.aggOf, Int.reducePow, Int.reduceLE, Int.reduceNeg, Int.reduceLT, Int.reduceBEq, Int.reduceBNe, Int.reduceEq, ownA, nilA, Try.facts, set_other, l5, l8]
  first | refine CallK.p (hv) ?_ | refine CallP.i (hv) ?_
  simp (disch := omega) only [↓runPre, runPost, fieldO, ixA, cutA, lenA, aggA, rowA, appA, mkA, indA, bnd, srcA, sameOp, funcA, cvO, partA, aggD, ↓PostP, resV, resAll, resOne, resVF, resAllF, resOneF, fitsAll, fitsR, fits, frz, Post, Nat.reduceBEq, Nat.reduceLT, reduceCtorEq, ↓reduceIte, initS, AV.cellsOf, AV.fine, AV.one, repA, Nat.reduceMul, Nat.reduceAdd, Nat.reduceLeDiff, Nat.reduceEqDiff, Int.reduceToNat, Nat.reduceSub, Nat.reduceMod, Nat.reduceDiv, indexK.aggOf, Int.reducePow, Int.reduceLE, Int.reduceNeg, Int.reduceLT, Int.reduceBEq, Int.reduceBNe, Int.reduceEq, ownA, nilA, Try.facts, set_other, l5, l8, putCells_eq, baToList]
  obtain ⟨H9, q1, q2⟩ := asked_end0 s2 n5 n8 n58
  exact ⟨_, rfl, H9, q1, _, rfl, .inl ⟨rfl, rfl, q2⟩⟩

theorem asked_seal_no (H0 H : AH) (h m d : Nat) (ts : List Term) (k : AskT) (l : List (List UInt8)) (a b c : List UInt8) (hl : l.length ≤ 1000000) (ha : k.a.of l = a) (hb : k.b.of l = b) (hc : k.c.of l = c)
    (ha0 : a.length ≤ 100000000) (hb0 : b.length ≤ 100000000) (hc0 : c.length ≤ 100000000) (hka : -9223372036854775808 ≤ k.a.from_ ∧ k.a.from_ < 9223372036854775808) (hkb : -9223372036854775808 ≤ k.b.from_ ∧ k.b.from_ < 9223372036854775808) (hkc : -9223372036854775808 ≤ k.c.from_ ∧ k.c.from_ < 9223372036854775808)
    (hg : GT 1000000 ts) (hd : d ≤ 1000000) (s : SS H0 H h m d ts) (hk : k.kind = 8) (q : Nat) (hn : k.n = q) (hq9 : q < 9223372036854775808) (h32 : a.length ≠ 32) : ACalls Try.prog 17 [.ptr h 0, vaultV ts d, .agg (askC k), rowsV l] H
      (AskedR H0 h m d ts []) := by
  have pa := of_pure k.a l hka hl
  have pb := of_pure k.b l hkb hl
  have pc := of_pure k.c l hkc hl
  have oa := own_pure a (by omega)
  have ob := own_pure b (by omega)
  have oc := own_pure c (by omega)
  rw [ha] at pa
  rw [hb] at pb
  rw [hc] at pc
  have hq := fun (B B' : AH) (ss : SS B B' h m d ts) => seal_none a q b c hq9 ⟨fun _ => by simp, by simp, by simp [lowL_length]; omega⟩ hg h32 ss
  have hv := (show APure Try.prog 40 _ (.tup [vaultV ts d, .imm 0 [] 0]) from by have := vseal_pure ts d a q b c hq9 ⟨fun _ => by simp, by simp, by simp [lowL_length]; omega⟩ (fun x hx => (hg.wf x hx).1) hg.len; rwa [if_neg h32] at this)
  obtain ⟨kd, n, ⟨fa, ra⟩, ⟨fb, rb⟩, ⟨fc, rc⟩⟩ := k
  simp only [askC] at *
  subst hk
  subst hn
  clear ha hb hc hka hkb hkc
  refine acalls_of_cwp (c := ⟨Try.prog, 225, [(1, [0, 1, 0, 0, 0, 1, 0, 0, 0, 1, 0, 0, 0, 0, 0]), (30, [0, 0, 0, 0, 1, 1, 0, 0, 0, 0, 0, 0]), (38, [1, 0, 0, 0, 0, 0, 0, 0, 0, 0, 0, 0, 0, 0, 0, 0, 0, 0, 0, 0, 0, 0, 0, 0, 0, 2, 0, 0, 0]), (1000000, [6]), (1000017, [23]), (4000038, [8, 9, 10, 11]), (4000008, [5, 8, 12, 13, 14, 15, 16, 17, 18, 19, 20]), (4000011, [5, 8, 12, 13, 14, 15, 16, 17, 18, 19, 20]), (4000014, [5, 8, 12, 13, 14, 15, 16, 17, 18, 19, 20]), (4000019, [5, 8, 12, 13, 14, 15, 16, 17, 18, 19, 20]), (4000017, [5, 8, 12, 13, 14, 15, 16, 17, 21, 22, 23, 24, 25]), (4000016, [5, 8, 12, 13, 14, 15, 16, 17, 21, 22]), (4000022, [5, 8, 12, 13, 14, 15, 16, 17, 18, 19, 20]), (4000021, [5, 8, 12, 13, 14, 15, 16, 17, 18, 20]), (4000025, [5, 8, 12, 13, 14, 15, 16, 17, 18, 19, 20]), (4000028, [5, 8, 12, 13, 14, 15, 16, 17, 18, 19, 20]), (4000027, [5, 8, 12, 13, 14, 15, 16, 17, 18, 20]), (4000030, [5, 8, 12, 13, 14, 15, 16, 17, 18, 19, 20]), (4000033, [5, 8, 12, 13, 14, 15, 16, 17, 18, 19, 20]), (4000032, [5, 6, 8, 12, 13, 14, 15, 16, 17, 18, 20]), (4000037, [5, 8, 12, 13, 14, 15, 16, 17, 18, 19, 20]), (4000036, [5, 8, 12, 13, 14, 15, 16, 17, 26, 27, 28, 29]), (4000035, [5, 6, 8, 12, 13, 14, 15, 16, 17, 26, 27]), (4000002, [0, 5, 6, 8, 12, 13, 14, 15, 16, 17]), (4000001, [0, 5, 6, 8, 12, 13, 14]), (4000000, [0, 3, 5, 6, 8])], [], []⟩) (rs := [ResultVar.cell 8 38, ResultVar.tmp 9, ResultVar.tmp 10, ResultVar.tmp 11]) Try.mixed Try.func17 rfl rfl rfl (Nat.le_of_ble_eq_true rfl) (by kernel_rfl) ?_
  simp (disch := omega) only [↓runPre, runPost, fieldO, ixA, cutA, lenA, aggA, rowA, appA, mkA, indA, bnd, srcA, sameOp, funcA, cvO, partA, aggD, ↓PostP, resV, resAll, resOne, resVF, resAllF, resOneF, fitsAll, fitsR, fits, frz, Post, Nat.reduceBEq, Nat.reduceLT, reduceCtorEq, ↓reduceIte, initS, AV.cellsOf, AV.fine, AV.one, repA, Nat.reduceMul, Nat.reduceAdd, Nat.reduceLeDiff, Nat.reduceEqDiff, Int.reduceToNat, Nat.reduceSub, Nat.reduceMod, Nat.reduceDiv, indexK.aggOf, Int.reducePow, Int.reduceLE, Int.reduceNeg, Int.reduceLT, Int.reduceBEq, Int.reduceBNe, Int.reduceEq, ownA, nilA, Try.facts]
  intro k5 hk50 hk5 k6 hk60 hk6 k8 hk80 hk8
  have n68 := set_ne hk8
  have n58 := set_ne (subset_set hk8)
  have hk8H := subset_set (subset_set hk8)
  have n5 := s.sub.free hk5
  have n8 := s.sub.free hk8H
  have s1 := (s.box (o := .cells [.imm 0 (termsC ts) ts.length, .sc (.int .i64 d)] 38 2) hk5).box (o := .cells [.sc (.slice none 0 0), .sc (.int .i64 0)] 38 2) (subset_set hk8)
  simp (disch := omega) only [↓runPre, runPost, fieldO, ixA, cutA, lenA, aggA, rowA, appA, mkA, indA, bnd, srcA, sameOp, funcA, cvO, partA, aggD, ↓PostP, resV, resAll, resOne, resVF, resAllF, resOneF, fitsAll, fitsR, fits, frz, Post, Nat.reduceBEq, Nat.reduceLT, reduceCtorEq, ↓reduceIte, initS, AV.cellsOf, AV.fine, AV.one, repA, Nat.reduceMul, Nat.reduceAdd, Nat.reduceLeDiff, Nat.reduceEqDiff, Int.reduceToNat, Nat.reduceSub, Nat.reduceMod, Nat.reduceDiv, indexK.aggOf, Int.reducePow, Int.reduceLE, Int.reduceNeg, Int.reduceLT, Int.reduceBEq, Int.reduceBNe, Int.reduceEq, ownA, nilA, Try.facts, set_other, kill_under hk6 n68]
  first | refine CallK.p (pa) ?_ | refine CallP.i (pa) ?_
  simp (disch := omega) only [↓runPre, runPost, fieldO, ixA, cutA, lenA, aggA, rowA, appA, mkA, indA, bnd, srcA, sameOp, funcA, cvO, partA, aggD, ↓PostP, resV, resAll, resOne, resVF, resAllF, resOneF, fitsAll, fitsR, fits, frz, Post, Nat.reduceBEq, Nat.reduceLT, reduceCtorEq, ↓reduceIte, initS, AV.cellsOf, AV.fine, AV.one, repA, Nat.reduceMul, Nat.reduceAdd, Nat.reduceLeDiff, Nat.reduceEqDiff, Int.reduceToNat, Nat.reduceSub, Nat.reduceMod, Nat.reduceDiv, indexK.aggOf, Int.reducePow, Int.reduceLE, Int.reduceNeg, Int.reduceLT, Int.reduceBEq, Int.reduceBNe, Int.reduceEq, ownA, nilA, Try.facts]
  first | refine CallK.p (pb) ?_ | refine CallP.i (pb) ?_
  simp (disch := omega) only [↓runPre, runPost, fieldO, ixA, cutA, lenA, aggA, rowA, appA, mkA, indA, bnd, srcA, sameOp, funcA, cvO, partA, aggD, ↓PostP, resV, resAll, resOne, resVF, resAllF, resOneF, fitsAll, fitsR, fits, frz, Post, Nat.reduceBEq, Nat.reduceLT, reduceCtorEq, ↓reduceIte, initS, AV.cellsOf, AV.fine, AV.one, repA, Nat.reduceMul, Nat.reduceAdd, Nat.reduceLeDiff, Nat.reduceEqDiff, Int.reduceToNat, Nat.reduceSub, Nat.reduceMod, Nat.reduceDiv, indexK.aggOf, Int.reducePow, Int.reduceLE, Int.reduceNeg, Int.reduceLT, Int.reduceBEq, Int.reduceBNe, Int.reduceEq, ownA, nilA, Try.facts]
  first | refine CallK.p (pc) ?_ | refine CallP.i (pc) ?_
  simp (disch := omega) only [↓runPre, runPost, fieldO, ixA, cutA, lenA, aggA, rowA, appA, mkA, indA, bnd, srcA, sameOp, funcA, cvO, partA, aggD, ↓PostP, resV, resAll, resOne, resVF, resAllF, resOneF, fitsAll, fitsR, fits, frz, Post, Nat.reduceBEq, Nat.reduceLT, reduceCtorEq, ↓reduceIte, initS, AV.cellsOf, AV.fine, AV.one, repA, Nat.reduceMul, Nat.reduceAdd, Nat.reduceLeDiff, Nat.reduceEqDiff, Int.reduceToNat, Nat.reduceSub, Nat.reduceMod, Nat.reduceDiv, indexK.aggOf, Int.reducePow, Int.reduceLE, Int.reduceNeg, Int.reduceLT, Int.reduceBEq, Int.reduceBNe, Int.reduceEq, ownA, nilA, Try.facts]
  first | refine CallK.p (oa) ?_ | refine CallP.i (oa) ?_
  simp (disch := omega) only [↓runPre, runPost, fieldO, ixA, cutA, lenA, aggA, rowA, appA, mkA, indA, bnd, srcA, sameOp, funcA, cvO, partA, aggD, ↓PostP, resV, resAll, resOne, resVF, resAllF, resOneF, fitsAll, fitsR, fits, frz, Post, Nat.reduceBEq, Nat.reduceLT, reduceCtorEq, ↓reduceIte, initS, AV.cellsOf, AV.fine, AV.one, repA, Nat.reduceMul, Nat.reduceAdd, Nat.reduceLeDiff, Nat.reduceEqDiff, Int.reduceToNat, Nat.reduceSub, Nat.reduceMod, Nat.reduceDiv, indexK.aggOf, Int.reducePow, Int.reduceLE, Int.reduceNeg, Int.reduceLT, Int.reduceBEq, Int.reduceBNe, Int.reduceEq, ownA, nilA, Try.facts]
  first | refine CallK.p (ob) ?_ | refine CallP.i (ob) ?_
  simp (disch := omega) only [↓runPre, runPost, fieldO, ixA, cutA, lenA, aggA, rowA, appA, mkA, indA, bnd, srcA, sameOp, funcA, cvO, partA, aggD, ↓PostP, resV, resAll, resOne, resVF, resAllF, resOneF, fitsAll, fitsR, fits, frz, Post, Nat.reduceBEq, Nat.reduceLT, reduceCtorEq, ↓reduceIte, initS, AV.cellsOf, AV.fine, AV.one, repA, Nat.reduceMul, Nat.reduceAdd, Nat.reduceLeDiff, Nat.reduceEqDiff, Int.reduceToNat, Nat.reduceSub, Nat.reduceMod, Nat.reduceDiv, indexK.aggOf, Int.reducePow, Int.reduceLE, Int.reduceNeg, Int.reduceLT, Int.reduceBEq, Int.reduceBNe, Int.reduceEq, ownA, nilA, Try.facts]
  first | refine CallK.p (oc) ?_ | refine CallP.i (oc) ?_
  simp (disch := omega) only [↓runPre, runPost, fieldO, ixA, cutA, lenA, aggA, rowA, appA, mkA, indA, bnd, srcA, sameOp, funcA, cvO, partA, aggD, ↓PostP, resV, resAll, resOne, resVF, resAllF, resOneF, fitsAll, fitsR, fits, frz, Post, Nat.reduceBEq, Nat.reduceLT, reduceCtorEq, ↓reduceIte, initS, AV.cellsOf, AV.fine, AV.one, repA, Nat.reduceMul, Nat.reduceAdd, Nat.reduceLeDiff, Nat.reduceEqDiff, Int.reduceToNat, Nat.reduceSub, Nat.reduceMod, Nat.reduceDiv, indexK.aggOf, Int.reducePow, Int.reduceLE, Int.reduceNeg, Int.reduceLT, Int.reduceBEq, Int.reduceBNe, Int.reduceEq, ownA, nilA, Try.facts]
  refine CallK.i (hq _ _ s1) ?_
  rintro v H2 ⟨rfl, s2⟩
  have l5 := s2.sub k5 _ (by rw [set_other n58, set_get])
  have l8 := s2.sub k8 _ set_get
  simp (disch := omega) only [↓runPre, runPost, fieldO, ixA, cutA, lenA, aggA, rowA, appA, mkA, indA, bnd, srcA, sameOp, funcA, cvO, partA, aggD, ↓PostP, resV, resAll, resOne, resVF, resAllF, resOneF, fitsAll, fitsR, fits, frz, Post, Nat.reduceBEq, Nat.reduceLT, reduceCtorEq, ↓reduceIte, initS, AV.cellsOf, AV.fine, AV.one, repA, Nat.reduceMul, Nat.reduceAdd, Nat.reduceLeDiff, Nat.reduceEqDiff, Int.reduceToNat, Nat.reduceSub, Nat.reduceMod, Nat.reduceDiv, indexK.aggOf, Int.reducePow, Int.reduceLE, Int.reduceNeg, Int.reduceLT, Int.reduceBEq, Int.reduceBNe, Int.reduceEq, ownA, nilA, Try.facts, set_other, l5, l8]
  first | refine CallK.p (hv) ?_ | refine CallP.i (hv) ?_
  simp (disch := omega) only [↓runPre, runPost, fieldO, ixA, cutA, lenA, aggA, rowA, appA, mkA, indA, bnd, srcA, sameOp, funcA, cvO, partA, aggD, ↓PostP, resV, resAll, resOne, resVF, resAllF, resOneF, fitsAll, fitsR, fits, frz, Post, Nat.reduceBEq, Nat.reduceLT, reduceCtorEq, ↓reduceIte, initS, AV.cellsOf, AV.fine, AV.one, repA, Nat.reduceMul, Nat.reduceAdd, Nat.reduceLeDiff, Nat.reduceEqDiff, Int.reduceToNat, Nat.reduceSub, Nat.reduceMod, Nat.reduceDiv, indexK.aggOf, Int.reducePow, Int.reduceLE, Int.reduceNeg, Int.reduceLT, Int.reduceBEq, Int.reduceBNe, Int.reduceEq, ownA, nilA, Try.facts, set_other, l5, l8, putCells_eq, baToList]
  obtain ⟨H9, q1, q2⟩ := asked_end0 s2 n5 n8 n58
  exact ⟨_, rfl, H9, q1, _, rfl, .inl ⟨rfl, rfl, q2⟩⟩

theorem asked_seal_yes (H0 H : AH) (h m d : Nat) (ts : List Term) (k : AskT) (l : List (List UInt8)) (a b c : List UInt8) (hl : l.length ≤ 1000000) (ha : k.a.of l = a) (hb : k.b.of l = b) (hc : k.c.of l = c)
    (ha0 : a.length ≤ 100000000) (hb0 : b.length ≤ 100000000) (hc0 : c.length ≤ 100000000) (hka : -9223372036854775808 ≤ k.a.from_ ∧ k.a.from_ < 9223372036854775808) (hkb : -9223372036854775808 ≤ k.b.from_ ∧ k.b.from_ < 9223372036854775808) (hkc : -9223372036854775808 ≤ k.c.from_ ∧ k.c.from_ < 9223372036854775808)
    (hg : GT 1000000 ts) (hd : d ≤ 1000000) (s : SS H0 H h m d ts) (hk : k.kind = 8) (q : Nat) (hn : k.n = q) (hq9 : q < 9223372036854775808) (h32 : a.length = 32) : ACalls Try.prog 17 [.ptr h 0, vaultV ts d, .agg (askC k), rowsV l] H
      (AskedR H0 h m d (numT ts ⟨98, [a, lowL 8 q, b, c]⟩).1 (nameT ⟨98, [a, lowL 8 q, b, c]⟩ (numT ts ⟨98, [a, lowL 8 q, b, c]⟩).2)) := by
  have pa := of_pure k.a l hka hl
  have pb := of_pure k.b l hkb hl
  have pc := of_pure k.c l hkc hl
  have oa := own_pure a (by omega)
  have ob := own_pure b (by omega)
  have oc := own_pure c (by omega)
  rw [ha] at pa
  rw [hb] at pb
  rw [hc] at pc
  have hq := fun (B B' : AH) (ss : SS B B' h m d ts) => seal_give a q b c hq9 ⟨fun _ => by simp, by simp, by simp [lowL_length]; omega⟩ hg h32 ss
  have hv := (show APure Try.prog 40 _ (.tup [vaultV (numT ts ⟨98, [a, lowL 8 q, b, c]⟩).1 d, bytesV (nameT ⟨98, [a, lowL 8 q, b, c]⟩ (numT ts ⟨98, [a, lowL 8 q, b, c]⟩).2)]) from by have := vseal_pure ts d a q b c hq9 ⟨fun _ => by simp, by simp, by simp [lowL_length]; omega⟩ (fun x hx => (hg.wf x hx).1) hg.len; rwa [if_pos h32] at this)
  generalize (numT ts ⟨98, [a, lowL 8 q, b, c]⟩).1 = Z1 at *
  generalize nameT ⟨98, [a, lowL 8 q, b, c]⟩ (numT ts ⟨98, [a, lowL 8 q, b, c]⟩).2 = Z2 at *
  obtain ⟨kd, n, ⟨fa, ra⟩, ⟨fb, rb⟩, ⟨fc, rc⟩⟩ := k
  simp only [askC] at *
  subst hk
  subst hn
  clear ha hb hc hka hkb hkc
  refine acalls_of_cwp (c := ⟨Try.prog, 225, [(1, [0, 1, 0, 0, 0, 1, 0, 0, 0, 1, 0, 0, 0, 0, 0]), (30, [0, 0, 0, 0, 1, 1, 0, 0, 0, 0, 0, 0]), (38, [1, 0, 0, 0, 0, 0, 0, 0, 0, 0, 0, 0, 0, 0, 0, 0, 0, 0, 0, 0, 0, 0, 0, 0, 0, 2, 0, 0, 0]), (1000000, [6]), (1000017, [23]), (4000038, [8, 9, 10, 11]), (4000008, [5, 8, 12, 13, 14, 15, 16, 17, 18, 19, 20]), (4000011, [5, 8, 12, 13, 14, 15, 16, 17, 18, 19, 20]), (4000014, [5, 8, 12, 13, 14, 15, 16, 17, 18, 19, 20]), (4000019, [5, 8, 12, 13, 14, 15, 16, 17, 18, 19, 20]), (4000017, [5, 8, 12, 13, 14, 15, 16, 17, 21, 22, 23, 24, 25]), (4000016, [5, 8, 12, 13, 14, 15, 16, 17, 21, 22]), (4000022, [5, 8, 12, 13, 14, 15, 16, 17, 18, 19, 20]), (4000021, [5, 8, 12, 13, 14, 15, 16, 17, 18, 20]), (4000025, [5, 8, 12, 13, 14, 15, 16, 17, 18, 19, 20]), (4000028, [5, 8, 12, 13, 14, 15, 16, 17, 18, 19, 20]), (4000027, [5, 8, 12, 13, 14, 15, 16, 17, 18, 20]), (4000030, [5, 8, 12, 13, 14, 15, 16, 17, 18, 19, 20]), (4000033, [5, 8, 12, 13, 14, 15, 16, 17, 18, 19, 20]), (4000032, [5, 6, 8, 12, 13, 14, 15, 16, 17, 18, 20]), (4000037, [5, 8, 12, 13, 14, 15, 16, 17, 18, 19, 20]), (4000036, [5, 8, 12, 13, 14, 15, 16, 17, 26, 27, 28, 29]), (4000035, [5, 6, 8, 12, 13, 14, 15, 16, 17, 26, 27]), (4000002, [0, 5, 6, 8, 12, 13, 14, 15, 16, 17]), (4000001, [0, 5, 6, 8, 12, 13, 14]), (4000000, [0, 3, 5, 6, 8])], [], []⟩) (rs := [ResultVar.cell 8 38, ResultVar.tmp 9, ResultVar.tmp 10, ResultVar.tmp 11]) Try.mixed Try.func17 rfl rfl rfl (Nat.le_of_ble_eq_true rfl) (by kernel_rfl) ?_
  simp (disch := omega) only [↓runPre, runPost, fieldO, ixA, cutA, lenA, aggA, rowA, appA, mkA, indA, bnd, srcA, sameOp, funcA, cvO, partA, aggD, ↓PostP, resV, resAll, resOne, resVF, resAllF, resOneF, fitsAll, fitsR, fits, frz, Post, Nat.reduceBEq, Nat.reduceLT, reduceCtorEq, ↓reduceIte, initS, AV.cellsOf, AV.fine, AV.one, repA, Nat.reduceMul, Nat.reduceAdd, Nat.reduceLeDiff, Nat.reduceEqDiff, Int.reduceToNat, Nat.reduceSub, Nat.reduceMod, Nat.reduceDiv, indexK.aggOf, Int.reducePow, Int.reduceLE, Int.reduceNeg, Int.reduceLT, Int.reduceBEq, Int.reduceBNe, Int.reduceEq, ownA, nilA, Try.facts]
  intro k5 hk50 hk5 k6 hk60 hk6 k8 hk80 hk8
  have n68 := set_ne hk8
  have n58 := set_ne (subset_set hk8)
  have hk8H := subset_set (subset_set hk8)
  have n5 := s.sub.free hk5
  have n8 := s.sub.free hk8H
  have s1 := (s.box (o := .cells [.imm 0 (termsC ts) ts.length, .sc (.int .i64 d)] 38 2) hk5).box (o := .cells [.sc (.slice none 0 0), .sc (.int .i64 0)] 38 2) (subset_set hk8)
  simp (disch := omega) only [↓runPre, runPost, fieldO, ixA, cutA, lenA, aggA, rowA, appA, mkA, indA, bnd, srcA, sameOp, funcA, cvO, partA, aggD, ↓PostP, resV, resAll, resOne, resVF, resAllF, resOneF, fitsAll, fitsR, fits, frz, Post, Nat.reduceBEq, Nat.reduceLT, reduceCtorEq, ↓reduceIte, initS, AV.cellsOf, AV.fine, AV.one, repA, Nat.reduceMul, Nat.reduceAdd, Nat.reduceLeDiff, Nat.reduceEqDiff, Int.reduceToNat, Nat.reduceSub, Nat.reduceMod, Nat.reduceDiv, indexK.aggOf, Int.reducePow, Int.reduceLE, Int.reduceNeg, Int.reduceLT, Int.reduceBEq, Int.reduceBNe, Int.reduceEq, ownA, nilA, Try.facts, set_other, kill_under hk6 n68]
  first | refine CallK.p (pa) ?_ | refine CallP.i (pa) ?_
  simp (disch := omega) only [↓runPre, runPost, fieldO, ixA, cutA, lenA, aggA, rowA, appA, mkA, indA, bnd, srcA, sameOp, funcA, cvO, partA, aggD, ↓PostP, resV, resAll, resOne, resVF, resAllF, resOneF, fitsAll, fitsR, fits, frz, Post, Nat.reduceBEq, Nat.reduceLT, reduceCtorEq, ↓reduceIte, initS, AV.cellsOf, AV.fine, AV.one, repA, Nat.reduceMul, Nat.reduceAdd, Nat.reduceLeDiff, Nat.reduceEqDiff, Int.reduceToNat, Nat.reduceSub, Nat.reduceMod, Nat.reduceDiv, indexK.aggOf, Int.reducePow, Int.reduceLE, Int.reduceNeg, Int.reduceLT, Int.reduceBEq, Int.reduceBNe, Int.reduceEq, ownA, nilA, Try.facts]
  first | refine CallK.p (pb) ?_ | refine CallP.i (pb) ?_
  simp (disch := omega) only [↓runPre, runPost, fieldO, ixA, cutA, lenA, aggA, rowA, appA, mkA, indA, bnd, srcA, sameOp, funcA, cvO, partA, aggD, ↓PostP, resV, resAll, resOne, resVF, resAllF, resOneF, fitsAll, fitsR, fits, frz, Post, Nat.reduceBEq, Nat.reduceLT, reduceCtorEq, ↓reduceIte, initS, AV.cellsOf, AV.fine, AV.one, repA, Nat.reduceMul, Nat.reduceAdd, Nat.reduceLeDiff, Nat.reduceEqDiff, Int.reduceToNat, Nat.reduceSub, Nat.reduceMod, Nat.reduceDiv, indexK.aggOf, Int.reducePow, Int.reduceLE, Int.reduceNeg, Int.reduceLT, Int.reduceBEq, Int.reduceBNe, Int.reduceEq, ownA, nilA, Try.facts]
  first | refine CallK.p (pc) ?_ | refine CallP.i (pc) ?_
  simp (disch := omega) only [↓runPre, runPost, fieldO, ixA, cutA, lenA, aggA, rowA, appA, mkA, indA, bnd, srcA, sameOp, funcA, cvO, partA, aggD, ↓PostP, resV, resAll, resOne, resVF, resAllF, resOneF, fitsAll, fitsR, fits, frz, Post, Nat.reduceBEq, Nat.reduceLT, reduceCtorEq, ↓reduceIte, initS, AV.cellsOf, AV.fine, AV.one, repA, Nat.reduceMul, Nat.reduceAdd, Nat.reduceLeDiff, Nat.reduceEqDiff, Int.reduceToNat, Nat.reduceSub, Nat.reduceMod, Nat.reduceDiv, indexK.aggOf, Int.reducePow, Int.reduceLE, Int.reduceNeg, Int.reduceLT, Int.reduceBEq, Int.reduceBNe, Int.reduceEq, ownA, nilA, Try.facts]
  first | refine CallK.p (oa) ?_ | refine CallP.i (oa) ?_
  simp (disch := omega) only [↓runPre, runPost, fieldO, ixA, cutA, lenA, aggA, rowA, appA, mkA, indA, bnd, srcA, sameOp, funcA, cvO, partA, aggD, ↓PostP, resV, resAll, resOne, resVF, resAllF, resOneF, fitsAll, fitsR, fits, frz, Post, Nat.reduceBEq, Nat.reduceLT, reduceCtorEq, ↓reduceIte, initS, AV.cellsOf, AV.fine, AV.one, repA, Nat.reduceMul, Nat.reduceAdd, Nat.reduceLeDiff, Nat.reduceEqDiff, Int.reduceToNat, Nat.reduceSub, Nat.reduceMod, Nat.reduceDiv, indexK.aggOf, Int.reducePow, Int.reduceLE, Int.reduceNeg, Int.reduceLT, Int.reduceBEq, Int.reduceBNe, Int.reduceEq, ownA, nilA, Try.facts]
  first | refine CallK.p (ob) ?_ | refine CallP.i (ob) ?_
  simp (disch := omega) only [↓runPre, runPost, fieldO, ixA, cutA, lenA, aggA, rowA, appA, mkA, indA, bnd, srcA, sameOp, funcA, cvO, partA, aggD, ↓PostP, resV, resAll, resOne, resVF, resAllF, resOneF, fitsAll, fitsR, fits, frz, Post, Nat.reduceBEq, Nat.reduceLT, reduceCtorEq, ↓reduceIte, initS, AV.cellsOf, AV.fine, AV.one, repA, Nat.reduceMul, Nat.reduceAdd, Nat.reduceLeDiff, Nat.reduceEqDiff, Int.reduceToNat, Nat.reduceSub, Nat.reduceMod, Nat.reduceDiv, indexK.aggOf, Int.reducePow, Int.reduceLE, Int.reduceNeg, Int.reduceLT, Int.reduceBEq, Int.reduceBNe, Int.reduceEq, ownA, nilA, Try.facts]
  first | refine CallK.p (oc) ?_ | refine CallP.i (oc) ?_
  simp (disch := omega) only [↓runPre, runPost, fieldO, ixA, cutA, lenA, aggA, rowA, appA, mkA, indA, bnd, srcA, sameOp, funcA, cvO, partA, aggD, ↓PostP, resV, resAll, resOne, resVF, resAllF, resOneF, fitsAll, fitsR, fits, frz, Post, Nat.reduceBEq, Nat.reduceLT, reduceCtorEq, ↓reduceIte, initS, AV.cellsOf, AV.fine, AV.one, repA, Nat.reduceMul, Nat.reduceAdd, Nat.reduceLeDiff, Nat.reduceEqDiff, Int.reduceToNat, Nat.reduceSub, Nat.reduceMod, Nat.reduceDiv, indexK.aggOf, Int.reducePow, Int.reduceLE, Int.reduceNeg, Int.reduceLT, Int.reduceBEq, Int.reduceBNe, Int.reduceEq, ownA, nilA, Try.facts]
  refine CallK.i (hq _ _ s1) ?_
  rintro v H3 ⟨H2, s2, kk, hkk0, hkk, rfl, rfl⟩
  have l5 := s2.sub k5 _ (by rw [set_other n58, set_get])
  have l8 := s2.sub k8 _ set_get
  have m5 := ne_live l5 hkk
  have m8 := ne_live l8 hkk
  simp (disch := omega) only [↓runPre, runPost, fieldO, ixA, cutA, lenA, aggA, rowA, appA, mkA, indA, bnd, srcA, sameOp, funcA, cvO, partA, aggD, ↓PostP, resV, resAll, resOne, resVF, resAllF, resOneF, fitsAll, fitsR, fits, frz, Post, Nat.reduceBEq, Nat.reduceLT, reduceCtorEq, ↓reduceIte, initS, AV.cellsOf, AV.fine, AV.one, repA, Nat.reduceMul, Nat.reduceAdd, Nat.reduceLeDiff, Nat.reduceEqDiff, Int.reduceToNat, Nat.reduceSub, Nat.reduceMod, Nat.reduceDiv, indexK.aggOf, Int.reducePow, Int.reduceLE, Int.reduceNeg, Int.reduceLT, Int.reduceBEq, Int.reduceBNe, Int.reduceEq, ownA, nilA, Try.facts, set_other, l5, l8]
  first | refine CallK.p (hv) ?_ | refine CallP.i (hv) ?_
  simp (disch := omega) only [↓runPre, runPost, fieldO, ixA, cutA, lenA, aggA, rowA, appA, mkA, indA, bnd, srcA, sameOp, funcA, cvO, partA, aggD, ↓PostP, resV, resAll, resOne, resVF, resAllF, resOneF, fitsAll, fitsR, fits, frz, Post, Nat.reduceBEq, Nat.reduceLT, reduceCtorEq, ↓reduceIte, initS, AV.cellsOf, AV.fine, AV.one, repA, Nat.reduceMul, Nat.reduceAdd, Nat.reduceLeDiff, Nat.reduceEqDiff, Int.reduceToNat, Nat.reduceSub, Nat.reduceMod, Nat.reduceDiv, indexK.aggOf, Int.reducePow, Int.reduceLE, Int.reduceNeg, Int.reduceLT, Int.reduceBEq, Int.reduceBNe, Int.reduceEq, ownA, nilA, Try.facts, set_other, l5, l8, putCells_eq, baToList]
  obtain ⟨H9, q1, q2⟩ := asked_end s2 n5 n8 n58 hkk0 hkk Z2
  exact ⟨_, rfl, H9, q1, _, rfl, .inr q2⟩

theorem asked_open_arg (H0 H : AH) (h m d : Nat) (ts : List Term) (k : AskT) (l : List (List UInt8)) (a b c : List UInt8) (hl : l.length ≤ 1000000) (ha : k.a.of l = a) (hb : k.b.of l = b) (hc : k.c.of l = c)
    (ha0 : a.length ≤ 100000000) (hb0 : b.length ≤ 100000000) (hc0 : c.length ≤ 100000000) (hka : -9223372036854775808 ≤ k.a.from_ ∧ k.a.from_ < 9223372036854775808) (hkb : -9223372036854775808 ≤ k.b.from_ ∧ k.b.from_ < 9223372036854775808) (hkc : -9223372036854775808 ≤ k.c.from_ ∧ k.c.from_ < 9223372036854775808)
    (hg : GT 1000000 ts) (hd : d ≤ 1000000) (s : SS H0 H h m d ts) (hk : k.kind = 9) (hno : a.length ≠ 32 ∨ k.n < 0) : ACalls Try.prog 17 [.ptr h 0, vaultV ts d, .agg (askC k), rowsV l] H
      (AskedR H0 h m d ts []) := by
  have pa := of_pure k.a l hka hl
  have pb := of_pure k.b l hkb hl
  have pc := of_pure k.c l hkc hl
  have oa := own_pure a (by omega)
  have ob := own_pure b (by omega)
  have oc := own_pure c (by omega)
  rw [ha] at pa
  rw [hb] at pb
  rw [hc] at pc
  have hq := fun (B B' : AH) (ss : SS B B' h m d ts) => open_none a k.n b c hno ss
  have hv := vopen_arg ts d a k.n b c hno
  obtain ⟨kd, n, ⟨fa, ra⟩, ⟨fb, rb⟩, ⟨fc, rc⟩⟩ := k
  simp only [askC] at *
  subst hk
  clear ha hb hc hka hkb hkc
  refine acalls_of_cwp (c := ⟨Try.prog, 225, [(1, [0, 1, 0, 0, 0, 1, 0, 0, 0, 1, 0, 0, 0, 0, 0]), (30, [0, 0, 0, 0, 1, 1, 0, 0, 0, 0, 0, 0]), (38, [1, 0, 0, 0, 0, 0, 0, 0, 0, 0, 0, 0, 0, 0, 0, 0, 0, 0, 0, 0, 0, 0, 0, 0, 0, 2, 0, 0, 0]), (1000000, [6]), (1000017, [23]), (4000038, [8, 9, 10, 11]), (4000008, [5, 8, 12, 13, 14, 15, 16, 17, 18, 19, 20]), (4000011, [5, 8, 12, 13, 14, 15, 16, 17, 18, 19, 20]), (4000014, [5, 8, 12, 13, 14, 15, 16, 17, 18, 19, 20]), (4000019, [5, 8, 12, 13, 14, 15, 16, 17, 18, 19, 20]), (4000017, [5, 8, 12, 13, 14, 15, 16, 17, 21, 22, 23, 24, 25]), (4000016, [5, 8, 12, 13, 14, 15, 16, 17, 21, 22]), (4000022, [5, 8, 12, 13, 14, 15, 16, 17, 18, 19, 20]), (4000021, [5, 8, 12, 13, 14, 15, 16, 17, 18, 20]), (4000025, [5, 8, 12, 13, 14, 15, 16, 17, 18, 19, 20]), (4000028, [5, 8, 12, 13, 14, 15, 16, 17, 18, 19, 20]), (4000027, [5, 8, 12, 13, 14, 15, 16, 17, 18, 20]), (4000030, [5, 8, 12, 13, 14, 15, 16, 17, 18, 19, 20]), (4000033, [5, 8, 12, 13, 14, 15, 16, 17, 18, 19, 20]), (4000032, [5, 6, 8, 12, 13, 14, 15, 16, 17, 18, 20]), (4000037, [5, 8, 12, 13, 14, 15, 16, 17, 18, 19, 20]), (4000036, [5, 8, 12, 13, 14, 15, 16, 17, 26, 27, 28, 29]), (4000035, [5, 6, 8, 12, 13, 14, 15, 16, 17, 26, 27]), (4000002, [0, 5, 6, 8, 12, 13, 14, 15, 16, 17]), (4000001, [0, 5, 6, 8, 12, 13, 14]), (4000000, [0, 3, 5, 6, 8])], [], []⟩) (rs := [ResultVar.cell 8 38, ResultVar.tmp 9, ResultVar.tmp 10, ResultVar.tmp 11]) Try.mixed Try.func17 rfl rfl rfl (Nat.le_of_ble_eq_true rfl) (by kernel_rfl) ?_
  simp (disch := omega) only [↓runPre, runPost, fieldO, ixA, cutA, lenA, aggA, rowA, appA, mkA, indA, bnd, srcA, sameOp, funcA, cvO, partA, aggD, ↓PostP, resV, resAll, resOne, resVF, resAllF, resOneF, fitsAll, fitsR, fits, frz, Post, Nat.reduceBEq, Nat.reduceLT, reduceCtorEq, ↓reduceIte, initS, AV.cellsOf, AV.fine, AV.one, repA, Nat.reduceMul, Nat.reduceAdd, Nat.reduceLeDiff, Nat.reduceEqDiff, Int.reduceToNat, Nat.reduceSub, Nat.reduceMod, Nat.reduceDiv, indexK.aggOf, Int.reducePow, Int.reduceLE, Int.reduceNeg, Int.reduceLT, Int.reduceBEq, Int.reduceBNe, Int.reduceEq, ownA, nilA, Try.facts]
  intro k5 hk50 hk5 k6 hk60 hk6 k8 hk80 hk8
  have n68 := set_ne hk8
  have n58 := set_ne (subset_set hk8)
  have hk8H := subset_set (subset_set hk8)
  have n5 := s.sub.free hk5
  have n8 := s.sub.free hk8H
  have s1 := (s.box (o := .cells [.imm 0 (termsC ts) ts.length, .sc (.int .i64 d)] 38 2) hk5).box (o := .cells [.sc (.slice none 0 0), .sc (.int .i64 0)] 38 2) (subset_set hk8)
  simp (disch := omega) only [↓runPre, runPost, fieldO, ixA, cutA, lenA, aggA, rowA, appA, mkA, indA, bnd, srcA, sameOp, funcA, cvO, partA, aggD, ↓PostP, resV, resAll, resOne, resVF, resAllF, resOneF, fitsAll, fitsR, fits, frz, Post, Nat.reduceBEq, Nat.reduceLT, reduceCtorEq, ↓reduceIte, initS, AV.cellsOf, AV.fine, AV.one, repA, Nat.reduceMul, Nat.reduceAdd, Nat.reduceLeDiff, Nat.reduceEqDiff, Int.reduceToNat, Nat.reduceSub, Nat.reduceMod, Nat.reduceDiv, indexK.aggOf, Int.reducePow, Int.reduceLE, Int.reduceNeg, Int.reduceLT, Int.reduceBEq, Int.reduceBNe, Int.reduceEq, ownA, nilA, Try.facts, set_other, kill_under hk6 n68]
  first | refine CallK.p (pa) ?_ | refine CallP.i (pa) ?_
  simp (disch := omega) only [↓runPre, runPost, fieldO, ixA, cutA, lenA, aggA, rowA, appA, mkA, indA, bnd, srcA, sameOp, funcA, cvO, partA, aggD, ↓PostP, resV, resAll, resOne, resVF, resAllF, resOneF, fitsAll, fitsR, fits, frz, Post, Nat.reduceBEq, Nat.reduceLT, reduceCtorEq, ↓reduceIte, initS, AV.cellsOf, AV.fine, AV.one, repA, Nat.reduceMul, Nat.reduceAdd, Nat.reduceLeDiff, Nat.reduceEqDiff, Int.reduceToNat, Nat.reduceSub, Nat.reduceMod, Nat.reduceDiv, indexK.aggOf, Int.reducePow, Int.reduceLE, Int.reduceNeg, Int.reduceLT, Int.reduceBEq, Int.reduceBNe, Int.reduceEq, ownA, nilA, Try.facts]
  first | refine CallK.p (pb) ?_ | refine CallP.i (pb) ?_
  simp (disch := omega) only [↓runPre, runPost, fieldO, ixA, cutA, lenA, aggA, rowA, appA, mkA, indA, bnd, srcA, sameOp, funcA, cvO, partA, aggD, ↓PostP, resV, resAll, resOne, resVF, resAllF, resOneF, fitsAll, fitsR, fits, frz, Post, Nat.reduceBEq, Nat.reduceLT, reduceCtorEq, ↓reduceIte, initS, AV.cellsOf, AV.fine, AV.one, repA, Nat.reduceMul, Nat.reduceAdd, Nat.reduceLeDiff, Nat.reduceEqDiff, Int.reduceToNat, Nat.reduceSub, Nat.reduceMod, Nat.reduceDiv, indexK.aggOf, Int.reducePow, Int.reduceLE, Int.reduceNeg, Int.reduceLT, Int.reduceBEq, Int.reduceBNe, Int.reduceEq, ownA, nilA, Try.facts]
  first | refine CallK.p (pc) ?_ | refine CallP.i (pc) ?_
  simp (disch := omega) only [↓runPre, runPost, fieldO, ixA, cutA, lenA, aggA, rowA, appA, mkA, indA, bnd, srcA, sameOp, funcA, cvO, partA, aggD, ↓PostP, resV, resAll, resOne, resVF, resAllF, resOneF, fitsAll, fitsR, fits, frz, Post, Nat.reduceBEq, Nat.reduceLT, reduceCtorEq, ↓reduceIte, initS, AV.cellsOf, AV.fine, AV.one, repA, Nat.reduceMul, Nat.reduceAdd, Nat.reduceLeDiff, Nat.reduceEqDiff, Int.reduceToNat, Nat.reduceSub, Nat.reduceMod, Nat.reduceDiv, indexK.aggOf, Int.reducePow, Int.reduceLE, Int.reduceNeg, Int.reduceLT, Int.reduceBEq, Int.reduceBNe, Int.reduceEq, ownA, nilA, Try.facts]
  first | refine CallK.p (oa) ?_ | refine CallP.i (oa) ?_
  simp (disch := omega) only [↓runPre, runPost, fieldO, ixA, cutA, lenA, aggA, rowA, appA, mkA, indA, bnd, srcA, sameOp, funcA, cvO, partA, aggD, ↓PostP, resV, resAll, resOne, resVF, resAllF, resOneF, fitsAll, fitsR, fits, frz, Post, Nat.reduceBEq, Nat.reduceLT, reduceCtorEq, ↓reduceIte, initS, AV.cellsOf, AV.fine, AV.one, repA, Nat.reduceMul, Nat.reduceAdd, Nat.reduceLeDiff, Nat.reduceEqDiff, Int.reduceToNat, Nat.reduceSub, Nat.reduceMod, Nat.reduceDiv, indexK.aggOf, Int.reducePow, Int.reduceLE, Int.reduceNeg, Int.reduceLT, Int.reduceBEq, Int.reduceBNe, Int.reduceEq, ownA, nilA, Try.facts]
  first | refine CallK.p (ob) ?_ | refine CallP.i (ob) ?_
  simp (disch := omega) only [↓runPre, runPost, fieldO, ixA, cutA, lenA, aggA, rowA, appA, mkA, indA, bnd, srcA, sameOp, funcA, cvO, partA, aggD, ↓PostP, resV, resAll, resOne, resVF, resAllF, resOneF, fitsAll, fitsR, fits, frz, Post, Nat.reduceBEq, Nat.reduceLT, reduceCtorEq, ↓reduceIte, initS, AV.cellsOf, AV.fine, AV.one, repA, Nat.reduceMul, Nat.reduceAdd, Nat.reduceLeDiff, Nat.reduceEqDiff, Int.reduceToNat, Nat.reduceSub, Nat.reduceMod, Nat.reduceDiv, indexK.aggOf, Int.reducePow, Int.reduceLE, Int.reduceNeg, Int.reduceLT, Int.reduceBEq, Int.reduceBNe, Int.reduceEq, ownA, nilA, Try.facts]
  first | refine CallK.p (oc) ?_ | refine CallP.i (oc) ?_
  simp (disch := omega) only [↓runPre, runPost, fieldO, ixA, cutA, lenA, aggA, rowA, appA, mkA, indA, bnd, srcA, sameOp, funcA, cvO, partA, aggD, ↓PostP, resV, resAll, resOne, resVF, resAllF, resOneF, fitsAll, fitsR, fits, frz, Post, Nat.reduceBEq, Nat.reduceLT, reduceCtorEq, ↓reduceIte, initS, AV.cellsOf, AV.fine, AV.one, repA, Nat.reduceMul, Nat.reduceAdd, Nat.reduceLeDiff, Nat.reduceEqDiff, Int.reduceToNat, Nat.reduceSub, Nat.reduceMod, Nat.reduceDiv, indexK.aggOf, Int.reducePow, Int.reduceLE, Int.reduceNeg, Int.reduceLT, Int.reduceBEq, Int.reduceBNe, Int.reduceEq, ownA, nilA, Try.facts]
  refine CallK.i (hq _ _ s1) ?_
  rintro v H2 ⟨rfl, rfl⟩
  have s2 := s1
  have l5 := s2.sub k5 _ (by rw [set_other n58, set_get])
  have l8 := s2.sub k8 _ set_get
  simp (disch := omega) only [↓runPre, runPost, fieldO, ixA, cutA, lenA, aggA, rowA, appA, mkA, indA, bnd, srcA, sameOp, funcA, cvO, partA, aggD, ↓PostP, resV, resAll, resOne, resVF, resAllF, resOneF, fitsAll, fitsR, fits, frz, Post, Nat.reduceBEq, Nat.reduceLT, reduceCtorEq, ↓reduceIte, initS, AV.cellsOf, AV.fine, AV.one, repA, Nat.reduceMul, Nat.reduceAdd, Nat.reduceLeDiff, Nat.reduceEqDiff, Int.reduceToNat, Nat.reduceSub, Nat.reduceMod, Nat.reduceDiv, indexK.aggOf, Int.reducePow, Int.reduceLE, Int.reduceNeg, Int.reduceLT, Int.reduceBEq, Int.reduceBNe, Int.reduceEq, ownA, nilA, Try.facts, set_other, l5, l8]
  first | refine CallK.p (hv) ?_ | refine CallP.i (hv) ?_
  simp (disch := omega) only [↓runPre, runPost, fieldO, ixA, cutA, lenA, aggA, rowA, appA, mkA, indA, bnd, srcA, sameOp, funcA, cvO, partA, aggD, ↓PostP, resV, resAll, resOne, resVF, resAllF, resOneF, fitsAll, fitsR, fits, frz, Post, Nat.reduceBEq, Nat.reduceLT, reduceCtorEq, ↓reduceIte, initS, AV.cellsOf, AV.fine, AV.one, repA, Nat.reduceMul, Nat.reduceAdd, Nat.reduceLeDiff, Nat.reduceEqDiff, Int.reduceToNat, Nat.reduceSub, Nat.reduceMod, Nat.reduceDiv, indexK.aggOf, Int.reducePow, Int.reduceLE, Int.reduceNeg, Int.reduceLT, Int.reduceBEq, Int.reduceBNe, Int.reduceEq, ownA, nilA, Try.facts, set_other, l5, l8, putCells_eq, baToList]
  obtain ⟨H9, q1, q2⟩ := asked_end1 s2 n5 n8 n58
  rw [set_set] at q1
  exact ⟨_, rfl, H9, q1, _, rfl, .inl ⟨rfl, rfl, q2⟩⟩

theorem asked_open_miss (H0 H : AH) (h m d : Nat) (ts : List Term) (k : AskT) (l : List (List UInt8)) (a b c : List UInt8) (hl : l.length ≤ 1000000) (ha : k.a.of l = a) (hb : k.b.of l = b) (hc : k.c.of l = c)
    (ha0 : a.length ≤ 100000000) (hb0 : b.length ≤ 100000000) (hc0 : c.length ≤ 100000000) (hka : -9223372036854775808 ≤ k.a.from_ ∧ k.a.from_ < 9223372036854775808) (hkb : -9223372036854775808 ≤ k.b.from_ ∧ k.b.from_ < 9223372036854775808) (hkc : -9223372036854775808 ≤ k.c.from_ ∧ k.c.from_ < 9223372036854775808)
    (hg : GT 1000000 ts) (hd : d ≤ 1000000) (s : SS H0 H h m d ts) (hk : k.kind = 9) (q : Nat) (hn : k.n = q) (hq9 : q < 9223372036854775808) (h32 : a.length = 32) (ho : opT ts a q b c = false) : ACalls Try.prog 17 [.ptr h 0, vaultV ts d, .agg (askC k), rowsV l] H
      (AskedR H0 h m d ts []) := by
  have pa := of_pure k.a l hka hl
  have pb := of_pure k.b l hkb hl
  have pc := of_pure k.c l hkc hl
  have oa := own_pure a (by omega)
  have ob := own_pure b (by omega)
  have oc := own_pure c (by omega)
  rw [ha] at pa
  rw [hb] at pb
  rw [hc] at pc
  have hq := fun (B B' : AH) (ss : SS B B' h m d ts) => open_miss a q b c h32 hq9 (by omega) hg ho ss
  have hv := (show APure Try.prog 41 _ (.tup [.imm 0 [] 0, .sc (.int .i64 9)]) from by have := vopen_pure ts d a q b c h32 hq9 hg.wf hg.len; unfold openV at this; rwa [if_neg (by rw [ho]; simp)] at this)
  obtain ⟨kd, n, ⟨fa, ra⟩, ⟨fb, rb⟩, ⟨fc, rc⟩⟩ := k
  simp only [askC] at *
  subst hk
  subst hn
  clear ha hb hc hka hkb hkc
  refine acalls_of_cwp (c := ⟨Try.prog, 225, [(1, [0, 1, 0, 0, 0, 1, 0, 0, 0, 1, 0, 0, 0, 0, 0]), (30, [0, 0, 0, 0, 1, 1, 0, 0, 0, 0, 0, 0]), (38, [1, 0, 0, 0, 0, 0, 0, 0, 0, 0, 0, 0, 0, 0, 0, 0, 0, 0, 0, 0, 0, 0, 0, 0, 0, 2, 0, 0, 0]), (1000000, [6]), (1000017, [23]), (4000038, [8, 9, 10, 11]), (4000008, [5, 8, 12, 13, 14, 15, 16, 17, 18, 19, 20]), (4000011, [5, 8, 12, 13, 14, 15, 16, 17, 18, 19, 20]), (4000014, [5, 8, 12, 13, 14, 15, 16, 17, 18, 19, 20]), (4000019, [5, 8, 12, 13, 14, 15, 16, 17, 18, 19, 20]), (4000017, [5, 8, 12, 13, 14, 15, 16, 17, 21, 22, 23, 24, 25]), (4000016, [5, 8, 12, 13, 14, 15, 16, 17, 21, 22]), (4000022, [5, 8, 12, 13, 14, 15, 16, 17, 18, 19, 20]), (4000021, [5, 8, 12, 13, 14, 15, 16, 17, 18, 20]), (4000025, [5, 8, 12, 13, 14, 15, 16, 17, 18, 19, 20]), (4000028, [5, 8, 12, 13, 14, 15, 16, 17, 18, 19, 20]), (4000027, [5, 8, 12, 13, 14, 15, 16, 17, 18, 20]), (4000030, [5, 8, 12, 13, 14, 15, 16, 17, 18, 19, 20]), (4000033, [5, 8, 12, 13, 14, 15, 16, 17, 18, 19, 20]), (4000032, [5, 6, 8, 12, 13, 14, 15, 16, 17, 18, 20]), (4000037, [5, 8, 12, 13, 14, 15, 16, 17, 18, 19, 20]), (4000036, [5, 8, 12, 13, 14, 15, 16, 17, 26, 27, 28, 29]), (4000035, [5, 6, 8, 12, 13, 14, 15, 16, 17, 26, 27]), (4000002, [0, 5, 6, 8, 12, 13, 14, 15, 16, 17]), (4000001, [0, 5, 6, 8, 12, 13, 14]), (4000000, [0, 3, 5, 6, 8])], [], []⟩) (rs := [ResultVar.cell 8 38, ResultVar.tmp 9, ResultVar.tmp 10, ResultVar.tmp 11]) Try.mixed Try.func17 rfl rfl rfl (Nat.le_of_ble_eq_true rfl) (by kernel_rfl) ?_
  simp (disch := omega) only [↓runPre, runPost, fieldO, ixA, cutA, lenA, aggA, rowA, appA, mkA, indA, bnd, srcA, sameOp, funcA, cvO, partA, aggD, ↓PostP, resV, resAll, resOne, resVF, resAllF, resOneF, fitsAll, fitsR, fits, frz, Post, Nat.reduceBEq, Nat.reduceLT, reduceCtorEq, ↓reduceIte, initS, AV.cellsOf, AV.fine, AV.one, repA, Nat.reduceMul, Nat.reduceAdd, Nat.reduceLeDiff, Nat.reduceEqDiff, Int.reduceToNat, Nat.reduceSub, Nat.reduceMod, Nat.reduceDiv, indexK.aggOf, Int.reducePow, Int.reduceLE, Int.reduceNeg, Int.reduceLT, Int.reduceBEq, Int.reduceBNe, Int.reduceEq, ownA, nilA, Try.facts]
  intro k5 hk50 hk5 k6 hk60 hk6 k8 hk80 hk8
  have n68 := set_ne hk8
  have n58 := set_ne (subset_set hk8)
  have hk8H := subset_set (subset_set hk8)
  have n5 := s.sub.free hk5
  have n8 := s.sub.free hk8H
  have s1 := (s.box (o := .cells [.imm 0 (termsC ts) ts.length, .sc (.int .i64 d)] 38 2) hk5).box (o := .cells [.sc (.slice none 0 0), .sc (.int .i64 0)] 38 2) (subset_set hk8)
  simp (disch := omega) only [↓runPre, runPost, fieldO, ixA, cutA, lenA, aggA, rowA, appA, mkA, indA, bnd, srcA, sameOp, funcA, cvO, partA, aggD, ↓PostP, resV, resAll, resOne, resVF, resAllF, resOneF, fitsAll, fitsR, fits, frz, Post, Nat.reduceBEq, Nat.reduceLT, reduceCtorEq, ↓reduceIte, initS, AV.cellsOf, AV.fine, AV.one, repA, Nat.reduceMul, Nat.reduceAdd, Nat.reduceLeDiff, Nat.reduceEqDiff, Int.reduceToNat, Nat.reduceSub, Nat.reduceMod, Nat.reduceDiv, indexK.aggOf, Int.reducePow, Int.reduceLE, Int.reduceNeg, Int.reduceLT, Int.reduceBEq, Int.reduceBNe, Int.reduceEq, ownA, nilA, Try.facts, set_other, kill_under hk6 n68]
  first | refine CallK.p (pa) ?_ | refine CallP.i (pa) ?_
  simp (disch := omega) only [↓runPre, runPost, fieldO, ixA, cutA, lenA, aggA, rowA, appA, mkA, indA, bnd, srcA, sameOp, funcA, cvO, partA, aggD, ↓PostP, resV, resAll, resOne, resVF, resAllF, resOneF, fitsAll, fitsR, fits, frz, Post, Nat.reduceBEq, Nat.reduceLT, reduceCtorEq, ↓reduceIte, initS, AV.cellsOf, AV.fine, AV.one, repA, Nat.reduceMul, Nat.reduceAdd, Nat.reduceLeDiff, Nat.reduceEqDiff, Int.reduceToNat, Nat.reduceSub, Nat.reduceMod, Nat.reduceDiv, indexK.aggOf, Int.reducePow, Int.reduceLE, Int.reduceNeg, Int.reduceLT, Int.reduceBEq, Int.reduceBNe, Int.reduceEq, ownA, nilA, Try.facts]
  first | refine CallK.p (pb) ?_ | refine CallP.i (pb) ?_
  simp (disch := omega) only [↓runPre, runPost, fieldO, ixA, cutA, lenA, aggA, rowA, appA, mkA, indA, bnd, srcA, sameOp, funcA, cvO, partA, aggD, ↓PostP, resV, resAll, resOne, resVF, resAllF, resOneF, fitsAll, fitsR, fits, frz, Post, Nat.reduceBEq, Nat.reduceLT, reduceCtorEq, ↓reduceIte, initS, AV.cellsOf, AV.fine, AV.one, repA, Nat.reduceMul, Nat.reduceAdd, Nat.reduceLeDiff, Nat.reduceEqDiff, Int.reduceToNat, Nat.reduceSub, Nat.reduceMod, Nat.reduceDiv, indexK.aggOf, Int.reducePow, Int.reduceLE, Int.reduceNeg, Int.reduceLT, Int.reduceBEq, Int.reduceBNe, Int.reduceEq, ownA, nilA, Try.facts]
  first | refine CallK.p (pc) ?_ | refine CallP.i (pc) ?_
  simp (disch := omega) only [↓runPre, runPost, fieldO, ixA, cutA, lenA, aggA, rowA, appA, mkA, indA, bnd, srcA, sameOp, funcA, cvO, partA, aggD, ↓PostP, resV, resAll, resOne, resVF, resAllF, resOneF, fitsAll, fitsR, fits, frz, Post, Nat.reduceBEq, Nat.reduceLT, reduceCtorEq, ↓reduceIte, initS, AV.cellsOf, AV.fine, AV.one, repA, Nat.reduceMul, Nat.reduceAdd, Nat.reduceLeDiff, Nat.reduceEqDiff, Int.reduceToNat, Nat.reduceSub, Nat.reduceMod, Nat.reduceDiv, indexK.aggOf, Int.reducePow, Int.reduceLE, Int.reduceNeg, Int.reduceLT, Int.reduceBEq, Int.reduceBNe, Int.reduceEq, ownA, nilA, Try.facts]
  first | refine CallK.p (oa) ?_ | refine CallP.i (oa) ?_
  simp (disch := omega) only [↓runPre, runPost, fieldO, ixA, cutA, lenA, aggA, rowA, appA, mkA, indA, bnd, srcA, sameOp, funcA, cvO, partA, aggD, ↓PostP, resV, resAll, resOne, resVF, resAllF, resOneF, fitsAll, fitsR, fits, frz, Post, Nat.reduceBEq, Nat.reduceLT, reduceCtorEq, ↓reduceIte, initS, AV.cellsOf, AV.fine, AV.one, repA, Nat.reduceMul, Nat.reduceAdd, Nat.reduceLeDiff, Nat.reduceEqDiff, Int.reduceToNat, Nat.reduceSub, Nat.reduceMod, Nat.reduceDiv, indexK.aggOf, Int.reducePow, Int.reduceLE, Int.reduceNeg, Int.reduceLT, Int.reduceBEq, Int.reduceBNe, Int.reduceEq, ownA, nilA, Try.facts]
  first | refine CallK.p (ob) ?_ | refine CallP.i (ob) ?_
  simp (disch := omega) only [↓runPre, runPost, fieldO, ixA, cutA, lenA, aggA, rowA, appA, mkA, indA, bnd, srcA, sameOp, funcA, cvO, partA, aggD, ↓PostP, resV, resAll, resOne, resVF, resAllF, resOneF, fitsAll, fitsR, fits, frz, Post, Nat.reduceBEq, Nat.reduceLT, reduceCtorEq, ↓reduceIte, initS, AV.cellsOf, AV.fine, AV.one, repA, Nat.reduceMul, Nat.reduceAdd, Nat.reduceLeDiff, Nat.reduceEqDiff, Int.reduceToNat, Nat.reduceSub, Nat.reduceMod, Nat.reduceDiv, indexK.aggOf, Int.reducePow, Int.reduceLE, Int.reduceNeg, Int.reduceLT, Int.reduceBEq, Int.reduceBNe, Int.reduceEq, ownA, nilA, Try.facts]
  first | refine CallK.p (oc) ?_ | refine CallP.i (oc) ?_
  simp (disch := omega) only [↓runPre, runPost, fieldO, ixA, cutA, lenA, aggA, rowA, appA, mkA, indA, bnd, srcA, sameOp, funcA, cvO, partA, aggD, ↓PostP, resV, resAll, resOne, resVF, resAllF, resOneF, fitsAll, fitsR, fits, frz, Post, Nat.reduceBEq, Nat.reduceLT, reduceCtorEq, ↓reduceIte, initS, AV.cellsOf, AV.fine, AV.one, repA, Nat.reduceMul, Nat.reduceAdd, Nat.reduceLeDiff, Nat.reduceEqDiff, Int.reduceToNat, Nat.reduceSub, Nat.reduceMod, Nat.reduceDiv, indexK.aggOf, Int.reducePow, Int.reduceLE, Int.reduceNeg, Int.reduceLT, Int.reduceBEq, Int.reduceBNe, Int.reduceEq, ownA, nilA, Try.facts]
  refine CallK.i (hq _ _ s1) ?_
  rintro v H2 ⟨rfl, rfl⟩
  have s2 := s1
  have l5 := s2.sub k5 _ (by rw [set_other n58, set_get])
  have l8 := s2.sub k8 _ set_get
  simp (disch := omega) only [↓runPre, runPost, fieldO, ixA, cutA, lenA, aggA, rowA, appA, mkA, indA, bnd, srcA, sameOp, funcA, cvO, partA, aggD, ↓PostP, resV, resAll, resOne, resVF, resAllF, resOneF, fitsAll, fitsR, fits, frz, Post, Nat.reduceBEq, Nat.reduceLT, reduceCtorEq, ↓reduceIte, initS, AV.cellsOf, AV.fine, AV.one, repA, Nat.reduceMul, Nat.reduceAdd, Nat.reduceLeDiff, Nat.reduceEqDiff, Int.reduceToNat, Nat.reduceSub, Nat.reduceMod, Nat.reduceDiv, indexK.aggOf, Int.reducePow, Int.reduceLE, Int.reduceNeg, Int.reduceLT, Int.reduceBEq, Int.reduceBNe, Int.reduceEq, ownA, nilA, Try.facts, set_other, l5, l8]
  first | refine CallK.p (hv) ?_ | refine CallP.i (hv) ?_
  simp (disch := omega) only [↓runPre, runPost, fieldO, ixA, cutA, lenA, aggA, rowA, appA, mkA, indA, bnd, srcA, sameOp, funcA, cvO, partA, aggD, ↓PostP, resV, resAll, resOne, resVF, resAllF, resOneF, fitsAll, fitsR, fits, frz, Post, Nat.reduceBEq, Nat.reduceLT, reduceCtorEq, ↓reduceIte, initS, AV.cellsOf, AV.fine, AV.one, repA, Nat.reduceMul, Nat.reduceAdd, Nat.reduceLeDiff, Nat.reduceEqDiff, Int.reduceToNat, Nat.reduceSub, Nat.reduceMod, Nat.reduceDiv, indexK.aggOf, Int.reducePow, Int.reduceLE, Int.reduceNeg, Int.reduceLT, Int.reduceBEq, Int.reduceBNe, Int.reduceEq, ownA, nilA, Try.facts, set_other, l5, l8, putCells_eq, baToList]
  obtain ⟨H9, q1, q2⟩ := asked_end1 s2 n5 n8 n58
  rw [set_set] at q1
  exact ⟨_, rfl, H9, q1, _, rfl, .inl ⟨rfl, rfl, q2⟩⟩

theorem asked_open_hit (H0 H : AH) (h m d : Nat) (ts : List Term) (k : AskT) (l : List (List UInt8)) (a b c : List UInt8) (hl : l.length ≤ 1000000) (ha : k.a.of l = a) (hb : k.b.of l = b) (hc : k.c.of l = c)
    (ha0 : a.length ≤ 100000000) (hb0 : b.length ≤ 100000000) (hc0 : c.length ≤ 100000000) (hka : -9223372036854775808 ≤ k.a.from_ ∧ k.a.from_ < 9223372036854775808) (hkb : -9223372036854775808 ≤ k.b.from_ ∧ k.b.from_ < 9223372036854775808) (hkc : -9223372036854775808 ≤ k.c.from_ ∧ k.c.from_ < 9223372036854775808)
    (hg : GT 1000000 ts) (hd : d ≤ 1000000) (s : SS H0 H h m d ts) (hk : k.kind = 9) (q : Nat) (hn : k.n = q) (hq9 : q < 9223372036854775808) (h32 : a.length = 32) (ho : opT ts a q b c = true) : ACalls Try.prog 17 [.ptr h 0, vaultV ts d, .agg (askC k), rowsV l] H
      (AskedR H0 h m d ts (partT (findT ts c 98).1 3)) := by
  have pa := of_pure k.a l hka hl
  have pb := of_pure k.b l hkb hl
  have pc := of_pure k.c l hkc hl
  have oa := own_pure a (by omega)
  have ob := own_pure b (by omega)
  have oc := own_pure c (by omega)
  rw [ha] at pa
  rw [hb] at pb
  rw [hc] at pc
  have hq := fun (B B' : AH) (ss : SS B B' h m d ts) => open_hit a q b c h32 hq9 (by omega) hg ho ss
  have hv := (show APure Try.prog 41 _ (.tup [bytesV (partT (findT ts c 98).1 3), .sc (.int .i64 0)]) from by have := vopen_pure ts d a q b c h32 hq9 hg.wf hg.len; unfold openV at this; rwa [if_pos ho] at this)
  generalize partT (findT ts c 98).1 3 = Z2 at *
  obtain ⟨kd, n, ⟨fa, ra⟩, ⟨fb, rb⟩, ⟨fc, rc⟩⟩ := k
  simp only [askC] at *
  subst hk
  subst hn
  clear ha hb hc hka hkb hkc
  refine acalls_of_cwp (c := ⟨Try.prog, 225, [(1, [0, 1, 0, 0, 0, 1, 0, 0, 0, 1, 0, 0, 0, 0, 0]), (30, [0, 0, 0, 0, 1, 1, 0, 0, 0, 0, 0, 0]), (38, [1, 0, 0, 0, 0, 0, 0, 0, 0, 0, 0, 0, 0, 0, 0, 0, 0, 0, 0, 0, 0, 0, 0, 0, 0, 2, 0, 0, 0]), (1000000, [6]), (1000017, [23]), (4000038, [8, 9, 10, 11]), (4000008, [5, 8, 12, 13, 14, 15, 16, 17, 18, 19, 20]), (4000011, [5, 8, 12, 13, 14, 15, 16, 17, 18, 19, 20]), (4000014, [5, 8, 12, 13, 14, 15, 16, 17, 18, 19, 20]), (4000019, [5, 8, 12, 13, 14, 15, 16, 17, 18, 19, 20]), (4000017, [5, 8, 12, 13, 14, 15, 16, 17, 21, 22, 23, 24, 25]), (4000016, [5, 8, 12, 13, 14, 15, 16, 17, 21, 22]), (4000022, [5, 8, 12, 13, 14, 15, 16, 17, 18, 19, 20]), (4000021, [5, 8, 12, 13, 14, 15, 16, 17, 18, 20]), (4000025, [5, 8, 12, 13, 14, 15, 16, 17, 18, 19, 20]), (4000028, [5, 8, 12, 13, 14, 15, 16, 17, 18, 19, 20]), (4000027, [5, 8, 12, 13, 14, 15, 16, 17, 18, 20]), (4000030, [5, 8, 12, 13, 14, 15, 16, 17, 18, 19, 20]), (4000033, [5, 8, 12, 13, 14, 15, 16, 17, 18, 19, 20]), (4000032, [5, 6, 8, 12, 13, 14, 15, 16, 17, 18, 20]), (4000037, [5, 8, 12, 13, 14, 15, 16, 17, 18, 19, 20]), (4000036, [5, 8, 12, 13, 14, 15, 16, 17, 26, 27, 28, 29]), (4000035, [5, 6, 8, 12, 13, 14, 15, 16, 17, 26, 27]), (4000002, [0, 5, 6, 8, 12, 13, 14, 15, 16, 17]), (4000001, [0, 5, 6, 8, 12, 13, 14]), (4000000, [0, 3, 5, 6, 8])], [], []⟩) (rs := [ResultVar.cell 8 38, ResultVar.tmp 9, ResultVar.tmp 10, ResultVar.tmp 11]) Try.mixed Try.func17 rfl rfl rfl (Nat.le_of_ble_eq_true rfl) (by kernel_rfl) ?_
  simp (disch := omega) only [↓runPre, runPost, fieldO, ixA, cutA, lenA, aggA, rowA, appA, mkA, indA, bnd, srcA, sameOp, funcA, cvO, partA, aggD, ↓PostP, resV, resAll, resOne, resVF, resAllF, resOneF, fitsAll, fitsR, fits, frz, Post, Nat.reduceBEq, Nat.reduceLT, reduceCtorEq, ↓reduceIte, initS, AV.cellsOf, AV.fine, AV.one, repA, Nat.reduceMul, Nat.reduceAdd, Nat.reduceLeDiff, Nat.reduceEqDiff, Int.reduceToNat, Nat.reduceSub, Nat.reduceMod, Nat.reduceDiv, indexK.aggOf, Int.reducePow, Int.reduceLE, Int.reduceNeg, Int.reduceLT, Int.reduceBEq, Int.reduceBNe, Int.reduceEq, ownA, nilA, Try.facts]
  intro k5 hk50 hk5 k6 hk60 hk6 k8 hk80 hk8
  have n68 := set_ne hk8
  have n58 := set_ne (subset_set hk8)
  have hk8H := subset_set (subset_set hk8)
  have n5 := s.sub.free hk5
  have n8 := s.sub.free hk8H
  have s1 := (s.box (o := .cells [.imm 0 (termsC ts) ts.length, .sc (.int .i64 d)] 38 2) hk5).box (o := .cells [.sc (.slice none 0 0), .sc (.int .i64 0)] 38 2) (subset_set hk8)
  simp (disch := omega) only [↓runPre, runPost, fieldO, ixA, cutA, lenA, aggA, rowA, appA, mkA, indA, bnd, srcA, sameOp, funcA, cvO, partA, aggD, ↓PostP, resV, resAll, resOne, resVF, resAllF, resOneF, fitsAll, fitsR, fits, frz, Post, Nat.reduceBEq, Nat.reduceLT, reduceCtorEq, ↓reduceIte, initS, AV.cellsOf, AV.fine, AV.one, repA, Nat.reduceMul, Nat.reduceAdd, Nat.reduceLeDiff, Nat.reduceEqDiff, Int.reduceToNat, Nat.reduceSub, Nat.reduceMod, Nat.reduceDiv, indexK.aggOf, Int.reducePow, Int.reduceLE, Int.reduceNeg, Int.reduceLT, Int.reduceBEq, Int.reduceBNe, Int.reduceEq, ownA, nilA, Try.facts, set_other, kill_under hk6 n68]
  first | refine CallK.p (pa) ?_ | refine CallP.i (pa) ?_
  simp (disch := omega) only [↓runPre, runPost, fieldO, ixA, cutA, lenA, aggA, rowA, appA, mkA, indA, bnd, srcA, sameOp, funcA, cvO, partA, aggD, ↓PostP, resV, resAll, resOne, resVF, resAllF, resOneF, fitsAll, fitsR, fits, frz, Post, Nat.reduceBEq, Nat.reduceLT, reduceCtorEq, ↓reduceIte, initS, AV.cellsOf, AV.fine, AV.one, repA, Nat.reduceMul, Nat.reduceAdd, Nat.reduceLeDiff, Nat.reduceEqDiff, Int.reduceToNat, Nat.reduceSub, Nat.reduceMod, Nat.reduceDiv, indexK.aggOf, Int.reducePow, Int.reduceLE, Int.reduceNeg, Int.reduceLT, Int.reduceBEq, Int.reduceBNe, Int.reduceEq, ownA, nilA, Try.facts]
  first | refine CallK.p (pb) ?_ | refine CallP.i (pb) ?_
  simp (disch := omega) only [↓runPre, runPost, fieldO, ixA, cutA, lenA, aggA, rowA, appA, mkA, indA, bnd, srcA, sameOp, funcA, cvO, partA, aggD, ↓PostP, resV, resAll, resOne, resVF, resAllF, resOneF, fitsAll, fitsR, fits, frz, Post, Nat.reduceBEq, Nat.reduceLT, reduceCtorEq, ↓reduceIte, initS, AV.cellsOf, AV.fine, AV.one, repA, Nat.reduceMul, Nat.reduceAdd, Nat.reduceLeDiff, Nat.reduceEqDiff, Int.reduceToNat, Nat.reduceSub, Nat.reduceMod, Nat.reduceDiv, indexK.aggOf, Int.reducePow, Int.reduceLE, Int.reduceNeg, Int.reduceLT, Int.reduceBEq, Int.reduceBNe, Int.reduceEq, ownA, nilA, Try.facts]
  first | refine CallK.p (pc) ?_ | refine CallP.i (pc) ?_
  simp (disch := omega) only [↓runPre, runPost, fieldO, ixA, cutA, lenA, aggA, rowA, appA, mkA, indA, bnd, srcA, sameOp, funcA, cvO, partA, aggD, ↓PostP, resV, resAll, resOne, resVF, resAllF, resOneF, fitsAll, fitsR, fits, frz, Post, Nat.reduceBEq, Nat.reduceLT, reduceCtorEq, ↓reduceIte, initS, AV.cellsOf, AV.fine, AV.one, repA, Nat.reduceMul, Nat.reduceAdd, Nat.reduceLeDiff, Nat.reduceEqDiff, Int.reduceToNat, Nat.reduceSub, Nat.reduceMod, Nat.reduceDiv, indexK.aggOf, Int.reducePow, Int.reduceLE, Int.reduceNeg, Int.reduceLT, Int.reduceBEq, Int.reduceBNe, Int.reduceEq, ownA, nilA, Try.facts]
  first | refine CallK.p (oa) ?_ | refine CallP.i (oa) ?_
  simp (disch := omega) only [↓runPre, runPost, fieldO, ixA, cutA, lenA, aggA, rowA, appA, mkA, indA, bnd, srcA, sameOp, funcA, cvO, partA, aggD, ↓PostP, resV, resAll, resOne, resVF, resAllF, resOneF, fitsAll, fitsR, fits, frz, Post, Nat.reduceBEq, Nat.reduceLT, reduceCtorEq, ↓reduceIte, initS, AV.cellsOf, AV.fine, AV.one, repA, Nat.reduceMul, Nat.reduceAdd, Nat.reduceLeDiff, Nat.reduceEqDiff, Int.reduceToNat, Nat.reduceSub, Nat.reduceMod, Nat.reduceDiv, indexK.aggOf, Int.reducePow, Int.reduceLE, Int.reduceNeg, Int.reduceLT, Int.reduceBEq, Int.reduceBNe, Int.reduceEq, ownA, nilA, Try.facts]
  first | refine CallK.p (ob) ?_ | refine CallP.i (ob) ?_
  simp (disch := omega) only [↓runPre, runPost, fieldO, ixA, cutA, lenA, aggA, rowA, appA, mkA, indA, bnd, srcA, sameOp, funcA, cvO, partA, aggD, ↓PostP, resV, resAll, resOne, resVF, resAllF, resOneF, fitsAll, fitsR, fits, frz, Post, Nat.reduceBEq, Nat.reduceLT, reduceCtorEq, ↓reduceIte, initS, AV.cellsOf, AV.fine, AV.one, repA, Nat.reduceMul, Nat.reduceAdd, Nat.reduceLeDiff, Nat.reduceEqDiff, Int.reduceToNat, Nat.reduceSub, Nat.reduceMod, Nat.reduceDiv, indexK.aggOf, Int.reducePow, Int.reduceLE, Int.reduceNeg, Int.reduceLT, Int.reduceBEq, Int.reduceBNe, Int.reduceEq, ownA, nilA, Try.facts]
  first | refine CallK.p (oc) ?_ | refine CallP.i (oc) ?_
  simp (disch := omega) only [↓runPre, runPost, fieldO, ixA, cutA, lenA, aggA, rowA, appA, mkA, indA, bnd, srcA, sameOp, funcA, cvO, partA, aggD, ↓PostP, resV, resAll, resOne, resVF, resAllF, resOneF, fitsAll, fitsR, fits, frz, Post, Nat.reduceBEq, Nat.reduceLT, reduceCtorEq, ↓reduceIte, initS, AV.cellsOf, AV.fine, AV.one, repA, Nat.reduceMul, Nat.reduceAdd, Nat.reduceLeDiff, Nat.reduceEqDiff, Int.reduceToNat, Nat.reduceSub, Nat.reduceMod, Nat.reduceDiv, indexK.aggOf, Int.reducePow, Int.reduceLE, Int.reduceNeg, Int.reduceLT, Int.reduceBEq, Int.reduceBNe, Int.reduceEq, ownA, nilA, Try.facts]
  refine CallK.i (hq _ _ s1) ?_
  rintro v H3 ⟨r, rfl, H2, s2, kk, hkk0, hkk, rfl, rfl⟩
  have l5 := s2.sub k5 _ (by rw [set_other n58, set_get])
  have l8 := s2.sub k8 _ set_get
  have m5 := ne_live l5 hkk
  have m8 := ne_live l8 hkk
  simp (disch := omega) only [↓runPre, runPost, fieldO, ixA, cutA, lenA, aggA, rowA, appA, mkA, indA, bnd, srcA, sameOp, funcA, cvO, partA, aggD, ↓PostP, resV, resAll, resOne, resVF, resAllF, resOneF, fitsAll, fitsR, fits, frz, Post, Nat.reduceBEq, Nat.reduceLT, reduceCtorEq, ↓reduceIte, initS, AV.cellsOf, AV.fine, AV.one, repA, Nat.reduceMul, Nat.reduceAdd, Nat.reduceLeDiff, Nat.reduceEqDiff, Int.reduceToNat, Nat.reduceSub, Nat.reduceMod, Nat.reduceDiv, indexK.aggOf, Int.reducePow, Int.reduceLE, Int.reduceNeg, Int.reduceLT, Int.reduceBEq, Int.reduceBNe, Int.reduceEq, ownA, nilA, Try.facts, set_other, l5, l8]
  first | refine CallK.p (hv) ?_ | refine CallP.i (hv) ?_
  simp (disch := omega) only [↓runPre, runPost, fieldO, ixA, cutA, lenA, aggA, rowA, appA, mkA, indA, bnd, srcA, sameOp, funcA, cvO, partA, aggD, ↓PostP, resV, resAll, resOne, resVF, resAllF, resOneF, fitsAll, fitsR, fits, frz, Post, Nat.reduceBEq, Nat.reduceLT, reduceCtorEq, ↓reduceIte, initS, AV.cellsOf, AV.fine, AV.one, repA, Nat.reduceMul, Nat.reduceAdd, Nat.reduceLeDiff, Nat.reduceEqDiff, Int.reduceToNat, Nat.reduceSub, Nat.reduceMod, Nat.reduceDiv, indexK.aggOf, Int.reducePow, Int.reduceLE, Int.reduceNeg, Int.reduceLT, Int.reduceBEq, Int.reduceBNe, Int.reduceEq, ownA, nilA, Try.facts, set_other, l5, l8, putCells_eq, baToList]
  obtain ⟨H9, q1, q2⟩ := asked_end2 s2 n5 n8 n58 hkk0 hkk Z2
  exact ⟨_, rfl, H9, q1, _, rfl, .inr q2⟩

theorem asked_other (H0 H : AH) (h m d : Nat) (ts : List Term) (k : AskT) (l : List (List UInt8)) (a b c : List UInt8) (hl : l.length ≤ 1000000) (ha : k.a.of l = a) (hb : k.b.of l = b) (hc : k.c.of l = c)
    (ha0 : a.length ≤ 100000000) (hb0 : b.length ≤ 100000000) (hc0 : c.length ≤ 100000000) (hka : -9223372036854775808 ≤ k.a.from_ ∧ k.a.from_ < 9223372036854775808) (hkb : -9223372036854775808 ≤ k.b.from_ ∧ k.b.from_ < 9223372036854775808) (hkc : -9223372036854775808 ≤ k.c.from_ ∧ k.c.from_ < 9223372036854775808)
    (hg : GT 1000000 ts) (hd : d ≤ 1000000) (s : SS H0 H h m d ts) (hk : k.kind ≠ 0 ∧ k.kind ≠ 1 ∧ k.kind ≠ 2 ∧ k.kind ≠ 3 ∧ k.kind ≠ 4 ∧ k.kind ≠ 5 ∧ k.kind ≠ 6 ∧ k.kind ≠ 7 ∧ k.kind ≠ 8 ∧ k.kind ≠ 9) : ACalls Try.prog 17 [.ptr h 0, vaultV ts d, .agg (askC k), rowsV l] H
      (AskedR H0 h m d ts []) := by
  have pa := of_pure k.a l hka hl
  have pb := of_pure k.b l hkb hl
  have pc := of_pure k.c l hkc hl
  have oa := own_pure a (by omega)
  have ob := own_pure b (by omega)
  have oc := own_pure c (by omega)
  rw [ha] at pa
  rw [hb] at pb
  rw [hc] at pc
  obtain ⟨kd, n, ⟨fa, ra⟩, ⟨fb, rb⟩, ⟨fc, rc⟩⟩ := k
  simp only [askC] at *
  have e0 : (kd == 0) = false := by simp; omega
  have e1 : (kd == 1) = false := by simp; omega
  have e2 : (kd == 2) = false := by simp; omega
  have e3 : (kd == 3) = false := by simp; omega
  have e4 : (kd == 4) = false := by simp; omega
  have e5 : (kd == 5) = false := by simp; omega
  have e6 : (kd == 6) = false := by simp; omega
  have e7 : (kd == 7) = false := by simp; omega
  have e8 : (kd == 8) = false := by simp; omega
  have e9 : (kd == 9) = false := by simp; omega
  clear ha hb hc hka hkb hkc
  refine acalls_of_cwp (c := ⟨Try.prog, 225, [(1, [0, 1, 0, 0, 0, 1, 0, 0, 0, 1, 0, 0, 0, 0, 0]), (30, [0, 0, 0, 0, 1, 1, 0, 0, 0, 0, 0, 0]), (38, [1, 0, 0, 0, 0, 0, 0, 0, 0, 0, 0, 0, 0, 0, 0, 0, 0, 0, 0, 0, 0, 0, 0, 0, 0, 2, 0, 0, 0]), (1000000, [6]), (1000017, [23]), (4000038, [8, 9, 10, 11]), (4000008, [5, 8, 12, 13, 14, 15, 16, 17, 18, 19, 20]), (4000011, [5, 8, 12, 13, 14, 15, 16, 17, 18, 19, 20]), (4000014, [5, 8, 12, 13, 14, 15, 16, 17, 18, 19, 20]), (4000019, [5, 8, 12, 13, 14, 15, 16, 17, 18, 19, 20]), (4000017, [5, 8, 12, 13, 14, 15, 16, 17, 21, 22, 23, 24, 25]), (4000016, [5, 8, 12, 13, 14, 15, 16, 17, 21, 22]), (4000022, [5, 8, 12, 13, 14, 15, 16, 17, 18, 19, 20]), (4000021, [5, 8, 12, 13, 14, 15, 16, 17, 18, 20]), (4000025, [5, 8, 12, 13, 14, 15, 16, 17, 18, 19, 20]), (4000028, [5, 8, 12, 13, 14, 15, 16, 17, 18, 19, 20]), (4000027, [5, 8, 12, 13, 14, 15, 16, 17, 18, 20]), (4000030, [5, 8, 12, 13, 14, 15, 16, 17, 18, 19, 20]), (4000033, [5, 8, 12, 13, 14, 15, 16, 17, 18, 19, 20]), (4000032, [5, 6, 8, 12, 13, 14, 15, 16, 17, 18, 20]), (4000037, [5, 8, 12, 13, 14, 15, 16, 17, 18, 19, 20]), (4000036, [5, 8, 12, 13, 14, 15, 16, 17, 26, 27, 28, 29]), (4000035, [5, 6, 8, 12, 13, 14, 15, 16, 17, 26, 27]), (4000002, [0, 5, 6, 8, 12, 13, 14, 15, 16, 17]), (4000001, [0, 5, 6, 8, 12, 13, 14]), (4000000, [0, 3, 5, 6, 8])], [], []⟩) (rs := [ResultVar.cell 8 38, ResultVar.tmp 9, ResultVar.tmp 10, ResultVar.tmp 11]) Try.mixed Try.func17 rfl rfl rfl (Nat.le_of_ble_eq_true rfl) (by kernel_rfl) ?_
  simp (disch := omega) only [↓runPre, runPost, fieldO, ixA, cutA, lenA, aggA, rowA, appA, mkA, indA, bnd, srcA, sameOp, funcA, cvO, partA, aggD, ↓PostP, resV, resAll, resOne, resVF, resAllF, resOneF, fitsAll, fitsR, fits, frz, Post, Nat.reduceBEq, Nat.reduceLT, reduceCtorEq, ↓reduceIte, initS, AV.cellsOf, AV.fine, AV.one, repA, Nat.reduceMul, Nat.reduceAdd, Nat.reduceLeDiff, Nat.reduceEqDiff, Int.reduceToNat, Nat.reduceSub, Nat.reduceMod, Nat.reduceDiv, indexK.aggOf, Int.reducePow, Int.reduceLE, Int.reduceNeg, Int.reduceLT, Int.reduceBEq, Int.reduceBNe, Int.reduceEq, ownA, nilA, Try.facts]
  intro k5 hk50 hk5 k6 hk60 hk6 k8 hk80 hk8
  have n68 := set_ne hk8
  have n58 := set_ne (subset_set hk8)
  have hk8H := subset_set (subset_set hk8)
  have n5 := s.sub.free hk5
  have n8 := s.sub.free hk8H
  have s1 := (s.box (o := .cells [.imm 0 (termsC ts) ts.length, .sc (.int .i64 d)] 38 2) hk5).box (o := .cells [.sc (.slice none 0 0), .sc (.int .i64 0)] 38 2) (subset_set hk8)
  simp (disch := omega) only [↓runPre, runPost, fieldO, ixA, cutA, lenA, aggA, rowA, appA, mkA, indA, bnd, srcA, sameOp, funcA, cvO, partA, aggD, ↓PostP, resV, resAll, resOne, resVF, resAllF, resOneF, fitsAll, fitsR, fits, frz, Post, Nat.reduceBEq, Nat.reduceLT, reduceCtorEq, ↓reduceIte, initS, AV.cellsOf, AV.fine, AV.one, repA, Nat.reduceMul, Nat.reduceAdd, Nat.reduceLeDiff, Nat.reduceEqDiff, Int.reduceToNat, Nat.reduceSub, Nat.reduceMod, Nat.reduceDiv, indexK.aggOf, Int.reducePow, Int.reduceLE, Int.reduceNeg, Int.reduceLT, Int.reduceBEq, Int.reduceBNe, Int.reduceEq, ownA, nilA, Try.facts, set_other, kill_under hk6 n68]
  first | refine CallK.p (pa) ?_ | refine CallP.i (pa) ?_
  simp (disch := omega) only [↓runPre, runPost, fieldO, ixA, cutA, lenA, aggA, rowA, appA, mkA, indA, bnd, srcA, sameOp, funcA, cvO, partA, aggD, ↓PostP, resV, resAll, resOne, resVF, resAllF, resOneF, fitsAll, fitsR, fits, frz, Post, Nat.reduceBEq, Nat.reduceLT, reduceCtorEq, ↓reduceIte, initS, AV.cellsOf, AV.fine, AV.one, repA, Nat.reduceMul, Nat.reduceAdd, Nat.reduceLeDiff, Nat.reduceEqDiff, Int.reduceToNat, Nat.reduceSub, Nat.reduceMod, Nat.reduceDiv, indexK.aggOf, Int.reducePow, Int.reduceLE, Int.reduceNeg, Int.reduceLT, Int.reduceBEq, Int.reduceBNe, Int.reduceEq, ownA, nilA, Try.facts]
  first | refine CallK.p (pb) ?_ | refine CallP.i (pb) ?_
  simp (disch := omega) only [↓runPre, runPost, fieldO, ixA, cutA, lenA, aggA, rowA, appA, mkA, indA, bnd, srcA, sameOp, funcA, cvO, partA, aggD, ↓PostP, resV, resAll, resOne, resVF, resAllF, resOneF, fitsAll, fitsR, fits, frz, Post, Nat.reduceBEq, Nat.reduceLT, reduceCtorEq, ↓reduceIte, initS, AV.cellsOf, AV.fine, AV.one, repA, Nat.reduceMul, Nat.reduceAdd, Nat.reduceLeDiff, Nat.reduceEqDiff, Int.reduceToNat, Nat.reduceSub, Nat.reduceMod, Nat.reduceDiv, indexK.aggOf, Int.reducePow, Int.reduceLE, Int.reduceNeg, Int.reduceLT, Int.reduceBEq, Int.reduceBNe, Int.reduceEq, ownA, nilA, Try.facts]
  first | refine CallK.p (pc) ?_ | refine CallP.i (pc) ?_
  simp (disch := omega) only [↓runPre, runPost, fieldO, ixA, cutA, lenA, aggA, rowA, appA, mkA, indA, bnd, srcA, sameOp, funcA, cvO, partA, aggD, ↓PostP, resV, resAll, resOne, resVF, resAllF, resOneF, fitsAll, fitsR, fits, frz, Post, Nat.reduceBEq, Nat.reduceLT, reduceCtorEq, ↓reduceIte, initS, AV.cellsOf, AV.fine, AV.one, repA, Nat.reduceMul, Nat.reduceAdd, Nat.reduceLeDiff, Nat.reduceEqDiff, Int.reduceToNat, Nat.reduceSub, Nat.reduceMod, Nat.reduceDiv, indexK.aggOf, Int.reducePow, Int.reduceLE, Int.reduceNeg, Int.reduceLT, Int.reduceBEq, Int.reduceBNe, Int.reduceEq, ownA, nilA, Try.facts]
  first | refine CallK.p (oa) ?_ | refine CallP.i (oa) ?_
  simp (disch := omega) only [↓runPre, runPost, fieldO, ixA, cutA, lenA, aggA, rowA, appA, mkA, indA, bnd, srcA, sameOp, funcA, cvO, partA, aggD, ↓PostP, resV, resAll, resOne, resVF, resAllF, resOneF, fitsAll, fitsR, fits, frz, Post, Nat.reduceBEq, Nat.reduceLT, reduceCtorEq, ↓reduceIte, initS, AV.cellsOf, AV.fine, AV.one, repA, Nat.reduceMul, Nat.reduceAdd, Nat.reduceLeDiff, Nat.reduceEqDiff, Int.reduceToNat, Nat.reduceSub, Nat.reduceMod, Nat.reduceDiv, indexK.aggOf, Int.reducePow, Int.reduceLE, Int.reduceNeg, Int.reduceLT, Int.reduceBEq, Int.reduceBNe, Int.reduceEq, ownA, nilA, Try.facts]
  first | refine CallK.p (ob) ?_ | refine CallP.i (ob) ?_
  simp (disch := omega) only [↓runPre, runPost, fieldO, ixA, cutA, lenA, aggA, rowA, appA, mkA, indA, bnd, srcA, sameOp, funcA, cvO, partA, aggD, ↓PostP, resV, resAll, resOne, resVF, resAllF, resOneF, fitsAll, fitsR, fits, frz, Post, Nat.reduceBEq, Nat.reduceLT, reduceCtorEq, ↓reduceIte, initS, AV.cellsOf, AV.fine, AV.one, repA, Nat.reduceMul, Nat.reduceAdd, Nat.reduceLeDiff, Nat.reduceEqDiff, Int.reduceToNat, Nat.reduceSub, Nat.reduceMod, Nat.reduceDiv, indexK.aggOf, Int.reducePow, Int.reduceLE, Int.reduceNeg, Int.reduceLT, Int.reduceBEq, Int.reduceBNe, Int.reduceEq, ownA, nilA, Try.facts]
  first | refine CallK.p (oc) ?_ | refine CallP.i (oc) ?_
  simp (disch := omega) only [↓runPre, runPost, fieldO, ixA, cutA, lenA, aggA, rowA, appA, mkA, indA, bnd, srcA, sameOp, funcA, cvO, partA, aggD, ↓PostP, resV, resAll, resOne, resVF, resAllF, resOneF, fitsAll, fitsR, fits, frz, Post, Nat.reduceBEq, Nat.reduceLT, reduceCtorEq, ↓reduceIte, initS, AV.cellsOf, AV.fine, AV.one, repA, Nat.reduceMul, Nat.reduceAdd, Nat.reduceLeDiff, Nat.reduceEqDiff, Int.reduceToNat, Nat.reduceSub, Nat.reduceMod, Nat.reduceDiv, indexK.aggOf, Int.reducePow, Int.reduceLE, Int.reduceNeg, Int.reduceLT, Int.reduceBEq, Int.reduceBNe, Int.reduceEq, ownA, nilA, Try.facts, e0, e1, e2, e3, e4, e5, e6, e7, e8, e9, baToList]
  have s2 := s1
  have l5 := s2.sub k5 _ (by rw [set_other n58, set_get])
  have l8 := s2.sub k8 _ set_get
  simp (disch := omega) only [↓runPre, runPost, fieldO, ixA, cutA, lenA, aggA, rowA, appA, mkA, indA, bnd, srcA, sameOp, funcA, cvO, partA, aggD, ↓PostP, resV, resAll, resOne, resVF, resAllF, resOneF, fitsAll, fitsR, fits, frz, Post, Nat.reduceBEq, Nat.reduceLT, reduceCtorEq, ↓reduceIte, initS, AV.cellsOf, AV.fine, AV.one, repA, Nat.reduceMul, Nat.reduceAdd, Nat.reduceLeDiff, Nat.reduceEqDiff, Int.reduceToNat, Nat.reduceSub, Nat.reduceMod, Nat.reduceDiv, indexK.aggOf, Int.reducePow, Int.reduceLE, Int.reduceNeg, Int.reduceLT, Int.reduceBEq, Int.reduceBNe, Int.reduceEq, ownA, nilA, Try.facts, e0, e1, e2, e3, e4, e5, e6, e7, e8, e9, set_other, l5, l8, putCells_eq, baToList]
  obtain ⟨H9, q1, q2⟩ := asked_end1 s2 n5 n8 n58
  rw [set_set] at q1
  exact ⟨_, rfl, H9, q1, _, rfl, .inl ⟨rfl, rfl, q2⟩⟩
end Go.Proofs.Ytmgbcjnhmgfhkaa
