/-
  Several texts in one: each says what it proves.
  Conditions: none. Lemmas only.
-/
import Derived.Test.YtejncnmdjkhiaaaDoorShaG2
import Derived.Test.YtejncnmdjkhiaaaDoorShaG3
set_option linter.all false
section
set_option linter.unusedSimpArgs false
set_option linter.unusedVariables false
set_option maxRecDepth 20000
namespace Go.Proofs.YtejncnmdjkhiaaaDoor
open Go Go.Abs Go.Proofs Go.Sha
theorem digA_snoc (l : List Nat) (x : Nat) : digA l ++ [.sc (.int .u64 x)] = digA (l ++ [x]) := by simp [digA]
theorem root_lt (p w : Nat) : rootN p w < 18446744073709551616 := Nat.mod_lt _ (by decide)
theorem numbers3_pure (ps : List Nat) (hps : APure Tryd.prog 55 [.sc (.int .i64 64)] (.imm 0 (numsA ps) 64)) (hl : ps.length = 64) (hm : ∀ p ∈ ps,1 ≤ p ∧ p < 65536) : APure Tryd.prog 46 [.sc (.int .i64 64),.sc (.int .i64 3),.sc (.int .i64 32)] (.imm 0 (digA (ps.map fun p => rootN p 3 / 4294967296)) 64) := by
  have hnl := numsA_length ps
  generalize hL : (ps.map fun p => rootN p 3 / 4294967296) = L
  have hLl : L.length = 64 := by rw [← hL,List.length_map,hl]
  refine az (c := ⟨Tryd.prog,34,[],[],[]⟩) (rs := [ResultVar.tmp 6]) Tryd.mixed Tryd.func46 rfl rfl rfl (Nat.le_of_ble_eq_true rfl) (by kernel_rfl) fun H => ?_
  simp (disch := omega) only [↓aI,↓zP,aD,zD,aS,Nat.reduceBEq,Nat.reduceLT,reduceCtorEq,↓reduceIte,Nat.reduceMul,Nat.reduceAdd,Nat.reduceLeDiff,Nat.reduceEqDiff,Int.reduceToNat,Nat.reduceSub,Nat.reduceMod,Nat.reduceDiv,Int.reducePow,Int.reduceLE,Int.reduceNeg,Int.reduceLT,Int.reduceBEq,Int.reduceBNe,Int.reduceEq,Tryd.facts]
  first | refine CallK.p (hps) ?_ | refine CallP.i (hps) ?_
  simp (disch := omega) only [↓aI,↓zP,aD,zD,aS,Nat.reduceBEq,Nat.reduceLT,reduceCtorEq,↓reduceIte,Nat.reduceMul,Nat.reduceAdd,Nat.reduceLeDiff,Nat.reduceEqDiff,Int.reduceToNat,Nat.reduceSub,Nat.reduceMod,Nat.reduceDiv,Int.reducePow,Int.reduceLE,Int.reduceNeg,Int.reduceLT,Int.reduceBEq,Int.reduceBNe,Int.reduceEq,Tryd.facts]
  refine jn 7 (by simp (disch := omega) only [↓aI,↓zP,aD,zD,aS,Nat.reduceBEq,Nat.reduceLT,reduceCtorEq,↓reduceIte,Nat.reduceMul,Nat.reduceAdd,Nat.reduceLeDiff,Nat.reduceEqDiff,Int.reduceToNat,Nat.reduceSub,Nat.reduceMod,Nat.reduceDiv,Int.reducePow,Int.reduceLE,Int.reduceNeg,Int.reduceLT,Int.reduceBEq,Int.reduceBNe,Int.reduceEq,Tryd.facts]) fun k hk0 hk => ?_
  refine br (c := ⟨Tryd.prog,34,[],[],[]⟩) Tryd.mixed (by kernel_rfl) (fun m σ H' => ∃ i : Nat,i + m = 64 ∧ σ 0 = .sc (.int .i64 64) ∧ σ 1 = .sc (.int .i64 3) ∧ σ 2 = .sc (.int .i64 32) ∧ σ 8 = .imm 0 (numsA ps) 64 ∧ σ 9 = .sc (.int .i64 i) ∧ ∃ k o,k ≠ 0 ∧ H k = none ∧ H' = H.set k o ∧ cy 47 1 o i ∧ σ 7 = .imm k (digA (L.take i)) i) 64 ?_ ?_
  · refine ⟨0,by omega,?_⟩
    simp (disch := omega) only [↓aI,↓zP,aD,zD,aS,Nat.reduceBEq,Nat.reduceLT,reduceCtorEq,↓reduceIte,Nat.reduceMul,Nat.reduceAdd,Nat.reduceLeDiff,Nat.reduceEqDiff,Int.reduceToNat,Nat.reduceSub,Nat.reduceMod,Nat.reduceDiv,Int.reducePow,Int.reduceLE,Int.reduceNeg,Int.reduceLT,Int.reduceBEq,Int.reduceBNe,Int.reduceEq,Tryd.facts]
    exact ⟨k,_,hk0,hk,rfl,.inr ⟨rfl,rfl⟩,rfl⟩
  · rintro m σ H' ⟨i,hi,h0,h1,h2,h8,h9,k,o,hk0,hk,rfl,ho,h7⟩
    by_cases hlt : i < 64
    · have hb : decide ((i : Int) < 64) = true := by simp; omega
      have hat := numsA_at (l := ps) (i := i) (by omega)
      obtain ⟨p1,p2⟩ := hm _ (List.getElem_mem (show i < ps.length by omega))
      have hr := root3_pure _ p1 p2
      have hLi : L.take (i + 1) = L.take i ++ [rootN ps[i] 3 / 4294967296] := by rw [List.take_succ_eq_append_getElem (by omega)]; simp [← hL]
      have hrl := root_lt ps[i] 3
      have hwl : IntKind.u64.wrap ((rootN ps[i] 3 / 4294967296 : Nat) : Int) = ((rootN ps[i] 3 / 4294967296 : Nat) : Int) := jw (by omega)
      have htl : (digA (L.take i)).length = i := by rw [digA_length,List.length_take]; omega
      generalize ps[i] = p at *
      generalize rootN p 3 = r at *
      simp (disch := omega) only [↓aI,↓zP,aD,zD,aS,Nat.reduceBEq,Nat.reduceLT,reduceCtorEq,↓reduceIte,Nat.reduceMul,Nat.reduceAdd,Nat.reduceLeDiff,Nat.reduceEqDiff,Int.reduceToNat,Nat.reduceSub,Nat.reduceMod,Nat.reduceDiv,Int.reducePow,Int.reduceLE,Int.reduceNeg,Int.reduceLT,Int.reduceBEq,Int.reduceBNe,Int.reduceEq,Tryd.facts,h0,h1,h2,h8,h9,h7,hb,hat,hnl,hl]
      first | refine CallK.p (hr) ?_ | refine CallP.i (hr) ?_
      simp (disch := omega) only [↓aI,↓zP,aD,zD,aS,Nat.reduceBEq,Nat.reduceLT,reduceCtorEq,↓reduceIte,Nat.reduceMul,Nat.reduceAdd,Nat.reduceLeDiff,Nat.reduceEqDiff,Int.reduceToNat,Nat.reduceSub,Nat.reduceMod,Nat.reduceDiv,Int.reducePow,Int.reduceLE,Int.reduceNeg,Int.reduceLT,Int.reduceBEq,Int.reduceBNe,Int.reduceEq,Tryd.facts,h0,h1,h2,h8,h9,h7,tdivN,hwl,hk0,ho,htl]
      intro k' o' hk0' hk' ho'
      exact ⟨m - 1,by omega,i + 1,by omega,rfl,k',o',hk0',am hk',rfl,by simpa [htl] using ho',by rw [hLi,← digA_snoc]⟩
    · obtain rfl : i = 64 := by omega
      have hb : decide (((64 : Nat) : Int) < 64) = false := by decide
      have hLt : L.take 64 = L := List.take_of_length_le (by omega)
      rw [hLt] at h7
      simp (disch := omega) only [↓aI,↓zP,aD,zD,aS,Nat.reduceBEq,Nat.reduceLT,reduceCtorEq,↓reduceIte,Nat.reduceMul,Nat.reduceAdd,Nat.reduceLeDiff,Nat.reduceEqDiff,Int.reduceToNat,Nat.reduceSub,Nat.reduceMod,Nat.reduceDiv,Int.reducePow,Int.reduceLE,Int.reduceNeg,Int.reduceLT,Int.reduceBEq,Int.reduceBNe,Int.reduceEq,Tryd.facts,h0,h1,h2,h8,h9,h7,hb,hnl,hl]
      first | exact Sub.set_new hk | trace_state
theorem numbers2_pure (ps : List Nat) (hps : APure Tryd.prog 55 [.sc (.int .i64 8)] (.imm 0 (numsA ps) 8)) (hl : ps.length = 8) (hm : ∀ p ∈ ps,1 ≤ p ∧ p < 65536) : APure Tryd.prog 46 [.sc (.int .i64 8),.sc (.int .i64 2),.sc (.int .i64 32)] (.imm 0 (digA (ps.map fun p => rootN p 2 / 4294967296)) 8) := by
  have hnl := numsA_length ps
  generalize hL : (ps.map fun p => rootN p 2 / 4294967296) = L
  have hLl : L.length = 8 := by rw [← hL,List.length_map,hl]
  refine az (c := ⟨Tryd.prog,34,[],[],[]⟩) (rs := [ResultVar.tmp 6]) Tryd.mixed Tryd.func46 rfl rfl rfl (Nat.le_of_ble_eq_true rfl) (by kernel_rfl) fun H => ?_
  simp (disch := omega) only [↓aI,↓zP,aD,zD,aS,Nat.reduceBEq,Nat.reduceLT,reduceCtorEq,↓reduceIte,Nat.reduceMul,Nat.reduceAdd,Nat.reduceLeDiff,Nat.reduceEqDiff,Int.reduceToNat,Nat.reduceSub,Nat.reduceMod,Nat.reduceDiv,Int.reducePow,Int.reduceLE,Int.reduceNeg,Int.reduceLT,Int.reduceBEq,Int.reduceBNe,Int.reduceEq,Tryd.facts]
  first | refine CallK.p (hps) ?_ | refine CallP.i (hps) ?_
  simp (disch := omega) only [↓aI,↓zP,aD,zD,aS,Nat.reduceBEq,Nat.reduceLT,reduceCtorEq,↓reduceIte,Nat.reduceMul,Nat.reduceAdd,Nat.reduceLeDiff,Nat.reduceEqDiff,Int.reduceToNat,Nat.reduceSub,Nat.reduceMod,Nat.reduceDiv,Int.reducePow,Int.reduceLE,Int.reduceNeg,Int.reduceLT,Int.reduceBEq,Int.reduceBNe,Int.reduceEq,Tryd.facts]
  refine jn 7 (by simp (disch := omega) only [↓aI,↓zP,aD,zD,aS,Nat.reduceBEq,Nat.reduceLT,reduceCtorEq,↓reduceIte,Nat.reduceMul,Nat.reduceAdd,Nat.reduceLeDiff,Nat.reduceEqDiff,Int.reduceToNat,Nat.reduceSub,Nat.reduceMod,Nat.reduceDiv,Int.reducePow,Int.reduceLE,Int.reduceNeg,Int.reduceLT,Int.reduceBEq,Int.reduceBNe,Int.reduceEq,Tryd.facts]) fun k hk0 hk => ?_
  refine br (c := ⟨Tryd.prog,34,[],[],[]⟩) Tryd.mixed (by kernel_rfl) (fun m σ H' => ∃ i : Nat,i + m = 8 ∧ σ 0 = .sc (.int .i64 8) ∧ σ 1 = .sc (.int .i64 2) ∧ σ 2 = .sc (.int .i64 32) ∧ σ 8 = .imm 0 (numsA ps) 8 ∧ σ 9 = .sc (.int .i64 i) ∧ ∃ k o,k ≠ 0 ∧ H k = none ∧ H' = H.set k o ∧ cy 47 1 o i ∧ σ 7 = .imm k (digA (L.take i)) i) 8 ?_ ?_
  · refine ⟨0,by omega,?_⟩
    simp (disch := omega) only [↓aI,↓zP,aD,zD,aS,Nat.reduceBEq,Nat.reduceLT,reduceCtorEq,↓reduceIte,Nat.reduceMul,Nat.reduceAdd,Nat.reduceLeDiff,Nat.reduceEqDiff,Int.reduceToNat,Nat.reduceSub,Nat.reduceMod,Nat.reduceDiv,Int.reducePow,Int.reduceLE,Int.reduceNeg,Int.reduceLT,Int.reduceBEq,Int.reduceBNe,Int.reduceEq,Tryd.facts]
    exact ⟨k,_,hk0,hk,rfl,.inr ⟨rfl,rfl⟩,rfl⟩
  · rintro m σ H' ⟨i,hi,h0,h1,h2,h8,h9,k,o,hk0,hk,rfl,ho,h7⟩
    by_cases hlt : i < 8
    · have hb : decide ((i : Int) < 8) = true := by simp; omega
      have hat := numsA_at (l := ps) (i := i) (by omega)
      obtain ⟨p1,p2⟩ := hm _ (List.getElem_mem (show i < ps.length by omega))
      have hr := root2_pure _ p1 p2
      have hLi : L.take (i + 1) = L.take i ++ [rootN ps[i] 2 / 4294967296] := by rw [List.take_succ_eq_append_getElem (by omega)]; simp [← hL]
      have hrl := root_lt ps[i] 2
      have hwl : IntKind.u64.wrap ((rootN ps[i] 2 / 4294967296 : Nat) : Int) = ((rootN ps[i] 2 / 4294967296 : Nat) : Int) := jw (by omega)
      have htl : (digA (L.take i)).length = i := by rw [digA_length,List.length_take]; omega
      generalize ps[i] = p at *
      generalize rootN p 2 = r at *
      simp (disch := omega) only [↓aI,↓zP,aD,zD,aS,Nat.reduceBEq,Nat.reduceLT,reduceCtorEq,↓reduceIte,Nat.reduceMul,Nat.reduceAdd,Nat.reduceLeDiff,Nat.reduceEqDiff,Int.reduceToNat,Nat.reduceSub,Nat.reduceMod,Nat.reduceDiv,Int.reducePow,Int.reduceLE,Int.reduceNeg,Int.reduceLT,Int.reduceBEq,Int.reduceBNe,Int.reduceEq,Tryd.facts,h0,h1,h2,h8,h9,h7,hb,hat,hnl,hl]
      first | refine CallK.p (hr) ?_ | refine CallP.i (hr) ?_
      simp (disch := omega) only [↓aI,↓zP,aD,zD,aS,Nat.reduceBEq,Nat.reduceLT,reduceCtorEq,↓reduceIte,Nat.reduceMul,Nat.reduceAdd,Nat.reduceLeDiff,Nat.reduceEqDiff,Int.reduceToNat,Nat.reduceSub,Nat.reduceMod,Nat.reduceDiv,Int.reducePow,Int.reduceLE,Int.reduceNeg,Int.reduceLT,Int.reduceBEq,Int.reduceBNe,Int.reduceEq,Tryd.facts,h0,h1,h2,h8,h9,h7,tdivN,hwl,hk0,ho,htl]
      intro k' o' hk0' hk' ho'
      exact ⟨m - 1,by omega,i + 1,by omega,rfl,k',o',hk0',am hk',rfl,by simpa [htl] using ho',by rw [hLi,← digA_snoc]⟩
    · obtain rfl : i = 8 := by omega
      have hb : decide (((8 : Nat) : Int) < 8) = false := by decide
      have hLt : L.take 8 = L := List.take_of_length_le (by omega)
      rw [hLt] at h7
      simp (disch := omega) only [↓aI,↓zP,aD,zD,aS,Nat.reduceBEq,Nat.reduceLT,reduceCtorEq,↓reduceIte,Nat.reduceMul,Nat.reduceAdd,Nat.reduceLeDiff,Nat.reduceEqDiff,Int.reduceToNat,Nat.reduceSub,Nat.reduceMod,Nat.reduceDiv,Int.reducePow,Int.reduceLE,Int.reduceNeg,Int.reduceLT,Int.reduceBEq,Int.reduceBNe,Int.reduceEq,Tryd.facts,h0,h1,h2,h8,h9,h7,hb,hnl,hl]
      first | exact Sub.set_new hk | trace_state
end Go.Proofs.YtejncnmdjkhiaaaDoor
end
section
set_option linter.unusedSimpArgs false
set_option linter.unusedVariables false
set_option maxRecDepth 20000
set_option maxHeartbeats 4000000
namespace Go.Proofs.YtejncnmdjkhiaaaDoor
open Go Go.Abs Go.Proofs Go.Sha
theorem prims {N p : Nat} (hN : N ≤ 400) (h : p ∈ primM N) : 1 ≤ p ∧ p < 65536 := by
  have := prim_mem h
  omega
theorem keys_pure : APure Tryd.prog 46 [.sc (.int .i64 64),.sc (.int .i64 3),.sc (.int .i64 32)] (.imm 0 (digA keys256) 64) := by
  have h := numbers3_pure (primM 310) (primes_pure 64 310 (by omega) (by omega) prim_64 fun k hk => by
    have := prim_le (show k ≤ 309 by omega)
    rw [prim_lt_64] at this
    omega) prim_64 (fun p => prims (by omega))
  rwa [keys_eq] at h
theorem firsts_pure : APure Tryd.prog 46 [.sc (.int .i64 8),.sc (.int .i64 2),.sc (.int .i64 32)] (.imm 0 (digA first256) 8) := by
  have h := numbers2_pure (primM 18) (primes_pure 8 18 (by omega) (by omega) prim_8 fun k hk => by
    have := prim_le (show k ≤ 17 by omega)
    rw [prim_lt_8] at this
    omega) prim_8 (fun p => prims (by omega))
  rwa [first_eq] at h
abbrev KS : AV := .imm 0 (digA keys256) 64
abbrev FS : AV := .imm 0 (digA first256) 8
abbrev kindS : AV := kindV KS FS
theorem small_pure : APure Tryd.prog 33 [] kindS := by
  have h1 := keys_pure
  have h2 := firsts_pure
  unfold kindS kindV KS FS
  generalize digA keys256 = ks at *
  generalize digA first256 = fs at *
  refine az (c := ⟨Tryd.prog,8,[],[],[]⟩) (rs := [ResultVar.cell 0 56]) Tryd.mixed Tryd.func33 rfl rfl rfl (Nat.le_of_ble_eq_true rfl) (by kernel_rfl) fun H => ?_
  simp (disch := omega) only [↓aI,↓zP,aD,zD,aS,Nat.reduceBEq,Nat.reduceLT,reduceCtorEq,↓reduceIte,Nat.reduceMul,Nat.reduceAdd,Nat.reduceLeDiff,Nat.reduceEqDiff,Int.reduceToNat,Nat.reduceSub,Nat.reduceMod,Nat.reduceDiv,Int.reducePow,Int.reduceLE,Int.reduceNeg,Int.reduceLT,Int.reduceBEq,Int.reduceBNe,Int.reduceEq,Tryd.facts]
  intro k hk0 hk
  first | refine CallK.p (h1) ?_ | refine CallP.i (h1) ?_
  simp (disch := omega) only [↓aI,↓zP,aD,zD,aS,Nat.reduceBEq,Nat.reduceLT,reduceCtorEq,↓reduceIte,Nat.reduceMul,Nat.reduceAdd,Nat.reduceLeDiff,Nat.reduceEqDiff,Int.reduceToNat,Nat.reduceSub,Nat.reduceMod,Nat.reduceDiv,Int.reducePow,Int.reduceLE,Int.reduceNeg,Int.reduceLT,Int.reduceBEq,Int.reduceBNe,Int.reduceEq,Tryd.facts]
  first | refine CallK.p (h2) ?_ | refine CallP.i (h2) ?_
  simp (disch := omega) only [↓aI,↓zP,aD,zD,aS,Nat.reduceBEq,Nat.reduceLT,reduceCtorEq,↓reduceIte,Nat.reduceMul,Nat.reduceAdd,Nat.reduceLeDiff,Nat.reduceEqDiff,Int.reduceToNat,Nat.reduceSub,Nat.reduceMod,Nat.reduceDiv,Int.reducePow,Int.reduceLE,Int.reduceNeg,Int.reduceLT,Int.reduceBEq,Int.reduceBNe,Int.reduceEq,Tryd.facts,ah]
  first | exact Sub.set_new hk | exact Sub.box hk | trace_state
def wpM (b : List UInt8) (t : Nat) : Nat → Nat
  | 0 => 0
  | i + 1 => wpM b t i * 256 + (b.getD (t * 4 + i) 0).toNat
theorem wpM_lt (b : List UInt8) (t : Nat) : ∀ i,wpM b t i < 256 ^ i
  | 0 => by simp [wpM]
  | i + 1 => by
    have h1 := wpM_lt b t i
    have h2 := (b.getD (t * 4 + i) 0).toNat_lt
    rw [wpM,Nat.pow_succ]
    omega
theorem wpM_four (b : List UInt8) (t : Nat) : wpM b t 4 = wordM b t := by simp [wpM,wordM]
theorem wl_first (b : List UInt8) {t : Nat} (h : t < 16) : wlM b (t + 1) = wlM b t ++ [wordM b t] := by rw [wlM,if_pos h]
theorem wl_next (b : List UInt8) {t : Nat} (h : ¬ t < 16) : wlM b (t + 1) = wlM b t ++ [nextM (wlM b t) t] := by rw [wlM,if_neg h]
theorem wl_get_lt (b : List UInt8) (t i : Nat) : (wlM b t).getD i 0 < 4294967296 := by
  by_cases h : i < (wlM b t).length
  · simp only [List.getD,List.getElem?_eq_getElem h,Option.getD_some]
    exact wlM_lt b t _ (List.getElem_mem h)
  · simp only [List.getD,List.getElem?_eq_none (Nat.le_of_not_lt h),Option.getD_none]
    decide
theorem words_pure (b : List UInt8) (hbl : b.length = 64) : APure Tryd.prog 57 [kindS,.imm 0 (bw b) 64] (.imm 0 (digA (wlM b 64)) 64) := by
  have hcut := fun x hx => cut_pure (digA keys256) (digA first256) 64 8 x hx
  have hs1 := fun x hx => dshifted_pure (digA keys256) (digA first256) 64 8 x 17 19 10 hx (by omega) (by omega) (by omega)
  have hs2 := fun x hx => dshifted_pure (digA keys256) (digA first256) 64 8 x 7 18 3 hx (by omega) (by omega) (by omega)
  have hel := gz b
  unfold kindS KS FS
  generalize digA keys256 = ks at *
  generalize digA first256 = fs at *
  unfold kindV by3 at *
  refine az (c := ⟨Tryd.prog,82,[(15,[0,1,1,0,0,0,0,1,0,1,0,0,0,0,0,1,0,1,0,0,0,0,1,0,1,0,0,0,0,0,0,1,0,0,0,2,0]),(1000000,[2]),(4000015,[2,5,10]),(4000011,[1,2,5,6,7]),(4000010,[1,2,5,6,7,8,9])],[],[]⟩) (rs := [ResultVar.tmp 4]) Tryd.mixed Tryd.func57 rfl rfl rfl (Nat.le_of_ble_eq_true rfl) (by kernel_rfl) fun H => ?_
  simp (disch := omega) only [↓aI,↓zP,aD,zD,aS,Nat.reduceBEq,Nat.reduceLT,reduceCtorEq,↓reduceIte,Nat.reduceMul,Nat.reduceAdd,Nat.reduceLeDiff,Nat.reduceEqDiff,Int.reduceToNat,Nat.reduceSub,Nat.reduceMod,Nat.reduceDiv,Int.reducePow,Int.reduceLE,Int.reduceNeg,Int.reduceLT,Int.reduceBEq,Int.reduceBNe,Int.reduceEq,Tryd.facts]
  intro k hk0 hk
  refine jn 5 (by simp (disch := omega) only [↓aI,↓zP,aD,zD,aS,Nat.reduceBEq,Nat.reduceLT,reduceCtorEq,↓reduceIte,Nat.reduceMul,Nat.reduceAdd,Nat.reduceLeDiff,Nat.reduceEqDiff,Int.reduceToNat,Nat.reduceSub,Nat.reduceMod,Nat.reduceDiv,Int.reducePow,Int.reduceLE,Int.reduceNeg,Int.reduceLT,Int.reduceBEq,Int.reduceBNe,Int.reduceEq,Tryd.facts]) fun kt hkt0 hkt => ?_
  refine br (c := ⟨Tryd.prog,82,[(15,[0,1,1,0,0,0,0,1,0,1,0,0,0,0,0,1,0,1,0,0,0,0,1,0,1,0,0,0,0,0,0,1,0,0,0,2,0]),(1000000,[2]),(4000015,[2,5,10]),(4000011,[1,2,5,6,7]),(4000010,[1,2,5,6,7,8,9])],[],[]⟩) Tryd.mixed (by kernel_rfl) (fun m σ H' => ∃ t : Nat,t + m = 16 ∧ σ 1 = .imm 0 (bw b) 64 ∧ σ 2 = .ip (AV.cellsOf (kindV (.imm 0 ks 64) (.imm 0 fs 8))) 0 ∧ σ 6 = .sc (.int .i64 4) ∧ σ 7 = .sc (.int .i64 t) ∧ ∃ k o,k ≠ 0 ∧ H k = none ∧ H' = H.set k o ∧ cy 47 1 o t ∧ σ 5 = .imm k (digA (wlM b t)) t) 16 ?_ ?_
  · refine ⟨0,by omega,?_⟩
    simp (disch := omega) only [↓aI,↓zP,aD,zD,aS,Nat.reduceBEq,Nat.reduceLT,reduceCtorEq,↓reduceIte,Nat.reduceMul,Nat.reduceAdd,Nat.reduceLeDiff,Nat.reduceEqDiff,Int.reduceToNat,Nat.reduceSub,Nat.reduceMod,Nat.reduceDiv,Int.reducePow,Int.reduceLE,Int.reduceNeg,Int.reduceLT,Int.reduceBEq,Int.reduceBNe,Int.reduceEq,Tryd.facts,aj hk,kindV]
    rw [ef hk] at hkt
    exact ⟨rfl,kt,_,hkt0,hkt,rfl,.inr ⟨rfl,rfl⟩,rfl⟩
  · rintro m σ H' ⟨t,ht,h1,h2,h6,h7,k,o,hk0,hk,rfl,ho,h5⟩
    have hwl := wlM_len b t
    have htl : (digA (wlM b t)).length = t := by rw [digA_length,hwl]
    by_cases hlt : t < 16
    · have hb : decide ((t : Int) < 16) = true := by simp; omega
      simp (disch := omega) only [↓aI,↓zP,aD,zD,aS,Nat.reduceBEq,Nat.reduceLT,reduceCtorEq,↓reduceIte,Nat.reduceMul,Nat.reduceAdd,Nat.reduceLeDiff,Nat.reduceEqDiff,Int.reduceToNat,Nat.reduceSub,Nat.reduceMod,Nat.reduceDiv,Int.reducePow,Int.reduceLE,Int.reduceNeg,Int.reduceLT,Int.reduceBEq,Int.reduceBNe,Int.reduceEq,Tryd.facts,h1,h2,h6,h7,h5,hb]
      refine br (c := ⟨Tryd.prog,82,[(15,[0,1,1,0,0,0,0,1,0,1,0,0,0,0,0,1,0,1,0,0,0,0,1,0,1,0,0,0,0,0,0,1,0,0,0,2,0]),(1000000,[2]),(4000015,[2,5,10]),(4000011,[1,2,5,6,7]),(4000010,[1,2,5,6,7,8,9])],[],[]⟩) Tryd.mixed (by kernel_rfl) (fun m2 σ2 H2 => ∃ i : Nat,i + m2 = 4 ∧ σ2 1 = .imm 0 (bw b) 64 ∧ σ2 2 = .ip (AV.cellsOf (kindV (.imm 0 ks 64) (.imm 0 fs 8))) 0 ∧ σ2 6 = .sc (.int .i64 4) ∧ σ2 7 = .sc (.int .i64 t) ∧ H2 = H.set k o ∧ σ2 5 = .imm k (digA (wlM b t)) t ∧ σ2 9 = .sc (.int .i64 i) ∧ σ2 8 = .sc (.int .u64 (wpM b t i : Nat))) 4 ?_ ?_
      · refine ⟨0,by omega,?_⟩
        simp (disch := omega) only [↓aI,↓zP,aD,zD,aS,Nat.reduceBEq,Nat.reduceLT,reduceCtorEq,↓reduceIte,Nat.reduceMul,Nat.reduceAdd,Nat.reduceLeDiff,Nat.reduceEqDiff,Int.reduceToNat,Nat.reduceSub,Nat.reduceMod,Nat.reduceDiv,Int.reducePow,Int.reduceLE,Int.reduceNeg,Int.reduceLT,Int.reduceBEq,Int.reduceBNe,Int.reduceEq,Tryd.facts,h1,h2,h6,h7,h5]
        rfl
      · rintro m2 σ2 H2 ⟨i,hi,g1,g2,g6,g7,rfl,g5,g9,g8⟩
        by_cases hil : i < 4
        · have hb2 : decide ((i : Int) < 4) = true := by simp; omega
          have hat := encB_get (l := b) (i := t * 4 + i) (by omega)
          have hw1 : IntKind.i64.wrap ((t : Int) * 4) = ((t * 4 : Nat) : Int) := by rw [iw (by omega)]; omega
          have hw2 : IntKind.i64.wrap (((t * 4 : Nat) : Int) + (i : Int)) = ((t * 4 + i : Nat) : Int) := by rw [iw (by omega)]; omega
          have hpl := wpM_lt b t i
          have hpp : 256 ^ i ≤ 16777216 := Nat.le_trans (Nat.pow_le_pow_right (by decide) (show i ≤ 3 by omega)) (by decide)
          have hps : wpM b t (i + 1) = wpM b t i * 256 + (b.getD (t * 4 + i) 0).toNat := rfl
          have hx := (b.getD (t * 4 + i) 0).toNat_lt
          generalize (b.getD (t * 4 + i) 0).toNat = x at *
          generalize wpM b t i = z at *
          have hw3 : IntKind.u64.wrap ((z : Int) * 256) = ((z * 256 : Nat) : Int) := umul64n (n := 256) (by show z * 256 < _; omega)
          have hw4 : IntKind.u64.wrap (x : Int) = (x : Int) := jw (by omega)
          have hw5 : IntKind.u64.wrap (((z * 256 : Nat) : Int) + (x : Int)) = ((z * 256 + x : Nat) : Int) := uadd64 (by omega)
          simp (disch := omega) only [↓aI,↓zP,aD,zD,aS,Nat.reduceBEq,Nat.reduceLT,reduceCtorEq,↓reduceIte,Nat.reduceMul,Nat.reduceAdd,Nat.reduceLeDiff,Nat.reduceEqDiff,Int.reduceToNat,Nat.reduceSub,Nat.reduceMod,Nat.reduceDiv,Int.reducePow,Int.reduceLE,Int.reduceNeg,Int.reduceLT,Int.reduceBEq,Int.reduceBNe,Int.reduceEq,Tryd.facts,g1,g2,g6,g7,g5,g9,g8,hb2,hw1,hw2,hw3,hw4,hw5,hat,hel]
          exact ⟨m2 - 1,by omega,i + 1,by omega,rfl,by rw [hps]⟩
        · obtain rfl : i = 4 := by omega
          have hb2 : decide (((4 : Nat) : Int) < 4) = false := by decide
          rw [wpM_four] at g8
          simp (disch := omega) only [↓aI,↓zP,aD,zD,aS,Nat.reduceBEq,Nat.reduceLT,reduceCtorEq,↓reduceIte,Nat.reduceMul,Nat.reduceAdd,Nat.reduceLeDiff,Nat.reduceEqDiff,Int.reduceToNat,Nat.reduceSub,Nat.reduceMod,Nat.reduceDiv,Int.reducePow,Int.reduceLE,Int.reduceNeg,Int.reduceLT,Int.reduceBEq,Int.reduceBNe,Int.reduceEq,Tryd.facts,g1,g2,g6,g7,g5,g9,g8,hb2,hk0,ho,htl]
          intro k' o' hk0' hk' ho'
          exact ⟨m - 1,by omega,t + 1,by omega,rfl,k',o',hk0',am hk',rfl,by simpa [htl] using ho',by rw [wl_first b hlt,← digA_snoc]⟩
    · obtain rfl : t = 16 := by omega
      have hb : decide (((16 : Nat) : Int) < 16) = false := by decide
      simp (disch := omega) only [↓aI,↓zP,aD,zD,aS,Nat.reduceBEq,Nat.reduceLT,reduceCtorEq,↓reduceIte,Nat.reduceMul,Nat.reduceAdd,Nat.reduceLeDiff,Nat.reduceEqDiff,Int.reduceToNat,Nat.reduceSub,Nat.reduceMod,Nat.reduceDiv,Int.reducePow,Int.reduceLE,Int.reduceNeg,Int.reduceLT,Int.reduceBEq,Int.reduceBNe,Int.reduceEq,Tryd.facts,h1,h2,h6,h7,h5,hb]
      refine br (c := ⟨Tryd.prog,82,[(15,[0,1,1,0,0,0,0,1,0,1,0,0,0,0,0,1,0,1,0,0,0,0,1,0,1,0,0,0,0,0,0,1,0,0,0,2,0]),(1000000,[2]),(4000015,[2,5,10]),(4000011,[1,2,5,6,7]),(4000010,[1,2,5,6,7,8,9])],[],[]⟩) Tryd.mixed (by kernel_rfl) (fun m2 σ2 H2 => ∃ t : Nat,t + m2 = 64 ∧ 16 ≤ t ∧ σ2 2 = .ip (AV.cellsOf (kindV (.imm 0 ks 64) (.imm 0 fs 8))) 0 ∧ σ2 10 = .sc (.int .i64 t) ∧ ∃ k o,k ≠ 0 ∧ H k = none ∧ H2 = H.set k o ∧ cy 47 1 o t ∧ σ2 5 = .imm k (digA (wlM b t)) t) 48 ?_ ?_
      · refine ⟨16,by omega,by omega,?_⟩
        simp (disch := omega) only [↓aI,↓zP,aD,zD,aS,Nat.reduceBEq,Nat.reduceLT,reduceCtorEq,↓reduceIte,Nat.reduceMul,Nat.reduceAdd,Nat.reduceLeDiff,Nat.reduceEqDiff,Int.reduceToNat,Nat.reduceSub,Nat.reduceMod,Nat.reduceDiv,Int.reducePow,Int.reduceLE,Int.reduceNeg,Int.reduceLT,Int.reduceBEq,Int.reduceBNe,Int.reduceEq,Tryd.facts,h1,h2,h6,h7,h5]
        exact ⟨k,o,hk0,hk,rfl,ho,rfl⟩
      · rintro m2 σ2 H2 ⟨t,ht2,h16,g2,g10,k,o,hk0,hk,rfl,ho,g5⟩
        clear hwl htl
        have hwl := wlM_len b t
        have htl : (digA (wlM b t)).length = t := by rw [digA_length,hwl]
        by_cases hlt : t < 64
        · have hb : decide ((t : Int) < 64) = true := by simp; omega
          have w1 : IntKind.i64.wrap ((t : Int) - 2) = ((t - 2 : Nat) : Int) := by rw [iw (by omega)]; omega
          have w2 : IntKind.i64.wrap ((t : Int) - 7) = ((t - 7 : Nat) : Int) := by rw [iw (by omega)]; omega
          have w3 : IntKind.i64.wrap ((t : Int) - 15) = ((t - 15 : Nat) : Int) := by rw [iw (by omega)]; omega
          have w4 : IntKind.i64.wrap ((t : Int) - 16) = ((t - 16 : Nat) : Int) := by rw [iw (by omega)]; omega
          have a1 := digA_at (l := wlM b t) (i := t - 2) (by omega)
          have a2 := digA_at (l := wlM b t) (i := t - 7) (by omega)
          have a3 := digA_at (l := wlM b t) (i := t - 15) (by omega)
          have a4 := digA_at (l := wlM b t) (i := t - 16) (by omega)
          have hnx := wl_next b (show ¬ t < 16 by omega)
          have b1 := wl_get_lt b t (t - 2)
          have b2 := wl_get_lt b t (t - 7)
          have b3 := wl_get_lt b t (t - 15)
          have b4 := wl_get_lt b t (t - 16)
          unfold nextM sumM at hnx
          generalize (wlM b t).getD (t - 2) 0 = x1 at *
          generalize (wlM b t).getD (t - 7) 0 = x2 at *
          generalize (wlM b t).getD (t - 15) 0 = x3 at *
          generalize (wlM b t).getD (t - 16) 0 = x4 at *
          have c1 := hs1 x1 b1
          have c2 := hs2 x3 b3
          have s1 : shfM 32 x1 17 19 10 < 4294967296 := shf_lt (w := 32) b1 (by omega) (by omega)
          have s2 : shfM 32 x3 7 18 3 < 4294967296 := shf_lt (w := 32) b3 (by omega) (by omega)
          generalize shfM 32 x1 17 19 10 = y1 at *
          generalize shfM 32 x3 7 18 3 = y3 at *
          have e1 : IntKind.u64.wrap ((y1 : Int) + (x2 : Int)) = ((y1 + x2 : Nat) : Int) := uadd64 (by omega)
          have e2 : IntKind.u64.wrap (((y1 + x2 : Nat) : Int) + (y3 : Int)) = ((y1 + x2 + y3 : Nat) : Int) := uadd64 (by omega)
          have e3 : IntKind.u64.wrap (((y1 + x2 + y3 : Nat) : Int) + (x4 : Int)) = ((y1 + x2 + y3 + x4 : Nat) : Int) := uadd64 (by omega)
          have c3 := hcut (y1 + x2 + y3 + x4) (by omega)
          simp (disch := omega) only [↓aI,↓zP,aD,zD,aS,Nat.reduceBEq,Nat.reduceLT,reduceCtorEq,↓reduceIte,Nat.reduceMul,Nat.reduceAdd,Nat.reduceLeDiff,Nat.reduceEqDiff,Int.reduceToNat,Nat.reduceSub,Nat.reduceMod,Nat.reduceDiv,Int.reducePow,Int.reduceLE,Int.reduceNeg,Int.reduceLT,Int.reduceBEq,Int.reduceBNe,Int.reduceEq,Tryd.facts,g2,g10,g5,hb,kindV,w1,w2,w3,w4,a1,a2,a3,a4,htl]
          first | refine CallK.p (c1) ?_ | refine CallP.i (c1) ?_
          simp (disch := omega) only [↓aI,↓zP,aD,zD,aS,Nat.reduceBEq,Nat.reduceLT,reduceCtorEq,↓reduceIte,Nat.reduceMul,Nat.reduceAdd,Nat.reduceLeDiff,Nat.reduceEqDiff,Int.reduceToNat,Nat.reduceSub,Nat.reduceMod,Nat.reduceDiv,Int.reducePow,Int.reduceLE,Int.reduceNeg,Int.reduceLT,Int.reduceBEq,Int.reduceBNe,Int.reduceEq,Tryd.facts,g2,g10,g5,kindV,w1,w2,w3,w4,a1,a2,a3,a4,htl,e1]
          first | refine CallK.p (c2) ?_ | refine CallP.i (c2) ?_
          simp (disch := omega) only [↓aI,↓zP,aD,zD,aS,Nat.reduceBEq,Nat.reduceLT,reduceCtorEq,↓reduceIte,Nat.reduceMul,Nat.reduceAdd,Nat.reduceLeDiff,Nat.reduceEqDiff,Int.reduceToNat,Nat.reduceSub,Nat.reduceMod,Nat.reduceDiv,Int.reducePow,Int.reduceLE,Int.reduceNeg,Int.reduceLT,Int.reduceBEq,Int.reduceBNe,Int.reduceEq,Tryd.facts,g2,g10,g5,kindV,w1,w2,w3,w4,a1,a2,a3,a4,htl,e1,e2,e3]
          first | refine CallK.p (c3) ?_ | refine CallP.i (c3) ?_
          simp (disch := omega) only [↓aI,↓zP,aD,zD,aS,Nat.reduceBEq,Nat.reduceLT,reduceCtorEq,↓reduceIte,Nat.reduceMul,Nat.reduceAdd,Nat.reduceLeDiff,Nat.reduceEqDiff,Int.reduceToNat,Nat.reduceSub,Nat.reduceMod,Nat.reduceDiv,Int.reducePow,Int.reduceLE,Int.reduceNeg,Int.reduceLT,Int.reduceBEq,Int.reduceBNe,Int.reduceEq,Tryd.facts,g2,g10,g5,hk0,ho,htl]
          intro k' o' hk0' hk' ho'
          exact ⟨m2 - 1,by omega,t + 1,by omega,by omega,rfl,rfl,k',o',hk0',am hk',rfl,by simpa [htl] using ho',by rw [hnx,← digA_snoc]⟩
        · obtain rfl : t = 64 := by omega
          have hb : decide (((64 : Nat) : Int) < 64) = false := by decide
          simp (disch := omega) only [↓aI,↓zP,aD,zD,aS,Nat.reduceBEq,Nat.reduceLT,reduceCtorEq,↓reduceIte,Nat.reduceMul,Nat.reduceAdd,Nat.reduceLeDiff,Nat.reduceEqDiff,Int.reduceToNat,Nat.reduceSub,Nat.reduceMod,Nat.reduceDiv,Int.reducePow,Int.reduceLE,Int.reduceNeg,Int.reduceLT,Int.reduceBEq,Int.reduceBNe,Int.reduceEq,Tryd.facts,g2,g10,g5,hb,kindV]
          first | exact Sub.set_new hk | trace_state
end Go.Proofs.YtejncnmdjkhiaaaDoor
end
