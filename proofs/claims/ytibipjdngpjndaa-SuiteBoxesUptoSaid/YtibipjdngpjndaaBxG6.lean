/-
  Several texts in one: each says what it proves.
  Conditions: none. Lemmas only.
-/
import Derived.Test.YtibipjdngpjndaaBxG5
import Derived.Test.YtibipjdngpjndaaSuiG1
set_option linter.all false
section
set_option linter.unusedSimpArgs false
set_option linter.unusedVariables false
set_option maxRecDepth 20000
set_option maxHeartbeats 4000000
namespace Go.Proofs.Ytibipjdngpjndaa
open Go Go.Abs Go.Proofs Go.Box
theorem filled_raw (H : AH) (b : List UInt8) (hb : b.length ≤ 10000000) : ACalls Try.prog 29 [eu b] H fun v H' => ∃ k o,k ≠ 0 ∧ H k = none ∧ v = .imm k (bw (b ++ fillM b.length)) (b ++ fillM b.length).length ∧ cy 5 1 o (b ++ fillM b.length).length ∧ H' k = some o ∧ Abs.Sub H H' := by
  have hel := gz b
  unfold eu
  have hfl : (b ++ fillM b.length).length = b.length + (16 - b.length % 16) % 16 := by simp [fillM]
  rw [hfl]
  refine acalls_raw (c := ⟨Try.prog,15,[],[4],[]⟩) (t := 2) Try.mixed Try.func29 rfl rfl rfl (Nat.le_of_ble_eq_true rfl) (by kernel_rfl) ?_
  simp (disch := omega) only [↓aI,↓zP,aD,zD,aS0,Nat.reduceBEq,Nat.reduceLT,reduceCtorEq,↓reduceIte,Nat.reduceMul,Nat.reduceAdd,Nat.reduceLeDiff,Nat.reduceEqDiff,Int.reduceToNat,Nat.reduceSub,Nat.reduceMod,Nat.reduceDiv,Int.reducePow,Int.reduceLE,Int.reduceNeg,Int.reduceLT,Int.reduceBEq,Int.reduceBNe,Int.reduceEq,Try.facts,PostR_ret]
  intro k hk0 hk
  simp (disch := omega) only [↓aI,↓zP,aD,zD,aS0,Nat.reduceBEq,Nat.reduceLT,reduceCtorEq,↓reduceIte,Nat.reduceMul,Nat.reduceAdd,Nat.reduceLeDiff,Nat.reduceEqDiff,Int.reduceToNat,Nat.reduceSub,Nat.reduceMod,Nat.reduceDiv,Int.reducePow,Int.reduceLE,Int.reduceNeg,Int.reduceLT,Int.reduceBEq,Int.reduceBNe,Int.reduceEq,Try.facts,hk0,hel,PostR_ret]
  intro k2 o2 hk20 hk2 ho2
  have f1 : H k2 = none := am hk2
  try rw [ef hk]
  refine br (c := ⟨Try.prog,15,[],[4],[]⟩) Try.mixed (by kernel_rfl) (fun m σ H' => ∃ j k o,j + m = (16 - b.length % 16) % 16 ∧ k ≠ 0 ∧ H k = none ∧ H' = H.set k o ∧ cy 5 1 o (b.length + j) ∧ σ 3 = .imm k (bw (b ++ List.replicate j 0)) (b.length + j)) ((16 - b.length % 16) % 16) ?_ ?_
  · refine ⟨0,k2,o2,by omega,hk20,f1,?_⟩
    simp (disch := omega) only [↓aI,↓zP,aD,zD,aS0,Nat.reduceBEq,Nat.reduceLT,reduceCtorEq,↓reduceIte,Nat.reduceMul,Nat.reduceAdd,Nat.reduceLeDiff,Nat.reduceEqDiff,Int.reduceToNat,Nat.reduceSub,Nat.reduceMod,Nat.reduceDiv,Int.reducePow,Int.reduceLE,Int.reduceNeg,Int.reduceLT,Int.reduceBEq,Int.reduceBNe,Int.reduceEq,Try.facts]
    exact ⟨ho2,by rw [List.replicate_zero,List.append_nil]⟩
  · clear hk0 hk hk20 hk2 ho2 f1
    clear o2 k2 k
    rintro m σ H' ⟨j,k,o,hj,hk0,hk,rfl,ho,g3⟩
    have hl : (bw (b ++ List.replicate j 0)).length = b.length + j := by rw [gz]; simp
    by_cases hlt : j < (16 - b.length % 16) % 16
    · have hb2 : ((((b.length + j) % 16 : Nat) : Int) != 0) = true := nT (by omega)
      simp (disch := omega) only [↓aI,↓zP,aD,zD,aS0,Nat.reduceBEq,Nat.reduceLT,reduceCtorEq,↓reduceIte,Nat.reduceMul,Nat.reduceAdd,Nat.reduceLeDiff,Nat.reduceEqDiff,Int.reduceToNat,Nat.reduceSub,Nat.reduceMod,Nat.reduceDiv,Int.reducePow,Int.reduceLE,Int.reduceNeg,Int.reduceLT,Int.reduceBEq,Int.reduceBNe,Int.reduceEq,Try.facts,g3,hb2,hk0,ho,hl,jd,PostR_ret]
      intro k' o' hk0' hk' ho'
      exact ⟨m - 1,by omega,j + 1,k',o',by omega,hk0',am hk',rfl,ho',by
        rw [List.replicate_succ',← List.append_assoc,← encB_snoc]
        rfl⟩
    · obtain rfl : j = (16 - b.length % 16) % 16 := by omega
      have hb2 : ((((b.length + (16 - b.length % 16) % 16) % 16 : Nat) : Int) != 0) = false := nF (by omega)
      simp (disch := omega) only [↓aI,↓zP,aD,zD,aS0,Nat.reduceBEq,Nat.reduceLT,reduceCtorEq,↓reduceIte,Nat.reduceMul,Nat.reduceAdd,Nat.reduceLeDiff,Nat.reduceEqDiff,Int.reduceToNat,Nat.reduceSub,Nat.reduceMod,Nat.reduceDiv,Int.reducePow,Int.reduceLE,Int.reduceNeg,Int.reduceLT,Int.reduceBEq,Int.reduceBNe,Int.reduceEq,Try.facts,g3,hb2,hk0,ho,hl,jd,PostR_ret]
      exact ⟨_,Abs.Sub.refl _,k,o,hk0,hk,rfl,ho,set_get,Sub.set_new hk⟩
theorem djoin_pure (a b : List UInt8) (ha : a.length ≤ 1000000000) (hb : b.length ≤ 1000000000) : APure Try.prog 33 [eu a,eu b] (eu (a ++ b)) := by
  have hea := gz a
  have heb := gz b
  unfold eu
  refine az (c := ⟨Try.prog,10,[],[5],[]⟩) (rs := [ResultVar.tmp 4]) Try.mixed Try.func33 rfl rfl rfl (Nat.le_of_ble_eq_true rfl) (by kernel_rfl) fun H => ?_
  simp (disch := omega) only [↓aI,↓zP,aD,zD,aS0,Nat.reduceBEq,Nat.reduceLT,reduceCtorEq,↓reduceIte,Nat.reduceMul,Nat.reduceAdd,Nat.reduceLeDiff,Nat.reduceEqDiff,Int.reduceToNat,Nat.reduceSub,Nat.reduceMod,Nat.reduceDiv,Int.reducePow,Int.reduceLE,Int.reduceNeg,Int.reduceLT,Int.reduceBEq,Int.reduceBNe,Int.reduceEq,Try.facts]
  intro k hk0 hk
  simp (disch := omega) only [↓aI,↓zP,aD,zD,aS0,Nat.reduceBEq,Nat.reduceLT,reduceCtorEq,↓reduceIte,Nat.reduceMul,Nat.reduceAdd,Nat.reduceLeDiff,Nat.reduceEqDiff,Int.reduceToNat,Nat.reduceSub,Nat.reduceMod,Nat.reduceDiv,Int.reducePow,Int.reduceLE,Int.reduceNeg,Int.reduceLT,Int.reduceBEq,Int.reduceBNe,Int.reduceEq,Try.facts,hk0,hea]
  intro k2 o2 hk20 hk2 ho2
  simp (disch := omega) only [↓aI,↓zP,aD,zD,aS0,Nat.reduceBEq,Nat.reduceLT,reduceCtorEq,↓reduceIte,Nat.reduceMul,Nat.reduceAdd,Nat.reduceLeDiff,Nat.reduceEqDiff,Int.reduceToNat,Nat.reduceSub,Nat.reduceMod,Nat.reduceDiv,Int.reducePow,Int.reduceLE,Int.reduceNeg,Int.reduceLT,Int.reduceBEq,Int.reduceBNe,Int.reduceEq,Try.facts,hk20,ho2,hea,heb]
  intro k3 o3 hk30 hk3 ho3
  simp (disch := omega) only [↓aI,↓zP,aD,zD,aS0,Nat.reduceBEq,Nat.reduceLT,reduceCtorEq,↓reduceIte,Nat.reduceMul,Nat.reduceAdd,Nat.reduceLeDiff,Nat.reduceEqDiff,Int.reduceToNat,Nat.reduceSub,Nat.reduceMod,Nat.reduceDiv,Int.reducePow,Int.reduceLE,Int.reduceNeg,Int.reduceLT,Int.reduceBEq,Int.reduceBNe,Int.reduceEq,Try.facts,List.length_append,encB_append]
  rw [ef (am hk2)]
  exact Sub.set_new (am hk3)
def nonM (n : Nat) : List UInt8 := [0,0,0,0] ++ fh 8 n
theorem nonM_len (n : Nat) : (nonM n).length = 12 := by simp [nonM,fe0]
theorem dnonce_pure (n : Nat) (hn : n < 9223372036854775808) : APure Try.prog 18 [.sc (.int .i64 n)] (eu (nonM n)) := by
  have h1 := Eight_pure n hn
  have h2 := djoin_pure [0,0,0,0] (fh 8 n) (by decide) (by rw [fe0]; decide)
  rw [show eu [0,0,0,0] = .imm 0 [.sc (.int .u8 0),.sc (.int .u8 0),.sc (.int .u8 0),.sc (.int .u8 0)] 4 from rfl] at h2
  unfold nonM
  generalize fh 8 n = L at *
  refine az (c := ⟨Try.prog,7,[],[],[]⟩) (rs := [ResultVar.tmp 2]) Try.mixed Try.func18 rfl rfl rfl (Nat.le_of_ble_eq_true rfl) (by kernel_rfl) fun H => ?_
  simp (disch := omega) only [↓aI,↓zP,aD,zD,aS0,Nat.reduceBEq,Nat.reduceLT,reduceCtorEq,↓reduceIte,Nat.reduceMul,Nat.reduceAdd,Nat.reduceLeDiff,Nat.reduceEqDiff,Int.reduceToNat,Nat.reduceSub,Nat.reduceMod,Nat.reduceDiv,Int.reducePow,Int.reduceLE,Int.reduceNeg,Int.reduceLT,Int.reduceBEq,Int.reduceBNe,Int.reduceEq,Try.facts]
  first | refine CallK.p (h1) ?_ | refine CallP.i (h1) ?_
  simp (disch := omega) only [↓aI,↓zP,aD,zD,aS0,Nat.reduceBEq,Nat.reduceLT,reduceCtorEq,↓reduceIte,Nat.reduceMul,Nat.reduceAdd,Nat.reduceLeDiff,Nat.reduceEqDiff,Int.reduceToNat,Nat.reduceSub,Nat.reduceMod,Nat.reduceDiv,Int.reducePow,Int.reduceLE,Int.reduceNeg,Int.reduceLT,Int.reduceBEq,Int.reduceBNe,Int.reduceEq,Try.facts]
  first | refine CallK.p (h2) ?_ | refine CallP.i (h2) ?_
  simp (disch := omega) only [↓aI,↓zP,aD,zD,aS0,Nat.reduceBEq,Nat.reduceLT,reduceCtorEq,↓reduceIte,Nat.reduceMul,Nat.reduceAdd,Nat.reduceLeDiff,Nat.reduceEqDiff,Int.reduceToNat,Nat.reduceSub,Nat.reduceMod,Nat.reduceDiv,Int.reducePow,Int.reduceLE,Int.reduceNeg,Int.reduceLT,Int.reduceBEq,Int.reduceBNe,Int.reduceEq,Try.facts]
  exact ⟨rfl,Abs.Sub.refl _⟩
def tagB (key nonce other c : List UInt8) : List UInt8 := tagM ((blkM key nonce 0).take 32) (allM (fh 8) other c)
def sealB (key nonce other text : List UInt8) : List UInt8 := strM key nonce text ++ tagB key nonce other (strM key nonce text)
theorem dseal_bad (key nonce other text : List UInt8) (hk : key.length ≠ 32) : APure Try.prog 17 [eu key,eu nonce,eu other,eu text] (.tup [eu [],.sc (.int .i64 1)]) := by
  have b1 : ((key.length : Int) != 32) = true := nT (by omega)
  refine az (c := ⟨Try.prog,61,[(4000009,[8,9]),(4000008,[10,14]),(4000006,[0,1,10,12]),(4000005,[0,1,10,12]),(4000004,[0,1,2,10,12]),(4000003,[0,1,2,10]),(4000001,[0,1,2,3,23])],[],[]⟩) (rs := [ResultVar.tmp 8,ResultVar.tmp 9]) Try.mixed Try.func17 rfl rfl rfl (Nat.le_of_ble_eq_true rfl) (by kernel_rfl) fun H => ?_
  simp (disch := omega) only [↓aI,↓zP,aD,zD,aS0,Nat.reduceBEq,Nat.reduceLT,reduceCtorEq,↓reduceIte,Nat.reduceMul,Nat.reduceAdd,Nat.reduceLeDiff,Nat.reduceEqDiff,Int.reduceToNat,Nat.reduceSub,Nat.reduceMod,Nat.reduceDiv,Int.reducePow,Int.reduceLE,Int.reduceNeg,Int.reduceLT,Int.reduceBEq,Int.reduceBNe,Int.reduceEq,Try.facts,b1]
  exact ⟨rfl,Abs.Sub.refl _⟩
theorem dseal_pure (key nonce other text : List UInt8) (hk : key.length = 32) (hn : nonce.length = 12) (ho : other.length ≤ 100000) (ht : text.length ≤ 100000) : APure Try.prog 17 [eu key,eu nonce,eu other,eu text] (.tup [eu (sealB key nonce other text),.sc (.int .i64 0)]) := by
  have b1 : ((key.length : Int) != 32) = false := by rw [hk]; rfl
  have b2 : ((nonce.length : Int) != 12) = false := by rw [hn]; rfl
  have hblk := dblk_pure key nonce 0 hk hn (by omega)
  have hbl : (blkM key nonce 0).length = 64 := blkM_len key nonce 0
  have hsl := strM_len key nonce text
  have hx := fun H => dxor_raw H key nonce text hk hn (by omega)
  have hf1 := fun H => filled_raw H other (by omega)
  have hf2 := fun H => filled_raw H (strM key nonce text) (by omega)
  have hl1 := low_pure other.length 8 (by omega) (by omega)
  have hl2 := low_pure (strM key nonce text).length 8 (by omega) (by omega)
  have htg := dtag_pure ((blkM key nonce 0).take 32) (allM (fh 8) other (strM key nonce text)) (by rw [List.length_take]; omega) (by simp [allM,fillM,fe0]; omega)
  have htl : (tagB key nonce other (strM key nonce text)).length = 16 := tagM_len _ _
  unfold sealB
  unfold tagB at *
  generalize hC : strM key nonce text = C at *
  have hall : allM (fh 8) other C = other ++ fillM other.length ++ (C ++ fillM C.length) ++ fh 8 other.length ++ fh 8 C.length := by simp [allM,List.append_assoc]
  generalize hTG : tagM ((blkM key nonce 0).take 32) (allM (fh 8) other C) = TG at *
  rw [hall] at htg
  have hL1 := fe0 8 other.length
  have hL2 := fe0 8 C.length
  generalize fh 8 other.length = L1 at *
  generalize fh 8 C.length = L2 at *
  have bF1 : (other ++ fillM other.length).length ≤ 100016 := by simp [fillM]; omega
  have bF2 : (C ++ fillM C.length).length ≤ 100016 := by simp [fillM]; omega
  generalize other ++ fillM other.length = F1 at *
  generalize C ++ fillM C.length = F2 at *
  rw [hsl] at hl2
  have hcl : (bw C).length = text.length := by rw [gz,hsl]
  have ef1 := gz F1
  have ef2 := gz F2
  have ef12 := gz (F1 ++ F2)
  have ef3 := gz L1
  have ef4 := gz L2
  have efT := gz TG
  unfold eu at hf2
  rw [hsl] at hf2
  have hB32 : ((blkM key nonce 0).take 32).length = 32 := by rw [List.length_take]; omega
  have hkey : eu ((blkM key nonce 0).take 32) = .imm 0 (bw ((blkM key nonce 0).take 32)) 32 := by unfold eu; rw [hB32]
  have hblV : eu (blkM key nonce 0) = .imm 0 (bw (blkM key nonce 0)) 64 := by unfold eu; rw [hbl]
  have hallV : eu (F1 ++ F2 ++ L1 ++ L2) = .imm 0 (bw (F1 ++ F2 ++ L1 ++ L2)) (F1.length + F2.length + 8 + 8) := by unfold eu; rw [List.length_append,List.length_append,List.length_append,hL1,hL2]
  rw [hkey,hallV] at htg
  rw [hblV] at hblk
  have hbe := gz (blkM key nonce 0)
  rw [hbl] at hbe
  generalize blkM key nonce 0 = B at *
  have w1 : IntKind.u64.wrap (other.length : Int) = (other.length : Int) := jw (by omega)
  have w2 : IntKind.u64.wrap (text.length : Int) = (text.length : Int) := jw (by omega)
  refine az (c := ⟨Try.prog,61,[(4000009,[8,9]),(4000008,[10,14]),(4000006,[0,1,10,12]),(4000005,[0,1,10,12]),(4000004,[0,1,2,10,12]),(4000003,[0,1,2,10]),(4000001,[0,1,2,3,23])],[],[]⟩) (rs := [ResultVar.tmp 8,ResultVar.tmp 9]) Try.mixed Try.func17 rfl rfl rfl (Nat.le_of_ble_eq_true rfl) (by kernel_rfl) fun H => ?_
  simp (disch := omega) only [↓aI,↓zP,aD,zD,aS0,Nat.reduceBEq,Nat.reduceLT,reduceCtorEq,↓reduceIte,Nat.reduceMul,Nat.reduceAdd,Nat.reduceLeDiff,Nat.reduceEqDiff,Int.reduceToNat,Nat.reduceSub,Nat.reduceMod,Nat.reduceDiv,Int.reducePow,Int.reduceLE,Int.reduceNeg,Int.reduceLT,Int.reduceBEq,Int.reduceBNe,Int.reduceEq,Try.facts,b1,b2]
  refine CallK.i (hx _) ?_
  rintro v E1 ⟨k1,o1,hk10,hk1,rfl,ho1,he1,hs1⟩
  simp (disch := omega) only [↓aI,↓zP,aD,zD,aS0,Nat.reduceBEq,Nat.reduceLT,reduceCtorEq,↓reduceIte,Nat.reduceMul,Nat.reduceAdd,Nat.reduceLeDiff,Nat.reduceEqDiff,Int.reduceToNat,Nat.reduceSub,Nat.reduceMod,Nat.reduceDiv,Int.reducePow,Int.reduceLE,Int.reduceNeg,Int.reduceLT,Int.reduceBEq,Int.reduceBNe,Int.reduceEq,Try.facts]
  refine CallK.i (hf1 _) ?_
  rintro v E2 ⟨k2,o2,hk20,hk2,rfl,ho2,he2,hs2⟩
  simp (disch := omega) only [↓aI,↓zP,aD,zD,aS0,Nat.reduceBEq,Nat.reduceLT,reduceCtorEq,↓reduceIte,Nat.reduceMul,Nat.reduceAdd,Nat.reduceLeDiff,Nat.reduceEqDiff,Int.reduceToNat,Nat.reduceSub,Nat.reduceMod,Nat.reduceDiv,Int.reducePow,Int.reduceLE,Int.reduceNeg,Int.reduceLT,Int.reduceBEq,Int.reduceBNe,Int.reduceEq,Try.facts]
  refine CallK.i (hf2 _) ?_
  rintro v E3 ⟨k3,o3,hk30,hk3,rfl,ho3,he3,hs3⟩
  have g23 := hs3 _ _ he2
  have g13 := hs3 _ _ (hs2 _ _ he1)
  simp (disch := omega) only [↓aI,↓zP,aD,zD,aS0,Nat.reduceBEq,Nat.reduceLT,reduceCtorEq,↓reduceIte,Nat.reduceMul,Nat.reduceAdd,Nat.reduceLeDiff,Nat.reduceEqDiff,Int.reduceToNat,Nat.reduceSub,Nat.reduceMod,Nat.reduceDiv,Int.reducePow,Int.reduceLE,Int.reduceNeg,Int.reduceLT,Int.reduceBEq,Int.reduceBNe,Int.reduceEq,Try.facts,hk20,ef1,ho2,g23,ef2,w1]
  intro k4 o4 hk40 hk4 ho4
  obtain ⟨K,hK⟩ : ∃ K,K = E3.kill k2 := ⟨_,rfl⟩
  have n12 : ¬ k1 = k2 := fun e => by rw [e,hk2] at he1; cases he1
  have hKk1 : K k1 = some o1 := by rw [hK,bZ n12]; exact g13
  have hHK : Abs.Sub H K := by
    rw [hK]
    refine Sub.kill_free (hs1.trans (hs2.trans hs3)) ?_
    cases h : H k2 with
    | none => rfl
    | some o => rw [hs1 _ _ h] at hk2; cases hk2
  have hKk4 : K k4 = none := by rw [hK]; simp only [AH.kill]; split <;> first | rfl | exact hk4
  rw [← hK]
  have e12 : bw F1 ++ bw F2 = bw (F1 ++ F2) := encB_append ..
  rw [e12]
  first | refine CallK.p (hl1) ?_ | refine CallP.i (hl1) ?_
  simp (disch := omega) only [↓aI,↓zP,aD,zD,aS0,Nat.reduceBEq,Nat.reduceLT,reduceCtorEq,↓reduceIte,Nat.reduceMul,Nat.reduceAdd,Nat.reduceLeDiff,Nat.reduceEqDiff,Int.reduceToNat,Nat.reduceSub,Nat.reduceMod,Nat.reduceDiv,Int.reducePow,Int.reduceLE,Int.reduceNeg,Int.reduceLT,Int.reduceBEq,Int.reduceBNe,Int.reduceEq,Try.facts,w2,w1,hk40,ef12,ho4,List.length_append,ef3,hL1]
  intro k5 o5 hk50 hk5 ho5
  have hKk5 : K k5 = none := am hk5
  try rw [ef hKk4]
  have hallE : bw (F1 ++ F2) ++ bw L1 = bw (F1 ++ F2 ++ L1) := encB_append ..
  have eF3 := gz (F1 ++ F2 ++ L1)
  rw [List.length_append,List.length_append,hL1] at eF3
  rw [hallE]
  first | refine CallK.p (hl2) ?_ | refine CallP.i (hl2) ?_
  simp (disch := omega) only [↓aI,↓zP,aD,zD,aS0,Nat.reduceBEq,Nat.reduceLT,reduceCtorEq,↓reduceIte,Nat.reduceMul,Nat.reduceAdd,Nat.reduceLeDiff,Nat.reduceEqDiff,Int.reduceToNat,Nat.reduceSub,Nat.reduceMod,Nat.reduceDiv,Int.reducePow,Int.reduceLE,Int.reduceNeg,Int.reduceLT,Int.reduceBEq,Int.reduceBNe,Int.reduceEq,Try.facts,w1,w2,hk50,ho5,eF3,ef4,hL2]
  intro k6 o6 hk60 hk6 ho6
  have hKk6 : K k6 = none := am hk6
  try rw [ef hKk5]
  have hallE2 : bw (F1 ++ F2 ++ L1) ++ bw L2 = bw (F1 ++ F2 ++ L1 ++ L2) := encB_append ..
  have n16 : ¬ k1 = k6 := fun e => by rw [e,hKk6] at hKk1; cases hKk1
  have hK6 : (K.set k6 o6) k1 = some o1 := by rw [aP0 n16]; exact hKk1
  have hHK6 : Abs.Sub H (K.set k6 o6) := hHK.trans (Sub.set_new hKk6)
  rw [hallE2]
  generalize K.set k6 o6 = K6 at *
  first | refine CallK.p (hblk) ?_ | refine CallP.i (hblk) ?_
  simp (disch := omega) only [↓aI,↓zP,aD,zD,aS0,Nat.reduceBEq,Nat.reduceLT,reduceCtorEq,↓reduceIte,Nat.reduceMul,Nat.reduceAdd,Nat.reduceLeDiff,Nat.reduceEqDiff,Int.reduceToNat,Nat.reduceSub,Nat.reduceMod,Nat.reduceDiv,Int.reducePow,Int.reduceLE,Int.reduceNeg,Int.reduceLT,Int.reduceBEq,Int.reduceBNe,Int.reduceEq,Try.facts,encB_take,hbe]
  first | refine CallK.p (htg) ?_ | refine CallP.i (htg) ?_
  simp (disch := omega) only [↓aI,↓zP,aD,zD,aS0,Nat.reduceBEq,Nat.reduceLT,reduceCtorEq,↓reduceIte,Nat.reduceMul,Nat.reduceAdd,Nat.reduceLeDiff,Nat.reduceEqDiff,Int.reduceToNat,Nat.reduceSub,Nat.reduceMod,Nat.reduceDiv,Int.reducePow,Int.reduceLE,Int.reduceNeg,Int.reduceLT,Int.reduceBEq,Int.reduceBNe,Int.reduceEq,Try.facts,hK6,hk10,ho1,hcl,efT,htl]
  intro k7 o7 hk70 hk7 ho7
  refine ⟨by rw [encB_append]; unfold eu; rw [List.length_append,hsl,htl],?_⟩
  exact (hHK6.kill_free hk1).set_free (hHK6.free hk7)
end Go.Proofs.Ytibipjdngpjndaa
end
section
set_option linter.unusedSimpArgs false
set_option linter.unusedVariables false
set_option maxRecDepth 20000
set_option maxHeartbeats 4000000
namespace Go.Proofs.Ytibipjdngpjndaa
open Go Go.Abs Go.Proofs Go.Box
def openB (key nonce other box : List UInt8) : List UInt8 × Nat :=
  if box.length < 16 then ([],3) else
    if box.drop (box.length - 16) = tagB key nonce other (box.take (box.length - 16)) then (strM key nonce (box.take (box.length - 16)),0) else ([],9)
theorem sealB_len (key nonce other text : List UInt8) : (sealB key nonce other text).length = text.length + 16 := by
  unfold sealB tagB
  rw [List.length_append,strM_len,tagM_len]
theorem again_eq (key nonce other box : List UInt8) (h : 16 ≤ box.length) : sealB key nonce other (strM key nonce (box.take (box.length - 16))) = box.take (box.length - 16) ++ tagB key nonce other (box.take (box.length - 16)) := by
  unfold sealB
  rw [strM_twice]
theorem again_iff (key nonce other box : List UInt8) (h : 16 ≤ box.length) : (sealB key nonce other (strM key nonce (box.take (box.length - 16))) = box) ↔ (box.drop (box.length - 16) = tagB key nonce other (box.take (box.length - 16))) := by
  rw [again_eq _ _ _ _ h]
  constructor
  · intro e
    conv at e => rhs; rw [← List.take_append_drop (box.length - 16) box]
    exact (List.append_cancel_left e).symm
  · intro e
    rw [← e,List.take_append_drop]
theorem dopen_pure (key nonce other box : List UInt8) (hk : key.length = 32) (hn : nonce.length = 12) (ho : other.length ≤ 100000) (ht : box.length ≤ 100000) : APure Try.prog 20 [eu key,eu nonce,eu other,eu box] (.tup [eu (openB key nonce other box).1,.sc (.int .i64 (openB key nonce other box).2)]) := by
  have b1 : ((key.length : Int) != 32) = false := by rw [hk]; rfl
  have b2 : ((nonce.length : Int) != 12) = false := by rw [hn]; rfl
  have hel := gz box
  unfold openB
  by_cases h : box.length < 16
  · rw [if_pos h]
    have b3 : decide ((box.length : Int) < 16) = true := dT (by omega)
    refine az (c := ⟨Try.prog,50,[],[],[]⟩) (rs := [ResultVar.tmp 8,ResultVar.tmp 9]) Try.mixed Try.func20 rfl rfl rfl (Nat.le_of_ble_eq_true rfl) (by kernel_rfl) fun H => ?_
    simp (disch := omega) only [↓aI,↓zP,aD,zD,aS0,Nat.reduceBEq,Nat.reduceLT,reduceCtorEq,↓reduceIte,Nat.reduceMul,Nat.reduceAdd,Nat.reduceLeDiff,Nat.reduceEqDiff,Int.reduceToNat,Nat.reduceSub,Nat.reduceMod,Nat.reduceDiv,Int.reducePow,Int.reduceLE,Int.reduceNeg,Int.reduceLT,Int.reduceBEq,Int.reduceBNe,Int.reduceEq,Try.facts,b1,b2,b3]
    exact ⟨rfl,Abs.Sub.refl _⟩
  · rw [if_neg h]
    have b3 : decide ((box.length : Int) < 16) = false := dF (by omega)
    have htl : (box.take (box.length - 16)).length = box.length - 16 := by rw [List.length_take]; omega
    have hx := fun H => dxor_raw H key nonce (box.take (box.length - 16)) hk hn (by omega)
    have hsl := strM_len key nonce (box.take (box.length - 16))
    have hs := dseal_pure key nonce other (strM key nonce (box.take (box.length - 16))) hk hn ho (by omega)
    have hiff := again_iff key nonce other box (by omega)
    have hgl := sealB_len key nonce other (strM key nonce (box.take (box.length - 16)))
    unfold eu at hx hs
    rw [hgl] at hs
    rw [hsl,htl] at hs
    rw [htl] at hx
    have w1 : IntKind.i64.wrap ((box.length : Int) - 16) = ((box.length - 16 : Nat) : Int) := by rw [iw (by omega)]; omega
    generalize sealB key nonce other (strM key nonce (box.take (box.length - 16))) = G at *
    generalize strM key nonce (box.take (box.length - 16)) = T at *
    have hTe := gz T
    rw [hsl,htl] at hTe
    refine az (c := ⟨Try.prog,50,[],[],[]⟩) (rs := [ResultVar.tmp 8,ResultVar.tmp 9]) Try.mixed Try.func20 rfl rfl rfl (Nat.le_of_ble_eq_true rfl) (by kernel_rfl) fun H => ?_
    simp (disch := omega) only [↓aI,↓zP,aD,zD,aS0,Nat.reduceBEq,Nat.reduceLT,reduceCtorEq,↓reduceIte,Nat.reduceMul,Nat.reduceAdd,Nat.reduceLeDiff,Nat.reduceEqDiff,Int.reduceToNat,Nat.reduceSub,Nat.reduceMod,Nat.reduceDiv,Int.reducePow,Int.reduceLE,Int.reduceNeg,Int.reduceLT,Int.reduceBEq,Int.reduceBNe,Int.reduceEq,Try.facts,b1,b2,b3,w1,hel,encB_take]
    refine CallK.i (hx _) ?_
    rintro v E1 ⟨k1,o1,hk10,hk1,rfl,ho1,he1,hs1⟩
    simp (disch := omega) only [↓aI,↓zP,aD,zD,aS0,Nat.reduceBEq,Nat.reduceLT,reduceCtorEq,↓reduceIte,Nat.reduceMul,Nat.reduceAdd,Nat.reduceLeDiff,Nat.reduceEqDiff,Int.reduceToNat,Nat.reduceSub,Nat.reduceMod,Nat.reduceDiv,Int.reducePow,Int.reduceLE,Int.reduceNeg,Int.reduceLT,Int.reduceBEq,Int.reduceBNe,Int.reduceEq,Try.facts]
    by_cases heq : box.drop (box.length - 16) = tagB key nonce other (box.take (box.length - 16))
    · rw [if_pos heq]
      have hq : (G == box) = true := beq_iff_eq.2 (hiff.2 heq)
      first | refine CallK.p (hs) ?_ | refine CallP.i (hs) ?_
      simp (disch := omega) only [↓aI,↓zP,aD,zD,aS0,Nat.reduceBEq,Nat.reduceLT,reduceCtorEq,↓reduceIte,Nat.reduceMul,Nat.reduceAdd,Nat.reduceLeDiff,Nat.reduceEqDiff,Int.reduceToNat,Nat.reduceSub,Nat.reduceMod,Nat.reduceDiv,Int.reducePow,Int.reduceLE,Int.reduceNeg,Int.reduceLT,Int.reduceBEq,Int.reduceBNe,Int.reduceEq,Try.facts,bO,hq]
      refine ⟨?_,hs1⟩
      unfold eu
      rw [hsl,htl]
    · rw [if_neg heq]
      have hq : (G == box) = false := beq_eq_false_iff_ne.2 fun h => heq (hiff.1 h)
      first | refine CallK.p (hs) ?_ | refine CallP.i (hs) ?_
      simp (disch := omega) only [↓aI,↓zP,aD,zD,aS0,Nat.reduceBEq,Nat.reduceLT,reduceCtorEq,↓reduceIte,Nat.reduceMul,Nat.reduceAdd,Nat.reduceLeDiff,Nat.reduceEqDiff,Int.reduceToNat,Nat.reduceSub,Nat.reduceMod,Nat.reduceDiv,Int.reducePow,Int.reduceLE,Int.reduceNeg,Int.reduceLT,Int.reduceBEq,Int.reduceBNe,Int.reduceEq,Try.facts,bO,hq]
      exact ⟨rfl,hs1⟩
theorem drseal_pure (key other text : List UInt8) (n : Int) (hn : n < 9223372036854775808) (ho : other.length ≤ 100000) (ht : text.length ≤ 100000) : APure Try.prog 8 [eu key,.sc (.int .i64 n),eu other,eu text] (eu (if n < 0 then [] else if key.length ≠ 32 then [] else sealB key (nonM n.toNat) other text)) := by
  by_cases h : n < 0
  · rw [if_pos h]
    have b1 : decide (n < 0) = true := decide_eq_true h
    refine az (c := ⟨Try.prog,23,[],[],[]⟩) (rs := [ResultVar.tmp 8]) Try.mixed Try.func8 rfl rfl rfl (Nat.le_of_ble_eq_true rfl) (by kernel_rfl) fun H => ?_
    simp (disch := omega) only [↓aI,↓zP,aD,zD,aS0,Nat.reduceBEq,Nat.reduceLT,reduceCtorEq,↓reduceIte,Nat.reduceMul,Nat.reduceAdd,Nat.reduceLeDiff,Nat.reduceEqDiff,Int.reduceToNat,Nat.reduceSub,Nat.reduceMod,Nat.reduceDiv,Int.reducePow,Int.reduceLE,Int.reduceNeg,Int.reduceLT,Int.reduceBEq,Int.reduceBNe,Int.reduceEq,Try.facts,b1]
    exact ⟨rfl,Abs.Sub.refl _⟩
  · rw [if_neg h]
    have b1 : decide (n < 0) = false := decide_eq_false h
    obtain ⟨m,rfl⟩ : ∃ m : Nat,n = (m : Int) := ⟨n.toNat,by omega⟩
    rw [Int.toNat_natCast]
    have c1 := dnonce_pure m (by omega)
    have hnl := nonM_len m
    generalize nonM m = N at *
    by_cases hk : key.length = 32
    · rw [if_neg (by simp [hk])]
      have c2 := dseal_pure key N other text hk hnl ho ht
      generalize sealB key N other text = R at *
      refine az (c := ⟨Try.prog,23,[],[],[]⟩) (rs := [ResultVar.tmp 8]) Try.mixed Try.func8 rfl rfl rfl (Nat.le_of_ble_eq_true rfl) (by kernel_rfl) fun H => ?_
      simp (disch := omega) only [↓aI,↓zP,aD,zD,aS0,Nat.reduceBEq,Nat.reduceLT,reduceCtorEq,↓reduceIte,Nat.reduceMul,Nat.reduceAdd,Nat.reduceLeDiff,Nat.reduceEqDiff,Int.reduceToNat,Nat.reduceSub,Nat.reduceMod,Nat.reduceDiv,Int.reducePow,Int.reduceLE,Int.reduceNeg,Int.reduceLT,Int.reduceBEq,Int.reduceBNe,Int.reduceEq,Try.facts,b1]
      first | refine CallK.p (c1) ?_ | refine CallP.i (c1) ?_
      simp (disch := omega) only [↓aI,↓zP,aD,zD,aS0,Nat.reduceBEq,Nat.reduceLT,reduceCtorEq,↓reduceIte,Nat.reduceMul,Nat.reduceAdd,Nat.reduceLeDiff,Nat.reduceEqDiff,Int.reduceToNat,Nat.reduceSub,Nat.reduceMod,Nat.reduceDiv,Int.reducePow,Int.reduceLE,Int.reduceNeg,Int.reduceLT,Int.reduceBEq,Int.reduceBNe,Int.reduceEq,Try.facts]
      first | refine CallK.p (c2) ?_ | refine CallP.i (c2) ?_
      simp (disch := omega) only [↓aI,↓zP,aD,zD,aS0,Nat.reduceBEq,Nat.reduceLT,reduceCtorEq,↓reduceIte,Nat.reduceMul,Nat.reduceAdd,Nat.reduceLeDiff,Nat.reduceEqDiff,Int.reduceToNat,Nat.reduceSub,Nat.reduceMod,Nat.reduceDiv,Int.reducePow,Int.reduceLE,Int.reduceNeg,Int.reduceLT,Int.reduceBEq,Int.reduceBNe,Int.reduceEq,Try.facts]
      exact Abs.Sub.refl _
    · rw [if_pos (by simp [hk])]
      have c2 := dseal_bad key N other text hk
      refine az (c := ⟨Try.prog,23,[],[],[]⟩) (rs := [ResultVar.tmp 8]) Try.mixed Try.func8 rfl rfl rfl (Nat.le_of_ble_eq_true rfl) (by kernel_rfl) fun H => ?_
      simp (disch := omega) only [↓aI,↓zP,aD,zD,aS0,Nat.reduceBEq,Nat.reduceLT,reduceCtorEq,↓reduceIte,Nat.reduceMul,Nat.reduceAdd,Nat.reduceLeDiff,Nat.reduceEqDiff,Int.reduceToNat,Nat.reduceSub,Nat.reduceMod,Nat.reduceDiv,Int.reducePow,Int.reduceLE,Int.reduceNeg,Int.reduceLT,Int.reduceBEq,Int.reduceBNe,Int.reduceEq,Try.facts,b1]
      first | refine CallK.p (c1) ?_ | refine CallP.i (c1) ?_
      simp (disch := omega) only [↓aI,↓zP,aD,zD,aS0,Nat.reduceBEq,Nat.reduceLT,reduceCtorEq,↓reduceIte,Nat.reduceMul,Nat.reduceAdd,Nat.reduceLeDiff,Nat.reduceEqDiff,Int.reduceToNat,Nat.reduceSub,Nat.reduceMod,Nat.reduceDiv,Int.reducePow,Int.reduceLE,Int.reduceNeg,Int.reduceLT,Int.reduceBEq,Int.reduceBNe,Int.reduceEq,Try.facts]
      first | refine CallK.p (c2) ?_ | refine CallP.i (c2) ?_
      simp (disch := omega) only [↓aI,↓zP,aD,zD,aS0,Nat.reduceBEq,Nat.reduceLT,reduceCtorEq,↓reduceIte,Nat.reduceMul,Nat.reduceAdd,Nat.reduceLeDiff,Nat.reduceEqDiff,Int.reduceToNat,Nat.reduceSub,Nat.reduceMod,Nat.reduceDiv,Int.reducePow,Int.reduceLE,Int.reduceNeg,Int.reduceLT,Int.reduceBEq,Int.reduceBNe,Int.reduceEq,Try.facts]
      exact ⟨rfl,Abs.Sub.refl _⟩
def ropenB (key : List UInt8) (n : Int) (other box : List UInt8) : List UInt8 × Nat :=
  if key.length ≠ 32 ∨ n < 0 then ([],1) else if (openB key (nonM n.toNat) other box).2 = 0 then ((openB key (nonM n.toNat) other box).1,0) else ([],9)
theorem dropen_pure (key other box : List UInt8) (n : Int) (hn : n < 9223372036854775808) (ho : other.length ≤ 100000) (ht : box.length ≤ 100000) : APure Try.prog 10 [eu key,.sc (.int .i64 n),eu other,eu box] (.tup [eu (ropenB key n other box).1,.sc (.int .i64 (ropenB key n other box).2)]) := by
  unfold ropenB
  by_cases hk : key.length = 32
  · have b0 : ((key.length : Int) != 32) = false := by rw [hk]; rfl
    by_cases h : n < 0
    · rw [if_pos (.inr h)]
      have b1 : decide (n < 0) = true := decide_eq_true h
      refine az (c := ⟨Try.prog,31,[],[],[]⟩) (rs := [ResultVar.tmp 8,ResultVar.tmp 9]) Try.mixed Try.func10 rfl rfl rfl (Nat.le_of_ble_eq_true rfl) (by kernel_rfl) fun H => ?_
      simp (disch := omega) only [↓aI,↓zP,aD,zD,aS0,Nat.reduceBEq,Nat.reduceLT,reduceCtorEq,↓reduceIte,Nat.reduceMul,Nat.reduceAdd,Nat.reduceLeDiff,Nat.reduceEqDiff,Int.reduceToNat,Nat.reduceSub,Nat.reduceMod,Nat.reduceDiv,Int.reducePow,Int.reduceLE,Int.reduceNeg,Int.reduceLT,Int.reduceBEq,Int.reduceBNe,Int.reduceEq,Try.facts,b0,b1]
      exact ⟨rfl,Abs.Sub.refl _⟩
    · rw [if_neg (by omega)]
      have b1 : decide (n < 0) = false := decide_eq_false h
      obtain ⟨m,rfl⟩ : ∃ m : Nat,n = (m : Int) := ⟨n.toNat,by omega⟩
      rw [Int.toNat_natCast]
      have c1 := dnonce_pure m (by omega)
      have hnl := nonM_len m
      generalize nonM m = N at *
      have c2 := dopen_pure key N other box hk hnl ho ht
      generalize openB key N other box = R at *
      obtain ⟨t,e⟩ := R
      by_cases he : e = 0
      · subst he
        have b2 : (((0 : Nat) : Int) != 0) = false := by decide
        refine az (c := ⟨Try.prog,31,[],[],[]⟩) (rs := [ResultVar.tmp 8,ResultVar.tmp 9]) Try.mixed Try.func10 rfl rfl rfl (Nat.le_of_ble_eq_true rfl) (by kernel_rfl) fun H => ?_
        simp (disch := omega) only [↓aI,↓zP,aD,zD,aS0,Nat.reduceBEq,Nat.reduceLT,reduceCtorEq,↓reduceIte,Nat.reduceMul,Nat.reduceAdd,Nat.reduceLeDiff,Nat.reduceEqDiff,Int.reduceToNat,Nat.reduceSub,Nat.reduceMod,Nat.reduceDiv,Int.reducePow,Int.reduceLE,Int.reduceNeg,Int.reduceLT,Int.reduceBEq,Int.reduceBNe,Int.reduceEq,Try.facts,b0,b1]
        first | refine CallK.p (c1) ?_ | refine CallP.i (c1) ?_
        simp (disch := omega) only [↓aI,↓zP,aD,zD,aS0,Nat.reduceBEq,Nat.reduceLT,reduceCtorEq,↓reduceIte,Nat.reduceMul,Nat.reduceAdd,Nat.reduceLeDiff,Nat.reduceEqDiff,Int.reduceToNat,Nat.reduceSub,Nat.reduceMod,Nat.reduceDiv,Int.reducePow,Int.reduceLE,Int.reduceNeg,Int.reduceLT,Int.reduceBEq,Int.reduceBNe,Int.reduceEq,Try.facts]
        first | refine CallK.p (c2) ?_ | refine CallP.i (c2) ?_
        simp (disch := omega) only [↓aI,↓zP,aD,zD,aS0,Nat.reduceBEq,Nat.reduceLT,reduceCtorEq,↓reduceIte,Nat.reduceMul,Nat.reduceAdd,Nat.reduceLeDiff,Nat.reduceEqDiff,Int.reduceToNat,Nat.reduceSub,Nat.reduceMod,Nat.reduceDiv,Int.reducePow,Int.reduceLE,Int.reduceNeg,Int.reduceLT,Int.reduceBEq,Int.reduceBNe,Int.reduceEq,Try.facts,b2]
        exact Abs.Sub.refl _
      · have b2 : ((e : Int) != 0) = true := nT (by omega)
        rw [if_neg he]
        refine az (c := ⟨Try.prog,31,[],[],[]⟩) (rs := [ResultVar.tmp 8,ResultVar.tmp 9]) Try.mixed Try.func10 rfl rfl rfl (Nat.le_of_ble_eq_true rfl) (by kernel_rfl) fun H => ?_
        simp (disch := omega) only [↓aI,↓zP,aD,zD,aS0,Nat.reduceBEq,Nat.reduceLT,reduceCtorEq,↓reduceIte,Nat.reduceMul,Nat.reduceAdd,Nat.reduceLeDiff,Nat.reduceEqDiff,Int.reduceToNat,Nat.reduceSub,Nat.reduceMod,Nat.reduceDiv,Int.reducePow,Int.reduceLE,Int.reduceNeg,Int.reduceLT,Int.reduceBEq,Int.reduceBNe,Int.reduceEq,Try.facts,b0,b1]
        first | refine CallK.p (c1) ?_ | refine CallP.i (c1) ?_
        simp (disch := omega) only [↓aI,↓zP,aD,zD,aS0,Nat.reduceBEq,Nat.reduceLT,reduceCtorEq,↓reduceIte,Nat.reduceMul,Nat.reduceAdd,Nat.reduceLeDiff,Nat.reduceEqDiff,Int.reduceToNat,Nat.reduceSub,Nat.reduceMod,Nat.reduceDiv,Int.reducePow,Int.reduceLE,Int.reduceNeg,Int.reduceLT,Int.reduceBEq,Int.reduceBNe,Int.reduceEq,Try.facts]
        first | refine CallK.p (c2) ?_ | refine CallP.i (c2) ?_
        simp (disch := omega) only [↓aI,↓zP,aD,zD,aS0,Nat.reduceBEq,Nat.reduceLT,reduceCtorEq,↓reduceIte,Nat.reduceMul,Nat.reduceAdd,Nat.reduceLeDiff,Nat.reduceEqDiff,Int.reduceToNat,Nat.reduceSub,Nat.reduceMod,Nat.reduceDiv,Int.reducePow,Int.reduceLE,Int.reduceNeg,Int.reduceLT,Int.reduceBEq,Int.reduceBNe,Int.reduceEq,Try.facts,b2]
        exact ⟨rfl,Abs.Sub.refl _⟩
  · have b0 : ((key.length : Int) != 32) = true := nT (by omega)
    rw [if_pos (.inl hk)]
    refine az (c := ⟨Try.prog,31,[],[],[]⟩) (rs := [ResultVar.tmp 8,ResultVar.tmp 9]) Try.mixed Try.func10 rfl rfl rfl (Nat.le_of_ble_eq_true rfl) (by kernel_rfl) fun H => ?_
    simp (disch := omega) only [↓aI,↓zP,aD,zD,aS0,Nat.reduceBEq,Nat.reduceLT,reduceCtorEq,↓reduceIte,Nat.reduceMul,Nat.reduceAdd,Nat.reduceLeDiff,Nat.reduceEqDiff,Int.reduceToNat,Nat.reduceSub,Nat.reduceMod,Nat.reduceDiv,Int.reducePow,Int.reduceLE,Int.reduceNeg,Int.reduceLT,Int.reduceBEq,Int.reduceBNe,Int.reduceEq,Try.facts,b0]
    exact ⟨rfl,Abs.Sub.refl _⟩
end Go.Proofs.Ytibipjdngpjndaa
end
