/-
  Several texts in one: each says what it proves.
  Conditions: none. Lemmas only.
-/
import Derived.Test.YtejncnmdjkhiaaaDoorShbD
import Derived.Test.YtejncnmdjkhiaaaDoorSuiG1
set_option linter.all false
section
set_option linter.unusedSimpArgs false
set_option linter.unusedVariables false
set_option maxRecDepth 20000
set_option maxHeartbeats 4000000
namespace Go.Proofs.YtejncnmdjkhiaaaDoor
open Go Go.Abs Go.Proofs Go.Sha
theorem sum_sh {H0 H : AH} {h : Nat} {w : List UInt8} (g : SH H0 H h w) (hw : w.length ≤ 100000000) : ACalls Tryd.prog 32 [.ptr h 0] H fun v H' => v = eu (shaM w) ∧ H' = H := by
  obtain ⟨k,o,g⟩ := g
  have hrl := write_rest_len w
  have hso := write_ok w
  have hsw := sum_write w
  generalize (writeM w).1 = S at *
  generalize (writeM w).2 = r at *
  have hh := g.box
  have hp := padded_pure r w.length (by omega) hw
  have hpm := padS_len r w.length
  have hpl : (padS r w.length).length ≤ 1000 := by
    simp only [padS,zerosN,lenB,List.length_append,List.length_replicate,List.length_cons,List.length_nil]
    omega
  rw [← hsw]
  generalize padS r w.length = P at *
  have hst : ∀ S : St,(w32A (stL S)).map AV.strip0 = w32A (stL S) := fun S => by simp [w32A,AV.strip0]
  have hwl : ∀ S,(w32A (stL S)).length = 8 := fun S => rfl
  have hwt : ∀ S,(w32A (stL S)).take 8 = w32A (stL S) := fun S => rfl
  have hwd : ∀ S,(w32A (stL S)).drop 8 = [] := fun S => rfl
  have hwp : ∀ S S',bG (w32A (stL S)) 0 (w32A (stL S')) = w32A (stL S') := fun S S' => rfl
  have hbo := fun i => blocksM_ok hso P i
  have hbs : ∀ i,blocksM S P (i + 1) = blockM (blocksM S P i) ((P.drop (i * 64)).take 64) := fun i => rfl
  unfold eu at *
  refine ao (c := ⟨Tryd.prog,33,[(4,[0,0,0,1,0,0,0,1,0,0]),(7,[1,0,0,1,2,2])],[],[]⟩) (rs := [ResultVar.tmp 2]) Tryd.mixed Tryd.func32 rfl rfl rfl (Nat.le_of_ble_eq_true rfl) (by kernel_rfl) ?_
  simp (disch := omega) only [↓aI,↓zP,aD,zD,aS,Nat.reduceBEq,Nat.reduceLT,reduceCtorEq,↓reduceIte,Nat.reduceMul,Nat.reduceAdd,Nat.reduceLeDiff,Nat.reduceEqDiff,Int.reduceToNat,Nat.reduceSub,Nat.reduceMod,Nat.reduceDiv,Int.reducePow,Int.reduceLE,Int.reduceNeg,Int.reduceLT,Int.reduceBEq,Int.reduceBNe,Int.reduceEq,Tryd.facts,hh,hashC_length,hashC_take,hst]
  intro kv hkv0 hkv
  have hne : ¬ kv = h := fun e => by rw [e,hh] at hkv; cases hkv
  simp (disch := omega) only [↓aI,↓zP,aD,zD,aS,Nat.reduceBEq,Nat.reduceLT,reduceCtorEq,↓reduceIte,Nat.reduceMul,Nat.reduceAdd,Nat.reduceLeDiff,Nat.reduceEqDiff,Int.reduceToNat,Nat.reduceSub,Nat.reduceMod,Nat.reduceDiv,Int.reducePow,Int.reduceLE,Int.reduceNeg,Int.reduceLT,Int.reduceBEq,Int.reduceBNe,Int.reduceEq,Tryd.facts,hh,hashC_length,hashC_take,hst,hwl,aP (Ne.symm hne),hashC_8,hashC_9,ah]
  first | refine CallK.p (hp) ?_ | refine CallP.i (hp) ?_
  simp (disch := omega) only [↓aI,↓zP,aD,zD,aS,Nat.reduceBEq,Nat.reduceLT,reduceCtorEq,↓reduceIte,Nat.reduceMul,Nat.reduceAdd,Nat.reduceLeDiff,Nat.reduceEqDiff,Int.reduceToNat,Nat.reduceSub,Nat.reduceMod,Nat.reduceDiv,Int.reducePow,Int.reduceLE,Int.reduceNeg,Int.reduceLT,Int.reduceBEq,Int.reduceBNe,Int.reduceEq,Tryd.facts]
  obtain ⟨nb,hnb⟩ : ∃ nb,nb = P.length / 64 := ⟨_,rfl⟩
  rw [← hnb]
  refine br (c := ⟨Tryd.prog,33,[(4,[0,0,0,1,0,0,0,1,0,0]),(7,[1,0,0,1,2,2])],[],[]⟩) Tryd.mixed (by kernel_rfl) (fun m σ H' => ∃ i : Nat,i + m = nb ∧ σ 3 = .ptr kv 0 ∧ σ 4 = .imm 0 (bw (P.drop (i * 64))) (P.drop (i * 64)).length ∧ H' = H.set kv (.cells (w32A (stL (blocksM S P i))) 65 8)) nb ?_ ?_
  · refine ⟨0,by omega,?_⟩
    simp (disch := omega) only [↓aI,↓zP,aD,zD,aS,Nat.reduceBEq,Nat.reduceLT,reduceCtorEq,↓reduceIte,Nat.reduceMul,Nat.reduceAdd,Nat.reduceLeDiff,Nat.reduceEqDiff,Int.reduceToNat,Nat.reduceSub,Nat.reduceMod,Nat.reduceDiv,Int.reducePow,Int.reduceLE,Int.reduceNeg,Int.reduceLT,Int.reduceBEq,Int.reduceBNe,Int.reduceEq,Tryd.facts]
    rfl
  · rintro m σ H' ⟨i,hi,g3,g4,rfl⟩
    have hdl : (P.drop (i * 64)).length = P.length - i * 64 := List.length_drop
    have her := gz (P.drop (i * 64))
    by_cases hlt : i < nb
    · have hb1 : decide ((0 : Int) < ((P.drop (i * 64)).length : Int)) = true := dT (by omega)
      have hcl : ((P.drop (i * 64)).take 64).length = 64 := by rw [List.length_take]; omega
      have c1 := block_pure _ (hbo i) _ hcl
      rw [← hbs] at c1
      have hg0 : globV 0 = .ip smallC 0 := rfl
      have hdd : (P.drop (i * 64)).drop 64 = P.drop ((i + 1) * 64) := by rw [List.drop_drop,Nat.add_mul]
      have hlen64 : 64 ≤ (P.drop (i * 64)).length := by omega
      have hd2 : (P.drop ((i + 1) * 64)).length = (P.drop (i * 64)).length - 64 := by rw [← hdd,List.length_drop]
      have het : (bw (P.drop (i * 64))).take 64 = bw ((P.drop (i * 64)).take 64) := encB_take _ _
      have hed : (bw (P.drop (i * 64))).drop 64 = bw (P.drop ((i + 1) * 64)) := by rw [encB_drop,hdd]
      generalize (P.drop (i * 64)).take 64 = cc at *
      generalize P.drop (i * 64) = r' at *
      simp (disch := omega) only [↓aI,↓zP,aD,zD,aS,Nat.reduceBEq,Nat.reduceLT,reduceCtorEq,↓reduceIte,Nat.reduceMul,Nat.reduceAdd,Nat.reduceLeDiff,Nat.reduceEqDiff,Int.reduceToNat,Nat.reduceSub,Nat.reduceMod,Nat.reduceDiv,Int.reducePow,Int.reduceLE,Int.reduceNeg,Int.reduceLT,Int.reduceBEq,Int.reduceBNe,Int.reduceEq,Tryd.facts,g3,g4,hb1,hst,hwl,hwt,hg0,smallC,het,her]
      first | refine CallK.p (c1) ?_ | refine CallP.i (c1) ?_
      simp (disch := omega) only [↓aI,↓zP,aD,zD,aS,Nat.reduceBEq,Nat.reduceLT,reduceCtorEq,↓reduceIte,Nat.reduceMul,Nat.reduceAdd,Nat.reduceLeDiff,Nat.reduceEqDiff,Int.reduceToNat,Nat.reduceSub,Nat.reduceMod,Nat.reduceDiv,Int.reducePow,Int.reduceLE,Int.reduceNeg,Int.reduceLT,Int.reduceBEq,Int.reduceBNe,Int.reduceEq,Tryd.facts,g3,g4,hst,hwl,hwt,hwp,hed,her]
      exact ⟨m - 1,by omega,i + 1,by omega,by rw [List.take_of_length_le (by rw [gz,hd2]; exact Nat.le_refl _),hd2],rfl⟩
    · obtain rfl : i = nb := by omega
      have hb1 : decide ((0 : Int) < ((P.drop (i * 64)).length : Int)) = false := dF (by omega)
      have ht := told_pure _ (hbo i)
      simp (disch := omega) only [↓aI,↓zP,aD,zD,aS,Nat.reduceBEq,Nat.reduceLT,reduceCtorEq,↓reduceIte,Nat.reduceMul,Nat.reduceAdd,Nat.reduceLeDiff,Nat.reduceEqDiff,Int.reduceToNat,Nat.reduceSub,Nat.reduceMod,Nat.reduceDiv,Int.reducePow,Int.reduceLE,Int.reduceNeg,Int.reduceLT,Int.reduceBEq,Int.reduceBNe,Int.reduceEq,Tryd.facts,g3,g4,hb1,hst,hwl,hwt]
      first | refine CallK.p (ht) ?_ | refine CallP.i (ht) ?_
      simp (disch := omega) only [↓aI,↓zP,aD,zD,aS,Nat.reduceBEq,Nat.reduceLT,reduceCtorEq,↓reduceIte,Nat.reduceMul,Nat.reduceAdd,Nat.reduceLeDiff,Nat.reduceEqDiff,Int.reduceToNat,Nat.reduceSub,Nat.reduceMod,Nat.reduceDiv,Int.reducePow,Int.reduceLE,Int.reduceNeg,Int.reduceLT,Int.reduceBEq,Int.reduceBNe,Int.reduceEq,Tryd.facts]
      exact ⟨_,rfl,H,Sub.set_new hkv,rfl,rfl⟩
theorem SH.sub {H0 H : AH} {h : Nat} {w : List UInt8} (s : SH H0 H h w) : Abs.Sub H0 H := by obtain ⟨k,o,g⟩ := s; exact g.sub
theorem sum256_pure (b : List UInt8) (hb : b.length ≤ 10000000) : APure Tryd.prog 22 [eu b] (eu (shaM b)) := by
  refine az (c := ⟨Tryd.prog,10,[],[],[]⟩) (rs := [ResultVar.tmp 2]) Tryd.mixed Tryd.func22 rfl rfl rfl (Nat.le_of_ble_eq_true rfl) (by kernel_rfl) fun H => ?_
  simp (disch := omega) only [↓aI,↓zP,aD,zD,aS,Nat.reduceBEq,Nat.reduceLT,reduceCtorEq,↓reduceIte,Nat.reduceMul,Nat.reduceAdd,Nat.reduceLeDiff,Nat.reduceEqDiff,Int.reduceToNat,Nat.reduceSub,Nat.reduceMod,Nat.reduceDiv,Int.reducePow,Int.reduceLE,Int.reduceNeg,Int.reduceLT,Int.reduceBEq,Int.reduceBNe,Int.reduceEq,Tryd.facts]
  refine CallK.i (new_sh H) ?_
  rintro v E ⟨h,rfl,s⟩
  simp (disch := omega) only [↓aI,↓zP,aD,zD,aS,Nat.reduceBEq,Nat.reduceLT,reduceCtorEq,↓reduceIte,Nat.reduceMul,Nat.reduceAdd,Nat.reduceLeDiff,Nat.reduceEqDiff,Int.reduceToNat,Nat.reduceSub,Nat.reduceMod,Nat.reduceDiv,Int.reducePow,Int.reduceLE,Int.reduceNeg,Int.reduceLT,Int.reduceBEq,Int.reduceBNe,Int.reduceEq,Tryd.facts]
  refine CallK.i (write_sh s b (by simp) hb) ?_
  rintro v E2 ⟨rfl,s2⟩
  simp (disch := omega) only [↓aI,↓zP,aD,zD,aS,Nat.reduceBEq,Nat.reduceLT,reduceCtorEq,↓reduceIte,Nat.reduceMul,Nat.reduceAdd,Nat.reduceLeDiff,Nat.reduceEqDiff,Int.reduceToNat,Nat.reduceSub,Nat.reduceMod,Nat.reduceDiv,Int.reducePow,Int.reduceLE,Int.reduceNeg,Int.reduceLT,Int.reduceBEq,Int.reduceBNe,Int.reduceEq,Tryd.facts]
  refine CallK.i (sum_sh s2 (by simp; omega)) ?_
  rintro v E3 ⟨rfl,rfl⟩
  simp (disch := omega) only [↓aI,↓zP,aD,zD,aS,Nat.reduceBEq,Nat.reduceLT,reduceCtorEq,↓reduceIte,Nat.reduceMul,Nat.reduceAdd,Nat.reduceLeDiff,Nat.reduceEqDiff,Int.reduceToNat,Nat.reduceSub,Nat.reduceMod,Nat.reduceDiv,Int.reducePow,Int.reduceLE,Int.reduceNeg,Int.reduceLT,Int.reduceBEq,Int.reduceBNe,Int.reduceEq,Tryd.facts]
  exact s2.sub
theorem keyB_len (key : List UInt8) : (keyB key).length ≤ 64 := by
  unfold keyB
  split
  · rw [shaM_len]; decide
  · omega
def whF (KB : List UInt8) (x : UInt8) (n : Nat) : List UInt8 := (List.range 64).map fun i => if i < n then KB.getD i 0 ^^^ x else KB.getD i 0
theorem whF_len (KB : List UInt8) (x : UInt8) (n : Nat) : (whF KB x n).length = 64 := by simp [whF]
theorem whF_get (KB : List UInt8) (x : UInt8) (n : Nat) {i : Nat} (h : i < 64) : (whF KB x n).getD i 0 = if i < n then KB.getD i 0 ^^^ x else KB.getD i 0 := by
  unfold whF
  simp [List.getD,h]
theorem list_ext8 {l m : List UInt8} (hl : l.length = m.length) (h : ∀ i,i < l.length → l.getD i 0 = m.getD i 0) : l = m := by
  apply List.ext_getElem hl
  intro i h1 h2
  have := h i h1
  simpa [List.getD,h1,h2] using this
theorem whF_set (KB : List UInt8) (x : UInt8) {n : Nat} (h : n < 64) : (whF KB x n).set n ((whF KB x n).getD n 0 ^^^ x) = whF KB x (n + 1) := by
  rw [whF_get KB x n h,if_neg (Nat.lt_irrefl n)]
  apply list_ext8 (by simp [whF_len])
  intro i h1
  have hi : i < 64 := by simpa [whF_len] using h1
  rw [whF_get KB x (n + 1) hi]
  by_cases e : n = i
  · subst e
    simp [List.getD,whF_len,h]
  · have e1 : ((whF KB x n).set n (KB.getD n 0 ^^^ x)).getD i 0 = (whF KB x n).getD i 0 := by simp [List.getD,List.getElem?_set,e]
    rw [e1,whF_get KB x n hi]
    by_cases e2 : i < n
    · rw [if_pos e2,if_pos (by omega)]
    · rw [if_neg e2,if_neg (by omega)]
theorem rep_zero8 (n i : Nat) : (List.replicate n (0 : UInt8)).getD i 0 = 0 := by
  simp only [List.getD,List.getElem?_replicate]
  split <;> rfl
theorem whF_zero (KB : List UInt8) (x : UInt8) (h : KB.length ≤ 64) : KB ++ (List.replicate 64 0).drop KB.length = whF KB x 0 := by
  rw [List.drop_replicate]
  apply list_ext8 (by simp [whF_len]; omega)
  intro i h1
  have hi : i < 64 := by
    rw [List.length_append,List.length_replicate] at h1
    omega
  rw [whF_get KB x 0 hi,if_neg (Nat.not_lt_zero i)]
  by_cases e : i < KB.length
  · simp [List.getD,List.getElem?_append_left e]
  · have e1 : (KB ++ List.replicate (64 - KB.length) 0).getD i 0 = (List.replicate (64 - KB.length) (0 : UInt8)).getD (i - KB.length) 0 := by
      simp only [List.getD]
      rw [List.getElem?_append_right (by omega)]
    rw [e1,rep_zero8]
    simp [List.getD,List.getElem?_eq_none (Nat.le_of_not_lt e)]
theorem whF_full (key : List UInt8) (x : UInt8) : whF (keyB key) x 64 = wholeB key x := by
  unfold whF wholeB
  apply List.map_congr_left
  intro i hi
  rw [if_pos (List.mem_range.1 hi)]
theorem kQ (key : List UInt8) (x : UInt8) (hk : key.length ≤ 10000000) : APure Tryd.prog 60 [eu key,.sc (.int .u8 x.toNat)] (eu (wholeB key x)) := by
  have hkl := keyB_len key
  have h1 := sum256_pure key hk
  have hsz : ai Tryd.prog 5 = 1 := by kernel_rfl
  have hz0 := fun KB : List UInt8 => show bG (bw (List.replicate 64 0)) 0 (bw KB) = bw (KB ++ (List.replicate 64 0).drop KB.length) by rw [ah,gz,Nat.zero_add,encB_drop,List.take_zero,List.nil_append,encB_append]
  have hzl : ([AV.sc (.int .u8 0),AV.sc (.int .u8 0),AV.sc (.int .u8 0),AV.sc (.int .u8 0),AV.sc (.int .u8 0),AV.sc (.int .u8 0),AV.sc (.int .u8 0),AV.sc (.int .u8 0),AV.sc (.int .u8 0),AV.sc (.int .u8 0),AV.sc (.int .u8 0),AV.sc (.int .u8 0),AV.sc (.int .u8 0),AV.sc (.int .u8 0),AV.sc (.int .u8 0),AV.sc (.int .u8 0),AV.sc (.int .u8 0),AV.sc (.int .u8 0),AV.sc (.int .u8 0),AV.sc (.int .u8 0),AV.sc (.int .u8 0),AV.sc (.int .u8 0),AV.sc (.int .u8 0),AV.sc (.int .u8 0),AV.sc (.int .u8 0),AV.sc (.int .u8 0),AV.sc (.int .u8 0),AV.sc (.int .u8 0),AV.sc (.int .u8 0),AV.sc (.int .u8 0),AV.sc (.int .u8 0),AV.sc (.int .u8 0),AV.sc (.int .u8 0),AV.sc (.int .u8 0),AV.sc (.int .u8 0),AV.sc (.int .u8 0),AV.sc (.int .u8 0),AV.sc (.int .u8 0),AV.sc (.int .u8 0),AV.sc (.int .u8 0),AV.sc (.int .u8 0),AV.sc (.int .u8 0),AV.sc (.int .u8 0),AV.sc (.int .u8 0),AV.sc (.int .u8 0),AV.sc (.int .u8 0),AV.sc (.int .u8 0),AV.sc (.int .u8 0),AV.sc (.int .u8 0),AV.sc (.int .u8 0),AV.sc (.int .u8 0),AV.sc (.int .u8 0),AV.sc (.int .u8 0),AV.sc (.int .u8 0),AV.sc (.int .u8 0),AV.sc (.int .u8 0),AV.sc (.int .u8 0),AV.sc (.int .u8 0),AV.sc (.int .u8 0),AV.sc (.int .u8 0),AV.sc (.int .u8 0),AV.sc (.int .u8 0),AV.sc (.int .u8 0),AV.sc (.int .u8 0)] : List AV) = bw (List.replicate 64 0) := rfl
  have hfull := whF_full key x
  rw [← hfull]
  refine az (c := ⟨Tryd.prog,30,[],[],[]⟩) (rs := [ResultVar.tmp 4]) Tryd.mixed Tryd.func60 rfl rfl rfl (Nat.le_of_ble_eq_true rfl) (by kernel_rfl) fun H => ?_
  by_cases h64 : 64 < key.length
  · have hkb : keyB key = shaM key := if_pos h64
    have hb : decide ((64 : Int) < (key.length : Int)) = true := dT (by omega)
    rw [← hkb] at h1
    generalize keyB key = KB at *
    have hmin : min KB.length 64 = KB.length := by omega
    have hput := congrArg bw (whF_zero KB x hkl)
    simp (disch := omega) only [↓aI,↓zP,aD,zD,aS,Nat.reduceBEq,Nat.reduceLT,reduceCtorEq,↓reduceIte,Nat.reduceMul,Nat.reduceAdd,Nat.reduceLeDiff,Nat.reduceEqDiff,Int.reduceToNat,Nat.reduceSub,Nat.reduceMod,Nat.reduceDiv,Int.reducePow,Int.reduceLE,Int.reduceNeg,Int.reduceLT,Int.reduceBEq,Int.reduceBNe,Int.reduceEq,Tryd.facts,hb]
    first | refine CallK.p (h1) ?_ | refine CallP.i (h1) ?_
    simp (disch := omega) only [↓aI,↓zP,aD,zD,aS,Nat.reduceBEq,Nat.reduceLT,reduceCtorEq,↓reduceIte,Nat.reduceMul,Nat.reduceAdd,Nat.reduceLeDiff,Nat.reduceEqDiff,Int.reduceToNat,Nat.reduceSub,Nat.reduceMod,Nat.reduceDiv,Int.reducePow,Int.reduceLE,Int.reduceNeg,Int.reduceLT,Int.reduceBEq,Int.reduceBNe,Int.reduceEq,Tryd.facts]
    intro k hk0 hk2
    rw [hzl]
    refine copy_m (e := 5) (ns := KB.length) (by kernel_rfl) rfl set_get (by rw [hmin,hsz]; exact ⟨Nat.le_refl _,by rw [gz,Nat.mul_one],rfl⟩) (by rw [hmin,hsz,Nat.mul_one,List.take_of_length_le (by rw [gz]; exact Nat.le_refl _),gz]) (by kernel_rfl) (Nat.zero_le _) (by rw [hsz]; decide) (.inl (by rw [Nat.mul_one,List.take_of_length_le (by rw [gz]; exact Nat.le_refl _),gz,Nat.zero_add]; exact hkl)) ?_
    rw [hsz,Nat.mul_one,List.take_of_length_le (show (bw KB).length ≤ KB.length by rw [gz]; exact Nat.le_refl _),set_set,hz0,hput]
    simp (disch := omega) only [↓aI,↓zP,aD,zD,aS,Nat.reduceBEq,Nat.reduceLT,reduceCtorEq,↓reduceIte,Nat.reduceMul,Nat.reduceAdd,Nat.reduceLeDiff,Nat.reduceEqDiff,Int.reduceToNat,Nat.reduceSub,Nat.reduceMod,Nat.reduceDiv,Int.reducePow,Int.reduceLE,Int.reduceNeg,Int.reduceLT,Int.reduceBEq,Int.reduceBNe,Int.reduceEq,Tryd.facts]
    refine br (c := ⟨Tryd.prog,30,[],[],[]⟩) Tryd.mixed (by kernel_rfl) (fun m σ H' => ∃ n : Nat,n + m = 64 ∧ σ 1 = .sc (.int .u8 x.toNat) ∧ σ 5 = .own k 0 64 ∧ σ 17 = .sc (.int .i64 64) ∧ σ 18 = .sc (.int .i64 n) ∧ H' = H.set k (.cells (bw (whF KB x n)) 5 1)) 64 ?_ ?_
    · refine ⟨0,by omega,?_⟩
      simp (disch := omega) only [↓aI,↓zP,aD,zD,aS,Nat.reduceBEq,Nat.reduceLT,reduceCtorEq,↓reduceIte,Nat.reduceMul,Nat.reduceAdd,Nat.reduceLeDiff,Nat.reduceEqDiff,Int.reduceToNat,Nat.reduceSub,Nat.reduceMod,Nat.reduceDiv,Int.reducePow,Int.reduceLE,Int.reduceNeg,Int.reduceLT,Int.reduceBEq,Int.reduceBNe,Int.reduceEq,Tryd.facts]
    · rintro m σ H' ⟨n,hn,g1,g5,g17,g18,rfl⟩
      have wl := gz (whF KB x n)
      rw [whF_len] at wl
      by_cases hlt : n < 64
      · have hb2 : decide ((n : Int) < 64) = true := by simp; omega
        have hat := encB_get (l := whF KB x n) (i := n) (by rw [whF_len]; exact hlt)
        have hp := put_bytes (l := whF KB x n) (i := n) (b := (whF KB x n).getD n 0 ^^^ x) (by rw [whF_len]; exact hlt)
        have hx8 := n8xor ((whF KB x n).getD n 0) x
        have hws := whF_set KB x hlt
        rw [hws] at hp
        generalize (whF KB x n).getD n 0 = z at *
        simp (disch := omega) only [↓aI,↓zP,aD,zD,aS,Nat.reduceBEq,Nat.reduceLT,reduceCtorEq,↓reduceIte,Nat.reduceMul,Nat.reduceAdd,Nat.reduceLeDiff,Nat.reduceEqDiff,Int.reduceToNat,Nat.reduceSub,Nat.reduceMod,Nat.reduceDiv,Int.reducePow,Int.reduceLE,Int.reduceNeg,Int.reduceLT,Int.reduceBEq,Int.reduceBNe,Int.reduceEq,Tryd.facts,g1,g5,g17,g18,hb2,hat,wl,hx8,hp]
        exact ⟨m - 1,by omega,n + 1,by omega,rfl,rfl⟩
      · obtain rfl : n = 64 := by omega
        have hb2 : decide (((64 : Nat) : Int) < 64) = false := by decide
        simp (disch := omega) only [↓aI,↓zP,aD,zD,aS,Nat.reduceBEq,Nat.reduceLT,reduceCtorEq,↓reduceIte,Nat.reduceMul,Nat.reduceAdd,Nat.reduceLeDiff,Nat.reduceEqDiff,Int.reduceToNat,Nat.reduceSub,Nat.reduceMod,Nat.reduceDiv,Int.reducePow,Int.reduceLE,Int.reduceNeg,Int.reduceLT,Int.reduceBEq,Int.reduceBNe,Int.reduceEq,Tryd.facts,g1,g5,g17,g18,hb2,wl]
        refine ⟨?_,Sub.set_new hk2⟩
        rw [hk2]
        show some (AV.imm 0 (List.take (64 * 1) _) 64) = _
        rw [Nat.mul_one,List.take_of_length_le (by rw [wl]; exact Nat.le_refl _)]
        unfold eu
        rw [whF_len]
  · have hkb : key = keyB key := (if_neg h64).symm
    have hb : decide ((64 : Int) < (key.length : Int)) = false := dF (by omega)
    have hkk : eu key = eu (keyB key) := congrArg eu hkb
    have hkn : (key.length : Int) = ((keyB key).length : Int) := congrArg (fun l : List UInt8 => (l.length : Int)) hkb
    rw [hkn] at hb
    rw [hkk]
    clear hkk hkn hkb h1
    generalize keyB key = KB at *
    have hmin : min KB.length 64 = KB.length := by omega
    have hput := congrArg bw (whF_zero KB x hkl)
    simp (disch := omega) only [↓aI,↓zP,aD,zD,aS,Nat.reduceBEq,Nat.reduceLT,reduceCtorEq,↓reduceIte,Nat.reduceMul,Nat.reduceAdd,Nat.reduceLeDiff,Nat.reduceEqDiff,Int.reduceToNat,Nat.reduceSub,Nat.reduceMod,Nat.reduceDiv,Int.reducePow,Int.reduceLE,Int.reduceNeg,Int.reduceLT,Int.reduceBEq,Int.reduceBNe,Int.reduceEq,Tryd.facts,hb]
    intro k hk0 hk2
    rw [hzl]
    refine copy_m (e := 5) (ns := KB.length) (by kernel_rfl) rfl set_get (by rw [hmin,hsz]; exact ⟨Nat.le_refl _,by rw [gz,Nat.mul_one],rfl⟩) (by rw [hmin,hsz,Nat.mul_one,List.take_of_length_le (by rw [gz]; exact Nat.le_refl _),gz]) (by kernel_rfl) (Nat.zero_le _) (by rw [hsz]; decide) (.inl (by rw [Nat.mul_one,List.take_of_length_le (by rw [gz]; exact Nat.le_refl _),gz,Nat.zero_add]; exact hkl)) ?_
    rw [hsz,Nat.mul_one,List.take_of_length_le (show (bw KB).length ≤ KB.length by rw [gz]; exact Nat.le_refl _),set_set,hz0,hput]
    simp (disch := omega) only [↓aI,↓zP,aD,zD,aS,Nat.reduceBEq,Nat.reduceLT,reduceCtorEq,↓reduceIte,Nat.reduceMul,Nat.reduceAdd,Nat.reduceLeDiff,Nat.reduceEqDiff,Int.reduceToNat,Nat.reduceSub,Nat.reduceMod,Nat.reduceDiv,Int.reducePow,Int.reduceLE,Int.reduceNeg,Int.reduceLT,Int.reduceBEq,Int.reduceBNe,Int.reduceEq,Tryd.facts]
    refine br (c := ⟨Tryd.prog,30,[],[],[]⟩) Tryd.mixed (by kernel_rfl) (fun m σ H' => ∃ n : Nat,n + m = 64 ∧ σ 1 = .sc (.int .u8 x.toNat) ∧ σ 5 = .own k 0 64 ∧ σ 17 = .sc (.int .i64 64) ∧ σ 18 = .sc (.int .i64 n) ∧ H' = H.set k (.cells (bw (whF KB x n)) 5 1)) 64 ?_ ?_
    · refine ⟨0,by omega,?_⟩
      simp (disch := omega) only [↓aI,↓zP,aD,zD,aS,Nat.reduceBEq,Nat.reduceLT,reduceCtorEq,↓reduceIte,Nat.reduceMul,Nat.reduceAdd,Nat.reduceLeDiff,Nat.reduceEqDiff,Int.reduceToNat,Nat.reduceSub,Nat.reduceMod,Nat.reduceDiv,Int.reducePow,Int.reduceLE,Int.reduceNeg,Int.reduceLT,Int.reduceBEq,Int.reduceBNe,Int.reduceEq,Tryd.facts]
    · rintro m σ H' ⟨n,hn,g1,g5,g17,g18,rfl⟩
      have wl := gz (whF KB x n)
      rw [whF_len] at wl
      by_cases hlt : n < 64
      · have hb2 : decide ((n : Int) < 64) = true := by simp; omega
        have hat := encB_get (l := whF KB x n) (i := n) (by rw [whF_len]; exact hlt)
        have hp := put_bytes (l := whF KB x n) (i := n) (b := (whF KB x n).getD n 0 ^^^ x) (by rw [whF_len]; exact hlt)
        have hx8 := n8xor ((whF KB x n).getD n 0) x
        have hws := whF_set KB x hlt
        rw [hws] at hp
        generalize (whF KB x n).getD n 0 = z at *
        simp (disch := omega) only [↓aI,↓zP,aD,zD,aS,Nat.reduceBEq,Nat.reduceLT,reduceCtorEq,↓reduceIte,Nat.reduceMul,Nat.reduceAdd,Nat.reduceLeDiff,Nat.reduceEqDiff,Int.reduceToNat,Nat.reduceSub,Nat.reduceMod,Nat.reduceDiv,Int.reducePow,Int.reduceLE,Int.reduceNeg,Int.reduceLT,Int.reduceBEq,Int.reduceBNe,Int.reduceEq,Tryd.facts,g1,g5,g17,g18,hb2,hat,wl,hx8,hp]
        exact ⟨m - 1,by omega,n + 1,by omega,rfl,rfl⟩
      · obtain rfl : n = 64 := by omega
        have hb2 : decide (((64 : Nat) : Int) < 64) = false := by decide
        simp (disch := omega) only [↓aI,↓zP,aD,zD,aS,Nat.reduceBEq,Nat.reduceLT,reduceCtorEq,↓reduceIte,Nat.reduceMul,Nat.reduceAdd,Nat.reduceLeDiff,Nat.reduceEqDiff,Int.reduceToNat,Nat.reduceSub,Nat.reduceMod,Nat.reduceDiv,Int.reducePow,Int.reduceLE,Int.reduceNeg,Int.reduceLT,Int.reduceBEq,Int.reduceBNe,Int.reduceEq,Tryd.facts,g1,g5,g17,g18,hb2,wl]
        refine ⟨?_,Sub.set_new hk2⟩
        rw [hk2]
        show some (AV.imm 0 (List.take (64 * 1) _) 64) = _
        rw [Nat.mul_one,List.take_of_length_le (by rw [wl]; exact Nat.le_refl _)]
        unfold eu
        rw [whF_len]
end Go.Proofs.YtejncnmdjkhiaaaDoor
end
section
set_option linter.unusedSimpArgs false
set_option linter.unusedVariables false
set_option maxRecDepth 20000
set_option maxHeartbeats 4000000
namespace Go.Proofs.YtejncnmdjkhiaaaDoor
open Go Go.Abs Go.Proofs Go.Sha
theorem SH.less {H0 H1 H2 : AH} {h : Nat} {w : List UInt8} (s : SH H0 H1 h w) (hs : Abs.Sub H1 H2) : SH H0 H2 h w := by
  obtain ⟨k,o,g⟩ := s
  exact ⟨k,o,⟨hs _ _ g.box,hs _ _ g.tok,g.fit,g.k0,g.h0,g.kh,g.fh,g.fk,g.sub.trans hs⟩⟩
theorem mac_pure (key : List UInt8) (ps : List (List UInt8)) (hk : key.length ≤ 10000000) (hp : ps.flatten.length ≤ 10000000) (hn : ps.length ≤ 1000000) : APure Tryd.prog 51 [eu key,.imm 0 (ps.map eu) ps.length] (eu (hmacM key ps.flatten)) := by
  have hml : (ps.map eu).length = ps.length := List.length_map ..
  have w1 := kQ key 54 hk
  have w2 := kQ key 92 hk
  rw [show (((54 : UInt8).toNat : Nat) : Int) = 54 from rfl] at w1
  rw [show (((92 : UInt8).toNat : Nat) : Int) = 92 from rfl] at w2
  have l1 := wholeB_len key 54
  have l2 := wholeB_len key 92
  have hres : hmacM key ps.flatten = shaM (wholeB key 92 ++ shaM (wholeB key 54 ++ ps.flatten)) := rfl
  rw [hres]
  generalize wholeB key 54 = ki at *
  generalize wholeB key 92 = ko at *
  refine az (c := ⟨Tryd.prog,35,[],[],[]⟩) (rs := [ResultVar.tmp 4]) Tryd.mixed Tryd.func51 rfl rfl rfl (Nat.le_of_ble_eq_true rfl) (by kernel_rfl) fun H => ?_
  simp (disch := omega) only [↓aI,↓zP,aD,zD,aS,Nat.reduceBEq,Nat.reduceLT,reduceCtorEq,↓reduceIte,Nat.reduceMul,Nat.reduceAdd,Nat.reduceLeDiff,Nat.reduceEqDiff,Int.reduceToNat,Nat.reduceSub,Nat.reduceMod,Nat.reduceDiv,Int.reducePow,Int.reduceLE,Int.reduceNeg,Int.reduceLT,Int.reduceBEq,Int.reduceBNe,Int.reduceEq,Tryd.facts]
  refine CallK.i (new_sh H) ?_
  rintro v E ⟨h,rfl,s⟩
  simp (disch := omega) only [↓aI,↓zP,aD,zD,aS,Nat.reduceBEq,Nat.reduceLT,reduceCtorEq,↓reduceIte,Nat.reduceMul,Nat.reduceAdd,Nat.reduceLeDiff,Nat.reduceEqDiff,Int.reduceToNat,Nat.reduceSub,Nat.reduceMod,Nat.reduceDiv,Int.reducePow,Int.reduceLE,Int.reduceNeg,Int.reduceLT,Int.reduceBEq,Int.reduceBNe,Int.reduceEq,Tryd.facts]
  first | refine CallK.p (w1) ?_ | refine CallP.i (w1) ?_
  simp (disch := omega) only [↓aI,↓zP,aD,zD,aS,Nat.reduceBEq,Nat.reduceLT,reduceCtorEq,↓reduceIte,Nat.reduceMul,Nat.reduceAdd,Nat.reduceLeDiff,Nat.reduceEqDiff,Int.reduceToNat,Nat.reduceSub,Nat.reduceMod,Nat.reduceDiv,Int.reducePow,Int.reduceLE,Int.reduceNeg,Int.reduceLT,Int.reduceBEq,Int.reduceBNe,Int.reduceEq,Tryd.facts]
  refine CallK.i (write_sh s ki (by simp) (by omega)) ?_
  rintro v E2 ⟨rfl,s2⟩
  rw [List.nil_append] at s2
  simp (disch := omega) only [↓aI,↓zP,aD,zD,aS,Nat.reduceBEq,Nat.reduceLT,reduceCtorEq,↓reduceIte,Nat.reduceMul,Nat.reduceAdd,Nat.reduceLeDiff,Nat.reduceEqDiff,Int.reduceToNat,Nat.reduceSub,Nat.reduceMod,Nat.reduceDiv,Int.reducePow,Int.reduceLE,Int.reduceNeg,Int.reduceLT,Int.reduceBEq,Int.reduceBNe,Int.reduceEq,Tryd.facts,hml]
  refine br (c := ⟨Tryd.prog,35,[],[],[]⟩) Tryd.mixed (by kernel_rfl) (fun m σ H' => ∃ i : Nat,i + m = ps.length ∧ σ 0 = eu key ∧ σ 5 = .ptr h 0 ∧ σ 14 = .imm 0 (ps.map eu) ps.length ∧ σ 15 = .sc (.int .i64 ps.length) ∧ σ 16 = .sc (.int .i64 i) ∧ SH H H' h (ki ++ (ps.take i).flatten)) ps.length ?_ ?_
  · refine ⟨0,by omega,?_⟩
    simp (disch := omega) only [↓aI,↓zP,aD,zD,aS,Nat.reduceBEq,Nat.reduceLT,reduceCtorEq,↓reduceIte,Nat.reduceMul,Nat.reduceAdd,Nat.reduceLeDiff,Nat.reduceEqDiff,Int.reduceToNat,Nat.reduceSub,Nat.reduceMod,Nat.reduceDiv,Int.reducePow,Int.reduceLE,Int.reduceNeg,Int.reduceLT,Int.reduceBEq,Int.reduceBNe,Int.reduceEq,Tryd.facts]
    simpa using s2
  · rintro m σ H' ⟨i,hi,g0,g5,g14,g15,g16,s3⟩
    by_cases hlt : i < ps.length
    · have hb : decide ((i : Int) < (ps.length : Int)) = true := by simp; omega
      have hat := getR (ls := ps) hlt
      have hft := flat_take (ls := ps) hlt
      have hfl := flat_le (ls := ps) i
      have hfm := kN (List.getElem_mem hlt)
      have hwr := write_sh s3 ps[i] (by rw [List.length_append]; omega) (by omega)
      rw [List.append_assoc,← hft] at hwr
      generalize ps[i] = p at *
      simp (disch := omega) only [↓aI,↓zP,aD,zD,aS,Nat.reduceBEq,Nat.reduceLT,reduceCtorEq,↓reduceIte,Nat.reduceMul,Nat.reduceAdd,Nat.reduceLeDiff,Nat.reduceEqDiff,Int.reduceToNat,Nat.reduceSub,Nat.reduceMod,Nat.reduceDiv,Int.reducePow,Int.reduceLE,Int.reduceNeg,Int.reduceLT,Int.reduceBEq,Int.reduceBNe,Int.reduceEq,Tryd.facts,g0,g5,g14,g15,g16,hb,hat,hml]
      refine CallK.i hwr ?_
      rintro v E4 ⟨rfl,s4⟩
      simp (disch := omega) only [↓aI,↓zP,aD,zD,aS,Nat.reduceBEq,Nat.reduceLT,reduceCtorEq,↓reduceIte,Nat.reduceMul,Nat.reduceAdd,Nat.reduceLeDiff,Nat.reduceEqDiff,Int.reduceToNat,Nat.reduceSub,Nat.reduceMod,Nat.reduceDiv,Int.reducePow,Int.reduceLE,Int.reduceNeg,Int.reduceLT,Int.reduceBEq,Int.reduceBNe,Int.reduceEq,Tryd.facts,g0,g5,g14,g15,g16]
      exact ⟨m - 1,by omega,i + 1,by omega,rfl,s4⟩
    · obtain rfl : i = ps.length := by omega
      have hb : decide ((ps.length : Int) < (ps.length : Int)) = false := by simp
      rw [List.take_length] at s3
      simp (disch := omega) only [↓aI,↓zP,aD,zD,aS,Nat.reduceBEq,Nat.reduceLT,reduceCtorEq,↓reduceIte,Nat.reduceMul,Nat.reduceAdd,Nat.reduceLeDiff,Nat.reduceEqDiff,Int.reduceToNat,Nat.reduceSub,Nat.reduceMod,Nat.reduceDiv,Int.reducePow,Int.reduceLE,Int.reduceNeg,Int.reduceLT,Int.reduceBEq,Int.reduceBNe,Int.reduceEq,Tryd.facts,g0,g5,g14,g15,g16,hb]
      refine CallK.i (new_sh H') ?_
      rintro v E5 ⟨h2,rfl,s5⟩
      simp (disch := omega) only [↓aI,↓zP,aD,zD,aS,Nat.reduceBEq,Nat.reduceLT,reduceCtorEq,↓reduceIte,Nat.reduceMul,Nat.reduceAdd,Nat.reduceLeDiff,Nat.reduceEqDiff,Int.reduceToNat,Nat.reduceSub,Nat.reduceMod,Nat.reduceDiv,Int.reducePow,Int.reduceLE,Int.reduceNeg,Int.reduceLT,Int.reduceBEq,Int.reduceBNe,Int.reduceEq,Tryd.facts,g0,g5]
      first | refine CallK.p (w2) ?_ | refine CallP.i (w2) ?_
      simp (disch := omega) only [↓aI,↓zP,aD,zD,aS,Nat.reduceBEq,Nat.reduceLT,reduceCtorEq,↓reduceIte,Nat.reduceMul,Nat.reduceAdd,Nat.reduceLeDiff,Nat.reduceEqDiff,Int.reduceToNat,Nat.reduceSub,Nat.reduceMod,Nat.reduceDiv,Int.reducePow,Int.reduceLE,Int.reduceNeg,Int.reduceLT,Int.reduceBEq,Int.reduceBNe,Int.reduceEq,Tryd.facts,g0,g5]
      refine CallK.i (write_sh s5 ko (by simp) (by omega)) ?_
      rintro v E6 ⟨rfl,s6⟩
      rw [List.nil_append] at s6
      simp (disch := omega) only [↓aI,↓zP,aD,zD,aS,Nat.reduceBEq,Nat.reduceLT,reduceCtorEq,↓reduceIte,Nat.reduceMul,Nat.reduceAdd,Nat.reduceLeDiff,Nat.reduceEqDiff,Int.reduceToNat,Nat.reduceSub,Nat.reduceMod,Nat.reduceDiv,Int.reducePow,Int.reduceLE,Int.reduceNeg,Int.reduceLT,Int.reduceBEq,Int.reduceBNe,Int.reduceEq,Tryd.facts,g0,g5]
      refine CallK.i (sum_sh (s3.less s6.sub) (by rw [List.length_append]; omega)) ?_
      rintro v E7 ⟨rfl,rfl⟩
      simp (disch := omega) only [↓aI,↓zP,aD,zD,aS,Nat.reduceBEq,Nat.reduceLT,reduceCtorEq,↓reduceIte,Nat.reduceMul,Nat.reduceAdd,Nat.reduceLeDiff,Nat.reduceEqDiff,Int.reduceToNat,Nat.reduceSub,Nat.reduceMod,Nat.reduceDiv,Int.reducePow,Int.reduceLE,Int.reduceNeg,Int.reduceLT,Int.reduceBEq,Int.reduceBNe,Int.reduceEq,Tryd.facts,g0,g5]
      have l3 := shaM_len (ki ++ ps.flatten)
      refine CallK.i (write_sh s6 (shaM (ki ++ ps.flatten)) (by omega) (by omega)) ?_
      rintro v E8 ⟨rfl,s8⟩
      simp (disch := omega) only [↓aI,↓zP,aD,zD,aS,Nat.reduceBEq,Nat.reduceLT,reduceCtorEq,↓reduceIte,Nat.reduceMul,Nat.reduceAdd,Nat.reduceLeDiff,Nat.reduceEqDiff,Int.reduceToNat,Nat.reduceSub,Nat.reduceMod,Nat.reduceDiv,Int.reducePow,Int.reduceLE,Int.reduceNeg,Int.reduceLT,Int.reduceBEq,Int.reduceBNe,Int.reduceEq,Tryd.facts,g0,g5]
      refine CallK.i (sum_sh s8 (by rw [List.length_append]; omega)) ?_
      rintro v E9 ⟨rfl,rfl⟩
      simp (disch := omega) only [↓aI,↓zP,aD,zD,aS,Nat.reduceBEq,Nat.reduceLT,reduceCtorEq,↓reduceIte,Nat.reduceMul,Nat.reduceAdd,Nat.reduceLeDiff,Nat.reduceEqDiff,Int.reduceToNat,Nat.reduceSub,Nat.reduceMod,Nat.reduceDiv,Int.reducePow,Int.reduceLE,Int.reduceNeg,Int.reduceLT,Int.reduceBEq,Int.reduceBNe,Int.reduceEq,Tryd.facts,g0,g5]
      exact s3.sub.trans s8.sub
theorem mac1_pure (key b : List UInt8) (hk : key.length ≤ 10000000) (hb : b.length ≤ 10000000) : APure Tryd.prog 52 [eu key,eu b] (eu (hmacM key b)) := by
  have h := mac_pure key [b] hk (by simpa using hb) (by simp)
  rw [show [b].flatten = b by simp] at h
  refine az (c := ⟨Tryd.prog,9,[],[],[]⟩) (rs := [ResultVar.tmp 4]) Tryd.mixed Tryd.func52 rfl rfl rfl (Nat.le_of_ble_eq_true rfl) (by kernel_rfl) fun H => ?_
  simp (disch := omega) only [↓aI,↓zP,aD,zD,aS,Nat.reduceBEq,Nat.reduceLT,reduceCtorEq,↓reduceIte,Nat.reduceMul,Nat.reduceAdd,Nat.reduceLeDiff,Nat.reduceEqDiff,Int.reduceToNat,Nat.reduceSub,Nat.reduceMod,Nat.reduceDiv,Int.reducePow,Int.reduceLE,Int.reduceNeg,Int.reduceLT,Int.reduceBEq,Int.reduceBNe,Int.reduceEq,Tryd.facts]
  first | refine CallK.p (h) ?_ | refine CallP.i (h) ?_
  simp (disch := omega) only [↓aI,↓zP,aD,zD,aS,Nat.reduceBEq,Nat.reduceLT,reduceCtorEq,↓reduceIte,Nat.reduceMul,Nat.reduceAdd,Nat.reduceLeDiff,Nat.reduceEqDiff,Int.reduceToNat,Nat.reduceSub,Nat.reduceMod,Nat.reduceDiv,Int.reducePow,Int.reduceLE,Int.reduceNeg,Int.reduceLT,Int.reduceBEq,Int.reduceBNe,Int.reduceEq,Tryd.facts]
  first | exact Abs.Sub.refl _ | trace_state
theorem extract_pure (salt key : List UInt8) (hk : key.length ≤ 10000000) (hs : salt.length ≤ 10000000) : APure Tryd.prog 38 [eu salt,eu key] (eu (hmacM salt key)) := by
  have h := mac1_pure salt key hs hk
  refine az (c := ⟨Tryd.prog,8,[],[],[]⟩) (rs := [ResultVar.tmp 4]) Tryd.mixed Tryd.func38 rfl rfl rfl (Nat.le_of_ble_eq_true rfl) (by kernel_rfl) fun H => ?_
  simp (disch := omega) only [↓aI,↓zP,aD,zD,aS,Nat.reduceBEq,Nat.reduceLT,reduceCtorEq,↓reduceIte,Nat.reduceMul,Nat.reduceAdd,Nat.reduceLeDiff,Nat.reduceEqDiff,Int.reduceToNat,Nat.reduceSub,Nat.reduceMod,Nat.reduceDiv,Int.reducePow,Int.reduceLE,Int.reduceNeg,Int.reduceLT,Int.reduceBEq,Int.reduceBNe,Int.reduceEq,Tryd.facts]
  first | refine CallK.p (h) ?_ | refine CallP.i (h) ?_
  simp (disch := omega) only [↓aI,↓zP,aD,zD,aS,Nat.reduceBEq,Nat.reduceLT,reduceCtorEq,↓reduceIte,Nat.reduceMul,Nat.reduceAdd,Nat.reduceLeDiff,Nat.reduceEqDiff,Int.reduceToNat,Nat.reduceSub,Nat.reduceMod,Nat.reduceDiv,Int.reducePow,Int.reduceLE,Int.reduceNeg,Int.reduceLT,Int.reduceBEq,Int.reduceBNe,Int.reduceEq,Tryd.facts]
  first | exact Abs.Sub.refl _ | trace_state
theorem expand_pure (key info : List UInt8) (hk : key.length ≤ 10000000) (hi : info.length ≤ 9000000) : APure Tryd.prog 37 [eu key,eu info,.sc (.int .i64 32)] (.tup [eu (hmacM key (info ++ [1])),.sc (.int .i64 0)]) := by
  have h := mac_pure key [[],info,[1]] hk (by simp; omega) (by simp)
  rw [show [[],info,[1]].flatten = info ++ [1] by simp] at h
  have hl := hmacM_len key (info ++ [1])
  generalize hmacM key (info ++ [1]) = R at *
  have h1 : IntKind.i64.wrap (Int.tdiv (IntKind.i64.wrap (32 + 31)) 32) = 1 := by decide
  refine az (c := ⟨Tryd.prog,40,[],[],[]⟩) (rs := [ResultVar.tmp 6,ResultVar.tmp 7]) Tryd.mixed Tryd.func37 rfl rfl rfl (Nat.le_of_ble_eq_true rfl) (by kernel_rfl) fun H => ?_
  simp (disch := omega) only [↓aI,↓zP,aD,zD,aS,Nat.reduceBEq,Nat.reduceLT,reduceCtorEq,↓reduceIte,Nat.reduceMul,Nat.reduceAdd,Nat.reduceLeDiff,Nat.reduceEqDiff,Int.reduceToNat,Nat.reduceSub,Nat.reduceMod,Nat.reduceDiv,Int.reducePow,Int.reduceLE,Int.reduceNeg,Int.reduceLT,Int.reduceBEq,Int.reduceBNe,Int.reduceEq,Tryd.facts,zA]
  refine jn 8 (by simp (disch := omega) only [↓aI,↓zP,aD,zD,aS,Nat.reduceBEq,Nat.reduceLT,reduceCtorEq,↓reduceIte,Nat.reduceMul,Nat.reduceAdd,Nat.reduceLeDiff,Nat.reduceEqDiff,Int.reduceToNat,Nat.reduceSub,Nat.reduceMod,Nat.reduceDiv,Int.reducePow,Int.reduceLE,Int.reduceNeg,Int.reduceLT,Int.reduceBEq,Int.reduceBNe,Int.reduceEq,Tryd.facts]) fun k hk0 hk2 => ?_
  refine br (c := ⟨Tryd.prog,40,[],[],[]⟩) Tryd.mixed (by kernel_rfl) (fun m σ H' => σ 2 = .sc (.int .i64 32) ∧ σ 19 = .sc (.int .i64 1) ∧ ∃ k o,k ≠ 0 ∧ H k = none ∧ H' = H.set k o ∧
    ((m = 1 ∧ σ 0 = eu key ∧ σ 1 = eu info ∧ σ 9 = .sc (.slice none 0 0) ∧ σ 20 = .sc (.int .i64 0) ∧ σ 8 = .imm k [] 0 ∧ cy 5 1 o 0) ∨
     (m = 0 ∧ σ 20 = .sc (.int .i64 1) ∧ σ 8 = .imm k (bw R) 32 ∧ cy 5 1 o 32))) 1 ?_ ?_
  · simp (disch := omega) only [↓aI,↓zP,aD,zD,aS,Nat.reduceBEq,Nat.reduceLT,reduceCtorEq,↓reduceIte,Nat.reduceMul,Nat.reduceAdd,Nat.reduceLeDiff,Nat.reduceEqDiff,Int.reduceToNat,Nat.reduceSub,Nat.reduceMod,Nat.reduceDiv,Int.reducePow,Int.reduceLE,Int.reduceNeg,Int.reduceLT,Int.reduceBEq,Int.reduceBNe,Int.reduceEq,Tryd.facts]
    exact ⟨rfl,k,.nilt,hk0,hk2,rfl,.inl ⟨rfl,.inr ⟨rfl,rfl⟩⟩⟩
  · rintro m σ H' ⟨g2,g19,k,o,hk0,hk2,rfl,hor⟩
    rcases hor with ⟨rfl,g0,g1,g9,g20,g8,ho⟩ | ⟨rfl,g20,g8,ho⟩
    · have hb : decide ((0 : Int) < 1) = true := by decide
      have hw : IntKind.u8.wrap (IntKind.i64.wrap (0 + 1)) = 1 := by decide
      simp (disch := omega) only [↓aI,↓zP,aD,zD,aS,Nat.reduceBEq,Nat.reduceLT,reduceCtorEq,↓reduceIte,Nat.reduceMul,Nat.reduceAdd,Nat.reduceLeDiff,Nat.reduceEqDiff,Int.reduceToNat,Nat.reduceSub,Nat.reduceMod,Nat.reduceDiv,Int.reducePow,Int.reduceLE,Int.reduceNeg,Int.reduceLT,Int.reduceBEq,Int.reduceBNe,Int.reduceEq,Tryd.facts,g0,g1,g2,g8,g9,g19,g20,hb,hw]
      have h' : APure Tryd.prog 51 [AV.imm 0 (bw key) key.length,AV.imm 0 [AV.imm 0 [] 0,AV.imm 0 (bw info) info.length,AV.imm 0 [AV.sc (.int .u8 (IntKind.u8.wrap (0 + 1)))] 1] 3] (eu R) := h
      have her := gz R
      first | refine CallK.p (h') ?_ | refine CallP.i (h') ?_
      simp (disch := omega) only [↓aI,↓zP,aD,zD,aS,Nat.reduceBEq,Nat.reduceLT,reduceCtorEq,↓reduceIte,Nat.reduceMul,Nat.reduceAdd,Nat.reduceLeDiff,Nat.reduceEqDiff,Int.reduceToNat,Nat.reduceSub,Nat.reduceMod,Nat.reduceDiv,Int.reducePow,Int.reduceLE,Int.reduceNeg,Int.reduceLT,Int.reduceBEq,Int.reduceBNe,Int.reduceEq,Tryd.facts,g0,g1,g2,g8,g9,g19,g20,hk0,ho,her,hl]
      intro k' o' hk0' hk' ho'
      exact ⟨0,by omega,k',o',hk0',am hk',rfl,.inr ⟨rfl,rfl,rfl,ho'⟩⟩
    · have hb : decide ((1 : Int) < 1) = false := by decide
      have her := gz R
      simp (disch := omega) only [↓aI,↓zP,aD,zD,aS,Nat.reduceBEq,Nat.reduceLT,reduceCtorEq,↓reduceIte,Nat.reduceMul,Nat.reduceAdd,Nat.reduceLeDiff,Nat.reduceEqDiff,Int.reduceToNat,Nat.reduceSub,Nat.reduceMod,Nat.reduceDiv,Int.reducePow,Int.reduceLE,Int.reduceNeg,Int.reduceLT,Int.reduceBEq,Int.reduceBNe,Int.reduceEq,Tryd.facts,g2,g8,g19,g20,hb,her,hl]
      refine ⟨?_,Sub.set_new hk2⟩
      rw [List.take_of_length_le (by rw [her,hl]; exact Nat.le_refl _)]
      unfold eu
      rw [hl]
theorem derive_pure (salt key info : List UInt8) (hs : salt.length ≤ 10000000) (hk : key.length ≤ 10000000) (hi : info.length ≤ 9000000) : APure Tryd.prog 26 [eu salt,eu key,eu info,.sc (.int .i64 32)] (.tup [eu (hmacM (hmacM salt key) (info ++ [1])),.sc (.int .i64 0)]) := by
  have h1 := extract_pure salt key hk hs
  have hl := hmacM_len salt key
  have h2 := expand_pure (hmacM salt key) info (by omega) hi
  refine az (c := ⟨Tryd.prog,18,[],[],[]⟩) (rs := [ResultVar.tmp 8,ResultVar.tmp 9]) Tryd.mixed Tryd.func26 rfl rfl rfl (Nat.le_of_ble_eq_true rfl) (by kernel_rfl) fun H => ?_
  simp (disch := omega) only [↓aI,↓zP,aD,zD,aS,Nat.reduceBEq,Nat.reduceLT,reduceCtorEq,↓reduceIte,Nat.reduceMul,Nat.reduceAdd,Nat.reduceLeDiff,Nat.reduceEqDiff,Int.reduceToNat,Nat.reduceSub,Nat.reduceMod,Nat.reduceDiv,Int.reducePow,Int.reduceLE,Int.reduceNeg,Int.reduceLT,Int.reduceBEq,Int.reduceBNe,Int.reduceEq,Tryd.facts]
  first | refine CallK.p (h1) ?_ | refine CallP.i (h1) ?_
  simp (disch := omega) only [↓aI,↓zP,aD,zD,aS,Nat.reduceBEq,Nat.reduceLT,reduceCtorEq,↓reduceIte,Nat.reduceMul,Nat.reduceAdd,Nat.reduceLeDiff,Nat.reduceEqDiff,Int.reduceToNat,Nat.reduceSub,Nat.reduceMod,Nat.reduceDiv,Int.reducePow,Int.reduceLE,Int.reduceNeg,Int.reduceLT,Int.reduceBEq,Int.reduceBNe,Int.reduceEq,Tryd.facts]
  first | refine CallK.p (h2) ?_ | refine CallP.i (h2) ?_
  simp (disch := omega) only [↓aI,↓zP,aD,zD,aS,Nat.reduceBEq,Nat.reduceLT,reduceCtorEq,↓reduceIte,Nat.reduceMul,Nat.reduceAdd,Nat.reduceLeDiff,Nat.reduceEqDiff,Int.reduceToNat,Nat.reduceSub,Nat.reduceMod,Nat.reduceDiv,Int.reducePow,Int.reduceLE,Int.reduceNeg,Int.reduceLT,Int.reduceBEq,Int.reduceBNe,Int.reduceEq,Tryd.facts]
  first | exact Abs.Sub.refl _ | trace_state
theorem derived_pure (key info : List UInt8) (hk : key.length ≤ 10000000) (hi : info.length ≤ 9000000) : APure Tryd.prog 17 [eu key,eu info] (eu (derivM key info)) := by
  have h := derive_pure [] key info (by simp) hk hi
  unfold derivM
  refine az (c := ⟨Tryd.prog,14,[],[],[]⟩) (rs := [ResultVar.tmp 4]) Tryd.mixed Tryd.func17 rfl rfl rfl (Nat.le_of_ble_eq_true rfl) (by kernel_rfl) fun H => ?_
  simp (disch := omega) only [↓aI,↓zP,aD,zD,aS,Nat.reduceBEq,Nat.reduceLT,reduceCtorEq,↓reduceIte,Nat.reduceMul,Nat.reduceAdd,Nat.reduceLeDiff,Nat.reduceEqDiff,Int.reduceToNat,Nat.reduceSub,Nat.reduceMod,Nat.reduceDiv,Int.reducePow,Int.reduceLE,Int.reduceNeg,Int.reduceLT,Int.reduceBEq,Int.reduceBNe,Int.reduceEq,Tryd.facts]
  first | refine CallK.p (h) ?_ | refine CallP.i (h) ?_
  simp (disch := omega) only [↓aI,↓zP,aD,zD,aS,Nat.reduceBEq,Nat.reduceLT,reduceCtorEq,↓reduceIte,Nat.reduceMul,Nat.reduceAdd,Nat.reduceLeDiff,Nat.reduceEqDiff,Int.reduceToNat,Nat.reduceSub,Nat.reduceMod,Nat.reduceDiv,Int.reducePow,Int.reduceLE,Int.reduceNeg,Int.reduceLT,Int.reduceBEq,Int.reduceBNe,Int.reduceEq,Tryd.facts]
  first | exact Abs.Sub.refl _ | trace_state
end Go.Proofs.YtejncnmdjkhiaaaDoor
end
