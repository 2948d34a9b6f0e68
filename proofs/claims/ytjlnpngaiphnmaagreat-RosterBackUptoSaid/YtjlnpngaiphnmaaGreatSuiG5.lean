/-
  Several texts in one: each says what it proves.
  Conditions: none. Lemmas only.
-/
import Derived.Test.YtjlnpngaiphnmaaGreatSuiG4
set_option linter.all false
section
set_option linter.unusedSimpArgs false
set_option linter.unusedVariables false
set_option maxRecDepth 20000
namespace Go.Proofs.YtjlnpngaiphnmaaGreat
open Go Go.Abs Go.Proofs

theorem vpublic_pure (ts : List Term) (d : Nat) (a : List UInt8) (ht : okT ⟨112, [a]⟩) (hts : ∀ x ∈ ts, okT x) (hl : ts.length ≤ 1000000) : APure Tryz.prog 73 [fw ts d, eu a]
    (if a.length = 32 then .tup [fw (fC ts ⟨112,[a]⟩).1 d,eu (fW ⟨112,[a]⟩ (fC ts ⟨112,[a]⟩).2)] else .tup [fw ts d,.imm 0 [] 0]) := by
  have hy := jc ts d ⟨112,[a]⟩ ht (by simp) hts hl
  have hz := kB ts d ⟨112,[a]⟩ ht (by simp) hts hl
  have hk : ((112 : UInt8).toNat : Int) = 112 := rfl
  generalize (fC ts ⟨112,[a]⟩).1 = Z1 at *
  generalize fW ⟨112,[a]⟩ (fC ts ⟨112,[a]⟩).2 = Z2 at *
  by_cases h32 : a.length = 32
  · rw [if_pos h32]
    have hn := hy h32
    refine az (c := ⟨Tryz.prog,13,[(1000000,[2])],[],[]⟩) (rs := [ResultVar.cell 4 51,ResultVar.tmp 5]) Tryz.mixed Tryz.func73 rfl rfl rfl (Nat.le_of_ble_eq_true rfl) (by kernel_rfl) fun H => ?_
    simp (disch := omega) only [↓aI,↓zP,aD,zD,aS,simprocAttr,Tryz.facts]
    intro k1 hk10 hk1 k2 hk20 hk2
    have n12 := bK hk2
    have hkH := am hk2
    simp (disch := omega) only [↓aI,↓zP,aD,zD,aS,simprocAttr,Tryz.facts,aP,bH hk1 n12]
    first | refine CallK.p (hn) ?_ | refine CallP.i (hn) ?_
    simp (disch := omega) only [↓aI,↓zP,aD,zD,aS,simprocAttr,Tryz.facts,ah]
    exact Sub.set_new hkH
  · rw [if_neg h32]
    have hn := hz h32
    refine az (c := ⟨Tryz.prog,13,[(1000000,[2])],[],[]⟩) (rs := [ResultVar.cell 4 51,ResultVar.tmp 5]) Tryz.mixed Tryz.func73 rfl rfl rfl (Nat.le_of_ble_eq_true rfl) (by kernel_rfl) fun H => ?_
    simp (disch := omega) only [↓aI,↓zP,aD,zD,aS,simprocAttr,Tryz.facts]
    intro k1 hk10 hk1 k2 hk20 hk2
    have n12 := bK hk2
    have hkH := am hk2
    simp (disch := omega) only [↓aI,↓zP,aD,zD,aS,simprocAttr,Tryz.facts,aP,bH hk1 n12]
    first | refine CallK.p (hn) ?_ | refine CallP.i (hn) ?_
    simp (disch := omega) only [↓aI,↓zP,aD,zD,aS,simprocAttr,Tryz.facts,ah]
    exact Sub.set_new hkH

theorem vderive_pure (ts : List Term) (d : Nat) (a b : List UInt8) (ht : okT ⟨107, [a, b]⟩) (hts : ∀ x ∈ ts, okT x) (hl : ts.length ≤ 1000000) : APure Tryz.prog 106 [fw ts d, eu a, eu b]
    (if a.length = 32 then .tup [fw (fC ts ⟨107,[a,b]⟩).1 d,eu (fW ⟨107,[a,b]⟩ (fC ts ⟨107,[a,b]⟩).2)] else .tup [fw ts d,.imm 0 [] 0]) := by
  have hy := jc ts d ⟨107,[a,b]⟩ ht (by simp) hts hl
  have hz := kB ts d ⟨107,[a,b]⟩ ht (by simp) hts hl
  have hk : ((107 : UInt8).toNat : Int) = 107 := rfl
  generalize (fC ts ⟨107,[a,b]⟩).1 = Z1 at *
  generalize fW ⟨107,[a,b]⟩ (fC ts ⟨107,[a,b]⟩).2 = Z2 at *
  by_cases h32 : a.length = 32
  · rw [if_pos h32]
    have hn := hy h32
    refine az (c := ⟨Tryz.prog,16,[(1000000,[3])],[],[]⟩) (rs := [ResultVar.cell 6 51,ResultVar.tmp 7]) Tryz.mixed Tryz.func106 rfl rfl rfl (Nat.le_of_ble_eq_true rfl) (by kernel_rfl) fun H => ?_
    simp (disch := omega) only [↓aI,↓zP,aD,zD,aS,simprocAttr,Tryz.facts]
    intro k1 hk10 hk1 k2 hk20 hk2
    have n12 := bK hk2
    have hkH := am hk2
    simp (disch := omega) only [↓aI,↓zP,aD,zD,aS,simprocAttr,Tryz.facts,aP,bH hk1 n12]
    first | refine CallK.p (hn) ?_ | refine CallP.i (hn) ?_
    simp (disch := omega) only [↓aI,↓zP,aD,zD,aS,simprocAttr,Tryz.facts,ah]
    exact Sub.set_new hkH
  · rw [if_neg h32]
    have hn := hz h32
    refine az (c := ⟨Tryz.prog,16,[(1000000,[3])],[],[]⟩) (rs := [ResultVar.cell 6 51,ResultVar.tmp 7]) Tryz.mixed Tryz.func106 rfl rfl rfl (Nat.le_of_ble_eq_true rfl) (by kernel_rfl) fun H => ?_
    simp (disch := omega) only [↓aI,↓zP,aD,zD,aS,simprocAttr,Tryz.facts]
    intro k1 hk10 hk1 k2 hk20 hk2
    have n12 := bK hk2
    have hkH := am hk2
    simp (disch := omega) only [↓aI,↓zP,aD,zD,aS,simprocAttr,Tryz.facts,aP,bH hk1 n12]
    first | refine CallK.p (hn) ?_ | refine CallP.i (hn) ?_
    simp (disch := omega) only [↓aI,↓zP,aD,zD,aS,simprocAttr,Tryz.facts,ah]
    exact Sub.set_new hkH

theorem vsigner_pure (ts : List Term) (d : Nat) (a : List UInt8) (ht : okT ⟨118, [a]⟩) (hts : ∀ x ∈ ts, okT x) (hl : ts.length ≤ 1000000) : APure Tryz.prog 74 [fw ts d, eu a]
    (if a.length = 32 then .tup [fw (fC ts ⟨118,[a]⟩).1 d,eu (fW ⟨118,[a]⟩ (fC ts ⟨118,[a]⟩).2)] else .tup [fw ts d,.imm 0 [] 0]) := by
  have hy := jc ts d ⟨118,[a]⟩ ht (by simp) hts hl
  have hz := kB ts d ⟨118,[a]⟩ ht (by simp) hts hl
  have hk : ((118 : UInt8).toNat : Int) = 118 := rfl
  generalize (fC ts ⟨118,[a]⟩).1 = Z1 at *
  generalize fW ⟨118,[a]⟩ (fC ts ⟨118,[a]⟩).2 = Z2 at *
  by_cases h32 : a.length = 32
  · rw [if_pos h32]
    have hn := hy h32
    refine az (c := ⟨Tryz.prog,13,[(1000000,[2])],[],[]⟩) (rs := [ResultVar.cell 4 51,ResultVar.tmp 5]) Tryz.mixed Tryz.func74 rfl rfl rfl (Nat.le_of_ble_eq_true rfl) (by kernel_rfl) fun H => ?_
    simp (disch := omega) only [↓aI,↓zP,aD,zD,aS,simprocAttr,Tryz.facts]
    intro k1 hk10 hk1 k2 hk20 hk2
    have n12 := bK hk2
    have hkH := am hk2
    simp (disch := omega) only [↓aI,↓zP,aD,zD,aS,simprocAttr,Tryz.facts,aP,bH hk1 n12]
    first | refine CallK.p (hn) ?_ | refine CallP.i (hn) ?_
    simp (disch := omega) only [↓aI,↓zP,aD,zD,aS,simprocAttr,Tryz.facts,ah]
    exact Sub.set_new hkH
  · rw [if_neg h32]
    have hn := hz h32
    refine az (c := ⟨Tryz.prog,13,[(1000000,[2])],[],[]⟩) (rs := [ResultVar.cell 4 51,ResultVar.tmp 5]) Tryz.mixed Tryz.func74 rfl rfl rfl (Nat.le_of_ble_eq_true rfl) (by kernel_rfl) fun H => ?_
    simp (disch := omega) only [↓aI,↓zP,aD,zD,aS,simprocAttr,Tryz.facts]
    intro k1 hk10 hk1 k2 hk20 hk2
    have n12 := bK hk2
    have hkH := am hk2
    simp (disch := omega) only [↓aI,↓zP,aD,zD,aS,simprocAttr,Tryz.facts,aP,bH hk1 n12]
    first | refine CallK.p (hn) ?_ | refine CallP.i (hn) ?_
    simp (disch := omega) only [↓aI,↓zP,aD,zD,aS,simprocAttr,Tryz.facts,ah]
    exact Sub.set_new hkH

theorem vsign_pure (ts : List Term) (d : Nat) (a b : List UInt8) (ht : okT ⟨103, [a, b]⟩) (hts : ∀ x ∈ ts, okT x) (hl : ts.length ≤ 1000000) : APure Tryz.prog 96 [fw ts d, eu a, eu b]
    (if a.length = 32 then .tup [fw (fC ts ⟨103,[a,b]⟩).1 d,eu (fW ⟨103,[a,b]⟩ (fC ts ⟨103,[a,b]⟩).2)] else .tup [fw ts d,.imm 0 [] 0]) := by
  have hy := jc ts d ⟨103,[a,b]⟩ ht (by simp) hts hl
  have hz := kB ts d ⟨103,[a,b]⟩ ht (by simp) hts hl
  have hk : ((103 : UInt8).toNat : Int) = 103 := rfl
  generalize (fC ts ⟨103,[a,b]⟩).1 = Z1 at *
  generalize fW ⟨103,[a,b]⟩ (fC ts ⟨103,[a,b]⟩).2 = Z2 at *
  by_cases h32 : a.length = 32
  · rw [if_pos h32]
    have hn := hy h32
    refine az (c := ⟨Tryz.prog,16,[(1000000,[3])],[],[]⟩) (rs := [ResultVar.cell 6 51,ResultVar.tmp 7]) Tryz.mixed Tryz.func96 rfl rfl rfl (Nat.le_of_ble_eq_true rfl) (by kernel_rfl) fun H => ?_
    simp (disch := omega) only [↓aI,↓zP,aD,zD,aS,simprocAttr,Tryz.facts]
    intro k1 hk10 hk1 k2 hk20 hk2
    have n12 := bK hk2
    have hkH := am hk2
    simp (disch := omega) only [↓aI,↓zP,aD,zD,aS,simprocAttr,Tryz.facts,aP,bH hk1 n12]
    first | refine CallK.p (hn) ?_ | refine CallP.i (hn) ?_
    simp (disch := omega) only [↓aI,↓zP,aD,zD,aS,simprocAttr,Tryz.facts,ah]
    exact Sub.set_new hkH
  · rw [if_neg h32]
    have hn := hz h32
    refine az (c := ⟨Tryz.prog,16,[(1000000,[3])],[],[]⟩) (rs := [ResultVar.cell 6 51,ResultVar.tmp 7]) Tryz.mixed Tryz.func96 rfl rfl rfl (Nat.le_of_ble_eq_true rfl) (by kernel_rfl) fun H => ?_
    simp (disch := omega) only [↓aI,↓zP,aD,zD,aS,simprocAttr,Tryz.facts]
    intro k1 hk10 hk1 k2 hk20 hk2
    have n12 := bK hk2
    have hkH := am hk2
    simp (disch := omega) only [↓aI,↓zP,aD,zD,aS,simprocAttr,Tryz.facts,aP,bH hk1 n12]
    first | refine CallK.p (hn) ?_ | refine CallP.i (hn) ?_
    simp (disch := omega) only [↓aI,↓zP,aD,zD,aS,simprocAttr,Tryz.facts,ah]
    exact Sub.set_new hkH

theorem vhash_pure (ts : List Term) (d : Nat) (a : List UInt8) (ht : okT ⟨104, [a]⟩) (hts : ∀ x ∈ ts, okT x) (hl : ts.length ≤ 1000000) : APure Tryz.prog 90 [fw ts d, eu a]
    (.tup [fw (fC ts ⟨104,[a]⟩).1 d,eu (fW ⟨104,[a]⟩ (fC ts ⟨104,[a]⟩).2)]) := by
  have hn := kR ts d ⟨104,[a]⟩ ht hts hl
  have hk : ((104 : UInt8).toNat : Int) = 104 := rfl
  generalize (fC ts ⟨104,[a]⟩).1 = Z1 at *
  generalize fW ⟨104,[a]⟩ (fC ts ⟨104,[a]⟩).2 = Z2 at *
  refine az (c := ⟨Tryz.prog,13,[(1000000,[2])],[],[]⟩) (rs := [ResultVar.cell 4 51,ResultVar.tmp 5]) Tryz.mixed Tryz.func90 rfl rfl rfl (Nat.le_of_ble_eq_true rfl) (by kernel_rfl) fun H => ?_
  simp (disch := omega) only [↓aI,↓zP,aD,zD,aS,simprocAttr,Tryz.facts]
  intro k1 hk10 hk1 k2 hk20 hk2
  have n12 := bK hk2
  have hkH := am hk2
  simp (disch := omega) only [↓aI,↓zP,aD,zD,aS,simprocAttr,Tryz.facts,aP,bH hk1 n12]
  first | refine CallK.p (hn) ?_ | refine CallP.i (hn) ?_
  simp (disch := omega) only [↓aI,↓zP,aD,zD,aS,simprocAttr,Tryz.facts,ah]
  exact Sub.set_new hkH
theorem kT (ts : List Term) (d : Nat) (hd : d ≤ 1000000) (hts : ∀ x ∈ ts, okT x) (hl : ts.length ≤ 1000000) : APure Tryz.prog 72 [fw ts d]
    (.tup [fw (fC ts ⟨115,[fh 8 (d + 1)]⟩).1 (d + 1),eu (fW ⟨115,[fh 8 (d + 1)]⟩ (fC ts ⟨115,[fh 8 (d + 1)]⟩).2)]) := by
  have hn := kR ts (d + 1) ⟨115,[fh 8 (d + 1)]⟩ ⟨fun h => absurd h (by simp),by simp,by simp [fe]⟩ hts hl
  have he := Eight_pure (d + 1) (by omega)
  have hk : ((115 : UInt8).toNat : Int) = 115 := rfl
  generalize (fC ts ⟨115,[fh 8 (d + 1)]⟩).1 = Z1 at *
  generalize fW ⟨115,[fh 8 (d + 1)]⟩ (fC ts ⟨115,[fh 8 (d + 1)]⟩).2 = Z2 at *
  generalize fh 8 (d + 1) = E at *
  refine az (c := ⟨Tryz.prog,19,[(2,[0,1,0,0,0,0,0,0,0,0,0,2,0]),(1000000,[1])],[],[]⟩) (rs := [ResultVar.cell 2 51,ResultVar.tmp 3]) Tryz.mixed Tryz.func72 rfl rfl rfl (Nat.le_of_ble_eq_true rfl) (by kernel_rfl) fun H => ?_
  simp (disch := omega) only [↓aI,↓zP,aD,zD,aS,simprocAttr,Tryz.facts]
  intro k1 hk10 hk1 k2 hk20 hk2
  have n12 := bK hk2
  have hkH := am hk2
  simp (disch := omega) only [↓aI,↓zP,aD,zD,aS,simprocAttr,Tryz.facts,aP,bH hk1 n12]
  first | refine CallK.p (he) ?_ | refine CallP.i (he) ?_
  simp (disch := omega) only [↓aI,↓zP,aD,zD,aS,simprocAttr,Tryz.facts,ah]
  first | refine CallK.p (hn) ?_ | refine CallP.i (hn) ?_
  simp (disch := omega) only [↓aI,↓zP,aD,zD,aS,simprocAttr,Tryz.facts,ah]
  exact Sub.set_new hkH
theorem vseal_pure (ts : List Term) (d : Nat) (a : List UInt8) (n : Nat) (o x : List UInt8) (hn9 : n < 9223372036854775808) (ht : okT ⟨98, [a, fh 8 n, o, x]⟩) (hts : ∀ x ∈ ts, okT x) (hl : ts.length ≤ 1000000) :
    APure Tryz.prog 95 [fw ts d,eu a,.sc (.int .i64 n),eu o,eu x]
    (if a.length = 32 then .tup [fw (fC ts ⟨98,[a,fh 8 n,o,x]⟩).1 d,eu (fW ⟨98,[a,fh 8 n,o,x]⟩ (fC ts ⟨98,[a,fh 8 n,o,x]⟩).2)] else .tup [fw ts d,.imm 0 [] 0]) := by
  have hy := jc ts d ⟨98,[a,fh 8 n,o,x]⟩ ht (by simp) hts hl
  have hz := kB ts d ⟨98,[a,fh 8 n,o,x]⟩ ht (by simp) hts hl
  have he := Eight_pure n hn9
  have hk : ((98 : UInt8).toNat : Int) = 98 := rfl
  have hb : decide ((n : Int) < 0) = false := by simp
  generalize (fC ts ⟨98,[a,fh 8 n,o,x]⟩).1 = Z1 at *
  generalize fW ⟨98,[a,fh 8 n,o,x]⟩ (fC ts ⟨98,[a,fh 8 n,o,x]⟩).2 = Z2 at *
  generalize fh 8 n = E at *
  by_cases h32 : a.length = 32
  · rw [if_pos h32]
    have hn := hy h32
    refine az (c := ⟨Tryz.prog,26,[(3,[1,0,0,0,0,0,0,0,0,0,0,2,0]),(1000000,[5])],[],[]⟩) (rs := [ResultVar.cell 10 51,ResultVar.tmp 11]) Tryz.mixed Tryz.func95 rfl rfl rfl (Nat.le_of_ble_eq_true rfl) (by kernel_rfl) fun H => ?_
    simp (disch := omega) only [↓aI,↓zP,aD,zD,aS,simprocAttr,Tryz.facts,hb]
    intro k1 hk10 hk1 k2 hk20 hk2
    have n12 := bK hk2
    have hkH := am hk2
    simp (disch := omega) only [↓aI,↓zP,aD,zD,aS,simprocAttr,Tryz.facts,aP,bH hk1 n12,hb]
    first | refine CallK.p (he) ?_ | refine CallP.i (he) ?_
    simp (disch := omega) only [↓aI,↓zP,aD,zD,aS,simprocAttr,Tryz.facts,ah]
    first | refine CallK.p (hn) ?_ | refine CallP.i (hn) ?_
    simp (disch := omega) only [↓aI,↓zP,aD,zD,aS,simprocAttr,Tryz.facts,ah]
    exact Sub.set_new hkH
  · rw [if_neg h32]
    have hn := hz h32
    refine az (c := ⟨Tryz.prog,26,[(3,[1,0,0,0,0,0,0,0,0,0,0,2,0]),(1000000,[5])],[],[]⟩) (rs := [ResultVar.cell 10 51,ResultVar.tmp 11]) Tryz.mixed Tryz.func95 rfl rfl rfl (Nat.le_of_ble_eq_true rfl) (by kernel_rfl) fun H => ?_
    simp (disch := omega) only [↓aI,↓zP,aD,zD,aS,simprocAttr,Tryz.facts,hb]
    intro k1 hk10 hk1 k2 hk20 hk2
    have n12 := bK hk2
    have hkH := am hk2
    simp (disch := omega) only [↓aI,↓zP,aD,zD,aS,simprocAttr,Tryz.facts,aP,bH hk1 n12,hb]
    first | refine CallK.p (he) ?_ | refine CallP.i (he) ?_
    simp (disch := omega) only [↓aI,↓zP,aD,zD,aS,simprocAttr,Tryz.facts,ah]
    first | refine CallK.p (hn) ?_ | refine CallP.i (hn) ?_
    simp (disch := omega) only [↓aI,↓zP,aD,zD,aS,simprocAttr,Tryz.facts,ah]
    exact Sub.set_new hkH
theorem name_num {x : Term} {n : Nat} (hn : n < 18446744073709551616) : jh (fW x n) = n := by
  have e : ((fW x n).drop 1).take 8 = fh 8 n := by
    show ((fh 8 n ++ List.replicate (iP x - 9) 0)).take 8 = _
    rw [List.take_append_of_le_length (by rw [fe]; omega),List.take_of_length_le (by rw [fe]; omega)]
  unfold jh
  rw [e,worthL_low,Nat.mod_eq_of_lt (by omega)]
theorem findT_hit {ts : List Term} {b : List UInt8} {kd : UInt8} {i : Nat} (hi : i < ts.length) (hl : ts.length ≤ 1000000) (hk : ts[i].kind = kd) (hb : fW ts[i] (i + 1) = b) : fN ts b kd = (ts[i],true) := by
  have hnum : jh b = i + 1 := by rw [← hb]; exact name_num (by omega)
  have hlen : ¬ b.length < 9 := by rw [← hb,j4]; have := sizeT_ge ts[i]; omega
  have hhd : b.headD 0 = kd := by rw [← hb,← hk]; rfl
  have hg : ts.getD i ⟨0,[]⟩ = ts[i] := by simp [List.getD,hi]
  rw [fN,if_neg (by simp only [hhd,ne_eq,not_true_eq_false,or_false]; exact hlen),if_neg (by rw [hnum]; omega),hnum]
  simp only [Nat.add_sub_cancel,hg,hk,hb,true_and,decide_true]
theorem findT_miss {ts : List Term} {b : List UInt8} {kd : UInt8} (h : ∀ i (hi : i < ts.length),¬ (ts[i].kind = kd ∧ fW ts[i] (i + 1) = b)) : (fN ts b kd).2 = false := by
  cases hf : (fN ts b kd).2 with
  | false => rfl
  | true =>
    exfalso
    unfold fN at hf
    split at hf
    · cases hf
    · split at hf
      · cases hf
      · rename_i h2
        have hj : jh b - 1 < ts.length := by omega
        have hg : ts.getD (jh b - 1) ⟨0,[]⟩ = ts[jh b - 1] := by simp [List.getD,hj]
        simp only [hg,decide_eq_true_eq] at hf
        refine h _ hj ⟨hf.1,?_⟩
        rw [show jh b - 1 + 1 = jh b by omega]
        exact hf.2.symm
def ju (ts : List Term) (b : List UInt8) (kd : UInt8) : Term × Bool := if (fN ts b kd).2 then ((fN ts b kd).1,true) else (⟨0,[]⟩,false)
theorem vfind_pure (ts : List Term) (d : Nat) (b : List UInt8) (kd : UInt8) (hts : ∀ x ∈ ts, okT x) (hl : ts.length ≤ 1000000) : APure Tryz.prog 103 [fw ts d, eu b, .sc (.int .u8 kd.toNat)]
    (.tup [jo (ju ts b kd).1,.sc (.bool (ju ts b kd).2)]) := by
  have hTl := jJ ts
  have hc := fun i (hi : i < ts.length) => rcalled_pure ts[i] (i + 1) (hts _ (List.getElem_mem hi)) (by omega)
  have hit : ∀ i (hi : i < ts.length),ts[i].kind = kd → fW ts[i] (i + 1) = b → ju ts b kd = (ts[i],true) := fun i hi h1 h2 => by
    rw [ju,findT_hit hi hl h1 h2]; rfl
  have miss : (∀ i (hi : i < ts.length),¬ (ts[i].kind = kd ∧ fW ts[i] (i + 1) = b)) → ju ts b kd = (⟨0,[]⟩,false) := fun h => by
    rw [ju,findT_miss h]; rfl
  generalize ju ts b kd = F at *
  refine az (c := ⟨Tryz.prog,44,[(4,[0,1,0,0,0,1,0,0,0,0,1,0,0,1,0,0,0,0,0,0,0,0]),(1000000,[3])],[],[]⟩) (rs := [ResultVar.cell 6 145,ResultVar.tmp 7]) Tryz.mixed Tryz.func103 rfl rfl rfl (Nat.le_of_ble_eq_true rfl) (by kernel_rfl) fun H => ?_
  simp (disch := omega) only [↓aI,↓zP,aD,zD,aS,simprocAttr,Tryz.facts]
  intro k1 hk10 hk1 k2 hk20 hk2
  have n12 := bK hk2
  have hkH := am hk2
  simp (disch := omega) only [↓aI,↓zP,aD,zD,aS,simprocAttr,Tryz.facts,aP,bH hk1 n12]
  refine br (c := ⟨Tryz.prog,44,[(4,[0,1,0,0,0,1,0,0,0,0,1,0,0,1,0,0,0,0,0,0,0,0]),(1000000,[3])],[],[]⟩) Tryz.mixed (by kernel_rfl) (fun mm σ H' => H' = H.set k2 (.cells [.sc (.int .u8 0),.sc (.slice none 0 0)] 145 2) ∧ ∃ i,i + mm = ts.length ∧ (∀ j (hj : j < ts.length),j < i → ¬ (ts[j].kind = kd ∧ fW ts[j] (j + 1) = b)) ∧
    σ 1 = eu b ∧ σ 2 = .sc (.int .u8 kd.toNat) ∧ σ 3 = .ip [.imm 0 (dC ts) ts.length,.sc (.int .i64 d)] 0 ∧ σ 6 = .ptr k2 0 ∧ σ 8 = .sc (.int .i64 i)) ts.length ?_ ?_
  · refine ⟨rfl,0,by omega,fun j _ hj => by omega,?_⟩
    simp (disch := omega) only [↓aI,↓zP,aD,zD,aS,simprocAttr,Tryz.facts]
  · rintro mm σ H' ⟨rfl,i,him,hnm,h1,h2,h3,h6,h8⟩
    by_cases hlt : i < ts.length
    · have hb1 : decide ((i : Int) < (ts.length : Int)) = true := by simp; omega
      have hld := termsC_load hlt
      have hl0 := termsC_0 hlt
      have hle' : i * 2 + 2 ≤ ts.length * 2 := by omega
      have hc1 := hc i hlt
      have hit1 := hit i hlt
      have hnx : ¬ (ts[i].kind = kd ∧ fW ts[i] (i + 1) = b) → (∀ j (hj : j < ts.length),j < i + 1 → ¬ (ts[j].kind = kd ∧ fW ts[j] (j + 1) = b)) := fun h j hj hji => by
        by_cases e : j = i
        · subst e; exact h
        · exact hnm j hj (by omega)
      generalize ts[i] = x at *
      by_cases hk : x.kind = kd
      · have hbk : (x.kind == kd) = true := by simpa using hk
        simp (disch := omega) only [↓aI,↓zP,aD,zD,aS,simprocAttr,Tryz.facts,h1,h2,h3,h6,h8,hb1,hld,hle',hTl,hl0,hbk]
        first | refine CallK.p (hc1) ?_ | refine CallP.i (hc1) ?_
        simp (disch := omega) only [↓aI,↓zP,aD,zD,aS,simprocAttr,Tryz.facts,h1,h2,h3,h6,h8,hb1,hld,hle',hTl,hl0,hbk,bO]
        cases hq : fW x (i + 1) == b with
        | true =>
          obtain rfl := hit1 hk (by simpa using hq)
          simp (disch := omega) only [↓aI,↓zP,aD,zD,aS,simprocAttr,Tryz.facts,h1,h2,h3,h6,h8,hb1,hld,hle',hTl,hl0,hbk,ah]
          exact Sub.set_new hkH
        | false =>
          simp (disch := omega) only [↓aI,↓zP,aD,zD,aS,simprocAttr,Tryz.facts,h1,h2,h3,h6,h8,hb1,hld,hle',hTl,hl0,hbk,ah]
          exact ⟨mm - 1,by omega,i + 1,by omega,hnx fun h => by simp [h.2] at hq,rfl⟩
      · have hbk : (x.kind == kd) = false := by simpa using hk
        simp (disch := omega) only [↓aI,↓zP,aD,zD,aS,simprocAttr,Tryz.facts,h1,h2,h3,h6,h8,hb1,hld,hle',hTl,hl0,hbk]
        exact ⟨mm - 1,by omega,i + 1,by omega,hnx fun h => hk h.1,rfl⟩
    · have hb1 : decide ((i : Int) < (ts.length : Int)) = false := by simp; omega
      obtain rfl : i = ts.length := by omega
      obtain rfl := miss fun j hj => hnm j hj hj
      simp (disch := omega) only [↓aI,↓zP,aD,zD,aS,simprocAttr,Tryz.facts,h1,h2,h3,h6,h8,hb1,hTl,ah]
      exact ⟨rfl,Sub.set_new hkH⟩
end Go.Proofs.YtjlnpngaiphnmaaGreat
end
section
set_option linter.unusedSimpArgs false
set_option linter.unusedVariables false
set_option maxRecDepth 20000
namespace Go.Proofs.YtjlnpngaiphnmaaGreat
open Go Go.Abs Go.Proofs

theorem less_cmp : ∀ (p s : List UInt8),Op.bytesLess p s = decide (0 < Lib.compareBytes s p)
  | [],[] => rfl
  | [],_ :: _ => rfl
  | _ :: _,[] => rfl
  | a :: x,b :: y => by
    have ih := less_cmp x y
    simp only [Op.bytesLess,Lib.compareBytes]
    by_cases h1 : a < b
    · have h2 : ¬ b < a := by simp only [UInt8.lt_iff_toNat_lt] at *; omega
      simp [h1,h2]
    · by_cases h2 : b < a
      · have h3 : (a == b) = false := by
          simp only [beq_eq_false_iff_ne,ne_eq]
          rintro rfl
          simp only [UInt8.lt_iff_toNat_lt] at h2
          omega
        simp [h1,h2,h3]
      · have h3 : (a == b) = true := by
          simp only [beq_iff_eq]
          apply UInt8.toNat_inj.1
          simp only [UInt8.lt_iff_toNat_lt] at *
          omega
        simp [h1,h2,h3,ih]
theorem findV_yes {ts : List Term} {b : List UInt8} {kd : UInt8} (h : (fN ts b kd).2 = true) : ju ts b kd = ((fN ts b kd).1,true) := by rw [ju,if_pos h]
theorem findV_no {ts : List Term} {b : List UInt8} {kd : UInt8} (h : (fN ts b kd).2 = false) : ju ts b kd = (⟨0,[]⟩,false) := by rw [ju,if_neg (by rw [h]; simp)]

theorem vverify_pure (ts : List Term) (d : Nat) (key b sig : List UInt8) (hts : ∀ x ∈ ts,wfT x) (hl : ts.length ≤ 1000000) : APure Tryz.prog 92 [fw ts d,eu key,eu b,eu sig] (.sc (.bool (verT ts key b sig))) := by
  have f1 := vfind_pure ts d sig 103 (fun x hx => (hts x hx).1) hl
  have f2 := vfind_pure ts d key 118 (fun x hx => (hts x hx).1) hl
  have e1 : (fN ts sig 103).2 = true → 2 ≤ (fN ts sig 103).1.parts.length := fun h => ((hts _ (gP h).1).2.1 (gP h).2)
  have e2 : (fN ts key 118).2 = true → 1 ≤ (fN ts key 118).1.parts.length := fun h => ((hts _ (gP h).1).2.2.1 (gP h).2)
  have k103 : ((103 : UInt8).toNat : Int) = 103 := rfl
  have k118 : ((118 : UInt8).toNat : Int) = 118 := rfl
  have pg1 := fun j (h : j < (fN ts sig 103).1.parts.length) => jg h
  have pg2 := fun j (h : j < (fN ts key 118).1.parts.length) => jg h
  have y1 := findV_yes (ts := ts) (b := sig) (kd := 103)
  have y2 := findV_yes (ts := ts) (b := key) (kd := 118)
  have n1 := findV_no (ts := ts) (b := sig) (kd := 103)
  have n2 := findV_no (ts := ts) (b := key) (kd := 118)
  rw [k103] at f1
  rw [k118] at f2
  have hB : verT ts key b sig = ((fN ts sig 103).2 && (fN ts key 118).2 && (fv (fN ts sig 103).1 0 == fv (fN ts key 118).1 0) && (fv (fN ts sig 103).1 1 == b)) := rfl
  generalize verT ts key b sig = B at *
  generalize ju ts sig 103 = v1 at *
  generalize ju ts key 118 = v2 at *
  generalize fN ts sig 103 = x at *
  generalize fN ts key 118 = y at *
  obtain ⟨x,okx⟩ := x
  obtain ⟨y,oky⟩ := y
  simp only [] at e1 e2 pg1 pg2 y1 y2 n1 n2 hB
  refine az (c := ⟨Tryz.prog,52,[(3,[0,0,0,0,0,0,1,0,1,0,0,1,0,1,0,0,0,0,0,1,0,1,0,0,0,0,0,0]),(1000000,[4]),(1000001,[9]),(1000002,[11])],[],[]⟩) (rs := [ResultVar.tmp 8]) Tryz.mixed Tryz.func92 rfl rfl rfl (Nat.le_of_ble_eq_true rfl) (by kernel_rfl) fun H => ?_
  simp (disch := omega) only [↓aI,↓zP,aD,zD,aS,simprocAttr,Tryz.facts]
  intro b0 hb00 hb0f
  simp (disch := omega) only [↓aI,↓zP,aD,zD,aS,simprocAttr,Tryz.facts,aj hb0f]
  cases okx with
  | false =>
    obtain rfl := n1 rfl
    first | refine CallK.p (f1) ?_ | refine CallP.i (f1) ?_
    simp (disch := omega) only [↓aI,↓zP,aD,zD,aS,simprocAttr,Tryz.facts]
    intro b1 hb10 hb1f
    simp (disch := omega) only [↓aI,↓zP,aD,zD,aS,simprocAttr,Tryz.facts,ah,aj hb1f]
    cases oky with
    | false =>
      obtain rfl := n2 rfl
      first | refine CallK.p (f2) ?_ | refine CallP.i (f2) ?_
      simp (disch := omega) only [↓aI,↓zP,aD,zD,aS,simprocAttr,Tryz.facts]
      intro b2 hb20 hb2f
      simp (disch := omega) only [↓aI,↓zP,aD,zD,aS,simprocAttr,Tryz.facts,ah,aj hb2f]
      exact ⟨by rw [hB]; simp,Abs.Sub.refl _⟩
    | true =>
      obtain rfl := y2 rfl
      first | refine CallK.p (f2) ?_ | refine CallP.i (f2) ?_
      simp (disch := omega) only [↓aI,↓zP,aD,zD,aS,simprocAttr,Tryz.facts]
      intro b2 hb20 hb2f
      simp (disch := omega) only [↓aI,↓zP,aD,zD,aS,simprocAttr,Tryz.facts,ah,aj hb2f]
      exact ⟨by rw [hB]; simp,Abs.Sub.refl _⟩
  | true =>
    obtain rfl := y1 rfl
    have l1 := e1 rfl
    have p1 := pg1 0 (by omega)
    have p2 := pg1 1 (by omega)
    first | refine CallK.p (f1) ?_ | refine CallP.i (f1) ?_
    simp (disch := omega) only [↓aI,↓zP,aD,zD,aS,simprocAttr,Tryz.facts]
    intro b1 hb10 hb1f
    simp (disch := omega) only [↓aI,↓zP,aD,zD,aS,simprocAttr,Tryz.facts,ah,aj hb1f]
    cases oky with
    | false =>
      obtain rfl := n2 rfl
      first | refine CallK.p (f2) ?_ | refine CallP.i (f2) ?_
      simp (disch := omega) only [↓aI,↓zP,aD,zD,aS,simprocAttr,Tryz.facts]
      intro b2 hb20 hb2f
      simp (disch := omega) only [↓aI,↓zP,aD,zD,aS,simprocAttr,Tryz.facts,ah,aj hb2f]
      exact ⟨by rw [hB]; simp,Abs.Sub.refl _⟩
    | true =>
      obtain rfl := y2 rfl
      have l2 := e2 rfl
      have p3 := pg2 0 (by omega)
      first | refine CallK.p (f2) ?_ | refine CallP.i (f2) ?_
      simp (disch := omega) only [↓aI,↓zP,aD,zD,aS,simprocAttr,Tryz.facts]
      intro b2 hb20 hb2f
      cases hq : fv x 0 == fv y 0 with
      | false =>
        simp (disch := omega) only [↓aI,↓zP,aD,zD,aS,simprocAttr,Tryz.facts,ah,aj hb2f,p1,p2,p3,hq,bO]
        exact ⟨by rw [hB]; simp [hq],Abs.Sub.refl _⟩
      | true =>
        simp (disch := omega) only [↓aI,↓zP,aD,zD,aS,simprocAttr,Tryz.facts,ah,aj hb2f,p1,p2,p3,hq,bO]
        exact ⟨by rw [hB]; simp [hq],Abs.Sub.refl _⟩

def openV (ts : List Term) (key : List UInt8) (n : Nat) (o b : List UInt8) : AV :=
  if opT ts key n o b = true then .tup [eu (fv (fN ts b 98).1 3),.sc (.int .i64 0)] else .tup [.imm 0 [] 0,.sc (.int .i64 9)]
def shV (ts : List Term) (d : Nat) (s p : List UInt8) : AV :=
  if s.length ≠ 32 then .tup [fw ts d,.imm 0 [] 0,.sc (.int .i64 1)]
  else if (fN ts p 112).2 = false then .tup [fw ts d,.imm 0 [] 0,.sc (.int .i64 8)]
  else .tup [fw (fC ts (shT s (fv (fN ts p 112).1 0))).1 d,eu (fW (shT s (fv (fN ts p 112).1 0)) (fC ts (shT s (fv (fN ts p 112).1 0))).2),.sc (.int .i64 0)]
theorem vshared_pure (ts : List Term) (d : Nat) (s p : List UInt8) (hp : ∀ x ∈ ts, x.kind = 112 → (fv x 0).length ≤ 1000000) (hts : ∀ x ∈ ts, wfT x) (hl : ts.length ≤ 1000000) :
    APure Tryz.prog 105 [fw ts d,eu s,eu p] (shV ts d s p) := by
  have f1 := vfind_pure ts d p 112 (fun x hx => (hts x hx).1) hl
  have e1 : (fN ts p 112).2 = true → 1 ≤ (fN ts p 112).1.parts.length := fun h => (hts _ (gP h).1).2.2.2 (gP h).2
  have e2 : (fN ts p 112).2 = true → (fv (fN ts p 112).1 0).length ≤ 1000000 := fun h => hp _ (gP h).1 (gP h).2
  have hn : ∀ t,okT t → _ := fun t ht => kR ts d t ht (fun x hx => (hts x hx).1) hl
  have hc := less_cmp (fv (fN ts p 112).1 0) s
  have pg1 := fun j (h : j < (fN ts p 112).1.parts.length) => jg h
  have y1 := findV_yes (ts := ts) (b := p) (kd := 112)
  have n1 := findV_no (ts := ts) (b := p) (kd := 112)
  have k112 : ((112 : UInt8).toNat : Int) = 112 := rfl
  have k100 : ((100 : UInt8).toNat : Int) = 100 := rfl
  rw [k112] at f1
  unfold shV
  generalize ju ts p 112 = v1 at *
  generalize fN ts p 112 = x at *
  obtain ⟨x,okx⟩ := x
  simp only [] at e1 e2 hc pg1 y1 n1 ⊢
  generalize hP : fv x 0 = P at *
  by_cases h32 : s.length = 32
  · have hb : ((s.length : Int) != 32) = false := by simp [h32]
    rw [if_neg (by omega)]
    cases okx with
    | false =>
      rw [if_pos rfl]
      obtain rfl := n1 rfl
      refine az (c := ⟨Tryz.prog,56,[(7,[0,1,0,1,0,0,0,0]),(1000000,[3]),(1000003,[9]),(1000009,[12])],[],[]⟩) (rs := [ResultVar.cell 6 51,ResultVar.tmp 7,ResultVar.tmp 8]) Tryz.mixed Tryz.func105 rfl rfl rfl (Nat.le_of_ble_eq_true rfl) (by kernel_rfl) fun H => ?_
      simp (disch := omega) only [↓aI,↓zP,aD,zD,aS,simprocAttr,Tryz.facts]
      intro k1 hk10 hk1 k2 hk20 hk2
      have n12 := bK hk2
      have hkH := am hk2
      simp (disch := omega) only [↓aI,↓zP,aD,zD,aS,simprocAttr,Tryz.facts,aP,bH hk1 n12,hb]
      first | refine CallK.p (f1) ?_ | refine CallP.i (f1) ?_
      simp (disch := omega) only [↓aI,↓zP,aD,zD,aS,simprocAttr,Tryz.facts]
      intro b1 hb10 hb1f
      simp (disch := omega) only [↓aI,↓zP,aD,zD,aS,simprocAttr,Tryz.facts,ah,aj hb1f]
      exact Sub.set_new hkH
    | true =>
      rw [if_neg (by simp)]
      obtain rfl := y1 rfl
      have l1 := e1 rfl
      have l2 := e2 rfl
      have p0 := pg1 0 (by omega)
      rw [hP] at p0
      have hN := hn (shT s P) ⟨fun h => absurd h (by simp [shT]),by simp only [shT]; split <;> simp,by simp only [shT]; split <;> (simp; omega)⟩
      have hsh : shT s P = ⟨100,if 0 < Lib.compareBytes s P then [P,s] else [s,P]⟩ := rfl
      refine az (c := ⟨Tryz.prog,56,[(7,[0,1,0,1,0,0,0,0]),(1000000,[3]),(1000003,[9]),(1000009,[12])],[],[]⟩) (rs := [ResultVar.cell 6 51,ResultVar.tmp 7,ResultVar.tmp 8]) Tryz.mixed Tryz.func105 rfl rfl rfl (Nat.le_of_ble_eq_true rfl) (by kernel_rfl) fun H => ?_
      simp (disch := omega) only [↓aI,↓zP,aD,zD,aS,simprocAttr,Tryz.facts]
      intro k1 hk10 hk1 k2 hk20 hk2
      have n12 := bK hk2
      have hkH := am hk2
      simp (disch := omega) only [↓aI,↓zP,aD,zD,aS,simprocAttr,Tryz.facts,aP,bH hk1 n12,hb]
      first | refine CallK.p (f1) ?_ | refine CallP.i (f1) ?_
      simp (disch := omega) only [↓aI,↓zP,aD,zD,aS,simprocAttr,Tryz.facts]
      intro b1 hb10 hb1f
      simp (disch := omega) only [↓aI,↓zP,aD,zD,aS,simprocAttr,Tryz.facts,ah,aj hb1f,p0,bO]
      by_cases hgt : 0 < Lib.compareBytes s P
      · have hd : Op.bytesLess P s = true := by rw [hc]; simpa using hgt
        rw [if_pos hgt] at hsh
        generalize shT s P = T at *
        subst hsh
        simp (disch := omega) only [↓aI,↓zP,aD,zD,aS,simprocAttr,Tryz.facts,hd,ah,aj hb1f,p0]
        first | refine CallK.p (hN) ?_ | refine CallP.i (hN) ?_
        simp (disch := omega) only [↓aI,↓zP,aD,zD,aS,simprocAttr,Tryz.facts,ah]
        intro b2 hb20 hb2f
        simp (disch := omega) only [↓aI,↓zP,aD,zD,aS,simprocAttr,Tryz.facts,ah,aj hb2f]
        exact Sub.set_new hkH
      · have hd : Op.bytesLess P s = false := by rw [hc]; simpa using hgt
        rw [if_neg hgt] at hsh
        generalize shT s P = T at *
        subst hsh
        simp (disch := omega) only [↓aI,↓zP,aD,zD,aS,simprocAttr,Tryz.facts,hd,ah,aj hb1f,p0]
        first | refine CallK.p (hN) ?_ | refine CallP.i (hN) ?_
        simp (disch := omega) only [↓aI,↓zP,aD,zD,aS,simprocAttr,Tryz.facts,ah]
        intro b2 hb20 hb2f
        simp (disch := omega) only [↓aI,↓zP,aD,zD,aS,simprocAttr,Tryz.facts,ah,aj hb2f]
        exact Sub.set_new hkH
  · have hb : ((s.length : Int) != 32) = true := by simp; omega
    rw [if_pos h32]
    refine az (c := ⟨Tryz.prog,56,[(7,[0,1,0,1,0,0,0,0]),(1000000,[3]),(1000003,[9]),(1000009,[12])],[],[]⟩) (rs := [ResultVar.cell 6 51,ResultVar.tmp 7,ResultVar.tmp 8]) Tryz.mixed Tryz.func105 rfl rfl rfl (Nat.le_of_ble_eq_true rfl) (by kernel_rfl) fun H => ?_
    simp (disch := omega) only [↓aI,↓zP,aD,zD,aS,simprocAttr,Tryz.facts]
    intro k1 hk10 hk1 k2 hk20 hk2
    have n12 := bK hk2
    have hkH := am hk2
    simp (disch := omega) only [↓aI,↓zP,aD,zD,aS,simprocAttr,Tryz.facts,aP,bH hk1 n12,hb,ah]
    exact Sub.set_new hkH
end Go.Proofs.YtjlnpngaiphnmaaGreat
end
