/-
  Several texts in one: each says what it proves.
  Conditions: none. Lemmas only.
-/
import Derived.Test.YtjlnpngaiphnmaaSuiG4
set_option linter.all false
section
set_option linter.unusedSimpArgs false
set_option linter.unusedVariables false
set_option maxRecDepth 20000
namespace Go.Proofs.Ytjlnpngaiphnmaa
open Go Go.Abs Go.Proofs

theorem vpublic_pure (ts : List Term) (d : Nat) (a : List UInt8) (ht : okT ⟨112, [a]⟩) (hts : ∀ x ∈ ts, okT x) (hl : ts.length ≤ 1000000) : APure Try.prog 32 [vaultV ts d, bytesV a]
    (if a.length = 32 then .tup [vaultV (numT ts ⟨112,[a]⟩).1 d,bytesV (nameT ⟨112,[a]⟩ (numT ts ⟨112,[a]⟩).2)] else .tup [vaultV ts d,.imm 0 [] 0]) := by
  have hy := vnamed_yes ts d ⟨112,[a]⟩ ht (by simp) hts hl
  have hz := vnamed_no ts d ⟨112,[a]⟩ ht (by simp) hts hl
  have hk : ((112 : UInt8).toNat : Int) = 112 := rfl
  generalize (numT ts ⟨112,[a]⟩).1 = Z1 at *
  generalize nameT ⟨112,[a]⟩ (numT ts ⟨112,[a]⟩).2 = Z2 at *
  by_cases h32 : a.length = 32
  · rw [if_pos h32]
    have hn := hy h32
    refine az (c := ⟨Try.prog,13,[(1000000,[2])],[],[]⟩) (rs := [ResultVar.cell 4 29,ResultVar.tmp 5]) Try.mixed Try.func32 rfl rfl rfl (Nat.le_of_ble_eq_true rfl) (by kernel_rfl) fun H => ?_
    simp (disch := omega) only [↓aI,↓zP,aD,zD,aS,simprocAttr,Try.facts]
    intro k1 hk10 hk1 k2 hk20 hk2
    have n12 := bK hk2
    have hkH := am hk2
    simp (disch := omega) only [↓aI,↓zP,aD,zD,aS,simprocAttr,Try.facts,aP,bH hk1 n12]
    first | refine CallK.p (hn) ?_ | refine CallP.i (hn) ?_
    simp (disch := omega) only [↓aI,↓zP,aD,zD,aS,simprocAttr,Try.facts,ah]
    exact Sub.set_new hkH
  · rw [if_neg h32]
    have hn := hz h32
    refine az (c := ⟨Try.prog,13,[(1000000,[2])],[],[]⟩) (rs := [ResultVar.cell 4 29,ResultVar.tmp 5]) Try.mixed Try.func32 rfl rfl rfl (Nat.le_of_ble_eq_true rfl) (by kernel_rfl) fun H => ?_
    simp (disch := omega) only [↓aI,↓zP,aD,zD,aS,simprocAttr,Try.facts]
    intro k1 hk10 hk1 k2 hk20 hk2
    have n12 := bK hk2
    have hkH := am hk2
    simp (disch := omega) only [↓aI,↓zP,aD,zD,aS,simprocAttr,Try.facts,aP,bH hk1 n12]
    first | refine CallK.p (hn) ?_ | refine CallP.i (hn) ?_
    simp (disch := omega) only [↓aI,↓zP,aD,zD,aS,simprocAttr,Try.facts,ah]
    exact Sub.set_new hkH

theorem vderive_pure (ts : List Term) (d : Nat) (a b : List UInt8) (ht : okT ⟨107, [a, b]⟩) (hts : ∀ x ∈ ts, okT x) (hl : ts.length ≤ 1000000) : APure Try.prog 77 [vaultV ts d, bytesV a, bytesV b]
    (if a.length = 32 then .tup [vaultV (numT ts ⟨107,[a,b]⟩).1 d,bytesV (nameT ⟨107,[a,b]⟩ (numT ts ⟨107,[a,b]⟩).2)] else .tup [vaultV ts d,.imm 0 [] 0]) := by
  have hy := vnamed_yes ts d ⟨107,[a,b]⟩ ht (by simp) hts hl
  have hz := vnamed_no ts d ⟨107,[a,b]⟩ ht (by simp) hts hl
  have hk : ((107 : UInt8).toNat : Int) = 107 := rfl
  generalize (numT ts ⟨107,[a,b]⟩).1 = Z1 at *
  generalize nameT ⟨107,[a,b]⟩ (numT ts ⟨107,[a,b]⟩).2 = Z2 at *
  by_cases h32 : a.length = 32
  · rw [if_pos h32]
    have hn := hy h32
    refine az (c := ⟨Try.prog,16,[(1000000,[3])],[],[]⟩) (rs := [ResultVar.cell 6 29,ResultVar.tmp 7]) Try.mixed Try.func77 rfl rfl rfl (Nat.le_of_ble_eq_true rfl) (by kernel_rfl) fun H => ?_
    simp (disch := omega) only [↓aI,↓zP,aD,zD,aS,simprocAttr,Try.facts]
    intro k1 hk10 hk1 k2 hk20 hk2
    have n12 := bK hk2
    have hkH := am hk2
    simp (disch := omega) only [↓aI,↓zP,aD,zD,aS,simprocAttr,Try.facts,aP,bH hk1 n12]
    first | refine CallK.p (hn) ?_ | refine CallP.i (hn) ?_
    simp (disch := omega) only [↓aI,↓zP,aD,zD,aS,simprocAttr,Try.facts,ah]
    exact Sub.set_new hkH
  · rw [if_neg h32]
    have hn := hz h32
    refine az (c := ⟨Try.prog,16,[(1000000,[3])],[],[]⟩) (rs := [ResultVar.cell 6 29,ResultVar.tmp 7]) Try.mixed Try.func77 rfl rfl rfl (Nat.le_of_ble_eq_true rfl) (by kernel_rfl) fun H => ?_
    simp (disch := omega) only [↓aI,↓zP,aD,zD,aS,simprocAttr,Try.facts]
    intro k1 hk10 hk1 k2 hk20 hk2
    have n12 := bK hk2
    have hkH := am hk2
    simp (disch := omega) only [↓aI,↓zP,aD,zD,aS,simprocAttr,Try.facts,aP,bH hk1 n12]
    first | refine CallK.p (hn) ?_ | refine CallP.i (hn) ?_
    simp (disch := omega) only [↓aI,↓zP,aD,zD,aS,simprocAttr,Try.facts,ah]
    exact Sub.set_new hkH

theorem vsigner_pure (ts : List Term) (d : Nat) (a : List UInt8) (ht : okT ⟨118, [a]⟩) (hts : ∀ x ∈ ts, okT x) (hl : ts.length ≤ 1000000) : APure Try.prog 33 [vaultV ts d, bytesV a]
    (if a.length = 32 then .tup [vaultV (numT ts ⟨118,[a]⟩).1 d,bytesV (nameT ⟨118,[a]⟩ (numT ts ⟨118,[a]⟩).2)] else .tup [vaultV ts d,.imm 0 [] 0]) := by
  have hy := vnamed_yes ts d ⟨118,[a]⟩ ht (by simp) hts hl
  have hz := vnamed_no ts d ⟨118,[a]⟩ ht (by simp) hts hl
  have hk : ((118 : UInt8).toNat : Int) = 118 := rfl
  generalize (numT ts ⟨118,[a]⟩).1 = Z1 at *
  generalize nameT ⟨118,[a]⟩ (numT ts ⟨118,[a]⟩).2 = Z2 at *
  by_cases h32 : a.length = 32
  · rw [if_pos h32]
    have hn := hy h32
    refine az (c := ⟨Try.prog,13,[(1000000,[2])],[],[]⟩) (rs := [ResultVar.cell 4 29,ResultVar.tmp 5]) Try.mixed Try.func33 rfl rfl rfl (Nat.le_of_ble_eq_true rfl) (by kernel_rfl) fun H => ?_
    simp (disch := omega) only [↓aI,↓zP,aD,zD,aS,simprocAttr,Try.facts]
    intro k1 hk10 hk1 k2 hk20 hk2
    have n12 := bK hk2
    have hkH := am hk2
    simp (disch := omega) only [↓aI,↓zP,aD,zD,aS,simprocAttr,Try.facts,aP,bH hk1 n12]
    first | refine CallK.p (hn) ?_ | refine CallP.i (hn) ?_
    simp (disch := omega) only [↓aI,↓zP,aD,zD,aS,simprocAttr,Try.facts,ah]
    exact Sub.set_new hkH
  · rw [if_neg h32]
    have hn := hz h32
    refine az (c := ⟨Try.prog,13,[(1000000,[2])],[],[]⟩) (rs := [ResultVar.cell 4 29,ResultVar.tmp 5]) Try.mixed Try.func33 rfl rfl rfl (Nat.le_of_ble_eq_true rfl) (by kernel_rfl) fun H => ?_
    simp (disch := omega) only [↓aI,↓zP,aD,zD,aS,simprocAttr,Try.facts]
    intro k1 hk10 hk1 k2 hk20 hk2
    have n12 := bK hk2
    have hkH := am hk2
    simp (disch := omega) only [↓aI,↓zP,aD,zD,aS,simprocAttr,Try.facts,aP,bH hk1 n12]
    first | refine CallK.p (hn) ?_ | refine CallP.i (hn) ?_
    simp (disch := omega) only [↓aI,↓zP,aD,zD,aS,simprocAttr,Try.facts,ah]
    exact Sub.set_new hkH

theorem vsign_pure (ts : List Term) (d : Nat) (a b : List UInt8) (ht : okT ⟨103, [a, b]⟩) (hts : ∀ x ∈ ts, okT x) (hl : ts.length ≤ 1000000) : APure Try.prog 66 [vaultV ts d, bytesV a, bytesV b]
    (if a.length = 32 then .tup [vaultV (numT ts ⟨103,[a,b]⟩).1 d,bytesV (nameT ⟨103,[a,b]⟩ (numT ts ⟨103,[a,b]⟩).2)] else .tup [vaultV ts d,.imm 0 [] 0]) := by
  have hy := vnamed_yes ts d ⟨103,[a,b]⟩ ht (by simp) hts hl
  have hz := vnamed_no ts d ⟨103,[a,b]⟩ ht (by simp) hts hl
  have hk : ((103 : UInt8).toNat : Int) = 103 := rfl
  generalize (numT ts ⟨103,[a,b]⟩).1 = Z1 at *
  generalize nameT ⟨103,[a,b]⟩ (numT ts ⟨103,[a,b]⟩).2 = Z2 at *
  by_cases h32 : a.length = 32
  · rw [if_pos h32]
    have hn := hy h32
    refine az (c := ⟨Try.prog,16,[(1000000,[3])],[],[]⟩) (rs := [ResultVar.cell 6 29,ResultVar.tmp 7]) Try.mixed Try.func66 rfl rfl rfl (Nat.le_of_ble_eq_true rfl) (by kernel_rfl) fun H => ?_
    simp (disch := omega) only [↓aI,↓zP,aD,zD,aS,simprocAttr,Try.facts]
    intro k1 hk10 hk1 k2 hk20 hk2
    have n12 := bK hk2
    have hkH := am hk2
    simp (disch := omega) only [↓aI,↓zP,aD,zD,aS,simprocAttr,Try.facts,aP,bH hk1 n12]
    first | refine CallK.p (hn) ?_ | refine CallP.i (hn) ?_
    simp (disch := omega) only [↓aI,↓zP,aD,zD,aS,simprocAttr,Try.facts,ah]
    exact Sub.set_new hkH
  · rw [if_neg h32]
    have hn := hz h32
    refine az (c := ⟨Try.prog,16,[(1000000,[3])],[],[]⟩) (rs := [ResultVar.cell 6 29,ResultVar.tmp 7]) Try.mixed Try.func66 rfl rfl rfl (Nat.le_of_ble_eq_true rfl) (by kernel_rfl) fun H => ?_
    simp (disch := omega) only [↓aI,↓zP,aD,zD,aS,simprocAttr,Try.facts]
    intro k1 hk10 hk1 k2 hk20 hk2
    have n12 := bK hk2
    have hkH := am hk2
    simp (disch := omega) only [↓aI,↓zP,aD,zD,aS,simprocAttr,Try.facts,aP,bH hk1 n12]
    first | refine CallK.p (hn) ?_ | refine CallP.i (hn) ?_
    simp (disch := omega) only [↓aI,↓zP,aD,zD,aS,simprocAttr,Try.facts,ah]
    exact Sub.set_new hkH

theorem vhash_pure (ts : List Term) (d : Nat) (a : List UInt8) (ht : okT ⟨104, [a]⟩) (hts : ∀ x ∈ ts, okT x) (hl : ts.length ≤ 1000000) : APure Try.prog 60 [vaultV ts d, bytesV a]
    (.tup [vaultV (numT ts ⟨104,[a]⟩).1 d,bytesV (nameT ⟨104,[a]⟩ (numT ts ⟨104,[a]⟩).2)]) := by
  have hn := vname_pure ts d ⟨104,[a]⟩ ht hts hl
  have hk : ((104 : UInt8).toNat : Int) = 104 := rfl
  generalize (numT ts ⟨104,[a]⟩).1 = Z1 at *
  generalize nameT ⟨104,[a]⟩ (numT ts ⟨104,[a]⟩).2 = Z2 at *
  refine az (c := ⟨Try.prog,13,[(1000000,[2])],[],[]⟩) (rs := [ResultVar.cell 4 29,ResultVar.tmp 5]) Try.mixed Try.func60 rfl rfl rfl (Nat.le_of_ble_eq_true rfl) (by kernel_rfl) fun H => ?_
  simp (disch := omega) only [↓aI,↓zP,aD,zD,aS,simprocAttr,Try.facts]
  intro k1 hk10 hk1 k2 hk20 hk2
  have n12 := bK hk2
  have hkH := am hk2
  simp (disch := omega) only [↓aI,↓zP,aD,zD,aS,simprocAttr,Try.facts,aP,bH hk1 n12]
  first | refine CallK.p (hn) ?_ | refine CallP.i (hn) ?_
  simp (disch := omega) only [↓aI,↓zP,aD,zD,aS,simprocAttr,Try.facts,ah]
  exact Sub.set_new hkH
theorem vdraw_pure (ts : List Term) (d : Nat) (hd : d ≤ 1000000) (hts : ∀ x ∈ ts, okT x) (hl : ts.length ≤ 1000000) : APure Try.prog 31 [vaultV ts d]
    (.tup [vaultV (numT ts ⟨115,[lowL 8 (d + 1)]⟩).1 (d + 1),bytesV (nameT ⟨115,[lowL 8 (d + 1)]⟩ (numT ts ⟨115,[lowL 8 (d + 1)]⟩).2)]) := by
  have hn := vname_pure ts (d + 1) ⟨115,[lowL 8 (d + 1)]⟩ ⟨fun h => absurd h (by simp),by simp,by simp [lowL_length]⟩ hts hl
  have he := Eight_pure (d + 1) (by omega)
  have hk : ((115 : UInt8).toNat : Int) = 115 := rfl
  generalize (numT ts ⟨115,[lowL 8 (d + 1)]⟩).1 = Z1 at *
  generalize nameT ⟨115,[lowL 8 (d + 1)]⟩ (numT ts ⟨115,[lowL 8 (d + 1)]⟩).2 = Z2 at *
  generalize lowL 8 (d + 1) = E at *
  refine az (c := ⟨Try.prog,19,[(2,[0,1,0,0,0,0,0,0,0,0,0,2,0]),(1000000,[1])],[],[]⟩) (rs := [ResultVar.cell 2 29,ResultVar.tmp 3]) Try.mixed Try.func31 rfl rfl rfl (Nat.le_of_ble_eq_true rfl) (by kernel_rfl) fun H => ?_
  simp (disch := omega) only [↓aI,↓zP,aD,zD,aS,simprocAttr,Try.facts]
  intro k1 hk10 hk1 k2 hk20 hk2
  have n12 := bK hk2
  have hkH := am hk2
  simp (disch := omega) only [↓aI,↓zP,aD,zD,aS,simprocAttr,Try.facts,aP,bH hk1 n12]
  first | refine CallK.p (he) ?_ | refine CallP.i (he) ?_
  simp (disch := omega) only [↓aI,↓zP,aD,zD,aS,simprocAttr,Try.facts,ah]
  first | refine CallK.p (hn) ?_ | refine CallP.i (hn) ?_
  simp (disch := omega) only [↓aI,↓zP,aD,zD,aS,simprocAttr,Try.facts,ah]
  exact Sub.set_new hkH
theorem vseal_pure (ts : List Term) (d : Nat) (a : List UInt8) (n : Nat) (o x : List UInt8) (hn9 : n < 9223372036854775808) (ht : okT ⟨98, [a, lowL 8 n, o, x]⟩) (hts : ∀ x ∈ ts, okT x) (hl : ts.length ≤ 1000000) :
    APure Try.prog 65 [vaultV ts d,bytesV a,.sc (.int .i64 n),bytesV o,bytesV x]
    (if a.length = 32 then .tup [vaultV (numT ts ⟨98,[a,lowL 8 n,o,x]⟩).1 d,bytesV (nameT ⟨98,[a,lowL 8 n,o,x]⟩ (numT ts ⟨98,[a,lowL 8 n,o,x]⟩).2)] else .tup [vaultV ts d,.imm 0 [] 0]) := by
  have hy := vnamed_yes ts d ⟨98,[a,lowL 8 n,o,x]⟩ ht (by simp) hts hl
  have hz := vnamed_no ts d ⟨98,[a,lowL 8 n,o,x]⟩ ht (by simp) hts hl
  have he := Eight_pure n hn9
  have hk : ((98 : UInt8).toNat : Int) = 98 := rfl
  have hb : decide ((n : Int) < 0) = false := by simp
  generalize (numT ts ⟨98,[a,lowL 8 n,o,x]⟩).1 = Z1 at *
  generalize nameT ⟨98,[a,lowL 8 n,o,x]⟩ (numT ts ⟨98,[a,lowL 8 n,o,x]⟩).2 = Z2 at *
  generalize lowL 8 n = E at *
  by_cases h32 : a.length = 32
  · rw [if_pos h32]
    have hn := hy h32
    refine az (c := ⟨Try.prog,26,[(3,[1,0,0,0,0,0,0,0,0,0,0,2,0]),(1000000,[5])],[],[]⟩) (rs := [ResultVar.cell 10 29,ResultVar.tmp 11]) Try.mixed Try.func65 rfl rfl rfl (Nat.le_of_ble_eq_true rfl) (by kernel_rfl) fun H => ?_
    simp (disch := omega) only [↓aI,↓zP,aD,zD,aS,simprocAttr,Try.facts,hb]
    intro k1 hk10 hk1 k2 hk20 hk2
    have n12 := bK hk2
    have hkH := am hk2
    simp (disch := omega) only [↓aI,↓zP,aD,zD,aS,simprocAttr,Try.facts,aP,bH hk1 n12,hb]
    first | refine CallK.p (he) ?_ | refine CallP.i (he) ?_
    simp (disch := omega) only [↓aI,↓zP,aD,zD,aS,simprocAttr,Try.facts,ah]
    first | refine CallK.p (hn) ?_ | refine CallP.i (hn) ?_
    simp (disch := omega) only [↓aI,↓zP,aD,zD,aS,simprocAttr,Try.facts,ah]
    exact Sub.set_new hkH
  · rw [if_neg h32]
    have hn := hz h32
    refine az (c := ⟨Try.prog,26,[(3,[1,0,0,0,0,0,0,0,0,0,0,2,0]),(1000000,[5])],[],[]⟩) (rs := [ResultVar.cell 10 29,ResultVar.tmp 11]) Try.mixed Try.func65 rfl rfl rfl (Nat.le_of_ble_eq_true rfl) (by kernel_rfl) fun H => ?_
    simp (disch := omega) only [↓aI,↓zP,aD,zD,aS,simprocAttr,Try.facts,hb]
    intro k1 hk10 hk1 k2 hk20 hk2
    have n12 := bK hk2
    have hkH := am hk2
    simp (disch := omega) only [↓aI,↓zP,aD,zD,aS,simprocAttr,Try.facts,aP,bH hk1 n12,hb]
    first | refine CallK.p (he) ?_ | refine CallP.i (he) ?_
    simp (disch := omega) only [↓aI,↓zP,aD,zD,aS,simprocAttr,Try.facts,ah]
    first | refine CallK.p (hn) ?_ | refine CallP.i (hn) ?_
    simp (disch := omega) only [↓aI,↓zP,aD,zD,aS,simprocAttr,Try.facts,ah]
    exact Sub.set_new hkH
theorem name_num {x : Term} {n : Nat} (hn : n < 18446744073709551616) : numB (nameT x n) = n := by
  have e : ((nameT x n).drop 1).take 8 = lowL 8 n := by
    show ((lowL 8 n ++ List.replicate (sizeT x - 9) 0)).take 8 = _
    rw [List.take_append_of_le_length (by rw [lowL_length]; omega),List.take_of_length_le (by rw [lowL_length]; omega)]
  unfold numB
  rw [e,worthL_low,Nat.mod_eq_of_lt (by omega)]
theorem findT_hit {ts : List Term} {b : List UInt8} {kd : UInt8} {i : Nat} (hi : i < ts.length) (hl : ts.length ≤ 1000000) (hk : ts[i].kind = kd) (hb : nameT ts[i] (i + 1) = b) : findT ts b kd = (ts[i],true) := by
  have hnum : numB b = i + 1 := by rw [← hb]; exact name_num (by omega)
  have hlen : ¬ b.length < 9 := by rw [← hb,nameT_length]; have := sizeT_ge ts[i]; omega
  have hhd : b.headD 0 = kd := by rw [← hb,← hk]; rfl
  have hg : ts.getD i ⟨0,[]⟩ = ts[i] := by simp [List.getD,hi]
  rw [findT,if_neg (by simp only [hhd,ne_eq,not_true_eq_false,or_false]; exact hlen),if_neg (by rw [hnum]; omega),hnum]
  simp only [Nat.add_sub_cancel,hg,hk,hb,true_and,decide_true]
theorem findT_miss {ts : List Term} {b : List UInt8} {kd : UInt8} (h : ∀ i (hi : i < ts.length),¬ (ts[i].kind = kd ∧ nameT ts[i] (i + 1) = b)) : (findT ts b kd).2 = false := by
  cases hf : (findT ts b kd).2 with
  | false => rfl
  | true =>
    exfalso
    unfold findT at hf
    split at hf
    · cases hf
    · split at hf
      · cases hf
      · rename_i h2
        have hj : numB b - 1 < ts.length := by omega
        have hg : ts.getD (numB b - 1) ⟨0,[]⟩ = ts[numB b - 1] := by simp [List.getD,hj]
        simp only [hg,decide_eq_true_eq] at hf
        refine h _ hj ⟨hf.1,?_⟩
        rw [show numB b - 1 + 1 = numB b by omega]
        exact hf.2.symm
def findV (ts : List Term) (b : List UInt8) (kd : UInt8) : Term × Bool := if (findT ts b kd).2 then ((findT ts b kd).1,true) else (⟨0,[]⟩,false)
theorem vfind_pure (ts : List Term) (d : Nat) (b : List UInt8) (kd : UInt8) (hts : ∀ x ∈ ts, okT x) (hl : ts.length ≤ 1000000) : APure Try.prog 79 [vaultV ts d, bytesV b, .sc (.int .u8 kd.toNat)]
    (.tup [termV (findV ts b kd).1,.sc (.bool (findV ts b kd).2)]) := by
  have hTl := termsC_length ts
  have hc := fun i (hi : i < ts.length) => rcalled_pure ts[i] (i + 1) (hts _ (List.getElem_mem hi)) (by omega)
  have hit : ∀ i (hi : i < ts.length),ts[i].kind = kd → nameT ts[i] (i + 1) = b → findV ts b kd = (ts[i],true) := fun i hi h1 h2 => by
    rw [findV,findT_hit hi hl h1 h2]; rfl
  have miss : (∀ i (hi : i < ts.length),¬ (ts[i].kind = kd ∧ nameT ts[i] (i + 1) = b)) → findV ts b kd = (⟨0,[]⟩,false) := fun h => by
    rw [findV,findT_miss h]; rfl
  generalize findV ts b kd = F at *
  refine az (c := ⟨Try.prog,44,[(4,[0,1,0,0,0,1,0,0,0,0,1,0,0,1,0,0,0,0,0,0,0,0]),(1000000,[3])],[],[]⟩) (rs := [ResultVar.cell 6 111,ResultVar.tmp 7]) Try.mixed Try.func79 rfl rfl rfl (Nat.le_of_ble_eq_true rfl) (by kernel_rfl) fun H => ?_
  simp (disch := omega) only [↓aI,↓zP,aD,zD,aS,simprocAttr,Try.facts]
  intro k1 hk10 hk1 k2 hk20 hk2
  have n12 := bK hk2
  have hkH := am hk2
  simp (disch := omega) only [↓aI,↓zP,aD,zD,aS,simprocAttr,Try.facts,aP,bH hk1 n12]
  refine br (c := ⟨Try.prog,44,[(4,[0,1,0,0,0,1,0,0,0,0,1,0,0,1,0,0,0,0,0,0,0,0]),(1000000,[3])],[],[]⟩) Try.mixed (by kernel_rfl) (fun mm σ H' => H' = H.set k2 (.cells [.sc (.int .u8 0),.sc (.slice none 0 0)] 111 2) ∧ ∃ i,i + mm = ts.length ∧ (∀ j (hj : j < ts.length),j < i → ¬ (ts[j].kind = kd ∧ nameT ts[j] (j + 1) = b)) ∧
    σ 1 = bytesV b ∧ σ 2 = .sc (.int .u8 kd.toNat) ∧ σ 3 = .ip [.imm 0 (dC ts) ts.length,.sc (.int .i64 d)] 0 ∧ σ 6 = .ptr k2 0 ∧ σ 8 = .sc (.int .i64 i)) ts.length ?_ ?_
  · refine ⟨rfl,0,by omega,fun j _ hj => by omega,?_⟩
    simp (disch := omega) only [↓aI,↓zP,aD,zD,aS,simprocAttr,Try.facts]
  · rintro mm σ H' ⟨rfl,i,him,hnm,h1,h2,h3,h6,h8⟩
    by_cases hlt : i < ts.length
    · have hb1 : decide ((i : Int) < (ts.length : Int)) = true := by simp; omega
      have hld := termsC_load hlt
      have hl0 := termsC_0 hlt
      have hle' : i * 2 + 2 ≤ ts.length * 2 := by omega
      have hc1 := hc i hlt
      have hit1 := hit i hlt
      have hnx : ¬ (ts[i].kind = kd ∧ nameT ts[i] (i + 1) = b) → (∀ j (hj : j < ts.length),j < i + 1 → ¬ (ts[j].kind = kd ∧ nameT ts[j] (j + 1) = b)) := fun h j hj hji => by
        by_cases e : j = i
        · subst e; exact h
        · exact hnm j hj (by omega)
      generalize ts[i] = x at *
      by_cases hk : x.kind = kd
      · have hbk : (x.kind == kd) = true := by simpa using hk
        simp (disch := omega) only [↓aI,↓zP,aD,zD,aS,simprocAttr,Try.facts,h1,h2,h3,h6,h8,hb1,hld,hle',hTl,hl0,hbk]
        first | refine CallK.p (hc1) ?_ | refine CallP.i (hc1) ?_
        simp (disch := omega) only [↓aI,↓zP,aD,zD,aS,simprocAttr,Try.facts,h1,h2,h3,h6,h8,hb1,hld,hle',hTl,hl0,hbk,bO]
        cases hq : nameT x (i + 1) == b with
        | true =>
          obtain rfl := hit1 hk (by simpa using hq)
          simp (disch := omega) only [↓aI,↓zP,aD,zD,aS,simprocAttr,Try.facts,h1,h2,h3,h6,h8,hb1,hld,hle',hTl,hl0,hbk,ah]
          exact Sub.set_new hkH
        | false =>
          simp (disch := omega) only [↓aI,↓zP,aD,zD,aS,simprocAttr,Try.facts,h1,h2,h3,h6,h8,hb1,hld,hle',hTl,hl0,hbk,ah]
          exact ⟨mm - 1,by omega,i + 1,by omega,hnx fun h => by simp [h.2] at hq,rfl⟩
      · have hbk : (x.kind == kd) = false := by simpa using hk
        simp (disch := omega) only [↓aI,↓zP,aD,zD,aS,simprocAttr,Try.facts,h1,h2,h3,h6,h8,hb1,hld,hle',hTl,hl0,hbk]
        exact ⟨mm - 1,by omega,i + 1,by omega,hnx fun h => hk h.1,rfl⟩
    · have hb1 : decide ((i : Int) < (ts.length : Int)) = false := by simp; omega
      obtain rfl : i = ts.length := by omega
      obtain rfl := miss fun j hj => hnm j hj hj
      simp (disch := omega) only [↓aI,↓zP,aD,zD,aS,simprocAttr,Try.facts,h1,h2,h3,h6,h8,hb1,hTl,ah]
      exact ⟨rfl,Sub.set_new hkH⟩
end Go.Proofs.Ytjlnpngaiphnmaa
end
section
set_option linter.unusedSimpArgs false
set_option linter.unusedVariables false
set_option maxRecDepth 20000
namespace Go.Proofs.Ytjlnpngaiphnmaa
open Go Go.Abs Go.Proofs

theorem less_cmp : ∀ (p s : List UInt8),Op.bytesLess p s = decide (0 < Lib.compareBytes s p)
  | [],[] => rfl
  | [],_ :: _ => rfl
  | _ :: _,[] => rfl
  | a :: x,b :: y => by
    have ih := less_cmp x y
    simp only [Op.bytesLess,Lib.compareBytes]
    by_cases h1 : a < b
    · have h2 : ¬ b < a := by simp only [UInt8.lt_iff_toNat_lt] at *; omega
      simp [h1,h2]
    · by_cases h2 : b < a
      · have h3 : (a == b) = false := by
          simp only [beq_eq_false_iff_ne,ne_eq]
          rintro rfl
          simp only [UInt8.lt_iff_toNat_lt] at h2
          omega
        simp [h1,h2,h3]
      · have h3 : (a == b) = true := by
          simp only [beq_iff_eq]
          apply UInt8.toNat_inj.1
          simp only [UInt8.lt_iff_toNat_lt] at *
          omega
        simp [h1,h2,h3,ih]
theorem findV_yes {ts : List Term} {b : List UInt8} {kd : UInt8} (h : (findT ts b kd).2 = true) : findV ts b kd = ((findT ts b kd).1,true) := by rw [findV,if_pos h]
theorem findV_no {ts : List Term} {b : List UInt8} {kd : UInt8} (h : (findT ts b kd).2 = false) : findV ts b kd = (⟨0,[]⟩,false) := by rw [findV,if_neg (by rw [h]; simp)]

theorem vverify_pure (ts : List Term) (d : Nat) (key b sig : List UInt8) (hts : ∀ x ∈ ts,wfT x) (hl : ts.length ≤ 1000000) : APure Try.prog 62 [vaultV ts d,bytesV key,bytesV b,bytesV sig] (.sc (.bool (verT ts key b sig))) := by
  have f1 := vfind_pure ts d sig 103 (fun x hx => (hts x hx).1) hl
  have f2 := vfind_pure ts d key 118 (fun x hx => (hts x hx).1) hl
  have e1 : (findT ts sig 103).2 = true → 2 ≤ (findT ts sig 103).1.parts.length := fun h => ((hts _ (findT_mem h).1).2.1 (findT_mem h).2)
  have e2 : (findT ts key 118).2 = true → 1 ≤ (findT ts key 118).1.parts.length := fun h => ((hts _ (findT_mem h).1).2.2.1 (findT_mem h).2)
  have k103 : ((103 : UInt8).toNat : Int) = 103 := rfl
  have k118 : ((118 : UInt8).toNat : Int) = 118 := rfl
  have pg1 := fun j (h : j < (findT ts sig 103).1.parts.length) => part_get h
  have pg2 := fun j (h : j < (findT ts key 118).1.parts.length) => part_get h
  have y1 := findV_yes (ts := ts) (b := sig) (kd := 103)
  have y2 := findV_yes (ts := ts) (b := key) (kd := 118)
  have n1 := findV_no (ts := ts) (b := sig) (kd := 103)
  have n2 := findV_no (ts := ts) (b := key) (kd := 118)
  rw [k103] at f1
  rw [k118] at f2
  have hB : verT ts key b sig = ((findT ts sig 103).2 && (findT ts key 118).2 && (partT (findT ts sig 103).1 0 == partT (findT ts key 118).1 0) && (partT (findT ts sig 103).1 1 == b)) := rfl
  generalize verT ts key b sig = B at *
  generalize findV ts sig 103 = v1 at *
  generalize findV ts key 118 = v2 at *
  generalize findT ts sig 103 = x at *
  generalize findT ts key 118 = y at *
  obtain ⟨x,okx⟩ := x
  obtain ⟨y,oky⟩ := y
  simp only [] at e1 e2 pg1 pg2 y1 y2 n1 n2 hB
  refine az (c := ⟨Try.prog,52,[(3,[0,0,0,0,0,0,1,0,1,0,0,1,0,1,0,0,0,0,0,1,0,1,0,0,0,0,0,0]),(1000000,[4]),(1000001,[9]),(1000002,[11])],[],[]⟩) (rs := [ResultVar.tmp 8]) Try.mixed Try.func62 rfl rfl rfl (Nat.le_of_ble_eq_true rfl) (by kernel_rfl) fun H => ?_
  simp (disch := omega) only [↓aI,↓zP,aD,zD,aS,simprocAttr,Try.facts]
  intro b0 hb00 hb0f
  simp (disch := omega) only [↓aI,↓zP,aD,zD,aS,simprocAttr,Try.facts,aj hb0f]
  cases okx with
  | false =>
    obtain rfl := n1 rfl
    first | refine CallK.p (f1) ?_ | refine CallP.i (f1) ?_
    simp (disch := omega) only [↓aI,↓zP,aD,zD,aS,simprocAttr,Try.facts]
    intro b1 hb10 hb1f
    simp (disch := omega) only [↓aI,↓zP,aD,zD,aS,simprocAttr,Try.facts,ah,aj hb1f]
    cases oky with
    | false =>
      obtain rfl := n2 rfl
      first | refine CallK.p (f2) ?_ | refine CallP.i (f2) ?_
      simp (disch := omega) only [↓aI,↓zP,aD,zD,aS,simprocAttr,Try.facts]
      intro b2 hb20 hb2f
      simp (disch := omega) only [↓aI,↓zP,aD,zD,aS,simprocAttr,Try.facts,ah,aj hb2f]
      exact ⟨by rw [hB]; simp,Abs.Sub.refl _⟩
    | true =>
      obtain rfl := y2 rfl
      first | refine CallK.p (f2) ?_ | refine CallP.i (f2) ?_
      simp (disch := omega) only [↓aI,↓zP,aD,zD,aS,simprocAttr,Try.facts]
      intro b2 hb20 hb2f
      simp (disch := omega) only [↓aI,↓zP,aD,zD,aS,simprocAttr,Try.facts,ah,aj hb2f]
      exact ⟨by rw [hB]; simp,Abs.Sub.refl _⟩
  | true =>
    obtain rfl := y1 rfl
    have l1 := e1 rfl
    have p1 := pg1 0 (by omega)
    have p2 := pg1 1 (by omega)
    first | refine CallK.p (f1) ?_ | refine CallP.i (f1) ?_
    simp (disch := omega) only [↓aI,↓zP,aD,zD,aS,simprocAttr,Try.facts]
    intro b1 hb10 hb1f
    simp (disch := omega) only [↓aI,↓zP,aD,zD,aS,simprocAttr,Try.facts,ah,aj hb1f]
    cases oky with
    | false =>
      obtain rfl := n2 rfl
      first | refine CallK.p (f2) ?_ | refine CallP.i (f2) ?_
      simp (disch := omega) only [↓aI,↓zP,aD,zD,aS,simprocAttr,Try.facts]
      intro b2 hb20 hb2f
      simp (disch := omega) only [↓aI,↓zP,aD,zD,aS,simprocAttr,Try.facts,ah,aj hb2f]
      exact ⟨by rw [hB]; simp,Abs.Sub.refl _⟩
    | true =>
      obtain rfl := y2 rfl
      have l2 := e2 rfl
      have p3 := pg2 0 (by omega)
      first | refine CallK.p (f2) ?_ | refine CallP.i (f2) ?_
      simp (disch := omega) only [↓aI,↓zP,aD,zD,aS,simprocAttr,Try.facts]
      intro b2 hb20 hb2f
      cases hq : partT x 0 == partT y 0 with
      | false =>
        simp (disch := omega) only [↓aI,↓zP,aD,zD,aS,simprocAttr,Try.facts,ah,aj hb2f,p1,p2,p3,hq,bO]
        exact ⟨by rw [hB]; simp [hq],Abs.Sub.refl _⟩
      | true =>
        simp (disch := omega) only [↓aI,↓zP,aD,zD,aS,simprocAttr,Try.facts,ah,aj hb2f,p1,p2,p3,hq,bO]
        exact ⟨by rw [hB]; simp [hq],Abs.Sub.refl _⟩

def openV (ts : List Term) (key : List UInt8) (n : Nat) (o b : List UInt8) : AV :=
  if opT ts key n o b = true then .tup [bytesV (partT (findT ts b 98).1 3),.sc (.int .i64 0)] else .tup [.imm 0 [] 0,.sc (.int .i64 9)]
theorem vopen_pure (ts : List Term) (d : Nat) (key : List UInt8) (n : Nat) (o b : List UInt8) (h32 : key.length = 32) (hn : n < 9223372036854775808) (hts : ∀ x ∈ ts, wfT x) (hl : ts.length ≤ 1000000) :
    APure Try.prog 52 [vaultV ts d,bytesV key,.sc (.int .i64 n),bytesV o,bytesV b] (openV ts key n o b) := by
  have f1 := vfind_pure ts d b 98 (fun x hx => (hts x hx).1) hl
  have e1 : (findT ts b 98).2 = true → 4 ≤ (findT ts b 98).1.parts.length := fun h => (hts _ (findT_mem h).1).1.1 (findT_mem h).2
  have he := Eight_pure n hn
  have k98 : ((98 : UInt8).toNat : Int) = 98 := rfl
  have hneg : decide ((n : Int) < 0) = false := by simp
  have hb : ((key.length : Int) != 32) = false := by simp [h32]
  have pg1 := fun j (h : j < (findT ts b 98).1.parts.length) => part_get h
  have y1 := findV_yes (ts := ts) (b := b) (kd := 98)
  have n1 := findV_no (ts := ts) (b := b) (kd := 98)
  rw [k98] at f1
  have hB : opT ts key n o b = ((findT ts b 98).2 && (partT (findT ts b 98).1 0 == key) && (partT (findT ts b 98).1 1 == lowL 8 n) && (partT (findT ts b 98).1 2 == o)) := rfl
  unfold openV
  generalize opT ts key n o b = B at *
  generalize findV ts b 98 = v1 at *
  generalize findT ts b 98 = x at *
  generalize lowL 8 n = E at *
  obtain ⟨x,okx⟩ := x
  simp only [] at e1 pg1 y1 n1 hB ⊢
  refine az (c := ⟨Try.prog,63,[(4,[0,0,0,1,0,1,0,0,0,0,0,0,0,1,0,1,0,0,0,0,0,0,0,0,1,0,1,0,0,0,0,0]),(1000000,[5]),(1000003,[12]),(4000005,[10,11]),(4000004,[12,58]),(4000003,[1,2,3,12,13]),(4000001,[1,2,3,4,5,20])],[],[]⟩) (rs := [ResultVar.tmp 10,ResultVar.tmp 11]) Try.mixed Try.func52 rfl rfl rfl (Nat.le_of_ble_eq_true rfl) (by kernel_rfl) fun H => ?_
  simp (disch := omega) only [↓aI,↓zP,aD,zD,aS,simprocAttr,Try.facts]
  intro b0 hb00 hb0f
  simp (disch := omega) only [↓aI,↓zP,aD,zD,aS,simprocAttr,Try.facts,aj hb0f,hb,hneg]
  cases okx with
  | false =>
    obtain rfl := n1 rfl
    obtain rfl : B = false := by rw [hB]; simp
    first | refine CallK.p (f1) ?_ | refine CallP.i (f1) ?_
    simp (disch := omega) only [↓aI,↓zP,aD,zD,aS,simprocAttr,Try.facts]
    intro b1 hb10 hb1f
    simp (disch := omega) only [↓aI,↓zP,aD,zD,aS,simprocAttr,Try.facts,ah,aj hb1f]
    exact Abs.Sub.refl _
  | true =>
    obtain rfl := y1 rfl
    have l1 := e1 rfl
    have p0 := pg1 0 (by omega)
    have p1 := pg1 1 (by omega)
    have p2 := pg1 2 (by omega)
    have p3 := pg1 3 (by omega)
    first | refine CallK.p (f1) ?_ | refine CallP.i (f1) ?_
    simp (disch := omega) only [↓aI,↓zP,aD,zD,aS,simprocAttr,Try.facts]
    intro b1 hb10 hb1f
    cases hq : partT x 0 == key with
    | false =>
      obtain rfl : B = false := by rw [hB]; simp [hq]
      simp (disch := omega) only [↓aI,↓zP,aD,zD,aS,simprocAttr,Try.facts,ah,aj hb1f,p0,hq,bO]
      exact Abs.Sub.refl _
    | true =>
      simp (disch := omega) only [↓aI,↓zP,aD,zD,aS,simprocAttr,Try.facts,ah,aj hb1f,p0,p1,hq,bO]
      first | refine CallK.p (he) ?_ | refine CallP.i (he) ?_
      simp (disch := omega) only [↓aI,↓zP,aD,zD,aS,simprocAttr,Try.facts,ah,aj hb1f,p0,p1,hq,bO]
      cases hq2 : partT x 1 == E with
      | false =>
        obtain rfl : B = false := by rw [hB]; simp [hq,hq2]
        simp (disch := omega) only [↓aI,↓zP,aD,zD,aS,simprocAttr,Try.facts,ah,aj hb1f,bO,hq2]
        exact Abs.Sub.refl _
      | true =>
        cases hq3 : partT x 2 == o with
        | false =>
          obtain rfl : B = false := by rw [hB]; simp [hq,hq2,hq3]
          simp (disch := omega) only [↓aI,↓zP,aD,zD,aS,simprocAttr,Try.facts,ah,aj hb1f,p2,hq2,hq3,bO]
          exact Abs.Sub.refl _
        | true =>
          obtain rfl : B = true := by rw [hB]; simp [hq,hq2,hq3]
          simp (disch := omega) only [↓aI,↓zP,aD,zD,aS,simprocAttr,Try.facts,ah,aj hb1f,p2,p3,hq2,hq3,bO]
          exact Abs.Sub.refl _

def shV (ts : List Term) (d : Nat) (s p : List UInt8) : AV :=
  if s.length ≠ 32 then .tup [vaultV ts d,.imm 0 [] 0,.sc (.int .i64 1)]
  else if (findT ts p 112).2 = false then .tup [vaultV ts d,.imm 0 [] 0,.sc (.int .i64 8)]
  else .tup [vaultV (numT ts (shT s (partT (findT ts p 112).1 0))).1 d,bytesV (nameT (shT s (partT (findT ts p 112).1 0)) (numT ts (shT s (partT (findT ts p 112).1 0))).2),.sc (.int .i64 0)]
theorem vshared_pure (ts : List Term) (d : Nat) (s p : List UInt8) (hp : ∀ x ∈ ts, x.kind = 112 → (partT x 0).length ≤ 1000000) (hts : ∀ x ∈ ts, wfT x) (hl : ts.length ≤ 1000000) :
    APure Try.prog 76 [vaultV ts d,bytesV s,bytesV p] (shV ts d s p) := by
  have f1 := vfind_pure ts d p 112 (fun x hx => (hts x hx).1) hl
  have e1 : (findT ts p 112).2 = true → 1 ≤ (findT ts p 112).1.parts.length := fun h => (hts _ (findT_mem h).1).2.2.2 (findT_mem h).2
  have e2 : (findT ts p 112).2 = true → (partT (findT ts p 112).1 0).length ≤ 1000000 := fun h => hp _ (findT_mem h).1 (findT_mem h).2
  have hn : ∀ t,okT t → _ := fun t ht => vname_pure ts d t ht (fun x hx => (hts x hx).1) hl
  have hc := less_cmp (partT (findT ts p 112).1 0) s
  have pg1 := fun j (h : j < (findT ts p 112).1.parts.length) => part_get h
  have y1 := findV_yes (ts := ts) (b := p) (kd := 112)
  have n1 := findV_no (ts := ts) (b := p) (kd := 112)
  have k112 : ((112 : UInt8).toNat : Int) = 112 := rfl
  have k100 : ((100 : UInt8).toNat : Int) = 100 := rfl
  rw [k112] at f1
  unfold shV
  generalize findV ts p 112 = v1 at *
  generalize findT ts p 112 = x at *
  obtain ⟨x,okx⟩ := x
  simp only [] at e1 e2 hc pg1 y1 n1 ⊢
  generalize hP : partT x 0 = P at *
  by_cases h32 : s.length = 32
  · have hb : ((s.length : Int) != 32) = false := by simp [h32]
    rw [if_neg (by omega)]
    cases okx with
    | false =>
      rw [if_pos rfl]
      obtain rfl := n1 rfl
      refine az (c := ⟨Try.prog,56,[(7,[0,1,0,1,0,0,0,0]),(1000000,[3]),(1000003,[9]),(1000009,[12])],[],[]⟩) (rs := [ResultVar.cell 6 29,ResultVar.tmp 7,ResultVar.tmp 8]) Try.mixed Try.func76 rfl rfl rfl (Nat.le_of_ble_eq_true rfl) (by kernel_rfl) fun H => ?_
      simp (disch := omega) only [↓aI,↓zP,aD,zD,aS,simprocAttr,Try.facts]
      intro k1 hk10 hk1 k2 hk20 hk2
      have n12 := bK hk2
      have hkH := am hk2
      simp (disch := omega) only [↓aI,↓zP,aD,zD,aS,simprocAttr,Try.facts,aP,bH hk1 n12,hb]
      first | refine CallK.p (f1) ?_ | refine CallP.i (f1) ?_
      simp (disch := omega) only [↓aI,↓zP,aD,zD,aS,simprocAttr,Try.facts]
      intro b1 hb10 hb1f
      simp (disch := omega) only [↓aI,↓zP,aD,zD,aS,simprocAttr,Try.facts,ah,aj hb1f]
      exact Sub.set_new hkH
    | true =>
      rw [if_neg (by simp)]
      obtain rfl := y1 rfl
      have l1 := e1 rfl
      have l2 := e2 rfl
      have p0 := pg1 0 (by omega)
      rw [hP] at p0
      have hN := hn (shT s P) ⟨fun h => absurd h (by simp [shT]),by simp only [shT]; split <;> simp,by simp only [shT]; split <;> (simp; omega)⟩
      have hsh : shT s P = ⟨100,if 0 < Lib.compareBytes s P then [P,s] else [s,P]⟩ := rfl
      refine az (c := ⟨Try.prog,56,[(7,[0,1,0,1,0,0,0,0]),(1000000,[3]),(1000003,[9]),(1000009,[12])],[],[]⟩) (rs := [ResultVar.cell 6 29,ResultVar.tmp 7,ResultVar.tmp 8]) Try.mixed Try.func76 rfl rfl rfl (Nat.le_of_ble_eq_true rfl) (by kernel_rfl) fun H => ?_
      simp (disch := omega) only [↓aI,↓zP,aD,zD,aS,simprocAttr,Try.facts]
      intro k1 hk10 hk1 k2 hk20 hk2
      have n12 := bK hk2
      have hkH := am hk2
      simp (disch := omega) only [↓aI,↓zP,aD,zD,aS,simprocAttr,Try.facts,aP,bH hk1 n12,hb]
      first | refine CallK.p (f1) ?_ | refine CallP.i (f1) ?_
      simp (disch := omega) only [↓aI,↓zP,aD,zD,aS,simprocAttr,Try.facts]
      intro b1 hb10 hb1f
      simp (disch := omega) only [↓aI,↓zP,aD,zD,aS,simprocAttr,Try.facts,ah,aj hb1f,p0,bO]
      by_cases hgt : 0 < Lib.compareBytes s P
      · have hd : Op.bytesLess P s = true := by rw [hc]; simpa using hgt
        rw [if_pos hgt] at hsh
        generalize shT s P = T at *
        subst hsh
        simp (disch := omega) only [↓aI,↓zP,aD,zD,aS,simprocAttr,Try.facts,hd,ah,aj hb1f,p0]
        first | refine CallK.p (hN) ?_ | refine CallP.i (hN) ?_
        simp (disch := omega) only [↓aI,↓zP,aD,zD,aS,simprocAttr,Try.facts,ah]
        intro b2 hb20 hb2f
        simp (disch := omega) only [↓aI,↓zP,aD,zD,aS,simprocAttr,Try.facts,ah,aj hb2f]
        exact Sub.set_new hkH
      · have hd : Op.bytesLess P s = false := by rw [hc]; simpa using hgt
        rw [if_neg hgt] at hsh
        generalize shT s P = T at *
        subst hsh
        simp (disch := omega) only [↓aI,↓zP,aD,zD,aS,simprocAttr,Try.facts,hd,ah,aj hb1f,p0]
        first | refine CallK.p (hN) ?_ | refine CallP.i (hN) ?_
        simp (disch := omega) only [↓aI,↓zP,aD,zD,aS,simprocAttr,Try.facts,ah]
        intro b2 hb20 hb2f
        simp (disch := omega) only [↓aI,↓zP,aD,zD,aS,simprocAttr,Try.facts,ah,aj hb2f]
        exact Sub.set_new hkH
  · have hb : ((s.length : Int) != 32) = true := by simp; omega
    rw [if_pos h32]
    refine az (c := ⟨Try.prog,56,[(7,[0,1,0,1,0,0,0,0]),(1000000,[3]),(1000003,[9]),(1000009,[12])],[],[]⟩) (rs := [ResultVar.cell 6 29,ResultVar.tmp 7,ResultVar.tmp 8]) Try.mixed Try.func76 rfl rfl rfl (Nat.le_of_ble_eq_true rfl) (by kernel_rfl) fun H => ?_
    simp (disch := omega) only [↓aI,↓zP,aD,zD,aS,simprocAttr,Try.facts]
    intro k1 hk10 hk1 k2 hk20 hk2
    have n12 := bK hk2
    have hkH := am hk2
    simp (disch := omega) only [↓aI,↓zP,aD,zD,aS,simprocAttr,Try.facts,aP,bH hk1 n12,hb,ah]
    exact Sub.set_new hkH
end Go.Proofs.Ytjlnpngaiphnmaa
end
