/-
  Several texts in one: each says what it proves.
  Conditions: none. Lemmas only.
-/
import Derived.Test.YtaehlpkinbpmbaaLetG3
import Derived.Test.YtaehlpkinbpmbaaLetG1
import Derived.Test.YtaehlpkinbpmbaaSuiG6
set_option linter.all false
section
set_option linter.unusedSimpArgs false
set_option linter.unusedVariables false
set_option maxRecDepth 20000
set_option maxHeartbeats 4000000
namespace Go.Proofs.Ytaehlpkinbpmbaa
open Go Go.Abs Go.Proofs
def padN (b : List UInt8) (n : Nat) : List UInt8 := b ++ 128 :: List.replicate (n - b.length - 1) 0
def padL (b : List UInt8) : List UInt8 × Int := if (bktL b.length).2 = 0 then (padN b (bktL b.length).1.toNat,0) else ([],(bktL b.length).2)
theorem bkt_lt {n : Nat} (h : (bktL n).2 = 0) : (n : Int) < (bktL n).1 ∧ (bktL n).1 ≤ 4096 ∧ 64 ≤ (bktL n).1 := by
  have key : ∀ p : Int × Int,bktL n = p → p.2 = 0 → (n : Int) < p.1 ∧ p.1 ≤ 4096 ∧ 64 ≤ p.1 := by
    rintro ⟨a,b⟩ h h2
    unfold bktL at h
    simp only [] at h2 ⊢
    repeat' split at h
    all_goals
      simp only [Prod.mk.injEq] at h
      obtain ⟨rfl,rfl⟩ := h
      omega
  exact key _ rfl h
theorem repA_encB (n : Nat) : aQ [.sc (.int .u8 0)] n = bw (List.replicate n 0) := by
  induction n with
  | zero => rfl
  | succ n ih => rw [List.replicate_succ,aQ,ih]; rfl
theorem pad_cells {b : List UInt8} {n : Nat} (h : b.length ≤ n) : bG (aQ [.sc (.int .u8 0)] n) 0 (bw b) = bw (b ++ List.replicate (n - b.length) 0) := by
  rw [ah,repA_encB,List.take_zero,List.nil_append,encB_len,Nat.zero_add,← encB_app]
  congr 1
  unfold bw
  rw [← List.map_drop,List.drop_replicate]
theorem pad_mark {b : List UInt8} {n : Nat} (h : b.length < n) : bG (bw (b ++ List.replicate (n - b.length) 0)) b.length [.sc (.int .u8 128)] = bw (padN b n) := by
  obtain ⟨m,hm⟩ : ∃ m,n - b.length = m + 1 := ⟨n - b.length - 1,by omega⟩
  unfold padN
  rw [hm,show m + 1 - 1 = m by omega,ah,← encB_app,List.take_append_of_le_length (by rw [encB_len]; exact Nat.le_refl _),takeB,List.replicate_succ,← encB_app]
  congr 1
  rw [show ([.sc (.int .u8 128)] : List AV).length = 1 from rfl,List.drop_append,encB_len,List.drop_of_length_le (by rw [encB_len]; omega),show b.length + 1 - b.length = 1 by omega]
  rfl
theorem pad_pure (b : List UInt8) (hb : b.length ≤ 3000000) : APure Try.prog 46 [bytesV b] (.tup [bytesV (padL b).1,.sc (.int .i64 (padL b).2)]) := by
  have h := bucket_pure (b.length : Nat)
  have hlt := bkt_lt (n := b.length)
  unfold padL
  generalize bktL (b.length : Nat) = z at *
  obtain ⟨sz,e⟩ := z
  simp only [] at *
  by_cases c : e = 0
  · rw [if_pos c]
    obtain ⟨l1,l2,l3⟩ := hlt c
    obtain ⟨n,rfl⟩ : ∃ n : Nat,sz = n := ⟨sz.toNat,by omega⟩
    simp only [Int.toNat_natCast]
    have h8 := encB_len b
    refine az (c := ⟨Try.prog,26,[],[],[]⟩) (rs := [ResultVar.tmp 2,ResultVar.tmp 3]) Try.mixed Try.func46 rfl rfl rfl (Nat.le_of_ble_eq_true rfl) (by kernel_rfl) fun H => ?_
    simp (disch := omega) only [↓aI,↓zP,aD,zD,aS,simprocAttr,Try.facts,zA]
    first | refine CallK.p (h) ?_ | refine CallP.i (h) ?_
    simp (disch := omega) only [↓aI,↓zP,aD,zD,aS,simprocAttr,Try.facts,zA]
    intro k hk0 hk
    have hsz : ai Try.prog 5 = 1 := Try.sz5
    have hT : ax Try.prog 5 = true := Try.ha5
    have hm : min b.length n = b.length := by omega
    have hrl : (aQ [.sc (.int .u8 0)] n).length = n := by rw [repA_encB,encB_len,List.length_replicate]
    have hpc := pad_cells (b := b) (n := n) (by omega)
    have hpm := pad_mark (b := b) (n := n) (by omega)
    refine copy_m (e := 5) (ns := b.length) (cs := aQ [.sc (.int .u8 0)] n) (news := bw b) (by kernel_rfl) rfl (by rw [hsz]; exact set_get) ⟨by omega,by rw [hsz,h8,Nat.mul_one],by rw [hm,hsz,Nat.mul_one,takeB]⟩ (by rw [hm,hsz,h8,Nat.mul_one]) hT (by omega) (by rw [hsz]; omega) (.inl (by rw [hrl,h8]; omega)) ?_
    rw [hsz,hpc,set_set]
    have hcl : (bw (b ++ List.replicate (n - b.length) 0)).length = n := by rw [encB_len,List.length_append,List.length_replicate]; omega
    have hpl : (padN b n).length = n := by
      unfold padN
      rw [List.length_append,List.length_cons,List.length_replicate]
      omega
    have hpe := encB_len (padN b n)
    generalize bw (b ++ List.replicate (n - b.length) 0) = C at *
    generalize padN b n = D at *
    simp (disch := omega) only [↓aI,↓zP,aD,zD,aS,simprocAttr,Try.facts,zA,h8,hcl,hpm]
    refine ⟨?_,by omega,Sub.set_new hk⟩
    simp only [hk]
    rw [Nat.mul_one,← hpl,takeB]
  · rw [if_neg c]
    refine az (c := ⟨Try.prog,26,[],[],[]⟩) (rs := [ResultVar.tmp 2,ResultVar.tmp 3]) Try.mixed Try.func46 rfl rfl rfl (Nat.le_of_ble_eq_true rfl) (by kernel_rfl) fun H => ?_
    simp (disch := omega) only [↓aI,↓zP,aD,zD,aS,simprocAttr,Try.facts,zA]
    first | refine CallK.p (h) ?_ | refine CallP.i (h) ?_
    simp (disch := omega) only [↓aI,↓zP,aD,zD,aS,simprocAttr,Try.facts,zA]
    exact ⟨rfl,Abs.Sub.refl _⟩
theorem rpad_pure (b : List UInt8) (hb : b.length ≤ 3000000) : APure Try.prog 56 [bytesV b] (.tup [bytesV (padL b).1,.sc (.int .i64 (padL b).2)]) := by
  have h := rbucket_pure (b.length : Nat)
  have hlt := bkt_lt (n := b.length)
  unfold padL
  generalize bktL (b.length : Nat) = z at *
  obtain ⟨sz,e⟩ := z
  simp only [] at *
  by_cases c : e = 0
  · rw [if_pos c]
    obtain ⟨l1,l2,l3⟩ := hlt c
    obtain ⟨n,rfl⟩ : ∃ n : Nat,sz = n := ⟨sz.toNat,by omega⟩
    simp only [Int.toNat_natCast]
    have h8 := encB_len b
    have hR : padN b n = b ++ 128 :: List.replicate (n - b.length - 1) 0 := rfl
    generalize padN b n = D at *
    refine az (c := ⟨Try.prog,29,[],[16],[]⟩) (rs := [ResultVar.tmp 2,ResultVar.tmp 3]) Try.mixed Try.func56 rfl rfl rfl (Nat.le_of_ble_eq_true rfl) (by kernel_rfl) fun H => ?_
    simp (disch := omega) only [↓aI,↓zP,aD,zD,aS,simprocAttr,Try.facts,zA]
    first | refine CallK.p (h) ?_ | refine CallP.i (h) ?_
    simp (disch := omega) only [↓aI,↓zP,aD,zD,aS,simprocAttr,Try.facts,zA]
    intro k hk0 hk
    have e128 : bw b ++ [AV.sc (.int .u8 128)] = bw (b ++ [128]) := by rw [← encB_app]; rfl
    have l128 : (b ++ [(128 : UInt8)]).length = b.length + 1 := by simp
    simp (disch := omega) only [↓aI,↓zP,aD,zD,aS,simprocAttr,Try.facts,zA,h8]
    intro k2 o2 hk20 hk2 ho2
    have hk2H := am hk2
    simp (disch := omega) only [↓aI,↓zP,aD,zD,aS,simprocAttr,Try.facts,zA,h8,ho2,e128]
    intro k3 o3 hk30 hk3 ho3
    refine br (c := ⟨Try.prog,29,[],[16],[]⟩) Try.mixed (by kernel_rfl) (fun mm σ H' => ∃ (j k : Nat) (o : AObj) (A : List UInt8),j + mm = n - b.length - 1 ∧ A = b ++ 128 :: List.replicate j 0 ∧ A.length = b.length + 1 + j ∧ k ≠ 0 ∧ H k = none ∧ H' k = some o ∧ cy 5 1 o A.length ∧ Abs.Sub H H' ∧
      σ 4 = .sc (.int .i64 (n : Nat)) ∧ σ 6 = .imm k (bw A) A.length) (n - b.length - 1) ?_ ?_
    · refine ⟨0,k3,o3,b ++ [128],by omega,by simp,by simp,hk30,am hk3,set_get,by rw [l128]; simpa using ho3,Sub.set_new (am hk3),?_⟩
      simp (disch := omega) only [↓aI,↓zP,aD,zD,aS,simprocAttr,Try.facts,l128]
      try exact ⟨rfl,rfl⟩
    · rintro mm σ H' ⟨j,k,o,A,hjm,hA,hAl,hk0,hk,vk,ho,hs,s4,s6⟩
      have hg := encB_len A
      by_cases hlt : A.length < n
      · have e0 : bw A ++ [AV.sc (.int .u8 0)] = bw (A ++ [0]) := by rw [← encB_app]; rfl
        have l0 : (A ++ [(0 : UInt8)]).length = A.length + 1 := by simp
        have hA2 : A ++ [0] = b ++ 128 :: List.replicate (j + 1) 0 := by
          rw [hA,List.replicate_succ',List.append_assoc]; rfl
        simp (disch := omega) only [↓aI,↓zP,aD,zD,aS,simprocAttr,Try.facts,s4,s6,zA,hg,vk,ho,e0]
        intro k4 o4 hk40 hk4 ho4
        exact ⟨mm - 1,by omega,j + 1,k4,o4,A ++ [0],by omega,hA2,by omega,hk40,hs.free hk4,set_get,by rw [l0]; exact ho4,(hs.kill_free hk).set_free (hs.free hk4),by rw [l0]⟩
      · obtain rfl : j = n - b.length - 1 := by omega
        rw [← hA] at hR
        subst hR
        simp (disch := omega) only [↓aI,↓zP,aD,zD,aS,simprocAttr,Try.facts,s4,s6,zA,hg,vk,ho]
        exact hs
  · rw [if_neg c]
    refine az (c := ⟨Try.prog,29,[],[16],[]⟩) (rs := [ResultVar.tmp 2,ResultVar.tmp 3]) Try.mixed Try.func56 rfl rfl rfl (Nat.le_of_ble_eq_true rfl) (by kernel_rfl) fun H => ?_
    simp (disch := omega) only [↓aI,↓zP,aD,zD,aS,simprocAttr,Try.facts,zA]
    first | refine CallK.p (h) ?_ | refine CallP.i (h) ?_
    simp (disch := omega) only [↓aI,↓zP,aD,zD,aS,simprocAttr,Try.facts,zA]
    exact ⟨rfl,Abs.Sub.refl _⟩
end Go.Proofs.Ytaehlpkinbpmbaa
end
section
set_option linter.unusedSimpArgs false
set_option linter.unusedVariables false
set_option maxRecDepth 20000
set_option maxHeartbeats 4000000
namespace Go.Proofs.Ytaehlpkinbpmbaa
open Go Go.Abs Go.Proofs
def scanU (b : List UInt8) : Nat → Option (Option Nat)
  | 0 => some none
  | n + 1 => if b.getD n 0 = 0 then scanU b n else if b.getD n 0 = 128 then some (some n) else none
def unpadL (b : List UInt8) : List UInt8 × Int := match scanU b b.length with
  | some (some n) => if bktL n = ((b.length : Int),0) then (b.take n,0) else ([],11)
  | _ => ([],11)
theorem scan_spec (b : List UInt8) : ∀ m n,scanU b m = some (some n) ↔ n < m ∧ b.getD n 0 = 128 ∧ ∀ j,n < j → j < m → b.getD j 0 = 0
  | 0,n => by simp [scanU]
  | m + 1,n => by
    have ih := scan_spec b m n
    unfold scanU
    by_cases h0 : b.getD m 0 = 0
    · rw [if_pos h0,ih]
      constructor
      · rintro ⟨h1,h2,h3⟩
        refine ⟨by omega,h2,fun j hj hm => ?_⟩
        rcases (by omega : j < m ∨ j = m) with h | rfl
        · exact h3 j hj h
        · exact h0
      · rintro ⟨h1,h2,h3⟩
        rcases (by omega : n < m ∨ n = m) with h | rfl
        · exact ⟨h,h2,fun j hj hm => h3 j hj (by omega)⟩
        · rw [h0] at h2; cases h2
    · rw [if_neg h0]
      by_cases h1 : b.getD m 0 = 128
      · rw [if_pos h1]
        constructor
        · intro h
          cases h
          exact ⟨by omega,h1,fun j hj hm => by omega⟩
        · rintro ⟨a1,a2,a3⟩
          rcases (by omega : n < m ∨ n = m) with h | rfl
          · exact absurd (a3 m h (by omega)) h0
          · rfl
      · rw [if_neg h1]
        constructor
        · intro h; cases h
        · rintro ⟨a1,a2,a3⟩
          rcases (by omega : n < m ∨ n = m) with h | rfl
          · exact absurd (a3 m h (by omega)) h0
          · exact absurd a2 h1
theorem getD_lt8 {b : List UInt8} {i : Nat} (h : i < b.length) : b.getD i 0 = b[i] := by simp [List.getD,h]
theorem pad_iff {b : List UInt8} {n : Nat} (hn : n < b.length) : padL (b.take n) = (b,0) ↔ scanU b b.length = some (some n) ∧ bktL n = ((b.length : Int),0) := by
  have hl : (b.take n).length = n := by rw [List.length_take]; omega
  rw [scan_spec]
  unfold padL
  rw [hl]
  constructor
  · intro h
    by_cases c : (bktL n).2 = 0
    · rw [if_pos c] at h
      simp only [Prod.mk.injEq,and_true] at h
      obtain ⟨l1,l2,l3⟩ := bkt_lt c
      have hlen : (padN (b.take n) (bktL n).1.toNat).length = (bktL n).1.toNat := by
        unfold padN
        rw [List.length_append,List.length_cons,List.length_replicate,hl]
        omega
      have hL : (bktL n).1.toNat = b.length := by rw [← hlen,h]
      have hg : ∀ j,b.getD j 0 = (padN (b.take n) (bktL n).1.toNat).getD j 0 := fun j => by rw [h]
      refine ⟨⟨hn,?_,fun j hj hm => ?_⟩,?_⟩
      · rw [hg]
        unfold padN
        simp [List.getD,List.getElem?_append_right,hl]
      · rw [hg]
        unfold padN
        obtain ⟨q,rfl⟩ : ∃ q,j = n + (q + 1) := ⟨j - n - 1,by omega⟩
        rw [List.getD,List.getElem?_append_right (by rw [hl]; omega),hl,show n + (q + 1) - n = q + 1 by omega,List.getElem?_cons_succ]
        simp only [List.getElem?_replicate]
        split <;> rfl
      · apply Prod.ext
        · simp only []; omega
        · exact c
    · rw [if_neg c] at h
      simp only [Prod.mk.injEq] at h
      exact absurd h.2 c
  · rintro ⟨⟨-,h2,h3⟩,h4⟩
    rw [h4]
    simp only [if_true,Int.toNat_natCast]
    congr 1
    unfold padN
    rw [hl]
    apply List.ext_getElem?
    intro j
    rcases Nat.lt_trichotomy j n with h | h | h
    · rw [List.getElem?_append_left (by rw [hl]; exact h),List.getElem?_take_of_lt h]
    · subst h
      rw [List.getElem?_append_right (by rw [hl]; omega),hl,Nat.sub_self,List.getElem?_cons_zero,List.getElem?_eq_getElem hn,← getD_lt8 hn,h2]
    · rw [List.getElem?_append_right (by rw [hl]; omega),hl]
      obtain ⟨q,rfl⟩ : ∃ q,j = n + (q + 1) := ⟨j - n - 1,by omega⟩
      rw [show n + (q + 1) - n = q + 1 by omega,List.getElem?_cons_succ,List.getElem?_replicate]
      by_cases hj : n + (q + 1) < b.length
      · rw [if_pos (by omega),List.getElem?_eq_getElem hj,← getD_lt8 hj,h3 _ (by omega) hj]
      · rw [if_neg (by omega),List.getElem?_eq_none (by omega)]
end Go.Proofs.Ytaehlpkinbpmbaa
end
section
set_option linter.unusedSimpArgs false
set_option linter.unusedVariables false
set_option maxRecDepth 20000
set_option maxHeartbeats 4000000
namespace Go.Proofs.Ytaehlpkinbpmbaa
open Go Go.Abs Go.Proofs
theorem u8_zero {x : UInt8} : x = 0 ↔ x.toNat = 0 := by
  constructor
  · rintro rfl; rfl
  · intro h; exact UInt8.toNat_inj.1 h
theorem u8_128 {x : UInt8} : x = 128 ↔ x.toNat = 128 := by
  constructor
  · rintro rfl; rfl
  · intro h; exact UInt8.toNat_inj.1 h
theorem encB_takeN (b : List UInt8) (n : Nat) : (bw b).take n = bw (b.take n) := by
  unfold bw
  rw [List.map_take]
theorem unpad_pure (b : List UInt8) (hb : b.length ≤ 3000000) : APure Try.prog 66 [bytesV b] (.tup [bytesV (unpadL b).1,.sc (.int .i64 (unpadL b).2)]) := by
  have hbk := fun n => bucket_pure n
  have hR : unpadL b = match scanU b b.length with
    | some (some n) => if bktL n = ((b.length : Int),0) then (b.take n,0) else ([],11)
    | _ => ([],11) := rfl
  generalize unpadL b = R at *
  have h8 := encB_len b
  refine az (c := ⟨Try.prog,40,[],[35],[]⟩) (rs := [ResultVar.tmp 2,ResultVar.tmp 3]) Try.mixed Try.func66 rfl rfl rfl (Nat.le_of_ble_eq_true rfl) (by kernel_rfl) fun H => ?_
  simp (disch := omega) only [↓aI,↓zP,aD,zD,aS,simprocAttr,Try.facts,zA]
  refine scope_t Try.mixed 0 (by kernel_rfl) (rest := _) rfl (by kernel_rfl) (fun mm σ H' => False) ?_ (fun _ _ _ h => h.elim)
  simp (disch := omega) only [↓aI,↓zP,aD,zD,aS,simprocAttr,Try.facts,zA]
  refine br (c := ⟨Try.prog,40,[],[35],[]⟩) Try.mixed (by kernel_rfl) (fun mm σ H' => H' = H ∧ mm ≤ b.length ∧ scanU b b.length = scanU b mm ∧ σ 0 = bytesV b ∧ σ 4 = .sc (.int .i64 ((mm : Int) - 1))) b.length ?_ ?_
  · refine ⟨rfl,Nat.le_refl _,rfl,?_⟩
    simp (disch := omega) only [↓aI,↓zP,aD,zD,aS,simprocAttr,Try.facts,zA]
    try rfl
  · rintro mm σ H' ⟨rfl,hmm,hsc,s0,s4⟩
    rw [hsc] at hR
    cases mm with
    | zero =>
      have hk := hbk (-1)
      rw [bkt_neg (by omega)] at hk
      have hR' : R = ([],11) := hR
      subst hR'
      have s4' : σ 4 = .sc (.int .i64 (-1)) := s4
      simp (disch := omega) only [↓aI,↓zP,aD,zD,aS,simprocAttr,Try.facts,s0,s4',zA]
      first | refine CallK.p (hk) ?_ | refine CallP.i (hk) ?_
      simp (disch := omega) only [↓aI,↓zP,aD,zD,aS,simprocAttr,Try.facts,s0,zA]
      exact ⟨rfl,Abs.Sub.refl _⟩
    | succ n =>
      have hn : n < b.length := by omega
      have g := getD8 hn
      have gd := getD_lt8 hn
      have hst : scanU b (n + 1) = if b.getD n 0 = 0 then scanU b n else if b.getD n 0 = 128 then some (some n) else none := rfl
      rw [gd] at hst
      have hn1 : ((n + 1 : Nat) : Int) - 1 = (n : Nat) := by omega
      rw [hn1] at s4
      by_cases c0 : b[n] = 0
      · rw [if_pos c0] at hst
        have c0' := u8_zero.1 c0
        simp (disch := omega) only [↓aI,↓zP,aD,zD,aS,simprocAttr,Try.facts,s0,s4,zA,g,h8]
        exact ⟨n,by omega,by omega,by rw [hsc,hst],rfl⟩
      · rw [if_neg c0] at hst
        have c0' : ¬ b[n].toNat = 0 := fun h => c0 (u8_zero.2 h)
        by_cases c1 : b[n] = 128
        · rw [if_pos c1] at hst
          have c1' := u8_128.1 c1
          rw [hst] at hR
          have hk := hbk n
          have hR' : R = if bktL n = ((b.length : Int),0) then (b.take n,0) else ([],11) := hR
          generalize bktL n = z at *
          obtain ⟨sz,e⟩ := z
          simp only [] at hk
          by_cases e0 : e = 0
          · by_cases e1 : sz = (b.length : Int)
            · rw [if_pos (by rw [e0,e1])] at hR'
              subst hR'
              have htk := encB_takeN b n
              have htl : (b.take n).length = n := by rw [List.length_take]; omega
              have htl2 := encB_len (b.take n)
              simp (disch := omega) only [↓aI,↓zP,aD,zD,aS,simprocAttr,Try.facts,s0,s4,zA,g,h8]
              first | refine CallK.p (hk) ?_ | refine CallP.i (hk) ?_
              simp (disch := omega) only [↓aI,↓zP,aD,zD,aS,simprocAttr,Try.facts,s0,s4,zA,h8,htk]
              intro k hk0 hkf
              simp (disch := omega) only [↓aI,↓zP,aD,zD,aS,simprocAttr,Try.facts,s0,s4,zA,h8,htk,htl,htl2,Nat.sub_zero]
              intro k2 o2 hk20 hk2 ho2
              exact ⟨by rw [bytesV,htl],Sub.set_new (am hk2)⟩
            · rw [if_neg (fun h => e1 (Prod.mk.inj h).1)] at hR'
              subst hR'
              simp (disch := omega) only [↓aI,↓zP,aD,zD,aS,simprocAttr,Try.facts,s0,s4,zA,g,h8]
              first | refine CallK.p (hk) ?_ | refine CallP.i (hk) ?_
              simp (disch := omega) only [↓aI,↓zP,aD,zD,aS,simprocAttr,Try.facts,s0,zA]
              exact ⟨rfl,Abs.Sub.refl _⟩
          · rw [if_neg (fun h => e0 (Prod.mk.inj h).2)] at hR'
            subst hR'
            simp (disch := omega) only [↓aI,↓zP,aD,zD,aS,simprocAttr,Try.facts,s0,s4,zA,g,h8]
            first | refine CallK.p (hk) ?_ | refine CallP.i (hk) ?_
            simp (disch := omega) only [↓aI,↓zP,aD,zD,aS,simprocAttr,Try.facts,s0,zA]
            exact ⟨rfl,Abs.Sub.refl _⟩
        · rw [if_neg c1] at hst
          have c1' : ¬ b[n].toNat = 128 := fun h => c1 (u8_128.2 h)
          rw [hst] at hR
          have hR' : R = ([],11) := hR
          subst hR'
          simp (disch := omega) only [↓aI,↓zP,aD,zD,aS,simprocAttr,Try.facts,s0,s4,zA,g,h8]
          exact ⟨rfl,Abs.Sub.refl _⟩
theorem unpad_hit {b : List UInt8} {n : Nat} (hn : n < b.length) (h : padL (b.take n) = (b,0)) : unpadL b = (b.take n,0) := by
  obtain ⟨h1,h2⟩ := (pad_iff hn).1 h
  unfold unpadL
  rw [h1]
  simp only []
  rw [if_pos h2]
theorem unpad_none {b : List UInt8} (h : ∀ n,n < b.length → ¬ padL (b.take n) = (b,0)) : unpadL b = ([],11) := by
  unfold unpadL
  split
  · rename_i n hs
    split
    · rename_i h2
      have hn := ((scan_spec b _ n).1 hs).1
      exact absurd ((pad_iff hn).2 ⟨hs,h2⟩) (h n hn)
    · rfl
  · rfl
theorem unpad_long {b : List UInt8} (h : 4096 < b.length) : unpadL b = ([],11) := by
  unfold unpadL
  split
  · rename_i n hs
    split
    · rename_i h2
      have := bkt_le n
      rw [h2] at this
      simp only [] at this
      omega
    · rfl
  · rfl
theorem padL_zero {b : List UInt8} {q : List UInt8} : padL b = (q,0) ↔ (padL b).2 = 0 ∧ (padL b).1 = q := by
  constructor
  · intro h; rw [h]; exact ⟨rfl,rfl⟩
  · rintro ⟨h1,h2⟩; exact Prod.ext h2 h1
theorem runpad_pure (b : List UInt8) (hb : b.length ≤ 3000000) : APure Try.prog 68 [bytesV b] (.tup [bytesV (unpadL b).1,.sc (.int .i64 (unpadL b).2)]) := by
  have h8 := encB_len b
  by_cases hlong : 4096 < b.length
  · rw [unpad_long hlong]
    refine az (c := ⟨Try.prog,40,[],[],[]⟩) (rs := [ResultVar.tmp 2,ResultVar.tmp 3]) Try.mixed Try.func68 rfl rfl rfl (Nat.le_of_ble_eq_true rfl) (by kernel_rfl) fun H => ?_
    simp (disch := omega) only [↓aI,↓zP,aD,zD,aS,simprocAttr,Try.facts,zA]
    exact ⟨rfl,Abs.Sub.refl _⟩
  · have hpd := fun n => rpad_pure (b.take n) (by rw [List.length_take]; omega)
    have hhit := fun n (h : n < b.length) (g : (padL (b.take n)).2 = 0 ∧ (padL (b.take n)).1 = b) => unpad_hit h (padL_zero.2 g)
    have hno := fun (h : ∀ n,n < b.length → ¬ ((padL (b.take n)).2 = 0 ∧ (padL (b.take n)).1 = b)) => unpad_none (b := b) fun n hn g => h n hn (padL_zero.1 g)
    generalize unpadL b = R at *
    refine az (c := ⟨Try.prog,40,[],[],[]⟩) (rs := [ResultVar.tmp 2,ResultVar.tmp 3]) Try.mixed Try.func68 rfl rfl rfl (Nat.le_of_ble_eq_true rfl) (by kernel_rfl) fun H => ?_
    simp (disch := omega) only [↓aI,↓zP,aD,zD,aS,simprocAttr,Try.facts,zA]
    refine br (c := ⟨Try.prog,40,[],[],[]⟩) Try.mixed (by kernel_rfl) (fun mm σ H' => H' = H ∧ ∃ (i : Nat),i + mm = b.length ∧ (∀ n,n < i → ¬ ((padL (b.take n)).2 = 0 ∧ (padL (b.take n)).1 = b)) ∧ σ 0 = bytesV b ∧ σ 4 = .sc (.int .i64 (i : Nat))) b.length ?_ ?_
    · refine ⟨rfl,0,by omega,fun n hn => by omega,?_⟩
      simp (disch := omega) only [↓aI,↓zP,aD,zD,aS,simprocAttr,Try.facts,zA]
      try rfl
    · rintro mm σ H' ⟨rfl,i,him,hbe,s0,s4⟩
      by_cases hlt : i < b.length
      · have g := getD8 hlt
        have hpi := hpd i
        have hhi := hhit i hlt
        have hnx : ¬ ((padL (b.take i)).2 = 0 ∧ (padL (b.take i)).1 = b) → ∀ n,n < i + 1 → ¬ ((padL (b.take n)).2 = 0 ∧ (padL (b.take n)).1 = b) := fun h n hn => by
          rcases (by omega : n < i ∨ n = i) with h' | rfl
          · exact hbe n h'
          · exact h
        have htk := encB_takeN b i
        have htl : (b.take i).length = i := by rw [List.length_take]; omega
        have hbi : bytesV (b.take i) = .imm 0 (bw (b.take i)) i := by rw [bytesV,htl]
        have h128 : ¬ b[i] = 128 → ¬ ((padL (b.take i)).2 = 0 ∧ (padL (b.take i)).1 = b) := fun h g => h (by
          have := ((pad_iff hlt).1 (padL_zero.2 g)).1
          rw [scan_spec] at this
          rw [← getD_lt8 hlt]
          exact this.2.1)
        clear hhit hno hpd
        rw [hbi] at hpi
        generalize padL (b.take i) = PL at *
        obtain ⟨p,e⟩ := PL
        simp only [] at hpi hhi hnx h128
        by_cases c1 : b[i] = 128
        · have c1' := u8_128.1 c1
          by_cases c2 : e = 0
          · by_cases c3 : p = b
            · obtain rfl := hhi ⟨c2,c3⟩
              have hpb : (p == b) = true := by rw [c3]; exact beq_self_eq_true b
              simp (disch := omega) only [↓aI,↓zP,aD,zD,aS,simprocAttr,Try.facts,s0,s4,zA,g,h8,htk,Nat.sub_zero]
              first | refine CallK.p (hpi) ?_ | refine CallP.i (hpi) ?_
              simp (disch := omega) only [↓aI,↓zP,aD,zD,aS,simprocAttr,Try.facts,s0,s4,zA,g,h8,htk,Nat.sub_zero,bO,hpb]
              exact ⟨by rw [hbi],Abs.Sub.refl _⟩
            · have hpb : (p == b) = false := by simpa using c3
              simp (disch := omega) only [↓aI,↓zP,aD,zD,aS,simprocAttr,Try.facts,s0,s4,zA,g,h8,htk,Nat.sub_zero]
              first | refine CallK.p (hpi) ?_ | refine CallP.i (hpi) ?_
              simp (disch := omega) only [↓aI,↓zP,aD,zD,aS,simprocAttr,Try.facts,s0,s4,zA,g,h8,htk,Nat.sub_zero,bO,hpb]
              exact ⟨mm - 1,by omega,i + 1,by omega,hnx (fun h => c3 h.2),rfl⟩
          · simp (disch := omega) only [↓aI,↓zP,aD,zD,aS,simprocAttr,Try.facts,s0,s4,zA,g,h8,htk,Nat.sub_zero]
            first | refine CallK.p (hpi) ?_ | refine CallP.i (hpi) ?_
            simp (disch := omega) only [↓aI,↓zP,aD,zD,aS,simprocAttr,Try.facts,s0,s4,zA,g,h8,htk,Nat.sub_zero]
            exact ⟨mm - 1,by omega,i + 1,by omega,hnx (fun h => c2 h.1),rfl⟩
        · have c1' : ¬ b[i].toNat = 128 := fun h => c1 (u8_128.2 h)
          simp (disch := omega) only [↓aI,↓zP,aD,zD,aS,simprocAttr,Try.facts,s0,s4,zA,g,h8]
          exact ⟨mm - 1,by omega,i + 1,by omega,hnx (h128 c1),rfl⟩
      · obtain rfl := hno (fun n hn => hbe n (by omega))
        simp (disch := omega) only [↓aI,↓zP,aD,zD,aS,simprocAttr,Try.facts,s0,s4,zA]
        exact ⟨rfl,Abs.Sub.refl _⟩
end Go.Proofs.Ytaehlpkinbpmbaa
end
section
set_option linter.unusedSimpArgs false
set_option linter.unusedVariables false
set_option maxRecDepth 20000
set_option maxHeartbeats 4000000
namespace Go.Proofs.Ytaehlpkinbpmbaa
open Go Go.Abs Go.Proofs
abbrev idealV (h : Nat) : AV := .ifc 27 (.ptr h 0)
abbrev keyI (l : Ltr) : List UInt8 := vnum l.kind ++ vnum l.author
abbrev keyTm (epoch : List UInt8) (l : Ltr) : Term := ⟨107,[epoch,keyI l]⟩
theorem keyI_len (l : Ltr) : (keyI l).length ≤ 14 := by
  have := vnum_length l.kind
  have := vnum_length l.author
  rw [List.length_append]
  omega
theorem key_tell {H0 H : AH} {h m d : Nat} {ts : List Term} (epoch : List UInt8) (l : Ltr) (he : epoch.length = 32) (hg : GT 1000000 ts) (s : SS H0 H h m d ts) : ACalls Try.prog 47 [idealV h,bytesV epoch,.agg (ltrC l)] H (TellR H0 h m d ts (keyTm epoch l)) := by
  have h1 := wnum_pure [] (by simp) l.kind
  have h2 := wnum_pure (vnum l.kind) (by have := vnum_length l.kind; omega) l.author
  rw [List.nil_append] at h1
  have hd := fun (G H1 : AH) (s : SS G H1 h m d ts) => derive_tell epoch (keyI l) (wf2 (k := 107) (by decide) (by omega) (by have := keyI_len l; omega)).1 hg he s
  obtain ⟨kd,au,ep,nu,pv,bx,sg⟩ := l
  simp only [ltrC,keyTm,keyI] at *
  refine ao (c := ⟨Try.prog,19,[(1,[0,0,0,1,0,0,1,0,0,0,0,2,0]),(1000000,[5])],[],[]⟩) (rs := [ResultVar.tmp 6]) Try.mixed Try.func47 rfl rfl rfl (Nat.le_of_ble_eq_true rfl) (by kernel_rfl) ?_
  simp (disch := omega) only [↓aI,↓zP,aD,zD,aS,simprocAttr,Try.facts,zA]
  intro k hk0 hk
  try simp (disch := omega) only [↓aI,↓zP,aD,zD,aS,simprocAttr,Try.facts,zA,aj hk]
  first | refine CallK.p (h1) ?_ | refine CallP.i (h1) ?_
  simp (disch := omega) only [↓aI,↓zP,aD,zD,aS,simprocAttr,Try.facts,zA]
  first | refine CallK.p (h2) ?_ | refine CallP.i (h2) ?_
  simp (disch := omega) only [↓aI,↓zP,aD,zD,aS,simprocAttr,Try.facts,zA]
  rw [aj hk]
  have e : bytesV (vnum kd ++ vnum au) = .imm 0 (bw (vnum kd ++ vnum au)) ((vnum kd).length + (vnum au).length) := by rw [bytesV,List.length_append]
  have hd' := hd _ _ s
  rw [e] at hd'
  refine CallK.i hd' ?_
  rintro v E ⟨rfl,s2⟩
  simp (disch := omega) only [↓aI,↓zP,aD,zD,aS,simprocAttr,Try.facts]
  exact ⟨_,rfl,_,Abs.Sub.refl _,rfl,s2⟩
abbrev zeroL : Ltr := ⟨0,0,0,0,[],[],[]⟩
structure Made where
  kt : Term
  ts1 : List Term
  bt : Term
  ts2 : List Term
  box : List UInt8
  hash : List UInt8
  ts3 : List Term
  st : Term
  ts4 : List Term
  sig : List UInt8
def madeL (ts : List Term) (secret epoch : List UInt8) (l : Ltr) (p : List UInt8) : Made :=
  let kt := keyTm epoch l
  let ts1 := (numT ts kt).1
  let bt := sealT (nameT kt (numT ts kt).2) l.number.toNat (headL l) p
  let ts2 := (numT ts1 bt).1
  let box := nameT bt (numT ts1 bt).2
  let hash := nameT ⟨104,[box]⟩ (numT ts2 ⟨104,[box]⟩).2
  let ts3 := (numT ts2 ⟨104,[box]⟩).1
  let st : Term := ⟨103,[secret,headL l ++ vtext hash]⟩
  ⟨kt,ts1,bt,ts2,box,hash,ts3,st,(numT ts3 st).1,nameT st (numT ts3 st).2⟩
abbrev boxed (l : Ltr) (b s : List UInt8) : Ltr := { l with box := b,sig := s }
def makeL (ts : List Term) (secret epoch : List UInt8) (l : Ltr) (text : List UInt8) : List Term × Ltr × Int :=
  if secret.length ≠ 32 ∨ epoch.length ≠ 32 ∨ namedL l = false then (ts,zeroL,1)
  else if (padL text).2 ≠ 0 then (ts,zeroL,(padL text).2)
  else ((madeL ts secret epoch l (padL text).1).ts4,boxed l (madeL ts secret epoch l (padL text).1).box (madeL ts secret epoch l (padL text).1).sig,0)
end Go.Proofs.Ytaehlpkinbpmbaa
end
