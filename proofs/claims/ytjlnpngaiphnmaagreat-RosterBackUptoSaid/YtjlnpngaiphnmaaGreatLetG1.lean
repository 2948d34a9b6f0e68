/-
  Several texts in one: each says what it proves.
  Conditions: none. Lemmas only.
-/
import Derived.Test.YtjlnpngaiphnmaaGreatFugFacts
import Derived.Test.YtjlnpngaiphnmaaGreatSuiG1
import Derived.Test.YtjlnpngaiphnmaaGreatAbsG6
import Derived.Test.YtjlnpngaiphnmaaGreatAbsG5
set_option linter.all false
section
set_option linter.unusedSimpArgs false
set_option linter.unusedVariables false
set_option maxRecDepth 20000
set_option maxHeartbeats 4000000
namespace Go.Proofs.YtjlnpngaiphnmaaGreat
open Go Go.Abs Go.Proofs
theorem dT {p : Prop} [Decidable p] (h : p) : decide p = true := by simpa using h
theorem dF {p : Prop} [Decidable p] (h : ¬ p) : decide p = false := by simpa using h
theorem qT {a b : Int} (h : a = b) : (a == b) = true := by simpa using h
theorem qF {a b : Int} (h : ¬ a = b) : (a == b) = false := by simpa using h
theorem nT {a b : Int} (h : ¬ a = b) : (a != b) = true := by simpa using h
theorem nF {a b : Int} (h : a = b) : (a != b) = false := by simpa using h
def zA := And.intro @dT <| And.intro @dF <| And.intro @qT <| And.intro @qF <| And.intro @nT <| And.intro @nF <| And.intro Bool.false_and Bool.and_false
end Go.Proofs.YtjlnpngaiphnmaaGreat
end
section
set_option linter.unusedSimpArgs false
set_option linter.unusedVariables false
set_option maxRecDepth 20000
set_option maxHeartbeats 4000000
namespace Go.Proofs.YtjlnpngaiphnmaaGreat
open Go Go.Abs Go.Proofs
def ib : Nat → Nat → List UInt8
  | 0,n => [UInt8.ofNat n]
  | f + 1,n => if n < 128 then [UInt8.ofNat n] else UInt8.ofNat (128 + n % 128) :: ib f (n / 128)
def iG (z : Int) : Nat := (min (max z 0) 1099511627776).toNat
def fI (z : Int) : List UInt8 := ib 6 (iG z)
theorem jI (z : Int) : iG z ≤ 1099511627776 := by unfold iG; omega
theorem clampN_of {z : Int} (h : 0 ≤ z) (h2 : z ≤ 1099511627776) : ((iG z : Nat) : Int) = z := by unfold iG; omega
theorem jv : ∀ f n,(ib f n).length ≤ f + 1 := by
  intro f
  induction f with
  | zero => intro n; simp [ib]
  | succ f ih =>
    intro n
    unfold ib
    split
    · simp
    · have := ih (n / 128)
      simp only [List.length_cons]; omega
theorem fT (z : Int) : (fI z).length ≤ 7 := jv 6 _
theorem jP (a b : List UInt8) : bw a ++ bw b = bw (a ++ b) := by simp [bw]
theorem fO (a : List UInt8) : (bw a).length = a.length := by simp [bw]
theorem clamp_if (z : Int) : (if (1099511627776 : Int) < (if z < 0 then 0 else z) then 1099511627776 else (if z < 0 then 0 else z)) = ((iG z : Nat) : Int) := by
  unfold iG
  split <;> split <;> omega
theorem bits_orI {a b : Nat} (ha : a < 2 ^ 63) (hb : b < 2 ^ 63) : bits .or .i64 (a : Int) (b : Int) = ((a ||| b : Nat) : Int) := by
  show IntKind.i64.wrap ((BitVec.ofInt 64 (a : Int) ||| BitVec.ofInt 64 (b : Int)).toNat : Int) = _
  rw [BitVec.ofInt_natCast,BitVec.ofInt_natCast]
  simp only [BitVec.toNat_or,BitVec.toNat_ofNat,Nat.mod_eq_of_lt (show a < 2 ^ 64 by omega),Nat.mod_eq_of_lt (show b < 2 ^ 64 by omega)]
  have := Nat.or_lt_two_pow ha hb
  exact iw (by omega)
theorem bits_andI {a b : Nat} (ha : a < 2 ^ 63) (hb : b < 2 ^ 63) : bits .and .i64 (a : Int) (b : Int) = ((a &&& b : Nat) : Int) := by
  show IntKind.i64.wrap ((BitVec.ofInt 64 (a : Int) &&& BitVec.ofInt 64 (b : Int)).toNat : Int) = _
  rw [BitVec.ofInt_natCast,BitVec.ofInt_natCast]
  simp only [BitVec.toNat_and,BitVec.toNat_ofNat,Nat.mod_eq_of_lt (show a < 2 ^ 64 by omega),Nat.mod_eq_of_lt (show b < 2 ^ 64 by omega)]
  have := Nat.and_lt_two_pow a hb
  exact iw (by omega)
theorem and127 {a : Nat} (ha : a ≤ 1099511627776) : bits .and .i64 (a : Int) 127 = ((a % 128 : Nat) : Int) := by
  have e := bits_andI (a := a) (b := 127) (by omega) (by omega)
  rw [show a &&& 127 = a % 128 from Nat.and_two_pow_sub_one_eq_mod a 7] at e
  exact e
theorem shr7 (n : Nat) : ((n : Int)).fdiv (2 ^ min 7 IntKind.i64.bits) = ((n / 128 : Nat) : Int) := fdivN n 128
theorem or128 {a : Nat} (ha : a < 128) : bits .or .i64 (a : Int) 128 = ((128 + a : Nat) : Int) := by
  have e := bits_orI (a := a) (b := 128) (by omega) (by omega)
  have h := Nat.two_pow_add_eq_or_of_lt (i := 7) (b := a) (by omega) 1
  rw [Nat.or_comm] at e
  rw [show 2 ^ 7 * 1 ||| a = 128 ||| a from rfl] at h
  rw [← h] at e
  exact e
theorem digits_pure : ∀ (f : Nat),f ≤ 6 → ∀ (z : Int),iG z < 128 ^ (f + 1) → APure Tryz.prog 99 [.sc (.int .i64 z)] (eu (ib f (iG z))) := by
  intro f
  induction f with
  | zero =>
    intro hf z h2
    have hc := clamp_if z
    have h2' : iG z < 128 := by omega
    generalize iG z = n at *
    refine az (c := ⟨Tryz.prog,20,[],[15],[]⟩) (rs := [ResultVar.tmp 2]) Tryz.mixed Tryz.func99 rfl rfl rfl (Nat.le_of_ble_eq_true rfl) (by kernel_rfl) fun H => ?_
    simp (disch := omega) only [↓aI,↓zP,aD,zD,aS,simprocAttr,Tryz.facts,zA,hc,ib,↓jC,bw]
    exact ⟨rfl,Abs.Sub.refl _⟩
  | succ f ih =>
    intro hf z h2
    have hc := clamp_if z
    have hl := jI z
    generalize iG z = n at *
    have h4 := ih (by omega) ((n / 128 : Nat) : Int)
    rw [show iG ((n / 128 : Nat) : Int) = n / 128 by unfold iG; omega] at h4
    have h4 := h4 (by rw [Nat.pow_succ] at h2; omega)
    have h5 := jv f (n / 128)
    by_cases h128 : n < 128
    · refine az (c := ⟨Tryz.prog,20,[],[15],[]⟩) (rs := [ResultVar.tmp 2]) Tryz.mixed Tryz.func99 rfl rfl rfl (Nat.le_of_ble_eq_true rfl) (by kernel_rfl) fun H => ?_
      simp (disch := omega) only [↓aI,↓zP,aD,zD,aS,simprocAttr,Tryz.facts,zA,hc,ib,↓jC,bw,h128,if_true]
      exact ⟨rfl,Abs.Sub.refl _⟩
    · have h6 : IntKind.u8.wrap (128 + ((n % 128 : Nat) : Int)) = ((UInt8.ofNat (128 + n % 128)).toNat : Int) := by
        rw [show (128 : Int) + ((n % 128 : Nat) : Int) = ((128 + n % 128 : Nat) : Int) by omega,jC]
      have h7 : IntKind.i64.wrap ((n / 128 : Nat) : Int) = ((n / 128 : Nat) : Int) := iw (by omega)
      unfold ib
      rw [if_neg h128]
      generalize ib f (n / 128) = D at *
      have h8 : (AV.sc (.int .u8 ((UInt8.ofNat (128 + n % 128)).toNat : Int))) :: bw D = bw (UInt8.ofNat (128 + n % 128) :: D) := rfl
      generalize UInt8.ofNat (128 + n % 128) = c at *
      have h9 := fO D
      refine az (c := ⟨Tryz.prog,20,[],[15],[]⟩) (rs := [ResultVar.tmp 2]) Tryz.mixed Tryz.func99 rfl rfl rfl (Nat.le_of_ble_eq_true rfl) (by kernel_rfl) fun H => ?_
      simp (disch := omega) only [↓aI,↓zP,aD,zD,aS,simprocAttr,Tryz.facts,zA,hc,↓jd,↓tdivN,h6,h7]
      intro k hk0 hk
      try simp (disch := omega) only [↓aI,↓zP,aD,zD,aS,simprocAttr,Tryz.facts,zA,hc,↓jd,↓tdivN,h6,h7]
      first | refine CallK.p (h4) ?_ | refine CallP.i (h4) ?_
      simp (disch := omega) only [↓aI,↓zP,aD,zD,aS,simprocAttr,Tryz.facts,h8,h9,zA]
      intro k' o' hk0' hk' ho'
      rw [Nat.add_comm]
      exact ⟨rfl,Sub.set_new (am hk')⟩
theorem rnum_pure (b : List UInt8) (hb : b.length ≤ 4000000) (z : Int) : APure Tryz.prog 85 [eu b,.sc (.int .i64 z)] (eu (b ++ fI z)) := by
  have h := digits_pure 6 (by omega) z (by have := jI z; omega)
  have hl := jv 6 (iG z)
  unfold fI
  generalize ib 6 (iG z) = D at *
  have h9 := fO D
  have h8 := fO b
  have h7 := jP b D
  have h6 := fO (b ++ D)
  refine az (c := ⟨Tryz.prog,11,[],[5],[]⟩) (rs := [ResultVar.tmp 4]) Tryz.mixed Tryz.func85 rfl rfl rfl (Nat.le_of_ble_eq_true rfl) (by kernel_rfl) fun H => ?_
  simp (disch := omega) only [↓aI,↓zP,aD,zD,aS,simprocAttr,Tryz.facts]
  intro k hk0 hk
  try simp (disch := omega) only [↓aI,↓zP,aD,zD,aS,simprocAttr,Tryz.facts]
  intro k2 o2 hk20 hk2 ho2
  try simp (disch := omega) only [↓aI,↓zP,aD,zD,aS,simprocAttr,Tryz.facts]
  first | refine CallK.p (h) ?_ | refine CallP.i (h) ?_
  simp (disch := omega) only [↓aI,↓zP,aD,zD,aS,simprocAttr,Tryz.facts,h7,h8,h9,zA]
  intro k3 o3 hk30 hk3 ho3
  rw [← List.length_append]
  exact ⟨rfl,((Sub.set_new (am hk2)).kill_free (am hk2)).set_free (am hk3)⟩
theorem iY (b : List UInt8) (hb : b.length ≤ 4000000) (z : Int) : APure Tryz.prog 67 [eu b,.sc (.int .i64 z)] (eu (b ++ fI z)) := by
  have hc := clamp_if z
  have hl := jI z
  unfold fI
  generalize iG z = n at *
  have h8 := fO b
  refine az (c := ⟨Tryz.prog,28,[],[6],[]⟩) (rs := [ResultVar.tmp 4]) Tryz.mixed Tryz.func67 rfl rfl rfl (Nat.le_of_ble_eq_true rfl) (by kernel_rfl) fun H => ?_
  simp (disch := omega) only [↓aI,↓zP,aD,zD,aS,simprocAttr,Tryz.facts,hc]
  refine scope_t Tryz.mixed 0 (by kernel_rfl) (rest := _) rfl (by kernel_rfl) (fun mm σ H' => ∃ (A : List UInt8) (f m k : Nat) (o : AObj),mm = f ∧ f ≤ 6 ∧ m < 128 ^ (f + 1) ∧ m ≤ 1099511627776 ∧ A ++ ib f m = b ++ ib 6 n ∧ A.length + f ≤ b.length + 6 ∧ k ≠ 0 ∧ H k = none ∧ H' k = some o ∧ cy 5 1 o A.length ∧ Abs.Sub H H' ∧
    σ 1 = .sc (.int .i64 (m : Nat)) ∧ σ 5 = .imm k (bw A) A.length) ?_ ?_
  · simp (disch := omega) only [↓aI,↓zP,aD,zD,aS,simprocAttr,Tryz.facts,hc]
    intro k hk0 hk
    try simp (disch := omega) only [↓aI,↓zP,aD,zD,aS,simprocAttr,Tryz.facts,hc]
    intro k2 o2 hk20 hk2 ho2
    have hk2H := am hk2
    by_cases h128 : n < 128
    · have hd : ib 6 n = [UInt8.ofNat n] := by unfold ib; rw [if_pos h128]
      rw [hd]
      simp (disch := omega) only [↓aI,↓zP,aD,zD,aS,simprocAttr,Tryz.facts,hc,h8,ho2,zA,↓jC]
      intro k3 o3 hk30 hk3 ho3
      rw [← List.length_singleton (a := UInt8.ofNat n),← List.length_append]
      exact ⟨rfl,Sub.set_new (am hk3)⟩
    · have hd : ib 6 n = UInt8.ofNat (128 + n % 128) :: ib 5 (n / 128) := by show (if _ then _ else _) = _; rw [if_neg h128]
      have ha := and127 (a := n) (by omega)
      have hb2 := or128 (a := n % 128) (by omega)
      simp (disch := omega) only [↓aI,↓zP,aD,zD,aS,simprocAttr,Tryz.facts,hc,h8,ho2,zA,ha,hb2,↓jC,shr7]
      intro k3 o3 hk30 hk3 ho3
      refine ⟨5,b ++ [UInt8.ofNat (128 + n % 128)],5,n / 128,k3,o3,rfl,by omega,by omega,by omega,by rw [hd,List.append_assoc]; rfl,by simp only [List.length_append,List.length_singleton]; omega,hk30,am hk3,set_get,by simpa using ho3,?_,rfl,by rw [List.length_append]; rfl⟩
      exact Sub.set_new (am hk3)
  · rintro mm σ H' ⟨A,f,m,k,o,rfl,hf,hm,hm2,hA,hAl,hk0,hk,vk,ho,hs,s1,s5⟩
    have hg := fO A
    by_cases h128 : m < 128
    · have hd : ib mm m = [UInt8.ofNat m] := by
        cases mm with
        | zero => rfl
        | succ f => unfold ib; rw [if_pos h128]
      rw [hd] at hA
      simp (disch := omega) only [↓aI,↓zP,aD,zD,aS,simprocAttr,Tryz.facts,s1,s5,vk,hg,ho,zA,↓jC]
      intro k3 o3 hk30 hk3 ho3
      rw [← hA,← List.length_singleton (a := UInt8.ofNat m),← List.length_append]
      exact ⟨rfl,(hs.kill_free hk).set_free (hs.free hk3)⟩
    · obtain ⟨f, rfl⟩ : ∃ f, mm = f + 1 := by
        cases mm with
        | zero => exact absurd hm (by omega)
        | succ f => exact ⟨f,rfl⟩
      have hd : ib (f + 1) m = UInt8.ofNat (128 + m % 128) :: ib f (m / 128) := by show (if _ then _ else _) = _; rw [if_neg h128]
      have ha := and127 (a := m) (by omega)
      have hb2 := or128 (a := m % 128) (by omega)
      simp (disch := omega) only [↓aI,↓zP,aD,zD,aS,simprocAttr,Tryz.facts,s1,s5,vk,hg,ho,zA,ha,hb2,↓jC,shr7]
      intro k3 o3 hk30 hk3 ho3
      refine ⟨f,by omega,A ++ [UInt8.ofNat (128 + m % 128)],f,m / 128,k3,o3,rfl,by omega,by rw [Nat.pow_succ] at hm; omega,by omega,by rw [← hA,hd,List.append_assoc]; rfl,by simp only [List.length_append,List.length_singleton]; omega,hk30,hs.free hk3,set_get,by simpa using ho3,?_,rfl,by rw [List.length_append]; rfl⟩
      exact (hs.kill_free hk).set_free (hs.free hk3)
end Go.Proofs.YtjlnpngaiphnmaaGreat
end
section
set_option linter.unusedSimpArgs false
set_option linter.unusedVariables false
set_option maxRecDepth 20000
set_option maxHeartbeats 4000000
namespace Go.Proofs.YtjlnpngaiphnmaaGreat
open Go Go.Abs Go.Proofs
theorem takeB (A : List UInt8) : List.take A.length (bw A) = bw A := List.take_of_length_le (by rw [fO]; exact Nat.le_refl _)
theorem wnum_own (b : List UInt8) (hb : b.length ≤ 4000000) (z : Int) (H : AH) : ACalls Tryz.prog 67 [eu b,.sc (.int .i64 z)] H (OwnB (b ++ fI z) H) := by
  have hc := clamp_if z
  have hl := jI z
  unfold fI
  generalize iG z = n at *
  have h8 := fO b
  refine ao (c := ⟨Tryz.prog,28,[],[1000006,1000008,1000020,1000027],[]⟩) (rs := [ResultVar.tmp 4]) Tryz.mixed Tryz.func67 rfl rfl rfl (Nat.le_of_ble_eq_true rfl) (by kernel_rfl) ?_
  simp (disch := omega) only [↓aI,↓zP,aD,zD,aS,simprocAttr,Tryz.facts,hc]
  refine scope_t Tryz.mixed 0 (by kernel_rfl) (rest := _) rfl (by kernel_rfl) (fun mm σ H' => ∃ (A : List UInt8) (f m k : Nat),mm = f ∧ f ≤ 6 ∧ m < 128 ^ (f + 1) ∧ m ≤ 1099511627776 ∧ A ++ ib f m = b ++ ib 6 n ∧ A.length + f ≤ b.length + 6 ∧ k ≠ 0 ∧ H k = none ∧ H' = H.set k (.cells (bw A) 5 1) ∧
    σ 1 = .sc (.int .i64 (m : Nat)) ∧ σ 5 = .own k 0 A.length) ?_ ?_
  · simp (disch := omega) only [↓aI,↓zP,aD,zD,aS,simprocAttr,Tryz.facts,hc]
    intro k hk0 hk k2 hk2
    obtain ⟨hk20,hk2⟩ := iW hk0 hk hk2
    by_cases h128 : n < 128
    · have hd : ib 6 n = [UInt8.ofNat n] := by unfold ib; rw [if_pos h128]
      rw [hd]
      simp (disch := omega) only [↓aI,↓zP,aD,zD,aS,simprocAttr,Tryz.facts,hc,h8,zA,↓jC]
      intro k3 hk3
      obtain ⟨hk30,hk3⟩ := iW hk20 hk2 hk3
      refine ⟨_,rfl,_,Abs.Sub.refl _,k3,hk30,hk3,by rw [List.length_append]; rfl,by rw [takeB]; rw [show [AV.sc (Value.int .u8 ((UInt8.ofNat n).toNat : Nat))] = bw [UInt8.ofNat n] from rfl,jP]⟩
    · have hd : ib 6 n = UInt8.ofNat (128 + n % 128) :: ib 5 (n / 128) := by show (if _ then _ else _) = _; rw [if_neg h128]
      have ha := and127 (a := n) (by omega)
      have hb2 := or128 (a := n % 128) (by omega)
      simp (disch := omega) only [↓aI,↓zP,aD,zD,aS,simprocAttr,Tryz.facts,hc,h8,zA,ha,hb2,↓jC,shr7]
      intro k3 hk3
      obtain ⟨hk30,hk3⟩ := iW hk20 hk2 hk3
      refine ⟨5,b ++ [UInt8.ofNat (128 + n % 128)],5,n / 128,k3,rfl,by omega,by omega,by omega,by rw [hd,List.append_assoc]; rfl,by simp only [List.length_append,List.length_singleton]; omega,hk30,hk3,?_,rfl,by rw [List.length_append]; rfl⟩
      rw [takeB]
      rw [show [AV.sc (Value.int .u8 ((UInt8.ofNat (128 + n % 128)).toNat : Nat))] = bw [UInt8.ofNat (128 + n % 128)] from rfl,jP]
  · rintro mm σ H' ⟨A,f,m,k,rfl,hf,hm,hm2,hA,hAl,hk0,hk,rfl,s1,s5⟩
    have hg := fO A
    by_cases h128 : m < 128
    · have hd : ib mm m = [UInt8.ofNat m] := by
        cases mm with
        | zero => rfl
        | succ f => unfold ib; rw [if_pos h128]
      rw [hd] at hA
      simp (disch := omega) only [↓aI,↓zP,aD,zD,aS,simprocAttr,Tryz.facts,s1,s5,hg,zA,↓jC]
      intro k3 hk3
      obtain ⟨hk30,hk3⟩ := iW hk0 hk hk3
      refine ⟨_,rfl,_,Abs.Sub.refl _,k3,hk30,hk3,by rw [← hA,List.length_append]; rfl,?_⟩
      rw [takeB,← hA]
      rw [show [AV.sc (Value.int .u8 ((UInt8.ofNat m).toNat : Nat))] = bw [UInt8.ofNat m] from rfl,jP]
    · obtain ⟨f, rfl⟩ : ∃ f, mm = f + 1 := by
        cases mm with
        | zero => exact absurd hm (by omega)
        | succ f => exact ⟨f,rfl⟩
      have hd : ib (f + 1) m = UInt8.ofNat (128 + m % 128) :: ib f (m / 128) := by show (if _ then _ else _) = _; rw [if_neg h128]
      have ha := and127 (a := m) (by omega)
      have hb2 := or128 (a := m % 128) (by omega)
      simp (disch := omega) only [↓aI,↓zP,aD,zD,aS,simprocAttr,Tryz.facts,s1,s5,hg,zA,ha,hb2,↓jC,shr7]
      intro k3 hk3
      obtain ⟨hk30,hk3⟩ := iW hk0 hk hk3
      refine ⟨f,by omega,A ++ [UInt8.ofNat (128 + m % 128)],f,m / 128,k3,rfl,by omega,by rw [Nat.pow_succ] at hm; omega,by omega,by rw [← hA,hd,List.append_assoc]; rfl,by simp only [List.length_append,List.length_singleton]; omega,hk30,hk3,?_,rfl,by rw [List.length_append]; rfl⟩
      rw [takeB]
      rw [show [AV.sc (Value.int .u8 ((UInt8.ofNat (128 + m % 128)).toNat : Nat))] = bw [UInt8.ofNat (128 + m % 128)] from rfl,jP]
theorem rnum_own (b : List UInt8) (hb : b.length ≤ 4000000) (z : Int) (H : AH) : ACalls Tryz.prog 85 [eu b,.sc (.int .i64 z)] H (OwnB (b ++ fI z) H) := by
  have h := digits_pure 6 (by omega) z (by have := jI z; omega)
  have hl := jv 6 (iG z)
  unfold fI
  generalize ib 6 (iG z) = D at *
  have h9 := fO D
  have h8 := fO b
  refine ao (c := ⟨Tryz.prog,11,[],[1000005,1000007,1000010],[]⟩) (rs := [ResultVar.tmp 4]) Tryz.mixed Tryz.func85 rfl rfl rfl (Nat.le_of_ble_eq_true rfl) (by kernel_rfl) ?_
  simp (disch := omega) only [↓aI,↓zP,aD,zD,aS,simprocAttr,Tryz.facts]
  intro k hk0 hk k2 hk2
  obtain ⟨hk20,hk2⟩ := iW hk0 hk hk2
  try simp (disch := omega) only [↓aI,↓zP,aD,zD,aS,simprocAttr,Tryz.facts]
  first | refine CallK.p (h) ?_ | refine CallP.i (h) ?_
  simp (disch := omega) only [↓aI,↓zP,aD,zD,aS,simprocAttr,Tryz.facts,h8,h9,zA]
  intro k3 hk3
  obtain ⟨hk30,hk3⟩ := iW hk20 hk2 hk3
  refine ⟨_,rfl,_,Abs.Sub.refl _,k3,hk30,hk3,by rw [List.length_append],by rw [takeB,jP]⟩
def fj (s : List UInt8) : List UInt8 := fI s.length ++ s
theorem jB (b s : List UInt8) (hb : b.length ≤ 4000000) (hs : s.length ≤ 4000000) : APure Tryz.prog 42 [eu b,eu s] (eu (b ++ fj s)) := by
  refine OwnB.pure fun H => ?_
  have hn := fun H => wnum_own b hb s.length H
  have hAl : (b ++ fI s.length).length ≤ 4000007 := by rw [List.length_append]; have := fT s.length; omega
  have h8 := fO (b ++ fI s.length)
  have h9 := fO s
  unfold fj
  rw [← List.append_assoc]
  generalize b ++ fI s.length = A at *
  refine ao (c := ⟨Tryz.prog,11,[],[1000010],[]⟩) (rs := [ResultVar.tmp 4]) Tryz.mixed Tryz.func42 rfl rfl rfl (Nat.le_of_ble_eq_true rfl) (by kernel_rfl) ?_
  simp (disch := omega) only [↓aI,↓zP,aD,zD,aS,simprocAttr,Tryz.facts]
  refine CallK.i (hn _) ?_
  rintro v H1 ⟨k,hk0,hk,rfl,rfl⟩
  simp (disch := omega) only [↓aI,↓zP,aD,zD,aS,simprocAttr,Tryz.facts,h8,h9]
  intro k3 hk3
  obtain ⟨hk30,hk3⟩ := iW hk0 hk hk3
  refine ⟨_,rfl,_,Abs.Sub.refl _,k3,hk30,hk3,by rw [List.length_append],?_⟩
  rw [takeB,jP]
theorem rtext_pure (b s : List UInt8) (hb : b.length ≤ 4000000) (hs : s.length ≤ 4000000) : APure Tryz.prog 68 [eu b,eu s] (eu (b ++ fj s)) := by
  refine OwnB.pure fun H => ?_
  have hn := fun H => rnum_own b hb s.length H
  have hAl : (b ++ fI s.length).length ≤ 4000007 := by rw [List.length_append]; have := fT s.length; omega
  have h8 := fO (b ++ fI s.length)
  have h9 := fO s
  unfold fj
  rw [← List.append_assoc]
  generalize b ++ fI s.length = A at *
  refine ao (c := ⟨Tryz.prog,11,[],[1000010],[]⟩) (rs := [ResultVar.tmp 4]) Tryz.mixed Tryz.func68 rfl rfl rfl (Nat.le_of_ble_eq_true rfl) (by kernel_rfl) ?_
  simp (disch := omega) only [↓aI,↓zP,aD,zD,aS,simprocAttr,Tryz.facts]
  refine CallK.i (hn _) ?_
  rintro v H1 ⟨k,hk0,hk,rfl,rfl⟩
  simp (disch := omega) only [↓aI,↓zP,aD,zD,aS,simprocAttr,Tryz.facts,h8,h9]
  intro k3 hk3
  obtain ⟨hk30,hk3⟩ := iW hk0 hk hk3
  refine ⟨_,rfl,_,Abs.Sub.refl _,k3,hk30,hk3,by rw [List.length_append],?_⟩
  rw [takeB,jP]
end Go.Proofs.YtjlnpngaiphnmaaGreat
end
section
set_option linter.unusedSimpArgs false
set_option linter.unusedVariables false
set_option maxRecDepth 20000
set_option maxHeartbeats 4000000
namespace Go.Proofs.YtjlnpngaiphnmaaGreat
open Go Go.Abs Go.Proofs
def vr : Nat → Nat → Nat → List UInt8 → Nat × Nat × Int
  | 0,_,_,_ => (0,0,5)
  | _ + 1,_,_,[] => (0,0,3)
  | f + 1,k,acc,c :: l =>
    if 128 ≤ c.toNat then vr f (k + 1) (acc + c.toNat % 128 * 128 ^ k) l
    else if 0 < k ∧ c.toNat = 0 then (0,0,5)
    else if 1099511627776 < acc + c.toNat % 128 * 128 ^ k then (0,0,6)
    else (acc + c.toNat % 128 * 128 ^ k,k + 1,0)
def ft (l : List UInt8) : Nat × Nat × Int := vr 6 0 0 l
theorem and127b (c : UInt8) : bits .and .u8 (c.toNat : Int) 127 = ((c.toNat % 128 : Nat) : Int) := by
  have h := n8and c 127
  rw [show ((127 : UInt8).toNat : Int) = 127 from rfl] at h
  rw [h]
  have : (c &&& 127).toNat = c.toNat % 128 := by
    rw [UInt8.toNat_and]
    exact Nat.and_two_pow_sub_one_eq_mod c.toNat 7
  rw [this]
theorem shl7 (c k : Nat) (hc : c < 128) (hk : k ≤ 5) : IntKind.i64.wrap ((c : Int) * 2 ^ min (7 * k) IntKind.i64.bits) = ((c * 128 ^ k : Nat) : Int) := by
  have h2 : min (7 * k) IntKind.i64.bits = 7 * k := Nat.min_eq_left (by show 7 * k ≤ 64; omega)
  have h3 : (128 : Nat) ^ k = 2 ^ (7 * k) := by rw [show (128 : Nat) = 2 ^ 7 from rfl,← Nat.pow_mul]
  have h4 : (128 : Nat) ^ k ≤ 128 ^ 5 := Nat.pow_le_pow_right (by omega) hk
  have h5 : c * 128 ^ k ≤ 128 * 128 ^ 5 := Nat.mul_le_mul (by omega) h4
  rw [h2,show ((c : Int) * 2 ^ (7 * k)) = ((c * 128 ^ k : Nat) : Int) by rw [h3,Int.natCast_mul,Int.natCast_pow]; rfl]
  exact iw (by omega)
theorem or7 (acc c k : Nat) (ha : acc < 128 ^ k) (hc : c < 128) (hk : k ≤ 5) : bits .or .i64 (acc : Int) ((c * 128 ^ k : Nat) : Int) = ((acc + c * 128 ^ k : Nat) : Int) := by
  have h3 : (128 : Nat) ^ k = 2 ^ (7 * k) := by rw [show (128 : Nat) = 2 ^ 7 from rfl,← Nat.pow_mul]
  have h4 : (128 : Nat) ^ k ≤ 128 ^ 5 := Nat.pow_le_pow_right (by omega) hk
  have h5 : c * 128 ^ k ≤ 128 * 128 ^ 5 := Nat.mul_le_mul (by omega) h4
  rw [bits_orI (by omega) (by omega)]
  congr 1
  rw [h3] at ha ⊢
  rw [Nat.or_comm,Nat.mul_comm c,← Nat.two_pow_add_eq_or_of_lt ha c]; omega
theorem acc_lt (acc c k : Nat) (ha : acc < 128 ^ k) (hc : c < 128) : acc + c * 128 ^ k < 128 ^ (k + 1) := by
  rw [Nat.pow_succ]
  have : c * 128 ^ k ≤ 127 * 128 ^ k := Nat.mul_le_mul (by omega) (Nat.le_refl _)
  omega
theorem getD8 {l : List UInt8} {i : Nat} (h : i < l.length) : (bw l)[i]? = some (.sc (.int .u8 l[i].toNat)) := by
  unfold bw
  rw [List.getElem?_map,List.getElem?_eq_getElem h]; rfl
def triV (x : Nat × Nat × Int) : AV := .tup [.sc (.int .i64 (x.1 : Nat)),.sc (.int .i64 (x.2.1 : Nat)),.sc (.int .i64 x.2.2)]
theorem first_pure (b : List UInt8) (hb : b.length ≤ 2000000) : APure Tryz.prog 61 [eu b] (triV (ft b)) := by
  have hbl := fO b
  refine az (c := ⟨Tryz.prog,47,[],[],[]⟩) (rs := [ResultVar.tmp 2,ResultVar.tmp 3,ResultVar.tmp 4]) Tryz.mixed Tryz.func61 rfl rfl rfl (Nat.le_of_ble_eq_true rfl) (by kernel_rfl) fun H => ?_
  simp (disch := omega) only [↓aI,↓zP,aD,zD,aS,Nat.reduceBEq,Nat.reduceLT,reduceCtorEq,↓reduceIte,Nat.reduceMul,Nat.reduceAdd,Nat.reduceLeDiff,Nat.reduceEqDiff,Int.reduceToNat,Nat.reduceSub,Nat.reduceMod,Nat.reduceDiv,Int.reducePow,Int.reduceLE,Int.reduceNeg,Int.reduceLT,Int.reduceBEq,Int.reduceBNe,Int.reduceEq,Tryz.facts]
  refine br (c := ⟨Tryz.prog,47,[],[],[]⟩) Tryz.mixed (by kernel_rfl) (fun mm σ H' => H' = H ∧ ∃ (k acc : Nat),k + mm = 6 ∧ k ≤ b.length ∧ acc < 128 ^ k ∧ vr mm k acc (b.drop k) = ft b ∧ σ 0 = eu b ∧ σ 5 = .sc (.int .i64 (acc : Nat)) ∧ σ 6 = .sc (.int .i64 (128 ^ k : Nat)) ∧ σ 7 = .sc (.int .i64 (k : Nat))) 6 ?_ ?_
  · refine ⟨rfl,0,0,rfl,by omega,by omega,rfl,?_⟩
    simp (disch := omega) only [↓aI,↓zP,aD,zD,aS,Nat.reduceBEq,Nat.reduceLT,reduceCtorEq,↓reduceIte,Nat.reduceMul,Nat.reduceAdd,Nat.reduceLeDiff,Nat.reduceEqDiff,Int.reduceToNat,Nat.reduceSub,Nat.reduceMod,Nat.reduceDiv,Int.reducePow,Int.reduceLE,Int.reduceNeg,Int.reduceLT,Int.reduceBEq,Int.reduceBNe,Int.reduceEq,Tryz.facts]
    rfl
  · rintro mm σ H' ⟨rfl,k,acc,hkm,hkb,hacc,hv,s0,s5,s6,s7⟩
    rw [← hv]
    cases mm with
    | zero =>
      simp (disch := omega) only [↓aI,↓zP,aD,zD,aS,Nat.reduceBEq,Nat.reduceLT,reduceCtorEq,↓reduceIte,Nat.reduceMul,Nat.reduceAdd,Nat.reduceLeDiff,Nat.reduceEqDiff,Int.reduceToNat,Nat.reduceSub,Nat.reduceMod,Nat.reduceDiv,Int.reducePow,Int.reduceLE,Int.reduceNeg,Int.reduceLT,Int.reduceBEq,Int.reduceBNe,Int.reduceEq,Tryz.facts,s0,s5,s6,s7,zA,vr,triV]
      exact Abs.Sub.refl _
    | succ f =>
      have hp : 128 ^ k ≤ 128 ^ 5 := Nat.pow_le_pow_right (by omega) (by omega)
      have hps : 128 ^ (k + 1) = 128 ^ k * 128 := Nat.pow_succ ..
      by_cases hlt : k < b.length
      · have hg := getD8 hlt
        have hd : b.drop k = b[k] :: b.drop (k + 1) := List.drop_eq_getElem_cons hlt
        rw [hd] at hv ⊢
        generalize b[k] = c at *
        have hc8 := c.toNat_lt
        have ha2 := acc_lt acc (c.toNat % 128) k hacc (by omega)
        have hcp : c.toNat % 128 * 128 ^ k ≤ 128 * 128 ^ 5 := Nat.mul_le_mul (by omega) hp
        generalize hP : 128 ^ k = P at *
        have e1 : IntKind.i64.wrap ((acc : Int) + IntKind.i64.wrap (((c.toNat % 128 : Nat) : Int) * (P : Int))) = ((acc + c.toNat % 128 * P : Nat) : Int) := by
          rw [← Int.natCast_mul,iw (n := ((c.toNat % 128 * P : Nat) : Int)) (by omega),iw (by omega)]; omega
        have e2 : IntKind.i64.wrap ((P : Int) * 128) = ((P * 128 : Nat) : Int) := by rw [iw (by omega)]; omega
        have hvr : vr (f + 1) k acc (c :: b.drop (k + 1)) = if 128 ≤ c.toNat then vr f (k + 1) (acc + c.toNat % 128 * 128 ^ k) (b.drop (k + 1)) else if 0 < k ∧ c.toNat = 0 then (0,0,5) else if 1099511627776 < acc + c.toNat % 128 * 128 ^ k then (0,0,6) else (acc + c.toNat % 128 * 128 ^ k,k + 1,0) := rfl
        rw [hP] at hvr
        rw [hvr] at hv ⊢
        by_cases h128 : 128 ≤ c.toNat
        · rw [if_pos h128] at hv ⊢
          simp (disch := omega) only [↓aI,↓zP,aD,zD,aS,Nat.reduceBEq,Nat.reduceLT,reduceCtorEq,↓reduceIte,Nat.reduceMul,Nat.reduceAdd,Nat.reduceLeDiff,Nat.reduceEqDiff,Int.reduceToNat,Nat.reduceSub,Nat.reduceMod,Nat.reduceDiv,Int.reducePow,Int.reduceLE,Int.reduceNeg,Int.reduceLT,Int.reduceBEq,Int.reduceBNe,Int.reduceEq,Tryz.facts,s0,s5,s6,s7,zA,hg,hbl,↓jd,e1,e2]
          exact ⟨f,by omega,k + 1,acc + c.toNat % 128 * P,by omega,by omega,ha2,rfl,rfl,by rw [hps],rfl⟩
        · rw [if_neg h128] at hv ⊢
          by_cases h0 : 0 < k ∧ c.toNat = 0
          · rw [if_pos h0]
            obtain ⟨h01,h02⟩ := h0
            simp (disch := omega) only [↓aI,↓zP,aD,zD,aS,Nat.reduceBEq,Nat.reduceLT,reduceCtorEq,↓reduceIte,Nat.reduceMul,Nat.reduceAdd,Nat.reduceLeDiff,Nat.reduceEqDiff,Int.reduceToNat,Nat.reduceSub,Nat.reduceMod,Nat.reduceDiv,Int.reducePow,Int.reduceLE,Int.reduceNeg,Int.reduceLT,Int.reduceBEq,Int.reduceBNe,Int.reduceEq,Tryz.facts,s0,s5,s6,s7,zA,hg,hbl,↓jd,e1,e2,h02]
            exact ⟨rfl,Abs.Sub.refl _⟩
          · rw [if_neg h0] at hv ⊢
            by_cases hbig : 1099511627776 < acc + c.toNat % 128 * P
            · rw [if_pos hbig]
              by_cases hk0 : k = 0
              · subst hk0
                exfalso
                omega
              · have hc0 : ¬ c.toNat = 0 := fun e => h0 ⟨by omega,e⟩
                simp (disch := omega) only [↓aI,↓zP,aD,zD,aS,Nat.reduceBEq,Nat.reduceLT,reduceCtorEq,↓reduceIte,Nat.reduceMul,Nat.reduceAdd,Nat.reduceLeDiff,Nat.reduceEqDiff,Int.reduceToNat,Nat.reduceSub,Nat.reduceMod,Nat.reduceDiv,Int.reducePow,Int.reduceLE,Int.reduceNeg,Int.reduceLT,Int.reduceBEq,Int.reduceBNe,Int.reduceEq,Tryz.facts,s0,s5,s6,s7,zA,hg,hbl,↓jd,e1,e2]
                exact ⟨rfl,Abs.Sub.refl _⟩
            · rw [if_neg hbig]
              by_cases hk0 : k = 0
              · subst hk0
                simp (disch := omega) only [↓aI,↓zP,aD,zD,aS,Nat.reduceBEq,Nat.reduceLT,reduceCtorEq,↓reduceIte,Nat.reduceMul,Nat.reduceAdd,Nat.reduceLeDiff,Nat.reduceEqDiff,Int.reduceToNat,Nat.reduceSub,Nat.reduceMod,Nat.reduceDiv,Int.reducePow,Int.reduceLE,Int.reduceNeg,Int.reduceLT,Int.reduceBEq,Int.reduceBNe,Int.reduceEq,Tryz.facts,s0,s5,s6,s7,zA,hg,hbl,↓jd,e1,e2]
                exact ⟨rfl,Abs.Sub.refl _⟩
              · have hc0 : ¬ c.toNat = 0 := fun e => h0 ⟨by omega,e⟩
                simp (disch := omega) only [↓aI,↓zP,aD,zD,aS,Nat.reduceBEq,Nat.reduceLT,reduceCtorEq,↓reduceIte,Nat.reduceMul,Nat.reduceAdd,Nat.reduceLeDiff,Nat.reduceEqDiff,Int.reduceToNat,Nat.reduceSub,Nat.reduceMod,Nat.reduceDiv,Int.reducePow,Int.reduceLE,Int.reduceNeg,Int.reduceLT,Int.reduceBEq,Int.reduceBNe,Int.reduceEq,Tryz.facts,s0,s5,s6,s7,zA,hg,hbl,↓jd,e1,e2]
                exact ⟨rfl,Abs.Sub.refl _⟩
      · obtain rfl : k = b.length := by omega
        rw [List.drop_length] at hv ⊢
        simp (disch := omega) only [↓aI,↓zP,aD,zD,aS,Nat.reduceBEq,Nat.reduceLT,reduceCtorEq,↓reduceIte,Nat.reduceMul,Nat.reduceAdd,Nat.reduceLeDiff,Nat.reduceEqDiff,Int.reduceToNat,Nat.reduceSub,Nat.reduceMod,Nat.reduceDiv,Int.reducePow,Int.reduceLE,Int.reduceNeg,Int.reduceLT,Int.reduceBEq,Int.reduceBNe,Int.reduceEq,Tryz.facts,s0,s5,s6,s7,zA,vr,triV]
        exact Abs.Sub.refl _
def rdB (k : Nat) (bs : List UInt8) (p : Nat) (e : Int) : AObj := .cells [.imm k (bw bs) bs.length,.sc (.int .i64 (p : Nat)),.sc (.bool true),.sc (.int .i64 e)] 78 4
theorem read_live (H : AH) (b : List UInt8) (hb : b.length ≤ 2000000) : ACalls Tryz.prog 6 [eu b] H fun v H' => ∃ r k,v = .ptr r 0 ∧ r ≠ 0 ∧ H r = none ∧ H' r = some (rdB k b 0 0) ∧ Abs.Sub H H' := by
  have hbl := fO b
  refine ao (c := ⟨Tryz.prog,9,[],[3],[]⟩) (rs := [ResultVar.tmp 2]) Tryz.mixed Tryz.func6 rfl rfl rfl (Nat.le_of_ble_eq_true rfl) (by kernel_rfl) ?_
  simp (disch := omega) only [↓aI,↓zP,aD,zD,aS,Nat.reduceBEq,Nat.reduceLT,reduceCtorEq,↓reduceIte,Nat.reduceMul,Nat.reduceAdd,Nat.reduceLeDiff,Nat.reduceEqDiff,Int.reduceToNat,Nat.reduceSub,Nat.reduceMod,Nat.reduceDiv,Int.reducePow,Int.reduceLE,Int.reduceNeg,Int.reduceLT,Int.reduceBEq,Int.reduceBNe,Int.reduceEq,Tryz.facts]
  intro k hk0 hk
  try simp (disch := omega) only [↓aI,↓zP,aD,zD,aS,Nat.reduceBEq,Nat.reduceLT,reduceCtorEq,↓reduceIte,Nat.reduceMul,Nat.reduceAdd,Nat.reduceLeDiff,Nat.reduceEqDiff,Int.reduceToNat,Nat.reduceSub,Nat.reduceMod,Nat.reduceDiv,Int.reducePow,Int.reduceLE,Int.reduceNeg,Int.reduceLT,Int.reduceBEq,Int.reduceBNe,Int.reduceEq,Tryz.facts]
  intro k2 o2 hk20 hk2 ho2
  try simp (disch := omega) only [↓aI,↓zP,aD,zD,aS,Nat.reduceBEq,Nat.reduceLT,reduceCtorEq,↓reduceIte,Nat.reduceMul,Nat.reduceAdd,Nat.reduceLeDiff,Nat.reduceEqDiff,Int.reduceToNat,Nat.reduceSub,Nat.reduceMod,Nat.reduceDiv,Int.reducePow,Int.reduceLE,Int.reduceNeg,Int.reduceLT,Int.reduceBEq,Int.reduceBNe,Int.reduceEq,Tryz.facts]
  intro r hr0 hr
  try simp (disch := omega) only [↓aI,↓zP,aD,zD,aS,Nat.reduceBEq,Nat.reduceLT,reduceCtorEq,↓reduceIte,Nat.reduceMul,Nat.reduceAdd,Nat.reduceLeDiff,Nat.reduceEqDiff,Int.reduceToNat,Nat.reduceSub,Nat.reduceMod,Nat.reduceDiv,Int.reducePow,Int.reduceLE,Int.reduceNeg,Int.reduceLT,Int.reduceBEq,Int.reduceBNe,Int.reduceEq,Tryz.facts]
  exact ⟨_,rfl,_,Abs.Sub.refl _,r,k2,rfl,hr0,am hr,set_get,(Sub.set_new (am hk2)).set_free (am hr)⟩
theorem kK (H : AH) (r k p : Nat) (bs : List UInt8) (e : Int) (hb : bs.length ≤ 2000000) (hp : p ≤ bs.length) (hr : H r = some (rdB k bs p e)) : ACalls Tryz.prog 46 [.ptr r 0] H fun v H' => v = .sc (.int .i64 ((bs.length - p : Nat))) ∧ H' = H := by
  have hbl := fO bs
  unfold rdB at hr
  refine ao (c := ⟨Tryz.prog,13,[(1,[0,0,0,1,1,0,0,0,1,0,0])],[],[]⟩) (rs := [ResultVar.tmp 2]) Tryz.mixed Tryz.func46 rfl rfl rfl (Nat.le_of_ble_eq_true rfl) (by kernel_rfl) ?_
  simp (disch := omega) only [↓aI,↓zP,aD,zD,aS,Nat.reduceBEq,Nat.reduceLT,reduceCtorEq,↓reduceIte,Nat.reduceMul,Nat.reduceAdd,Nat.reduceLeDiff,Nat.reduceEqDiff,Int.reduceToNat,Nat.reduceSub,Nat.reduceMod,Nat.reduceDiv,Int.reducePow,Int.reduceLE,Int.reduceNeg,Int.reduceLT,Int.reduceBEq,Int.reduceBNe,Int.reduceEq,Tryz.facts,hr]
  exact ⟨_,rfl,_,Abs.Sub.refl _,rfl,rfl⟩
theorem vr_le : ∀ (f k acc : Nat) (l : List UInt8),(vr f k acc l).2.2 = 0 → (vr f k acc l).1 ≤ 1099511627776 ∧ k < (vr f k acc l).2.1 ∧ (vr f k acc l).2.1 ≤ k + l.length ∧ (vr f k acc l).2.1 ≤ k + f
  | 0,k,acc,l,h => by simp [vr] at h
  | f + 1,k,acc,[],h => by simp [vr] at h
  | f + 1,k,acc,c :: l,h => by
    unfold vr at h ⊢
    split
    · rename_i h1
      rw [if_pos h1] at h
      have := vr_le f (k + 1) _ l h
      simp only [List.length_cons]
      omega
    · rename_i h1
      rw [if_neg h1] at h
      split
      · rename_i h2
        rw [if_pos h2] at h
        simp at h
      · rename_i h2
        rw [if_neg h2] at h
        split
        · rename_i h3
          rw [if_pos h3] at h
          simp at h
        · rename_i h3
          simp only [List.length_cons]
          omega
theorem next_live (H : AH) (r k p : Nat) (bs : List UInt8) (e : Int) (hb : bs.length ≤ 2000000) (hp : p ≤ bs.length) (hr : H r = some (rdB k bs p e)) : ACalls Tryz.prog 59 [.ptr r 0] H fun v H' => v = triV (ft (bs.drop p)) ∧ H' = H := by
  have hbl := fO bs
  have hleft := kK H r k p bs e hb hp hr
  have hr' := hr
  unfold rdB at hr'
  unfold ft
  generalize hT : bs.drop p = T at *
  have hTl : T.length = bs.length - p := by rw [← hT,List.length_drop]
  have hget : ∀ i (h : i < T.length),(bw bs)[p + i]? = some (.sc (.int .u8 T[i].toNat)) := fun i h => by
    subst hT
    rw [List.length_drop] at h
    rw [getD8 (by omega)]
    simp
  refine ao (c := ⟨Tryz.prog,60,[(4,[0,0,0,0,1,0,0,0,0,1,0,0,0,1,0]),(4000013,[2,3,4]),(4000009,[5,6,55]),(4000008,[0,5,6,7,8,45]),(4000005,[0,5,6,7,8]),(4000004,[0,5,6,7,8]),(4000002,[0,5,6,7,14])],[],[]⟩) (rs := [ResultVar.tmp 2,ResultVar.tmp 3,ResultVar.tmp 4]) Tryz.mixed Tryz.func59 rfl rfl rfl (Nat.le_of_ble_eq_true rfl) (by kernel_rfl) ?_
  simp (disch := omega) only [↓aI,↓zP,aD,zD,aS,Nat.reduceBEq,Nat.reduceLT,reduceCtorEq,↓reduceIte,Nat.reduceMul,Nat.reduceAdd,Nat.reduceLeDiff,Nat.reduceEqDiff,Int.reduceToNat,Nat.reduceSub,Nat.reduceMod,Nat.reduceDiv,Int.reducePow,Int.reduceLE,Int.reduceNeg,Int.reduceLT,Int.reduceBEq,Int.reduceBNe,Int.reduceEq,Tryz.facts]
  refine scope_t Tryz.mixed 0 (by kernel_rfl) (rest := _) rfl (by kernel_rfl) (fun mm σ H' => H' = H ∧ ∃ (i acc : Nat),i + mm = 6 ∧ 1 ≤ mm ∧ i ≤ T.length ∧ acc < 128 ^ i ∧ vr mm i acc (T.drop i) = vr 6 0 0 T ∧ σ 0 = .ptr r 0 ∧ σ 5 = .sc (.int .i64 (acc : Nat)) ∧ σ 6 = .sc (.int .i64 (i : Nat)) ∧ σ 7 = .sc (.int .i64 ((7 * i : Nat)))) ?_ ?_
  · simp (disch := omega) only [↓aI,↓zP,aD,zD,aS,Nat.reduceBEq,Nat.reduceLT,reduceCtorEq,↓reduceIte,Nat.reduceMul,Nat.reduceAdd,Nat.reduceLeDiff,Nat.reduceEqDiff,Int.reduceToNat,Nat.reduceSub,Nat.reduceMod,Nat.reduceDiv,Int.reducePow,Int.reduceLE,Int.reduceNeg,Int.reduceLT,Int.reduceBEq,Int.reduceBNe,Int.reduceEq,Tryz.facts]
    refine CallK.i hleft ?_
    rintro v E ⟨rfl,rfl⟩
    cases hT0 : T with
    | nil =>
      rw [hT0] at hTl
      simp only [List.length_nil] at hTl
      simp (disch := omega) only [↓aI,↓zP,aD,zD,aS,Nat.reduceBEq,Nat.reduceLT,reduceCtorEq,↓reduceIte,Nat.reduceMul,Nat.reduceAdd,Nat.reduceLeDiff,Nat.reduceEqDiff,Int.reduceToNat,Nat.reduceSub,Nat.reduceMod,Nat.reduceDiv,Int.reducePow,Int.reduceLE,Int.reduceNeg,Int.reduceLT,Int.reduceBEq,Int.reduceBNe,Int.reduceEq,Tryz.facts,zA,triV,vr]
      exact ⟨_,rfl,_,Abs.Sub.refl _,rfl,rfl⟩
    | cons c l =>
      subst hT0
      have hg := hget 0 (by simp)
      rw [List.getElem_cons_zero,Nat.add_zero] at hg
      simp only [List.length_cons] at hTl
      have hc8 := c.toNat_lt
      have h127 := and127b c
      have hor := or7 0 (c.toNat % 128) 0 (by omega) (by omega) (by omega)
      have hvr : vr 6 0 0 (c :: l) = if 128 ≤ c.toNat then vr 5 1 (0 + c.toNat % 128 * 128 ^ 0) l else if 0 < 0 ∧ c.toNat = 0 then (0,0,5) else if 1099511627776 < 0 + c.toNat % 128 * 128 ^ 0 then (0,0,6) else (0 + c.toNat % 128 * 128 ^ 0,0 + 1,0) := rfl
      have hN : 0 + c.toNat % 128 * 128 ^ 0 = c.toNat % 128 := by omega
      have hM : c.toNat % 128 * 128 ^ 0 = c.toNat % 128 := by omega
      rw [hN,hM] at hor
      have hor : bits .or .i64 (0 : Int) ((c.toNat % 128 : Nat) : Int) = ((c.toNat % 128 : Nat) : Int) := hor
      rw [hN] at hvr
      have hsh : IntKind.i64.wrap (((c.toNat % 128 : Nat) : Int) * 2 ^ min 0 IntKind.i64.bits) = ((c.toNat % 128 : Nat) : Int) := by
        have := shl7 (c.toNat % 128) 0 (by omega) (by omega)
        rw [hM] at this
        exact this
      by_cases h128 : 128 ≤ c.toNat
      · rw [if_pos h128] at hvr
        rw [hvr]
        simp (disch := omega) only [↓aI,↓zP,aD,zD,aS,Nat.reduceBEq,Nat.reduceLT,reduceCtorEq,↓reduceIte,Nat.reduceMul,Nat.reduceAdd,Nat.reduceLeDiff,Nat.reduceEqDiff,Int.reduceToNat,Nat.reduceSub,Nat.reduceMod,Nat.reduceDiv,Int.reducePow,Int.reduceLE,Int.reduceNeg,Int.reduceLT,Int.reduceBEq,Int.reduceBNe,Int.reduceEq,Tryz.facts,zA,hr',hg,hbl,h127,hsh,hor]
        exact ⟨5,1,c.toNat % 128,rfl,by omega,by omega,by omega,rfl,rfl,rfl,rfl⟩
      · rw [if_neg h128,if_neg (fun h => absurd h.1 (by omega)),if_neg (by omega)] at hvr
        rw [hvr]
        cases hc0 : (c == 0)
        all_goals
          simp (disch := omega) only [↓aI,↓zP,aD,zD,aS,Nat.reduceBEq,Nat.reduceLT,reduceCtorEq,↓reduceIte,Nat.reduceMul,Nat.reduceAdd,Nat.reduceLeDiff,Nat.reduceEqDiff,Int.reduceToNat,Nat.reduceSub,Nat.reduceMod,Nat.reduceDiv,Int.reducePow,Int.reduceLE,Int.reduceNeg,Int.reduceLT,Int.reduceBEq,Int.reduceBNe,Int.reduceEq,Tryz.facts,zA,hr',hg,hbl,h127,hsh,hor,triV,hc0]
          exact ⟨_,rfl,_,Abs.Sub.refl _,rfl,rfl⟩
  · rintro mm σ H' ⟨rfl,i,acc,him,hm1,hiT,hacc,hv,s0,s5,s6,s7⟩
    rw [← hv]
    simp (disch := omega) only [↓aI,↓zP,aD,zD,aS,Nat.reduceBEq,Nat.reduceLT,reduceCtorEq,↓reduceIte,Nat.reduceMul,Nat.reduceAdd,Nat.reduceLeDiff,Nat.reduceEqDiff,Int.reduceToNat,Nat.reduceSub,Nat.reduceMod,Nat.reduceDiv,Int.reducePow,Int.reduceLE,Int.reduceNeg,Int.reduceLT,Int.reduceBEq,Int.reduceBNe,Int.reduceEq,Tryz.facts,s0,s5,s6,s7]
    refine CallK.i hleft ?_
    rintro v E ⟨rfl,rfl⟩
    obtain ⟨f,rfl⟩ : ∃ f,mm = f + 1 := ⟨mm - 1,by omega⟩
    by_cases hlt : i < T.length
    · have hg := hget i hlt
      have hd : T.drop i = T[i] :: T.drop (i + 1) := List.drop_eq_getElem_cons hlt
      rw [hd] at hv ⊢
      generalize T[i] = c at *
      have hc8 := c.toNat_lt
      have ha2 := acc_lt acc (c.toNat % 128) i hacc (by omega)
      have h127 := and127b c
      have hsh := shl7 (c.toNat % 128) i (by omega) (by omega)
      have hor := or7 acc (c.toNat % 128) i hacc (by omega) (by omega)
      have hps : 128 ^ (i + 1) ≤ 128 ^ 6 := Nat.pow_le_pow_right (by omega) (by omega)
      have hvr : vr (f + 1) i acc (c :: T.drop (i + 1)) = if 128 ≤ c.toNat then vr f (i + 1) (acc + c.toNat % 128 * 128 ^ i) (T.drop (i + 1)) else if 0 < i ∧ c.toNat = 0 then (0,0,5) else if 1099511627776 < acc + c.toNat % 128 * 128 ^ i then (0,0,6) else (acc + c.toNat % 128 * 128 ^ i,i + 1,0) := rfl
      rw [hvr] at hv ⊢
      generalize hN : acc + c.toNat % 128 * 128 ^ i = N at *
      by_cases h128 : 128 ≤ c.toNat
      · rw [if_pos h128] at hv ⊢
        by_cases hf0 : f = 0
        · subst hf0
          obtain rfl : i = 5 := by omega
          simp (disch := omega) only [↓aI,↓zP,aD,zD,aS,Nat.reduceBEq,Nat.reduceLT,reduceCtorEq,↓reduceIte,Nat.reduceMul,Nat.reduceAdd,Nat.reduceLeDiff,Nat.reduceEqDiff,Int.reduceToNat,Nat.reduceSub,Nat.reduceMod,Nat.reduceDiv,Int.reducePow,Int.reduceLE,Int.reduceNeg,Int.reduceLT,Int.reduceBEq,Int.reduceBNe,Int.reduceEq,Tryz.facts,s0,s5,s6,s7,zA,hr',hg,hbl,h127,hsh,hor,vr,triV]
          exact ⟨_,rfl,_,Abs.Sub.refl _,rfl,rfl⟩
        · simp (disch := omega) only [↓aI,↓zP,aD,zD,aS,Nat.reduceBEq,Nat.reduceLT,reduceCtorEq,↓reduceIte,Nat.reduceMul,Nat.reduceAdd,Nat.reduceLeDiff,Nat.reduceEqDiff,Int.reduceToNat,Nat.reduceSub,Nat.reduceMod,Nat.reduceDiv,Int.reducePow,Int.reduceLE,Int.reduceNeg,Int.reduceLT,Int.reduceBEq,Int.reduceBNe,Int.reduceEq,Tryz.facts,s0,s5,s6,s7,zA,hr',hg,hbl,h127,hsh,hor]
          exact ⟨f,by omega,i + 1,N,by omega,by omega,by omega,ha2,rfl,rfl,rfl,by rw [Nat.mul_succ]⟩
      · rw [if_neg h128] at hv ⊢
        by_cases h0 : 0 < i ∧ c.toNat = 0
        · rw [if_pos h0]
          obtain ⟨h01,h02⟩ := h0
          simp (disch := omega) only [↓aI,↓zP,aD,zD,aS,Nat.reduceBEq,Nat.reduceLT,reduceCtorEq,↓reduceIte,Nat.reduceMul,Nat.reduceAdd,Nat.reduceLeDiff,Nat.reduceEqDiff,Int.reduceToNat,Nat.reduceSub,Nat.reduceMod,Nat.reduceDiv,Int.reducePow,Int.reduceLE,Int.reduceNeg,Int.reduceLT,Int.reduceBEq,Int.reduceBNe,Int.reduceEq,Tryz.facts,s0,s5,s6,s7,zA,hr',hg,hbl,h127,hsh,hor,triV]
          exact ⟨_,rfl,_,Abs.Sub.refl _,rfl,rfl⟩
        · rw [if_neg h0]
          by_cases hbig : 1099511627776 < N
          · rw [if_pos hbig]
            by_cases hc0 : c.toNat = 0
            · simp (disch := omega) only [↓aI,↓zP,aD,zD,aS,Nat.reduceBEq,Nat.reduceLT,reduceCtorEq,↓reduceIte,Nat.reduceMul,Nat.reduceAdd,Nat.reduceLeDiff,Nat.reduceEqDiff,Int.reduceToNat,Nat.reduceSub,Nat.reduceMod,Nat.reduceDiv,Int.reducePow,Int.reduceLE,Int.reduceNeg,Int.reduceLT,Int.reduceBEq,Int.reduceBNe,Int.reduceEq,Tryz.facts,s0,s5,s6,s7,zA,hr',hg,hbl,h127,hsh,hor,triV]
              exact ⟨_,rfl,_,Abs.Sub.refl _,rfl,rfl⟩
            · simp (disch := omega) only [↓aI,↓zP,aD,zD,aS,Nat.reduceBEq,Nat.reduceLT,reduceCtorEq,↓reduceIte,Nat.reduceMul,Nat.reduceAdd,Nat.reduceLeDiff,Nat.reduceEqDiff,Int.reduceToNat,Nat.reduceSub,Nat.reduceMod,Nat.reduceDiv,Int.reducePow,Int.reduceLE,Int.reduceNeg,Int.reduceLT,Int.reduceBEq,Int.reduceBNe,Int.reduceEq,Tryz.facts,s0,s5,s6,s7,zA,hr',hg,hbl,h127,hsh,hor,triV]
              exact ⟨_,rfl,_,Abs.Sub.refl _,rfl,rfl⟩
          · rw [if_neg hbig]
            by_cases hc0 : c.toNat = 0
            · simp (disch := omega) only [↓aI,↓zP,aD,zD,aS,Nat.reduceBEq,Nat.reduceLT,reduceCtorEq,↓reduceIte,Nat.reduceMul,Nat.reduceAdd,Nat.reduceLeDiff,Nat.reduceEqDiff,Int.reduceToNat,Nat.reduceSub,Nat.reduceMod,Nat.reduceDiv,Int.reducePow,Int.reduceLE,Int.reduceNeg,Int.reduceLT,Int.reduceBEq,Int.reduceBNe,Int.reduceEq,Tryz.facts,s0,s5,s6,s7,zA,hr',hg,hbl,h127,hsh,hor,triV]
              exact ⟨_,rfl,_,Abs.Sub.refl _,rfl,rfl⟩
            · simp (disch := omega) only [↓aI,↓zP,aD,zD,aS,Nat.reduceBEq,Nat.reduceLT,reduceCtorEq,↓reduceIte,Nat.reduceMul,Nat.reduceAdd,Nat.reduceLeDiff,Nat.reduceEqDiff,Int.reduceToNat,Nat.reduceSub,Nat.reduceMod,Nat.reduceDiv,Int.reducePow,Int.reduceLE,Int.reduceNeg,Int.reduceLT,Int.reduceBEq,Int.reduceBNe,Int.reduceEq,Tryz.facts,s0,s5,s6,s7,zA,hr',hg,hbl,h127,hsh,hor,triV]
              exact ⟨_,rfl,_,Abs.Sub.refl _,rfl,rfl⟩
    · obtain rfl : i = T.length := by omega
      rw [List.drop_length] at hv ⊢
      simp (disch := omega) only [↓aI,↓zP,aD,zD,aS,Nat.reduceBEq,Nat.reduceLT,reduceCtorEq,↓reduceIte,Nat.reduceMul,Nat.reduceAdd,Nat.reduceLeDiff,Nat.reduceEqDiff,Int.reduceToNat,Nat.reduceSub,Nat.reduceMod,Nat.reduceDiv,Int.reducePow,Int.reduceLE,Int.reduceNeg,Int.reduceLT,Int.reduceBEq,Int.reduceBNe,Int.reduceEq,Tryz.facts,s0,s5,s6,s7,zA,vr,triV]
      exact ⟨_,rfl,_,Abs.Sub.refl _,rfl,rfl⟩
end Go.Proofs.YtjlnpngaiphnmaaGreat
end
