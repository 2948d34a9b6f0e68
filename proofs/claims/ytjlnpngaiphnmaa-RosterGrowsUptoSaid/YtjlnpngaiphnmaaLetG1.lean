/-
  Several texts in one: each says what it proves.
  Conditions: none. Lemmas only.
-/
import Derived.Test.YtjlnpngaiphnmaaFugFacts
import Derived.Test.YtjlnpngaiphnmaaSuiG1
import Derived.Test.YtjlnpngaiphnmaaAbsG6
import Derived.Test.YtjlnpngaiphnmaaAbsG5
set_option linter.all false
section
set_option linter.unusedSimpArgs false
set_option linter.unusedVariables false
set_option maxRecDepth 20000
set_option maxHeartbeats 4000000
namespace Go.Proofs.Ytjlnpngaiphnmaa
open Go Go.Abs Go.Proofs
theorem dT {p : Prop} [Decidable p] (h : p) : decide p = true := by simpa using h
theorem dF {p : Prop} [Decidable p] (h : ¬ p) : decide p = false := by simpa using h
theorem qT {a b : Int} (h : a = b) : (a == b) = true := by simpa using h
theorem qF {a b : Int} (h : ¬ a = b) : (a == b) = false := by simpa using h
theorem nT {a b : Int} (h : ¬ a = b) : (a != b) = true := by simpa using h
theorem nF {a b : Int} (h : a = b) : (a != b) = false := by simpa using h
def zA := And.intro @dT <| And.intro @dF <| And.intro @qT <| And.intro @qF <| And.intro @nT <| And.intro @nF <| And.intro Bool.false_and Bool.and_false
end Go.Proofs.Ytjlnpngaiphnmaa
end
section
set_option linter.unusedSimpArgs false
set_option linter.unusedVariables false
set_option maxRecDepth 20000
set_option maxHeartbeats 4000000
namespace Go.Proofs.Ytjlnpngaiphnmaa
open Go Go.Abs Go.Proofs
def digN : Nat → Nat → List UInt8
  | 0,n => [UInt8.ofNat n]
  | f + 1,n => if n < 128 then [UInt8.ofNat n] else UInt8.ofNat (128 + n % 128) :: digN f (n / 128)
def clampN (z : Int) : Nat := (min (max z 0) 1099511627776).toNat
def vnum (z : Int) : List UInt8 := digN 6 (clampN z)
theorem clampN_le (z : Int) : clampN z ≤ 1099511627776 := by unfold clampN; omega
theorem digN_length : ∀ f n,(digN f n).length ≤ f + 1 := by
  intro f
  induction f with
  | zero => intro n; simp [digN]
  | succ f ih =>
    intro n
    unfold digN
    split
    · simp
    · have := ih (n / 128)
      simp only [List.length_cons]; omega
theorem vnum_length (z : Int) : (vnum z).length ≤ 7 := digN_length 6 _
theorem encB_app (a b : List UInt8) : bw a ++ bw b = bw (a ++ b) := by simp [bw]
theorem encB_len (a : List UInt8) : (bw a).length = a.length := by simp [bw]
theorem clamp_if (z : Int) : (if (1099511627776 : Int) < (if z < 0 then 0 else z) then 1099511627776 else (if z < 0 then 0 else z)) = ((clampN z : Nat) : Int) := by
  unfold clampN
  split <;> split <;> omega
theorem bits_orI {a b : Nat} (ha : a < 2 ^ 63) (hb : b < 2 ^ 63) : bits .or .i64 (a : Int) (b : Int) = ((a ||| b : Nat) : Int) := by
  show IntKind.i64.wrap ((BitVec.ofInt 64 (a : Int) ||| BitVec.ofInt 64 (b : Int)).toNat : Int) = _
  rw [BitVec.ofInt_natCast,BitVec.ofInt_natCast]
  simp only [BitVec.toNat_or,BitVec.toNat_ofNat,Nat.mod_eq_of_lt (show a < 2 ^ 64 by omega),Nat.mod_eq_of_lt (show b < 2 ^ 64 by omega)]
  have := Nat.or_lt_two_pow ha hb
  exact wrapI (by omega)
theorem bits_andI {a b : Nat} (ha : a < 2 ^ 63) (hb : b < 2 ^ 63) : bits .and .i64 (a : Int) (b : Int) = ((a &&& b : Nat) : Int) := by
  show IntKind.i64.wrap ((BitVec.ofInt 64 (a : Int) &&& BitVec.ofInt 64 (b : Int)).toNat : Int) = _
  rw [BitVec.ofInt_natCast,BitVec.ofInt_natCast]
  simp only [BitVec.toNat_and,BitVec.toNat_ofNat,Nat.mod_eq_of_lt (show a < 2 ^ 64 by omega),Nat.mod_eq_of_lt (show b < 2 ^ 64 by omega)]
  have := Nat.and_lt_two_pow a hb
  exact wrapI (by omega)
theorem and127 {a : Nat} (ha : a ≤ 1099511627776) : bits .and .i64 (a : Int) 127 = ((a % 128 : Nat) : Int) := by
  have e := bits_andI (a := a) (b := 127) (by omega) (by omega)
  rw [show a &&& 127 = a % 128 from Nat.and_two_pow_sub_one_eq_mod a 7] at e
  exact e
theorem shr7 (n : Nat) : ((n : Int)).fdiv (2 ^ min 7 IntKind.i64.bits) = ((n / 128 : Nat) : Int) := fdivN n 128
theorem or128 {a : Nat} (ha : a < 128) : bits .or .i64 (a : Int) 128 = ((128 + a : Nat) : Int) := by
  have e := bits_orI (a := a) (b := 128) (by omega) (by omega)
  have h := Nat.two_pow_add_eq_or_of_lt (i := 7) (b := a) (by omega) 1
  rw [Nat.or_comm] at e
  rw [show 2 ^ 7 * 1 ||| a = 128 ||| a from rfl] at h
  rw [← h] at e
  exact e
theorem digits_pure : ∀ (f : Nat),f ≤ 6 → ∀ (z : Int),clampN z < 128 ^ (f + 1) → APure Try.prog 90 [.sc (.int .i64 z)] (bytesV (digN f (clampN z))) := by
  intro f
  induction f with
  | zero =>
    intro hf z h2
    have hc := clamp_if z
    have h2' : clampN z < 128 := by omega
    generalize clampN z = n at *
    refine az (c := ⟨Try.prog,20,[],[15],[]⟩) (rs := [ResultVar.tmp 2]) Try.mixed Try.func90 rfl rfl rfl (Nat.le_of_ble_eq_true rfl) (by kernel_rfl) fun H => ?_
    simp (disch := omega) only [↓aI,↓zP,aD,zD,aS,simprocAttr,Try.facts,zA,hc,digN,↓wcast8,bw]
    exact ⟨rfl,Abs.Sub.refl _⟩
  | succ f ih =>
    intro hf z h2
    have hc := clamp_if z
    have hl := clampN_le z
    generalize clampN z = n at *
    have h4 := ih (by omega) ((n / 128 : Nat) : Int)
    rw [show clampN ((n / 128 : Nat) : Int) = n / 128 by unfold clampN; omega] at h4
    have h4 := h4 (by rw [Nat.pow_succ] at h2; omega)
    have h5 := digN_length f (n / 128)
    by_cases h128 : n < 128
    · refine az (c := ⟨Try.prog,20,[],[15],[]⟩) (rs := [ResultVar.tmp 2]) Try.mixed Try.func90 rfl rfl rfl (Nat.le_of_ble_eq_true rfl) (by kernel_rfl) fun H => ?_
      simp (disch := omega) only [↓aI,↓zP,aD,zD,aS,simprocAttr,Try.facts,zA,hc,digN,↓wcast8,bw,h128,if_true]
      exact ⟨rfl,Abs.Sub.refl _⟩
    · have h6 : IntKind.u8.wrap (128 + ((n % 128 : Nat) : Int)) = ((UInt8.ofNat (128 + n % 128)).toNat : Int) := by
        rw [show (128 : Int) + ((n % 128 : Nat) : Int) = ((128 + n % 128 : Nat) : Int) by omega,wcast8]
      have h7 : IntKind.i64.wrap ((n / 128 : Nat) : Int) = ((n / 128 : Nat) : Int) := wrapI (by omega)
      unfold digN
      rw [if_neg h128]
      generalize digN f (n / 128) = D at *
      have h8 : (AV.sc (.int .u8 ((UInt8.ofNat (128 + n % 128)).toNat : Int))) :: bw D = bw (UInt8.ofNat (128 + n % 128) :: D) := rfl
      generalize UInt8.ofNat (128 + n % 128) = c at *
      have h9 := encB_len D
      refine az (c := ⟨Try.prog,20,[],[15],[]⟩) (rs := [ResultVar.tmp 2]) Try.mixed Try.func90 rfl rfl rfl (Nat.le_of_ble_eq_true rfl) (by kernel_rfl) fun H => ?_
      simp (disch := omega) only [↓aI,↓zP,aD,zD,aS,simprocAttr,Try.facts,zA,hc,↓tmodN,↓tdivN,h6,h7]
      intro k hk0 hk
      try simp (disch := omega) only [↓aI,↓zP,aD,zD,aS,simprocAttr,Try.facts,zA,hc,↓tmodN,↓tdivN,h6,h7]
      first | refine CallK.p (h4) ?_ | refine CallP.i (h4) ?_
      simp (disch := omega) only [↓aI,↓zP,aD,zD,aS,simprocAttr,Try.facts,h8,h9,zA]
      intro k' o' hk0' hk' ho'
      rw [Nat.add_comm]
      exact ⟨rfl,Sub.set_new (am hk')⟩
theorem rnum_pure (b : List UInt8) (hb : b.length ≤ 4000000) (z : Int) : APure Try.prog 87 [bytesV b,.sc (.int .i64 z)] (bytesV (b ++ vnum z)) := by
  have h := digits_pure 6 (by omega) z (by have := clampN_le z; omega)
  have hl := digN_length 6 (clampN z)
  unfold vnum
  generalize digN 6 (clampN z) = D at *
  have h9 := encB_len D
  have h8 := encB_len b
  have h7 := encB_app b D
  have h6 := encB_len (b ++ D)
  refine az (c := ⟨Try.prog,11,[],[5],[]⟩) (rs := [ResultVar.tmp 4]) Try.mixed Try.func87 rfl rfl rfl (Nat.le_of_ble_eq_true rfl) (by kernel_rfl) fun H => ?_
  simp (disch := omega) only [↓aI,↓zP,aD,zD,aS,simprocAttr,Try.facts]
  intro k hk0 hk
  try simp (disch := omega) only [↓aI,↓zP,aD,zD,aS,simprocAttr,Try.facts]
  intro k2 o2 hk20 hk2 ho2
  try simp (disch := omega) only [↓aI,↓zP,aD,zD,aS,simprocAttr,Try.facts]
  first | refine CallK.p (h) ?_ | refine CallP.i (h) ?_
  simp (disch := omega) only [↓aI,↓zP,aD,zD,aS,simprocAttr,Try.facts,h7,h8,h9,zA]
  intro k3 o3 hk30 hk3 ho3
  rw [← List.length_append]
  exact ⟨rfl,((Sub.set_new (am hk2)).kill_free (am hk2)).set_free (am hk3)⟩
theorem wnum_pure (b : List UInt8) (hb : b.length ≤ 4000000) (z : Int) : APure Try.prog 75 [bytesV b,.sc (.int .i64 z)] (bytesV (b ++ vnum z)) := by
  have hc := clamp_if z
  have hl := clampN_le z
  unfold vnum
  generalize clampN z = n at *
  have h8 := encB_len b
  refine az (c := ⟨Try.prog,28,[],[6],[]⟩) (rs := [ResultVar.tmp 4]) Try.mixed Try.func75 rfl rfl rfl (Nat.le_of_ble_eq_true rfl) (by kernel_rfl) fun H => ?_
  simp (disch := omega) only [↓aI,↓zP,aD,zD,aS,simprocAttr,Try.facts,hc]
  refine scope_t Try.mixed 0 (by kernel_rfl) (rest := _) rfl (by kernel_rfl) (fun mm σ H' => ∃ (A : List UInt8) (f m k : Nat) (o : AObj),mm = f ∧ f ≤ 6 ∧ m < 128 ^ (f + 1) ∧ m ≤ 1099511627776 ∧ A ++ digN f m = b ++ digN 6 n ∧ A.length + f ≤ b.length + 6 ∧ k ≠ 0 ∧ H k = none ∧ H' k = some o ∧ cy 5 1 o A.length ∧ Abs.Sub H H' ∧
    σ 1 = .sc (.int .i64 (m : Nat)) ∧ σ 5 = .imm k (bw A) A.length) ?_ ?_
  · simp (disch := omega) only [↓aI,↓zP,aD,zD,aS,simprocAttr,Try.facts,hc]
    intro k hk0 hk
    try simp (disch := omega) only [↓aI,↓zP,aD,zD,aS,simprocAttr,Try.facts,hc]
    intro k2 o2 hk20 hk2 ho2
    have hk2H := am hk2
    by_cases h128 : n < 128
    · have hd : digN 6 n = [UInt8.ofNat n] := by unfold digN; rw [if_pos h128]
      rw [hd]
      simp (disch := omega) only [↓aI,↓zP,aD,zD,aS,simprocAttr,Try.facts,hc,h8,ho2,zA,↓wcast8]
      intro k3 o3 hk30 hk3 ho3
      rw [← List.length_singleton (a := UInt8.ofNat n),← List.length_append]
      exact ⟨rfl,Sub.set_new (am hk3)⟩
    · have hd : digN 6 n = UInt8.ofNat (128 + n % 128) :: digN 5 (n / 128) := by show (if _ then _ else _) = _; rw [if_neg h128]
      have ha := and127 (a := n) (by omega)
      have hb2 := or128 (a := n % 128) (by omega)
      simp (disch := omega) only [↓aI,↓zP,aD,zD,aS,simprocAttr,Try.facts,hc,h8,ho2,zA,ha,hb2,↓wcast8,shr7]
      intro k3 o3 hk30 hk3 ho3
      refine ⟨5,b ++ [UInt8.ofNat (128 + n % 128)],5,n / 128,k3,o3,rfl,by omega,by omega,by omega,by rw [hd,List.append_assoc]; rfl,by simp only [List.length_append,List.length_singleton]; omega,hk30,am hk3,set_get,by simpa using ho3,?_,rfl,by rw [List.length_append]; rfl⟩
      exact Sub.set_new (am hk3)
  · rintro mm σ H' ⟨A,f,m,k,o,rfl,hf,hm,hm2,hA,hAl,hk0,hk,vk,ho,hs,s1,s5⟩
    have hg := encB_len A
    by_cases h128 : m < 128
    · have hd : digN mm m = [UInt8.ofNat m] := by
        cases mm with
        | zero => rfl
        | succ f => unfold digN; rw [if_pos h128]
      rw [hd] at hA
      simp (disch := omega) only [↓aI,↓zP,aD,zD,aS,simprocAttr,Try.facts,s1,s5,vk,hg,ho,zA,↓wcast8]
      intro k3 o3 hk30 hk3 ho3
      rw [← hA,← List.length_singleton (a := UInt8.ofNat m),← List.length_append]
      exact ⟨rfl,(hs.kill_free hk).set_free (hs.free hk3)⟩
    · obtain ⟨f, rfl⟩ : ∃ f, mm = f + 1 := by
        cases mm with
        | zero => exact absurd hm (by omega)
        | succ f => exact ⟨f,rfl⟩
      have hd : digN (f + 1) m = UInt8.ofNat (128 + m % 128) :: digN f (m / 128) := by show (if _ then _ else _) = _; rw [if_neg h128]
      have ha := and127 (a := m) (by omega)
      have hb2 := or128 (a := m % 128) (by omega)
      simp (disch := omega) only [↓aI,↓zP,aD,zD,aS,simprocAttr,Try.facts,s1,s5,vk,hg,ho,zA,ha,hb2,↓wcast8,shr7]
      intro k3 o3 hk30 hk3 ho3
      refine ⟨f,by omega,A ++ [UInt8.ofNat (128 + m % 128)],f,m / 128,k3,o3,rfl,by omega,by rw [Nat.pow_succ] at hm; omega,by omega,by rw [← hA,hd,List.append_assoc]; rfl,by simp only [List.length_append,List.length_singleton]; omega,hk30,hs.free hk3,set_get,by simpa using ho3,?_,rfl,by rw [List.length_append]; rfl⟩
      exact (hs.kill_free hk).set_free (hs.free hk3)
end Go.Proofs.Ytjlnpngaiphnmaa
end
section
set_option linter.unusedSimpArgs false
set_option linter.unusedVariables false
set_option maxRecDepth 20000
set_option maxHeartbeats 4000000
namespace Go.Proofs.Ytjlnpngaiphnmaa
open Go Go.Abs Go.Proofs
theorem takeB (A : List UInt8) : List.take A.length (bw A) = bw A := List.take_of_length_le (by rw [encB_len]; exact Nat.le_refl _)
theorem wnum_own (b : List UInt8) (hb : b.length ≤ 4000000) (z : Int) (H : AH) : ACalls Try.prog 75 [bytesV b,.sc (.int .i64 z)] H (OwnB (b ++ vnum z) H) := by
  have hc := clamp_if z
  have hl := clampN_le z
  unfold vnum
  generalize clampN z = n at *
  have h8 := encB_len b
  refine ao (c := ⟨Try.prog,28,[],[1000006,1000008,1000020,1000027],[]⟩) (rs := [ResultVar.tmp 4]) Try.mixed Try.func75 rfl rfl rfl (Nat.le_of_ble_eq_true rfl) (by kernel_rfl) ?_
  simp (disch := omega) only [↓aI,↓zP,aD,zD,aS,simprocAttr,Try.facts,hc]
  refine scope_t Try.mixed 0 (by kernel_rfl) (rest := _) rfl (by kernel_rfl) (fun mm σ H' => ∃ (A : List UInt8) (f m k : Nat),mm = f ∧ f ≤ 6 ∧ m < 128 ^ (f + 1) ∧ m ≤ 1099511627776 ∧ A ++ digN f m = b ++ digN 6 n ∧ A.length + f ≤ b.length + 6 ∧ k ≠ 0 ∧ H k = none ∧ H' = H.set k (.cells (bw A) 5 1) ∧
    σ 1 = .sc (.int .i64 (m : Nat)) ∧ σ 5 = .own k 0 A.length) ?_ ?_
  · simp (disch := omega) only [↓aI,↓zP,aD,zD,aS,simprocAttr,Try.facts,hc]
    intro k hk0 hk k2 hk2
    obtain ⟨hk20,hk2⟩ := own_next hk0 hk hk2
    by_cases h128 : n < 128
    · have hd : digN 6 n = [UInt8.ofNat n] := by unfold digN; rw [if_pos h128]
      rw [hd]
      simp (disch := omega) only [↓aI,↓zP,aD,zD,aS,simprocAttr,Try.facts,hc,h8,zA,↓wcast8]
      intro k3 hk3
      obtain ⟨hk30,hk3⟩ := own_next hk20 hk2 hk3
      refine ⟨_,rfl,_,Abs.Sub.refl _,k3,hk30,hk3,by rw [List.length_append]; rfl,by rw [takeB]; rw [show [AV.sc (Value.int .u8 ((UInt8.ofNat n).toNat : Nat))] = bw [UInt8.ofNat n] from rfl,encB_app]⟩
    · have hd : digN 6 n = UInt8.ofNat (128 + n % 128) :: digN 5 (n / 128) := by show (if _ then _ else _) = _; rw [if_neg h128]
      have ha := and127 (a := n) (by omega)
      have hb2 := or128 (a := n % 128) (by omega)
      simp (disch := omega) only [↓aI,↓zP,aD,zD,aS,simprocAttr,Try.facts,hc,h8,zA,ha,hb2,↓wcast8,shr7]
      intro k3 hk3
      obtain ⟨hk30,hk3⟩ := own_next hk20 hk2 hk3
      refine ⟨5,b ++ [UInt8.ofNat (128 + n % 128)],5,n / 128,k3,rfl,by omega,by omega,by omega,by rw [hd,List.append_assoc]; rfl,by simp only [List.length_append,List.length_singleton]; omega,hk30,hk3,?_,rfl,by rw [List.length_append]; rfl⟩
      rw [takeB]
      rw [show [AV.sc (Value.int .u8 ((UInt8.ofNat (128 + n % 128)).toNat : Nat))] = bw [UInt8.ofNat (128 + n % 128)] from rfl,encB_app]
  · rintro mm σ H' ⟨A,f,m,k,rfl,hf,hm,hm2,hA,hAl,hk0,hk,rfl,s1,s5⟩
    have hg := encB_len A
    by_cases h128 : m < 128
    · have hd : digN mm m = [UInt8.ofNat m] := by
        cases mm with
        | zero => rfl
        | succ f => unfold digN; rw [if_pos h128]
      rw [hd] at hA
      simp (disch := omega) only [↓aI,↓zP,aD,zD,aS,simprocAttr,Try.facts,s1,s5,hg,zA,↓wcast8]
      intro k3 hk3
      obtain ⟨hk30,hk3⟩ := own_next hk0 hk hk3
      refine ⟨_,rfl,_,Abs.Sub.refl _,k3,hk30,hk3,by rw [← hA,List.length_append]; rfl,?_⟩
      rw [takeB,← hA]
      rw [show [AV.sc (Value.int .u8 ((UInt8.ofNat m).toNat : Nat))] = bw [UInt8.ofNat m] from rfl,encB_app]
    · obtain ⟨f, rfl⟩ : ∃ f, mm = f + 1 := by
        cases mm with
        | zero => exact absurd hm (by omega)
        | succ f => exact ⟨f,rfl⟩
      have hd : digN (f + 1) m = UInt8.ofNat (128 + m % 128) :: digN f (m / 128) := by show (if _ then _ else _) = _; rw [if_neg h128]
      have ha := and127 (a := m) (by omega)
      have hb2 := or128 (a := m % 128) (by omega)
      simp (disch := omega) only [↓aI,↓zP,aD,zD,aS,simprocAttr,Try.facts,s1,s5,hg,zA,ha,hb2,↓wcast8,shr7]
      intro k3 hk3
      obtain ⟨hk30,hk3⟩ := own_next hk0 hk hk3
      refine ⟨f,by omega,A ++ [UInt8.ofNat (128 + m % 128)],f,m / 128,k3,rfl,by omega,by rw [Nat.pow_succ] at hm; omega,by omega,by rw [← hA,hd,List.append_assoc]; rfl,by simp only [List.length_append,List.length_singleton]; omega,hk30,hk3,?_,rfl,by rw [List.length_append]; rfl⟩
      rw [takeB]
      rw [show [AV.sc (Value.int .u8 ((UInt8.ofNat (128 + m % 128)).toNat : Nat))] = bw [UInt8.ofNat (128 + m % 128)] from rfl,encB_app]
theorem rnum_own (b : List UInt8) (hb : b.length ≤ 4000000) (z : Int) (H : AH) : ACalls Try.prog 87 [bytesV b,.sc (.int .i64 z)] H (OwnB (b ++ vnum z) H) := by
  have h := digits_pure 6 (by omega) z (by have := clampN_le z; omega)
  have hl := digN_length 6 (clampN z)
  unfold vnum
  generalize digN 6 (clampN z) = D at *
  have h9 := encB_len D
  have h8 := encB_len b
  refine ao (c := ⟨Try.prog,11,[],[1000005,1000007,1000010],[]⟩) (rs := [ResultVar.tmp 4]) Try.mixed Try.func87 rfl rfl rfl (Nat.le_of_ble_eq_true rfl) (by kernel_rfl) ?_
  simp (disch := omega) only [↓aI,↓zP,aD,zD,aS,simprocAttr,Try.facts]
  intro k hk0 hk k2 hk2
  obtain ⟨hk20,hk2⟩ := own_next hk0 hk hk2
  try simp (disch := omega) only [↓aI,↓zP,aD,zD,aS,simprocAttr,Try.facts]
  first | refine CallK.p (h) ?_ | refine CallP.i (h) ?_
  simp (disch := omega) only [↓aI,↓zP,aD,zD,aS,simprocAttr,Try.facts,h8,h9,zA]
  intro k3 hk3
  obtain ⟨hk30,hk3⟩ := own_next hk20 hk2 hk3
  refine ⟨_,rfl,_,Abs.Sub.refl _,k3,hk30,hk3,by rw [List.length_append],by rw [takeB,encB_app]⟩
def vtext (s : List UInt8) : List UInt8 := vnum s.length ++ s
theorem wtext_pure (b s : List UInt8) (hb : b.length ≤ 4000000) (hs : s.length ≤ 4000000) : APure Try.prog 67 [bytesV b,bytesV s] (bytesV (b ++ vtext s)) := by
  refine OwnB.pure fun H => ?_
  have hn := fun H => wnum_own b hb s.length H
  have hAl : (b ++ vnum s.length).length ≤ 4000007 := by rw [List.length_append]; have := vnum_length s.length; omega
  have h8 := encB_len (b ++ vnum s.length)
  have h9 := encB_len s
  unfold vtext
  rw [← List.append_assoc]
  generalize b ++ vnum s.length = A at *
  refine ao (c := ⟨Try.prog,11,[],[1000010],[]⟩) (rs := [ResultVar.tmp 4]) Try.mixed Try.func67 rfl rfl rfl (Nat.le_of_ble_eq_true rfl) (by kernel_rfl) ?_
  simp (disch := omega) only [↓aI,↓zP,aD,zD,aS,simprocAttr,Try.facts]
  refine CallK.i (hn _) ?_
  rintro v H1 ⟨k,hk0,hk,rfl,rfl⟩
  simp (disch := omega) only [↓aI,↓zP,aD,zD,aS,simprocAttr,Try.facts,h8,h9]
  intro k3 hk3
  obtain ⟨hk30,hk3⟩ := own_next hk0 hk hk3
  refine ⟨_,rfl,_,Abs.Sub.refl _,k3,hk30,hk3,by rw [List.length_append],?_⟩
  rw [takeB,encB_app]
theorem rtext_pure (b s : List UInt8) (hb : b.length ≤ 4000000) (hs : s.length ≤ 4000000) : APure Try.prog 86 [bytesV b,bytesV s] (bytesV (b ++ vtext s)) := by
  refine OwnB.pure fun H => ?_
  have hn := fun H => rnum_own b hb s.length H
  have hAl : (b ++ vnum s.length).length ≤ 4000007 := by rw [List.length_append]; have := vnum_length s.length; omega
  have h8 := encB_len (b ++ vnum s.length)
  have h9 := encB_len s
  unfold vtext
  rw [← List.append_assoc]
  generalize b ++ vnum s.length = A at *
  refine ao (c := ⟨Try.prog,11,[],[1000010],[]⟩) (rs := [ResultVar.tmp 4]) Try.mixed Try.func86 rfl rfl rfl (Nat.le_of_ble_eq_true rfl) (by kernel_rfl) ?_
  simp (disch := omega) only [↓aI,↓zP,aD,zD,aS,simprocAttr,Try.facts]
  refine CallK.i (hn _) ?_
  rintro v H1 ⟨k,hk0,hk,rfl,rfl⟩
  simp (disch := omega) only [↓aI,↓zP,aD,zD,aS,simprocAttr,Try.facts,h8,h9]
  intro k3 hk3
  obtain ⟨hk30,hk3⟩ := own_next hk0 hk hk3
  refine ⟨_,rfl,_,Abs.Sub.refl _,k3,hk30,hk3,by rw [List.length_append],?_⟩
  rw [takeB,encB_app]
end Go.Proofs.Ytjlnpngaiphnmaa
end
