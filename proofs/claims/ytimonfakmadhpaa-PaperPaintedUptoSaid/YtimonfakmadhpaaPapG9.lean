/-
  Several texts in one: each says what it proves.
  Conditions: none. Lemmas only.
-/
import Derived.Test.YtimonfakmadhpaaPapG4
import Derived.Test.YtimonfakmadhpaaPapG3
import Derived.Test.YtimonfakmadhpaaFugAe
import Derived.Lib.TrimUEq
set_option linter.all false
section
set_option linter.unusedSimpArgs false
set_option linter.unusedVariables false
set_option maxRecDepth 8000
set_option maxHeartbeats 4000000
namespace Go.Proofs.Ytimonfakmadhpaa
open Go Go.Abs Go.Proofs Go.Fug
structure Wsh where
  at_ : Int
  n : Int
  name : Int
  value : Int
  author : Int
  txt : List UInt8
def wishC (w : Wsh) : List AV := [.sc (.int .i64 w.at_),.sc (.int .i64 w.n),.sc (.int .i64 w.name),.sc (.int .i64 w.value),.sc (.int .i64 w.author),.sc (.string ⟨w.txt.toArray⟩)]
end Go.Proofs.Ytimonfakmadhpaa
end
section
set_option linter.unusedSimpArgs false
set_option linter.unusedVariables false
set_option maxRecDepth 8000
namespace Go.Proofs.Ytimonfakmadhpaa
open Go Go.Abs Go.Proofs Go.Fug
end Go.Proofs.Ytimonfakmadhpaa
end
section
set_option linter.unusedSimpArgs false
set_option linter.unusedVariables false
set_option maxRecDepth 8000
set_option maxHeartbeats 1000000
namespace Go.Proofs.Ytimonfakmadhpaa
open Go Go.Abs Go.Proofs Go.Fug
theorem ofU8 (n : Nat) (h : n < 256) : (UInt8.ofNat n).toNat = n := by rw [UInt8.toNat_ofNat']; omega
def u8enc (n : Nat) : List UInt8 :=
  if n < 128 then [UInt8.ofNat n]
  else if n < 2048 then [UInt8.ofNat (192 + n / 64),UInt8.ofNat (128 + n % 64)]
  else if n < 65536 then [UInt8.ofNat (224 + n / 4096),UInt8.ofNat (128 + n / 64 % 64),UInt8.ofNat (128 + n % 64)]
  else [UInt8.ofNat (240 + n / 262144),UInt8.ofNat (128 + n / 4096 % 64),UInt8.ofNat (128 + n / 64 % 64),UInt8.ofNat (128 + n % 64)]
theorem runeB_enc {r : Int} (h : letO r = true) : dQ r = u8enc r.toNat := by
  have h1 := letO_iff.1 h
  have hv : Utf8.valid r = true := by
    unfold Utf8.valid
    simp only [Bool.or_eq_true,Bool.and_eq_true,decide_eq_true_eq]
    omega
  unfold dQ Utf8.encode u8enc
  simp only [hv,if_true]
  by_cases c1 : r.toNat < 128
  · rw [if_pos c1,if_pos c1]
  · rw [if_neg c1,if_neg c1]
    by_cases c2 : r.toNat < 2048
    · rw [if_pos c2,if_pos c2]
    · rw [if_neg c2,if_neg c2]
      by_cases c3 : r.toNat < 65536
      · rw [if_pos c3,if_pos c3]
      · rw [if_neg c3,if_neg c3]
theorem u8enc_pos (n : Nat) : 1 ≤ (u8enc n).length := by
  unfold u8enc
  repeat' split
  all_goals simp
theorem dec_u8enc (n : Nat) (h : n ≤ 1114111 ∧ (n < 55296 ∨ 57343 < n)) (C : List UInt8) :
    Lib.decodeN (u8enc n ++ C).length ((u8enc n ++ C).getD 0 0).toNat ((u8enc n ++ C).getD 1 0).toNat ((u8enc n ++ C).getD 2 0).toNat ((u8enc n ++ C).getD 3 0).toNat = (n,(u8enc n).length) := by
  unfold u8enc
  by_cases c1 : n < 128
  · simp only [if_pos c1,List.cons_append,List.nil_append,List.getD_cons_zero,List.length_cons,List.length_nil]
    rw [ofU8 n (by omega)]
    unfold Lib.decodeN
    rw [if_pos c1]
  · by_cases c2 : n < 2048
    · simp only [if_neg c1,if_pos c2,List.cons_append,List.nil_append,List.getD_cons_zero,List.getD_cons_succ,List.length_cons,List.length_nil]
      rw [ofU8 (192 + n / 64) (by omega),ofU8 (128 + n % 64) (by omega)]
      unfold Lib.decodeN
      rw [if_neg (by omega),if_pos (by omega),if_pos (by omega)]
      refine Prod.ext ?_ rfl
      simp only
      omega
    · by_cases c3 : n < 65536
      · simp only [if_neg c1,if_neg c2,if_pos c3,List.cons_append,List.nil_append,List.getD_cons_zero,List.getD_cons_succ,List.length_cons,List.length_nil]
        rw [ofU8 (224 + n / 4096) (by omega),ofU8 (128 + n / 64 % 64) (by omega),ofU8 (128 + n % 64) (by omega)]
        unfold Lib.decodeN
        have e : (224 + n / 4096) % 16 * 4096 + (128 + n / 64 % 64) % 64 * 64 + (128 + n % 64) % 64 = n := by omega
        rw [if_neg (by omega),if_neg (by omega),if_pos (by omega),e,if_pos (by omega)]
      · simp only [if_neg c1,if_neg c2,if_neg c3,List.cons_append,List.nil_append,List.getD_cons_zero,List.getD_cons_succ,List.length_cons,List.length_nil]
        rw [ofU8 (240 + n / 262144) (by omega),ofU8 (128 + n / 4096 % 64) (by omega),ofU8 (128 + n / 64 % 64) (by omega),ofU8 (128 + n % 64) (by omega)]
        unfold Lib.decodeN
        have e : (240 + n / 262144) % 8 * 262144 + (128 + n / 4096 % 64) % 64 * 4096 + (128 + n / 64 % 64) % 64 * 64 + (128 + n % 64) % 64 = n := by omega
        rw [if_neg (by omega),if_neg (by omega),if_neg (by omega),if_pos (by omega),e,if_pos (by omega)]
theorem dec_rune {r : Int} (h : letO r = true) (A C : List UInt8) : Utf8.decode ⟨(A ++ (dQ r ++ C)).toArray⟩ A.length = (r.toNat,(dQ r).length) := by
  have h1 := letO_iff.1 h
  have h2 := dec_u8enc r.toNat ⟨by omega,by omega⟩ C
  rw [← runeB_enc h] at h2
  have hg : ∀ k,(A ++ (dQ r ++ C)).getD (A.length + k) 0 = (dQ r ++ C).getD k 0 := fun k => by
    simp only [List.getD_eq_getElem?_getD]
    rw [List.getElem?_append_right (by omega),Nat.add_sub_cancel_left]
  rw [Lib.decode_N]
  show Lib.decodeN ((A ++ (dQ r ++ C)).length - A.length) ((A ++ (dQ r ++ C)).getD A.length 0).toNat ((A ++ (dQ r ++ C)).getD (A.length + 1) 0).toNat ((A ++ (dQ r ++ C)).getD (A.length + 2) 0).toNat ((A ++ (dQ r ++ C)).getD (A.length + 3) 0).toNat = _
  have h0 := hg 0
  rw [Nat.add_zero] at h0
  rw [h0,hg,hg,hg,List.length_append,Nat.add_sub_cancel_left]
  exact h2
theorem runes_enc : ∀ (rs : List Int) (A : List UInt8) (n : Nat),(∀ r ∈ rs,letO r = true) → (rs.flatMap dQ).length ≤ n → cT ⟨(A ++ rs.flatMap dQ).toArray⟩ n A.length = rs
  | [],A,0,_,_ => rfl
  | [],A,n + 1,_,_ => by
    rw [cT,if_neg]
    show ¬ A.length < (A ++ _).toArray.size
    simp
  | r :: rs,A,n,h,hn => by
    have hr := h r (by simp)
    have hp : 1 ≤ (dQ r).length := by rw [runeB_enc hr]; exact u8enc_pos _
    rw [List.flatMap_cons,List.length_append] at hn
    obtain ⟨n,rfl⟩ : ∃ m,n = m + 1 := ⟨n - 1,by omega⟩
    have ih := runes_enc rs (A ++ dQ r) n (fun x hx => h x (by simp [hx])) (by omega)
    rw [List.append_assoc,List.length_append] at ih
    rw [List.flatMap_cons,cT,if_pos,dec_rune hr]
    · have h1 := letO_iff.1 hr
      rw [ih]
      simp only [List.cons.injEq,and_true]
      omega
    · show A.length < (A ++ (dQ r ++ _)).toArray.size
      simp
      omega
theorem runesS_enc (rs : List Int) (h : ∀ r ∈ rs,letO r = true) : dO ⟨(rs.flatMap dQ).toArray⟩ = rs := by
  have h1 := runes_enc rs [] (rs.flatMap dQ).length h (Nat.le_refl _)
  rw [List.nil_append] at h1
  exact h1
end Go.Proofs.Ytimonfakmadhpaa
end
