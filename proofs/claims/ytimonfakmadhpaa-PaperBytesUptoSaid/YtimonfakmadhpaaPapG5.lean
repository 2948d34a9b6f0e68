/-
  Several texts in one: each says what it proves.
  Conditions: none. Lemmas only.
-/
import Derived.Test.YtimonfakmadhpaaPapG1
set_option linter.all false
section
set_option linter.unusedSimpArgs false
set_option linter.unusedVariables false
set_option maxRecDepth 8000
set_option maxHeartbeats 4000000
namespace Go.Proofs.Ytimonfakmadhpaa
open Go Go.Abs Go.Proofs Go.Fug
def digN : Nat → Nat → List UInt8
  | 0,n => [UInt8.ofNat n]
  | f + 1,n => if n < 128 then [UInt8.ofNat n] else UInt8.ofNat (128 + n % 128) :: digN f (n / 128)
def clampN (z : Int) : Nat := (min (max z 0) 1099511627776).toNat
def vnum (z : Int) : List UInt8 := digN 6 (clampN z)
theorem clampN_le (z : Int) : clampN z ≤ 1099511627776 := by unfold clampN; omega
theorem digN_length : ∀ f n,(digN f n).length ≤ f + 1 := by
  intro f
  induction f with
  | zero => intro n; simp [digN]
  | succ f ih =>
    intro n
    unfold digN
    split
    · simp
    · have := ih (n / 128)
      simp only [List.length_cons]; omega
theorem vnum_length (z : Int) : (vnum z).length ≤ 7 := digN_length 6 _
theorem encB_app (a b : List UInt8) : bw a ++ bw b = bw (a ++ b) := by simp [bw]
theorem encB_len (a : List UInt8) : (bw a).length = a.length := by simp [bw]
theorem clamp_if (z : Int) : (if (1099511627776 : Int) < (if z < 0 then 0 else z) then 1099511627776 else (if z < 0 then 0 else z)) = ((clampN z : Nat) : Int) := by
  unfold clampN
  split <;> split <;> omega
theorem bits_orI {a b : Nat} (ha : a < 2 ^ 63) (hb : b < 2 ^ 63) : bits .or .i64 (a : Int) (b : Int) = ((a ||| b : Nat) : Int) := by
  show IntKind.i64.wrap ((BitVec.ofInt 64 (a : Int) ||| BitVec.ofInt 64 (b : Int)).toNat : Int) = _
  rw [BitVec.ofInt_natCast,BitVec.ofInt_natCast]
  simp only [BitVec.toNat_or,BitVec.toNat_ofNat,Nat.mod_eq_of_lt (show a < 2 ^ 64 by omega),Nat.mod_eq_of_lt (show b < 2 ^ 64 by omega)]
  have := Nat.or_lt_two_pow ha hb
  exact wrapI (by omega)
theorem bits_andI {a b : Nat} (ha : a < 2 ^ 63) (hb : b < 2 ^ 63) : bits .and .i64 (a : Int) (b : Int) = ((a &&& b : Nat) : Int) := by
  show IntKind.i64.wrap ((BitVec.ofInt 64 (a : Int) &&& BitVec.ofInt 64 (b : Int)).toNat : Int) = _
  rw [BitVec.ofInt_natCast,BitVec.ofInt_natCast]
  simp only [BitVec.toNat_and,BitVec.toNat_ofNat,Nat.mod_eq_of_lt (show a < 2 ^ 64 by omega),Nat.mod_eq_of_lt (show b < 2 ^ 64 by omega)]
  have := Nat.and_lt_two_pow a hb
  exact wrapI (by omega)
theorem and127 {a : Nat} (ha : a ≤ 1099511627776) : bits .and .i64 (a : Int) 127 = ((a % 128 : Nat) : Int) := by
  have e := bits_andI (a := a) (b := 127) (by omega) (by omega)
  rw [show a &&& 127 = a % 128 from Nat.and_two_pow_sub_one_eq_mod a 7] at e
  exact e
theorem shr7 (n : Nat) : ((n : Int)).fdiv (2 ^ min 7 IntKind.i64.bits) = ((n / 128 : Nat) : Int) := fdivN n 128
theorem or128 {a : Nat} (ha : a < 128) : bits .or .i64 (a : Int) 128 = ((128 + a : Nat) : Int) := by
  have e := bits_orI (a := a) (b := 128) (by omega) (by omega)
  have h := Nat.two_pow_add_eq_or_of_lt (i := 7) (b := a) (by omega) 1
  rw [Nat.or_comm] at e
  rw [show 2 ^ 7 * 1 ||| a = 128 ||| a from rfl] at h
  rw [← h] at e
  exact e
theorem digits_pure : ∀ (f : Nat),f ≤ 6 → ∀ (z : Int),clampN z < 128 ^ (f + 1) → APure Try.prog 136 [.sc (.int .i64 z)] (bytesV (digN f (clampN z))) := by
  intro f
  induction f with
  | zero =>
    intro hf z h2
    have hc := clamp_if z
    have h2' : clampN z < 128 := by omega
    generalize clampN z = n at *
    refine az (c := ⟨Try.prog,20,[],[15],[]⟩) (rs := [ResultVar.tmp 2]) Try.mixed Try.func136 rfl rfl rfl (Nat.le_of_ble_eq_true rfl) (by kernel_rfl) fun H => ?_
    simp (disch := omega) only [↓aI,aD,aG,ixA,aX,aV,ag,aT,ae,mkA,ab,bnd,aS,aH,aK,cvO,aJ,aY,↓aO,aW,aE,aF,aM,aA,aC,aB,aN,ad,frz,aR,Nat.reduceBEq,Nat.reduceLT,reduceCtorEq,↓reduceIte,aL,AV.cellsOf,AV.fine,AV.one,aQ,Nat.reduceMul,Nat.reduceAdd,Nat.reduceLeDiff,Nat.reduceEqDiff,Int.reduceToNat,Nat.reduceSub,Nat.reduceMod,Nat.reduceDiv,indexK.aggOf,Int.reducePow,Int.reduceLE,Int.reduceNeg,Int.reduceLT,Int.reduceBEq,Int.reduceBNe,Int.reduceEq,aZ,aU,Try.facts,dT,dF,qT,qF,nT,nF,Bool.false_and,Bool.and_false,hc,digN,↓wcast8,bw]
    exact ⟨rfl,Abs.Sub.refl _⟩
  | succ f ih =>
    intro hf z h2
    have hc := clamp_if z
    have hl := clampN_le z
    generalize clampN z = n at *
    have h4 := ih (by omega) ((n / 128 : Nat) : Int)
    rw [show clampN ((n / 128 : Nat) : Int) = n / 128 by unfold clampN; omega] at h4
    have h4 := h4 (by rw [Nat.pow_succ] at h2; omega)
    have h5 := digN_length f (n / 128)
    by_cases h128 : n < 128
    · refine az (c := ⟨Try.prog,20,[],[15],[]⟩) (rs := [ResultVar.tmp 2]) Try.mixed Try.func136 rfl rfl rfl (Nat.le_of_ble_eq_true rfl) (by kernel_rfl) fun H => ?_
      simp (disch := omega) only [↓aI,aD,aG,ixA,aX,aV,ag,aT,ae,mkA,ab,bnd,aS,aH,aK,cvO,aJ,aY,↓aO,aW,aE,aF,aM,aA,aC,aB,aN,ad,frz,aR,Nat.reduceBEq,Nat.reduceLT,reduceCtorEq,↓reduceIte,aL,AV.cellsOf,AV.fine,AV.one,aQ,Nat.reduceMul,Nat.reduceAdd,Nat.reduceLeDiff,Nat.reduceEqDiff,Int.reduceToNat,Nat.reduceSub,Nat.reduceMod,Nat.reduceDiv,indexK.aggOf,Int.reducePow,Int.reduceLE,Int.reduceNeg,Int.reduceLT,Int.reduceBEq,Int.reduceBNe,Int.reduceEq,aZ,aU,Try.facts,dT,dF,qT,qF,nT,nF,Bool.false_and,Bool.and_false,hc,digN,↓wcast8,bw,h128,if_true]
      exact ⟨rfl,Abs.Sub.refl _⟩
    · have h6 : IntKind.u8.wrap (128 + ((n % 128 : Nat) : Int)) = ((UInt8.ofNat (128 + n % 128)).toNat : Int) := by
        rw [show (128 : Int) + ((n % 128 : Nat) : Int) = ((128 + n % 128 : Nat) : Int) by omega,wcast8]
      have h7 : IntKind.i64.wrap ((n / 128 : Nat) : Int) = ((n / 128 : Nat) : Int) := wrapI (by omega)
      unfold digN
      rw [if_neg h128]
      generalize digN f (n / 128) = D at *
      have h8 : (AV.sc (.int .u8 ((UInt8.ofNat (128 + n % 128)).toNat : Int))) :: bw D = bw (UInt8.ofNat (128 + n % 128) :: D) := rfl
      generalize UInt8.ofNat (128 + n % 128) = c at *
      have h9 := encB_len D
      refine az (c := ⟨Try.prog,20,[],[15],[]⟩) (rs := [ResultVar.tmp 2]) Try.mixed Try.func136 rfl rfl rfl (Nat.le_of_ble_eq_true rfl) (by kernel_rfl) fun H => ?_
      simp (disch := omega) only [↓aI,aD,aG,ixA,aX,aV,ag,aT,ae,mkA,ab,bnd,aS,aH,aK,cvO,aJ,aY,↓aO,aW,aE,aF,aM,aA,aC,aB,aN,ad,frz,aR,Nat.reduceBEq,Nat.reduceLT,reduceCtorEq,↓reduceIte,aL,AV.cellsOf,AV.fine,AV.one,aQ,Nat.reduceMul,Nat.reduceAdd,Nat.reduceLeDiff,Nat.reduceEqDiff,Int.reduceToNat,Nat.reduceSub,Nat.reduceMod,Nat.reduceDiv,indexK.aggOf,Int.reducePow,Int.reduceLE,Int.reduceNeg,Int.reduceLT,Int.reduceBEq,Int.reduceBNe,Int.reduceEq,aZ,aU,Try.facts,dT,dF,qT,qF,nT,nF,Bool.false_and,Bool.and_false,hc,↓tmodN,↓tdivN,h6,h7]
      intro k hk0 hk
      try simp (disch := omega) only [↓aI,aD,aG,ixA,aX,aV,ag,aT,ae,mkA,ab,bnd,aS,aH,aK,cvO,aJ,aY,↓aO,aW,aE,aF,aM,aA,aC,aB,aN,ad,frz,aR,Nat.reduceBEq,Nat.reduceLT,reduceCtorEq,↓reduceIte,aL,AV.cellsOf,AV.fine,AV.one,aQ,Nat.reduceMul,Nat.reduceAdd,Nat.reduceLeDiff,Nat.reduceEqDiff,Int.reduceToNat,Nat.reduceSub,Nat.reduceMod,Nat.reduceDiv,indexK.aggOf,Int.reducePow,Int.reduceLE,Int.reduceNeg,Int.reduceLT,Int.reduceBEq,Int.reduceBNe,Int.reduceEq,aZ,aU,Try.facts,dT,dF,qT,qF,nT,nF,Bool.false_and,Bool.and_false,hc,↓tmodN,↓tdivN,h6,h7]
      first | refine CallK.p (h4) ?_ | refine CallP.i (h4) ?_
      simp (disch := omega) only [↓aI,aD,aG,ixA,aX,aV,ag,aT,ae,mkA,ab,bnd,aS,aH,aK,cvO,aJ,aY,↓aO,aW,aE,aF,aM,aA,aC,aB,aN,ad,frz,aR,Nat.reduceBEq,Nat.reduceLT,reduceCtorEq,↓reduceIte,aL,AV.cellsOf,AV.fine,AV.one,aQ,Nat.reduceMul,Nat.reduceAdd,Nat.reduceLeDiff,Nat.reduceEqDiff,Int.reduceToNat,Nat.reduceSub,Nat.reduceMod,Nat.reduceDiv,indexK.aggOf,Int.reducePow,Int.reduceLE,Int.reduceNeg,Int.reduceLT,Int.reduceBEq,Int.reduceBNe,Int.reduceEq,aZ,aU,Try.facts,h8,h9,dT,dF,qT,qF,nT,nF,Bool.false_and,Bool.and_false]
      intro k' o' hk0' hk' ho'
      rw [Nat.add_comm]
      exact ⟨rfl,Sub.set_new (am hk')⟩
theorem rnum_pure (b : List UInt8) (hb : b.length ≤ 4000000) (z : Int) : APure Try.prog 120 [bytesV b,.sc (.int .i64 z)] (bytesV (b ++ vnum z)) := by
  have h := digits_pure 6 (by omega) z (by have := clampN_le z; omega)
  have hl := digN_length 6 (clampN z)
  unfold vnum
  generalize digN 6 (clampN z) = D at *
  have h9 := encB_len D
  have h8 := encB_len b
  have h7 := encB_app b D
  have h6 := encB_len (b ++ D)
  refine az (c := ⟨Try.prog,11,[],[5],[]⟩) (rs := [ResultVar.tmp 4]) Try.mixed Try.func120 rfl rfl rfl (Nat.le_of_ble_eq_true rfl) (by kernel_rfl) fun H => ?_
  simp (disch := omega) only [↓aI,aD,aG,ixA,aX,aV,ag,aT,ae,mkA,ab,bnd,aS,aH,aK,cvO,aJ,aY,↓aO,aW,aE,aF,aM,aA,aC,aB,aN,ad,frz,aR,Nat.reduceBEq,Nat.reduceLT,reduceCtorEq,↓reduceIte,aL,AV.cellsOf,AV.fine,AV.one,aQ,Nat.reduceMul,Nat.reduceAdd,Nat.reduceLeDiff,Nat.reduceEqDiff,Int.reduceToNat,Nat.reduceSub,Nat.reduceMod,Nat.reduceDiv,indexK.aggOf,Int.reducePow,Int.reduceLE,Int.reduceNeg,Int.reduceLT,Int.reduceBEq,Int.reduceBNe,Int.reduceEq,aZ,aU,Try.facts]
  intro k hk0 hk
  try simp (disch := omega) only [↓aI,aD,aG,ixA,aX,aV,ag,aT,ae,mkA,ab,bnd,aS,aH,aK,cvO,aJ,aY,↓aO,aW,aE,aF,aM,aA,aC,aB,aN,ad,frz,aR,Nat.reduceBEq,Nat.reduceLT,reduceCtorEq,↓reduceIte,aL,AV.cellsOf,AV.fine,AV.one,aQ,Nat.reduceMul,Nat.reduceAdd,Nat.reduceLeDiff,Nat.reduceEqDiff,Int.reduceToNat,Nat.reduceSub,Nat.reduceMod,Nat.reduceDiv,indexK.aggOf,Int.reducePow,Int.reduceLE,Int.reduceNeg,Int.reduceLT,Int.reduceBEq,Int.reduceBNe,Int.reduceEq,aZ,aU,Try.facts]
  intro k2 o2 hk20 hk2 ho2
  try simp (disch := omega) only [↓aI,aD,aG,ixA,aX,aV,ag,aT,ae,mkA,ab,bnd,aS,aH,aK,cvO,aJ,aY,↓aO,aW,aE,aF,aM,aA,aC,aB,aN,ad,frz,aR,Nat.reduceBEq,Nat.reduceLT,reduceCtorEq,↓reduceIte,aL,AV.cellsOf,AV.fine,AV.one,aQ,Nat.reduceMul,Nat.reduceAdd,Nat.reduceLeDiff,Nat.reduceEqDiff,Int.reduceToNat,Nat.reduceSub,Nat.reduceMod,Nat.reduceDiv,indexK.aggOf,Int.reducePow,Int.reduceLE,Int.reduceNeg,Int.reduceLT,Int.reduceBEq,Int.reduceBNe,Int.reduceEq,aZ,aU,Try.facts]
  first | refine CallK.p (h) ?_ | refine CallP.i (h) ?_
  simp (disch := omega) only [↓aI,aD,aG,ixA,aX,aV,ag,aT,ae,mkA,ab,bnd,aS,aH,aK,cvO,aJ,aY,↓aO,aW,aE,aF,aM,aA,aC,aB,aN,ad,frz,aR,Nat.reduceBEq,Nat.reduceLT,reduceCtorEq,↓reduceIte,aL,AV.cellsOf,AV.fine,AV.one,aQ,Nat.reduceMul,Nat.reduceAdd,Nat.reduceLeDiff,Nat.reduceEqDiff,Int.reduceToNat,Nat.reduceSub,Nat.reduceMod,Nat.reduceDiv,indexK.aggOf,Int.reducePow,Int.reduceLE,Int.reduceNeg,Int.reduceLT,Int.reduceBEq,Int.reduceBNe,Int.reduceEq,aZ,aU,Try.facts,h7,h8,h9,dT,dF,qT,qF,nT,nF,Bool.false_and,Bool.and_false]
  intro k3 o3 hk30 hk3 ho3
  rw [← List.length_append]
  exact ⟨rfl,((Sub.set_new (am hk2)).kill_free (am hk2)).set_free (am hk3)⟩
theorem wnum_pure (b : List UInt8) (hb : b.length ≤ 4000000) (z : Int) : APure Try.prog 77 [bytesV b,.sc (.int .i64 z)] (bytesV (b ++ vnum z)) := by
  have hc := clamp_if z
  have hl := clampN_le z
  unfold vnum
  generalize clampN z = n at *
  have h8 := encB_len b
  refine az (c := ⟨Try.prog,28,[],[6],[]⟩) (rs := [ResultVar.tmp 4]) Try.mixed Try.func77 rfl rfl rfl (Nat.le_of_ble_eq_true rfl) (by kernel_rfl) fun H => ?_
  simp (disch := omega) only [↓aI,aD,aG,ixA,aX,aV,ag,aT,ae,mkA,ab,bnd,aS,aH,aK,cvO,aJ,aY,↓aO,aW,aE,aF,aM,aA,aC,aB,aN,ad,frz,aR,Nat.reduceBEq,Nat.reduceLT,reduceCtorEq,↓reduceIte,aL,AV.cellsOf,AV.fine,AV.one,aQ,Nat.reduceMul,Nat.reduceAdd,Nat.reduceLeDiff,Nat.reduceEqDiff,Int.reduceToNat,Nat.reduceSub,Nat.reduceMod,Nat.reduceDiv,indexK.aggOf,Int.reducePow,Int.reduceLE,Int.reduceNeg,Int.reduceLT,Int.reduceBEq,Int.reduceBNe,Int.reduceEq,aZ,aU,Try.facts,hc]
  refine scope_t Try.mixed 0 (by kernel_rfl) (rest := _) rfl (by kernel_rfl) (fun mm σ H' => ∃ (A : List UInt8) (f m k : Nat) (o : AObj),mm = f ∧ f ≤ 6 ∧ m < 128 ^ (f + 1) ∧ m ≤ 1099511627776 ∧ A ++ digN f m = b ++ digN 6 n ∧ A.length + f ≤ b.length + 6 ∧ k ≠ 0 ∧ H k = none ∧ H' k = some o ∧ cy 5 1 o A.length ∧ Abs.Sub H H' ∧
    σ 1 = .sc (.int .i64 (m : Nat)) ∧ σ 5 = .imm k (bw A) A.length) ?_ ?_
  · simp (disch := omega) only [↓aI,aD,aG,ixA,aX,aV,ag,aT,ae,mkA,ab,bnd,aS,aH,aK,cvO,aJ,aY,↓aO,aW,aE,aF,aM,aA,aC,aB,aN,ad,frz,aR,Nat.reduceBEq,Nat.reduceLT,reduceCtorEq,↓reduceIte,aL,AV.cellsOf,AV.fine,AV.one,aQ,Nat.reduceMul,Nat.reduceAdd,Nat.reduceLeDiff,Nat.reduceEqDiff,Int.reduceToNat,Nat.reduceSub,Nat.reduceMod,Nat.reduceDiv,indexK.aggOf,Int.reducePow,Int.reduceLE,Int.reduceNeg,Int.reduceLT,Int.reduceBEq,Int.reduceBNe,Int.reduceEq,aZ,aU,Try.facts,hc]
    intro k hk0 hk
    try simp (disch := omega) only [↓aI,aD,aG,ixA,aX,aV,ag,aT,ae,mkA,ab,bnd,aS,aH,aK,cvO,aJ,aY,↓aO,aW,aE,aF,aM,aA,aC,aB,aN,ad,frz,aR,Nat.reduceBEq,Nat.reduceLT,reduceCtorEq,↓reduceIte,aL,AV.cellsOf,AV.fine,AV.one,aQ,Nat.reduceMul,Nat.reduceAdd,Nat.reduceLeDiff,Nat.reduceEqDiff,Int.reduceToNat,Nat.reduceSub,Nat.reduceMod,Nat.reduceDiv,indexK.aggOf,Int.reducePow,Int.reduceLE,Int.reduceNeg,Int.reduceLT,Int.reduceBEq,Int.reduceBNe,Int.reduceEq,aZ,aU,Try.facts,hc]
    intro k2 o2 hk20 hk2 ho2
    have hk2H := am hk2
    by_cases h128 : n < 128
    · have hd : digN 6 n = [UInt8.ofNat n] := by unfold digN; rw [if_pos h128]
      rw [hd]
      simp (disch := omega) only [↓aI,aD,aG,ixA,aX,aV,ag,aT,ae,mkA,ab,bnd,aS,aH,aK,cvO,aJ,aY,↓aO,aW,aE,aF,aM,aA,aC,aB,aN,ad,frz,aR,Nat.reduceBEq,Nat.reduceLT,reduceCtorEq,↓reduceIte,aL,AV.cellsOf,AV.fine,AV.one,aQ,Nat.reduceMul,Nat.reduceAdd,Nat.reduceLeDiff,Nat.reduceEqDiff,Int.reduceToNat,Nat.reduceSub,Nat.reduceMod,Nat.reduceDiv,indexK.aggOf,Int.reducePow,Int.reduceLE,Int.reduceNeg,Int.reduceLT,Int.reduceBEq,Int.reduceBNe,Int.reduceEq,aZ,aU,Try.facts,hc,h8,ho2,dT,dF,qT,qF,nT,nF,Bool.false_and,Bool.and_false,↓wcast8]
      intro k3 o3 hk30 hk3 ho3
      rw [← List.length_singleton (a := UInt8.ofNat n),← List.length_append]
      exact ⟨rfl,Sub.set_new (am hk3)⟩
    · have hd : digN 6 n = UInt8.ofNat (128 + n % 128) :: digN 5 (n / 128) := by show (if _ then _ else _) = _; rw [if_neg h128]
      have ha := and127 (a := n) (by omega)
      have hb2 := or128 (a := n % 128) (by omega)
      simp (disch := omega) only [↓aI,aD,aG,ixA,aX,aV,ag,aT,ae,mkA,ab,bnd,aS,aH,aK,cvO,aJ,aY,↓aO,aW,aE,aF,aM,aA,aC,aB,aN,ad,frz,aR,Nat.reduceBEq,Nat.reduceLT,reduceCtorEq,↓reduceIte,aL,AV.cellsOf,AV.fine,AV.one,aQ,Nat.reduceMul,Nat.reduceAdd,Nat.reduceLeDiff,Nat.reduceEqDiff,Int.reduceToNat,Nat.reduceSub,Nat.reduceMod,Nat.reduceDiv,indexK.aggOf,Int.reducePow,Int.reduceLE,Int.reduceNeg,Int.reduceLT,Int.reduceBEq,Int.reduceBNe,Int.reduceEq,aZ,aU,Try.facts,hc,h8,ho2,dT,dF,qT,qF,nT,nF,Bool.false_and,Bool.and_false,ha,hb2,↓wcast8,shr7]
      intro k3 o3 hk30 hk3 ho3
      refine ⟨5,b ++ [UInt8.ofNat (128 + n % 128)],5,n / 128,k3,o3,rfl,by omega,by omega,by omega,by rw [hd,List.append_assoc]; rfl,by simp only [List.length_append,List.length_singleton]; omega,hk30,am hk3,set_get,by simpa using ho3,?_,rfl,by rw [List.length_append]; rfl⟩
      exact Sub.set_new (am hk3)
  · rintro mm σ H' ⟨A,f,m,k,o,rfl,hf,hm,hm2,hA,hAl,hk0,hk,vk,ho,hs,s1,s5⟩
    have hg := encB_len A
    by_cases h128 : m < 128
    · have hd : digN mm m = [UInt8.ofNat m] := by
        cases mm with
        | zero => rfl
        | succ f => unfold digN; rw [if_pos h128]
      rw [hd] at hA
      simp (disch := omega) only [↓aI,aD,aG,ixA,aX,aV,ag,aT,ae,mkA,ab,bnd,aS,aH,aK,cvO,aJ,aY,↓aO,aW,aE,aF,aM,aA,aC,aB,aN,ad,frz,aR,Nat.reduceBEq,Nat.reduceLT,reduceCtorEq,↓reduceIte,aL,AV.cellsOf,AV.fine,AV.one,aQ,Nat.reduceMul,Nat.reduceAdd,Nat.reduceLeDiff,Nat.reduceEqDiff,Int.reduceToNat,Nat.reduceSub,Nat.reduceMod,Nat.reduceDiv,indexK.aggOf,Int.reducePow,Int.reduceLE,Int.reduceNeg,Int.reduceLT,Int.reduceBEq,Int.reduceBNe,Int.reduceEq,aZ,aU,Try.facts,s1,s5,vk,hg,ho,dT,dF,qT,qF,nT,nF,Bool.false_and,Bool.and_false,↓wcast8]
      intro k3 o3 hk30 hk3 ho3
      rw [← hA,← List.length_singleton (a := UInt8.ofNat m),← List.length_append]
      exact ⟨rfl,(hs.kill_free hk).set_free (hs.free hk3)⟩
    · obtain ⟨f, rfl⟩ : ∃ f, mm = f + 1 := by
        cases mm with
        | zero => exact absurd hm (by omega)
        | succ f => exact ⟨f,rfl⟩
      have hd : digN (f + 1) m = UInt8.ofNat (128 + m % 128) :: digN f (m / 128) := by show (if _ then _ else _) = _; rw [if_neg h128]
      have ha := and127 (a := m) (by omega)
      have hb2 := or128 (a := m % 128) (by omega)
      simp (disch := omega) only [↓aI,aD,aG,ixA,aX,aV,ag,aT,ae,mkA,ab,bnd,aS,aH,aK,cvO,aJ,aY,↓aO,aW,aE,aF,aM,aA,aC,aB,aN,ad,frz,aR,Nat.reduceBEq,Nat.reduceLT,reduceCtorEq,↓reduceIte,aL,AV.cellsOf,AV.fine,AV.one,aQ,Nat.reduceMul,Nat.reduceAdd,Nat.reduceLeDiff,Nat.reduceEqDiff,Int.reduceToNat,Nat.reduceSub,Nat.reduceMod,Nat.reduceDiv,indexK.aggOf,Int.reducePow,Int.reduceLE,Int.reduceNeg,Int.reduceLT,Int.reduceBEq,Int.reduceBNe,Int.reduceEq,aZ,aU,Try.facts,s1,s5,vk,hg,ho,dT,dF,qT,qF,nT,nF,Bool.false_and,Bool.and_false,ha,hb2,↓wcast8,shr7]
      intro k3 o3 hk30 hk3 ho3
      refine ⟨f,by omega,A ++ [UInt8.ofNat (128 + m % 128)],f,m / 128,k3,o3,rfl,by omega,by rw [Nat.pow_succ] at hm; omega,by omega,by rw [← hA,hd,List.append_assoc]; rfl,by simp only [List.length_append,List.length_singleton]; omega,hk30,hs.free hk3,set_get,by simpa using ho3,?_,rfl,by rw [List.length_append]; rfl⟩
      exact (hs.kill_free hk).set_free (hs.free hk3)
def vid (x : EId) : List UInt8 := vnum x.1 ++ vnum x.2
def vfl (y : Bool) : List UInt8 := vnum (if y then 1 else 0)
def van (x : EId) (y : Bool) : List UInt8 := vid x ++ vfl y
theorem vid_length (x : EId) : (vid x).length ≤ 14 := by
  have h1 := vnum_length x.1
  have h2 := vnum_length x.2
  simp only [vid,List.length_append]; omega
theorem vfl_length (y : Bool) : (vfl y).length ≤ 7 := vnum_length _
theorem wflag_pure (b : List UInt8) (hb : b.length ≤ 4000000) (y : Bool) : APure Try.prog 78 [bytesV b,.sc (.bool y)] (bytesV (b ++ vfl y)) := by
  unfold vfl
  cases y
  · have h0 := wnum_pure b hb 0
    simp only [Bool.false_eq_true,if_false]
    generalize b ++ vnum 0 = r at *
    refine az (c := ⟨Try.prog,10,[],[],[]⟩) (rs := [ResultVar.tmp 4]) Try.mixed Try.func78 rfl rfl rfl (Nat.le_of_ble_eq_true rfl) (by kernel_rfl) fun H => ?_
    simp (disch := omega) only [↓aI,aD,aG,ixA,aX,aV,ag,aT,ae,mkA,ab,bnd,aS,aH,aK,cvO,aJ,aY,↓aO,aW,aE,aF,aM,aA,aC,aB,aN,ad,frz,aR,Nat.reduceBEq,Nat.reduceLT,reduceCtorEq,↓reduceIte,aL,AV.cellsOf,AV.fine,AV.one,aQ,Nat.reduceMul,Nat.reduceAdd,Nat.reduceLeDiff,Nat.reduceEqDiff,Int.reduceToNat,Nat.reduceSub,Nat.reduceMod,Nat.reduceDiv,indexK.aggOf,Int.reducePow,Int.reduceLE,Int.reduceNeg,Int.reduceLT,Int.reduceBEq,Int.reduceBNe,Int.reduceEq,aZ,aU,Try.facts]
    first | refine CallK.p (h0) ?_ | refine CallP.i (h0) ?_
    simp (disch := omega) only [↓aI,aD,aG,ixA,aX,aV,ag,aT,ae,mkA,ab,bnd,aS,aH,aK,cvO,aJ,aY,↓aO,aW,aE,aF,aM,aA,aC,aB,aN,ad,frz,aR,Nat.reduceBEq,Nat.reduceLT,reduceCtorEq,↓reduceIte,aL,AV.cellsOf,AV.fine,AV.one,aQ,Nat.reduceMul,Nat.reduceAdd,Nat.reduceLeDiff,Nat.reduceEqDiff,Int.reduceToNat,Nat.reduceSub,Nat.reduceMod,Nat.reduceDiv,indexK.aggOf,Int.reducePow,Int.reduceLE,Int.reduceNeg,Int.reduceLT,Int.reduceBEq,Int.reduceBNe,Int.reduceEq,aZ,aU,Try.facts]
    exact Abs.Sub.refl _
  · have h0 := wnum_pure b hb 1
    simp only [if_true]
    generalize b ++ vnum 1 = r at *
    refine az (c := ⟨Try.prog,10,[],[],[]⟩) (rs := [ResultVar.tmp 4]) Try.mixed Try.func78 rfl rfl rfl (Nat.le_of_ble_eq_true rfl) (by kernel_rfl) fun H => ?_
    simp (disch := omega) only [↓aI,aD,aG,ixA,aX,aV,ag,aT,ae,mkA,ab,bnd,aS,aH,aK,cvO,aJ,aY,↓aO,aW,aE,aF,aM,aA,aC,aB,aN,ad,frz,aR,Nat.reduceBEq,Nat.reduceLT,reduceCtorEq,↓reduceIte,aL,AV.cellsOf,AV.fine,AV.one,aQ,Nat.reduceMul,Nat.reduceAdd,Nat.reduceLeDiff,Nat.reduceEqDiff,Int.reduceToNat,Nat.reduceSub,Nat.reduceMod,Nat.reduceDiv,indexK.aggOf,Int.reducePow,Int.reduceLE,Int.reduceNeg,Int.reduceLT,Int.reduceBEq,Int.reduceBNe,Int.reduceEq,aZ,aU,Try.facts]
    first | refine CallK.p (h0) ?_ | refine CallP.i (h0) ?_
    simp (disch := omega) only [↓aI,aD,aG,ixA,aX,aV,ag,aT,ae,mkA,ab,bnd,aS,aH,aK,cvO,aJ,aY,↓aO,aW,aE,aF,aM,aA,aC,aB,aN,ad,frz,aR,Nat.reduceBEq,Nat.reduceLT,reduceCtorEq,↓reduceIte,aL,AV.cellsOf,AV.fine,AV.one,aQ,Nat.reduceMul,Nat.reduceAdd,Nat.reduceLeDiff,Nat.reduceEqDiff,Int.reduceToNat,Nat.reduceSub,Nat.reduceMod,Nat.reduceDiv,indexK.aggOf,Int.reducePow,Int.reduceLE,Int.reduceNeg,Int.reduceLT,Int.reduceBEq,Int.reduceBNe,Int.reduceEq,aZ,aU,Try.facts]
    exact Abs.Sub.refl _
theorem rflag_pure (b : List UInt8) (hb : b.length ≤ 4000000) (y : Bool) : APure Try.prog 82 [bytesV b,.sc (.bool y)] (bytesV (b ++ vfl y)) := by
  unfold vfl
  cases y
  · have h0 := rnum_pure b hb 0
    simp only [Bool.false_eq_true,if_false]
    generalize b ++ vnum 0 = r at *
    refine az (c := ⟨Try.prog,10,[],[],[]⟩) (rs := [ResultVar.tmp 4]) Try.mixed Try.func82 rfl rfl rfl (Nat.le_of_ble_eq_true rfl) (by kernel_rfl) fun H => ?_
    simp (disch := omega) only [↓aI,aD,aG,ixA,aX,aV,ag,aT,ae,mkA,ab,bnd,aS,aH,aK,cvO,aJ,aY,↓aO,aW,aE,aF,aM,aA,aC,aB,aN,ad,frz,aR,Nat.reduceBEq,Nat.reduceLT,reduceCtorEq,↓reduceIte,aL,AV.cellsOf,AV.fine,AV.one,aQ,Nat.reduceMul,Nat.reduceAdd,Nat.reduceLeDiff,Nat.reduceEqDiff,Int.reduceToNat,Nat.reduceSub,Nat.reduceMod,Nat.reduceDiv,indexK.aggOf,Int.reducePow,Int.reduceLE,Int.reduceNeg,Int.reduceLT,Int.reduceBEq,Int.reduceBNe,Int.reduceEq,aZ,aU,Try.facts]
    first | refine CallK.p (h0) ?_ | refine CallP.i (h0) ?_
    simp (disch := omega) only [↓aI,aD,aG,ixA,aX,aV,ag,aT,ae,mkA,ab,bnd,aS,aH,aK,cvO,aJ,aY,↓aO,aW,aE,aF,aM,aA,aC,aB,aN,ad,frz,aR,Nat.reduceBEq,Nat.reduceLT,reduceCtorEq,↓reduceIte,aL,AV.cellsOf,AV.fine,AV.one,aQ,Nat.reduceMul,Nat.reduceAdd,Nat.reduceLeDiff,Nat.reduceEqDiff,Int.reduceToNat,Nat.reduceSub,Nat.reduceMod,Nat.reduceDiv,indexK.aggOf,Int.reducePow,Int.reduceLE,Int.reduceNeg,Int.reduceLT,Int.reduceBEq,Int.reduceBNe,Int.reduceEq,aZ,aU,Try.facts]
    exact Abs.Sub.refl _
  · have h0 := rnum_pure b hb 1
    simp only [if_true]
    generalize b ++ vnum 1 = r at *
    refine az (c := ⟨Try.prog,10,[],[],[]⟩) (rs := [ResultVar.tmp 4]) Try.mixed Try.func82 rfl rfl rfl (Nat.le_of_ble_eq_true rfl) (by kernel_rfl) fun H => ?_
    simp (disch := omega) only [↓aI,aD,aG,ixA,aX,aV,ag,aT,ae,mkA,ab,bnd,aS,aH,aK,cvO,aJ,aY,↓aO,aW,aE,aF,aM,aA,aC,aB,aN,ad,frz,aR,Nat.reduceBEq,Nat.reduceLT,reduceCtorEq,↓reduceIte,aL,AV.cellsOf,AV.fine,AV.one,aQ,Nat.reduceMul,Nat.reduceAdd,Nat.reduceLeDiff,Nat.reduceEqDiff,Int.reduceToNat,Nat.reduceSub,Nat.reduceMod,Nat.reduceDiv,indexK.aggOf,Int.reducePow,Int.reduceLE,Int.reduceNeg,Int.reduceLT,Int.reduceBEq,Int.reduceBNe,Int.reduceEq,aZ,aU,Try.facts]
    first | refine CallK.p (h0) ?_ | refine CallP.i (h0) ?_
    simp (disch := omega) only [↓aI,aD,aG,ixA,aX,aV,ag,aT,ae,mkA,ab,bnd,aS,aH,aK,cvO,aJ,aY,↓aO,aW,aE,aF,aM,aA,aC,aB,aN,ad,frz,aR,Nat.reduceBEq,Nat.reduceLT,reduceCtorEq,↓reduceIte,aL,AV.cellsOf,AV.fine,AV.one,aQ,Nat.reduceMul,Nat.reduceAdd,Nat.reduceLeDiff,Nat.reduceEqDiff,Int.reduceToNat,Nat.reduceSub,Nat.reduceMod,Nat.reduceDiv,indexK.aggOf,Int.reducePow,Int.reduceLE,Int.reduceNeg,Int.reduceLT,Int.reduceBEq,Int.reduceBNe,Int.reduceEq,aZ,aU,Try.facts]
    exact Abs.Sub.refl _
theorem rnum18_pure (b : List UInt8) (hb : b.length ≤ 4000000) (z : Int) : APure Try.prog 81 [bytesV b,.sc (.int .i64 z)] (bytesV (b ++ vnum z)) := by
  have h0 := rnum_pure b hb z
  generalize b ++ vnum z = r at *
  refine az (c := ⟨Try.prog,8,[],[],[]⟩) (rs := [ResultVar.tmp 4]) Try.mixed Try.func81 rfl rfl rfl (Nat.le_of_ble_eq_true rfl) (by kernel_rfl) fun H => ?_
  simp (disch := omega) only [↓aI,aD,aG,ixA,aX,aV,ag,aT,ae,mkA,ab,bnd,aS,aH,aK,cvO,aJ,aY,↓aO,aW,aE,aF,aM,aA,aC,aB,aN,ad,frz,aR,Nat.reduceBEq,Nat.reduceLT,reduceCtorEq,↓reduceIte,aL,AV.cellsOf,AV.fine,AV.one,aQ,Nat.reduceMul,Nat.reduceAdd,Nat.reduceLeDiff,Nat.reduceEqDiff,Int.reduceToNat,Nat.reduceSub,Nat.reduceMod,Nat.reduceDiv,indexK.aggOf,Int.reducePow,Int.reduceLE,Int.reduceNeg,Int.reduceLT,Int.reduceBEq,Int.reduceBNe,Int.reduceEq,aZ,aU,Try.facts]
  first | refine CallK.p (h0) ?_ | refine CallP.i (h0) ?_
  simp (disch := omega) only [↓aI,aD,aG,ixA,aX,aV,ag,aT,ae,mkA,ab,bnd,aS,aH,aK,cvO,aJ,aY,↓aO,aW,aE,aF,aM,aA,aC,aB,aN,ad,frz,aR,Nat.reduceBEq,Nat.reduceLT,reduceCtorEq,↓reduceIte,aL,AV.cellsOf,AV.fine,AV.one,aQ,Nat.reduceMul,Nat.reduceAdd,Nat.reduceLeDiff,Nat.reduceEqDiff,Int.reduceToNat,Nat.reduceSub,Nat.reduceMod,Nat.reduceDiv,indexK.aggOf,Int.reducePow,Int.reduceLE,Int.reduceNeg,Int.reduceLT,Int.reduceBEq,Int.reduceBNe,Int.reduceEq,aZ,aU,Try.facts]
  exact Abs.Sub.refl _
theorem rid_pure (b : List UInt8) (hb : b.length ≤ 3999990) (x : EId) : APure Try.prog 83 [bytesV b,idV x] (bytesV (b ++ vid x)) := by
  obtain ⟨x1,x2⟩ := x
  have h1 := rnum18_pure b (by omega) x1
  have hl := vnum_length x1
  have h2 := rnum18_pure (b ++ vnum x1) (by rw [List.length_append]; omega) x2
  rw [List.append_assoc] at h2
  unfold vid
  generalize b ++ (vnum x1 ++ vnum x2) = r at *
  generalize b ++ vnum x1 = c at *
  refine az (c := ⟨Try.prog,12,[(1,[0,0,1,0,0,1,0,0]),(1000000,[3])],[],[]⟩) (rs := [ResultVar.tmp 4]) Try.mixed Try.func83 rfl rfl rfl (Nat.le_of_ble_eq_true rfl) (by kernel_rfl) fun H => ?_
  simp (disch := omega) only [↓aI,aD,aG,ixA,aX,aV,ag,aT,ae,mkA,ab,bnd,aS,aH,aK,cvO,aJ,aY,↓aO,aW,aE,aF,aM,aA,aC,aB,aN,ad,frz,aR,Nat.reduceBEq,Nat.reduceLT,reduceCtorEq,↓reduceIte,aL,AV.cellsOf,AV.fine,AV.one,aQ,Nat.reduceMul,Nat.reduceAdd,Nat.reduceLeDiff,Nat.reduceEqDiff,Int.reduceToNat,Nat.reduceSub,Nat.reduceMod,Nat.reduceDiv,indexK.aggOf,Int.reducePow,Int.reduceLE,Int.reduceNeg,Int.reduceLT,Int.reduceBEq,Int.reduceBNe,Int.reduceEq,aZ,aU,Try.facts]
  intro k hk0 hk
  try simp (disch := omega) only [↓aI,aD,aG,ixA,aX,aV,ag,aT,ae,mkA,ab,bnd,aS,aH,aK,cvO,aJ,aY,↓aO,aW,aE,aF,aM,aA,aC,aB,aN,ad,frz,aR,Nat.reduceBEq,Nat.reduceLT,reduceCtorEq,↓reduceIte,aL,AV.cellsOf,AV.fine,AV.one,aQ,Nat.reduceMul,Nat.reduceAdd,Nat.reduceLeDiff,Nat.reduceEqDiff,Int.reduceToNat,Nat.reduceSub,Nat.reduceMod,Nat.reduceDiv,indexK.aggOf,Int.reducePow,Int.reduceLE,Int.reduceNeg,Int.reduceLT,Int.reduceBEq,Int.reduceBNe,Int.reduceEq,aZ,aU,Try.facts,aj hk,ah]
  first | refine CallK.p (h1) ?_ | refine CallP.i (h1) ?_
  simp (disch := omega) only [↓aI,aD,aG,ixA,aX,aV,ag,aT,ae,mkA,ab,bnd,aS,aH,aK,cvO,aJ,aY,↓aO,aW,aE,aF,aM,aA,aC,aB,aN,ad,frz,aR,Nat.reduceBEq,Nat.reduceLT,reduceCtorEq,↓reduceIte,aL,AV.cellsOf,AV.fine,AV.one,aQ,Nat.reduceMul,Nat.reduceAdd,Nat.reduceLeDiff,Nat.reduceEqDiff,Int.reduceToNat,Nat.reduceSub,Nat.reduceMod,Nat.reduceDiv,indexK.aggOf,Int.reducePow,Int.reduceLE,Int.reduceNeg,Int.reduceLT,Int.reduceBEq,Int.reduceBNe,Int.reduceEq,aZ,aU,Try.facts,aj hk]
  first | refine CallK.p (h2) ?_ | refine CallP.i (h2) ?_
  simp (disch := omega) only [↓aI,aD,aG,ixA,aX,aV,ag,aT,ae,mkA,ab,bnd,aS,aH,aK,cvO,aJ,aY,↓aO,aW,aE,aF,aM,aA,aC,aB,aN,ad,frz,aR,Nat.reduceBEq,Nat.reduceLT,reduceCtorEq,↓reduceIte,aL,AV.cellsOf,AV.fine,AV.one,aQ,Nat.reduceMul,Nat.reduceAdd,Nat.reduceLeDiff,Nat.reduceEqDiff,Int.reduceToNat,Nat.reduceSub,Nat.reduceMod,Nat.reduceDiv,indexK.aggOf,Int.reducePow,Int.reduceLE,Int.reduceNeg,Int.reduceLT,Int.reduceBEq,Int.reduceBNe,Int.reduceEq,aZ,aU,Try.facts,aj hk]
  exact Abs.Sub.refl _
abbrev ancV (x : EId) (y : Bool) : AV := .agg [.sc (.int .i64 x.1),.sc (.int .i64 x.2),.sc (.bool y)]
theorem ranchor_pure (b : List UInt8) (hb : b.length ≤ 3999900) (x : EId) (y : Bool) : APure Try.prog 84 [bytesV b,ancV x y] (bytesV (b ++ van x y)) := by
  obtain ⟨x1,x2⟩ := x
  have h1 := rid_pure b (by omega) (x1,x2)
  have hl := vid_length (x1,x2)
  have h2 := rflag_pure (b ++ vid (x1,x2)) (by rw [List.length_append]; omega) y
  rw [List.append_assoc] at h2
  unfold van
  generalize b ++ (vid (x1,x2) ++ vfl y) = r at *
  generalize b ++ vid (x1,x2) = c at *
  refine az (c := ⟨Try.prog,12,[(1,[0,0,1,0,0,1,0,0]),(1000000,[3])],[],[]⟩) (rs := [ResultVar.tmp 4]) Try.mixed Try.func84 rfl rfl rfl (Nat.le_of_ble_eq_true rfl) (by kernel_rfl) fun H => ?_
  simp (disch := omega) only [↓aI,aD,aG,ixA,aX,aV,ag,aT,ae,mkA,ab,bnd,aS,aH,aK,cvO,aJ,aY,↓aO,aW,aE,aF,aM,aA,aC,aB,aN,ad,frz,aR,Nat.reduceBEq,Nat.reduceLT,reduceCtorEq,↓reduceIte,aL,AV.cellsOf,AV.fine,AV.one,aQ,Nat.reduceMul,Nat.reduceAdd,Nat.reduceLeDiff,Nat.reduceEqDiff,Int.reduceToNat,Nat.reduceSub,Nat.reduceMod,Nat.reduceDiv,indexK.aggOf,Int.reducePow,Int.reduceLE,Int.reduceNeg,Int.reduceLT,Int.reduceBEq,Int.reduceBNe,Int.reduceEq,aZ,aU,Try.facts]
  intro k hk0 hk
  try simp (disch := omega) only [↓aI,aD,aG,ixA,aX,aV,ag,aT,ae,mkA,ab,bnd,aS,aH,aK,cvO,aJ,aY,↓aO,aW,aE,aF,aM,aA,aC,aB,aN,ad,frz,aR,Nat.reduceBEq,Nat.reduceLT,reduceCtorEq,↓reduceIte,aL,AV.cellsOf,AV.fine,AV.one,aQ,Nat.reduceMul,Nat.reduceAdd,Nat.reduceLeDiff,Nat.reduceEqDiff,Int.reduceToNat,Nat.reduceSub,Nat.reduceMod,Nat.reduceDiv,indexK.aggOf,Int.reducePow,Int.reduceLE,Int.reduceNeg,Int.reduceLT,Int.reduceBEq,Int.reduceBNe,Int.reduceEq,aZ,aU,Try.facts,aj hk,ah]
  first | refine CallK.p (h1) ?_ | refine CallP.i (h1) ?_
  simp (disch := omega) only [↓aI,aD,aG,ixA,aX,aV,ag,aT,ae,mkA,ab,bnd,aS,aH,aK,cvO,aJ,aY,↓aO,aW,aE,aF,aM,aA,aC,aB,aN,ad,frz,aR,Nat.reduceBEq,Nat.reduceLT,reduceCtorEq,↓reduceIte,aL,AV.cellsOf,AV.fine,AV.one,aQ,Nat.reduceMul,Nat.reduceAdd,Nat.reduceLeDiff,Nat.reduceEqDiff,Int.reduceToNat,Nat.reduceSub,Nat.reduceMod,Nat.reduceDiv,indexK.aggOf,Int.reducePow,Int.reduceLE,Int.reduceNeg,Int.reduceLT,Int.reduceBEq,Int.reduceBNe,Int.reduceEq,aZ,aU,Try.facts,aj hk]
  first | refine CallK.p (h2) ?_ | refine CallP.i (h2) ?_
  simp (disch := omega) only [↓aI,aD,aG,ixA,aX,aV,ag,aT,ae,mkA,ab,bnd,aS,aH,aK,cvO,aJ,aY,↓aO,aW,aE,aF,aM,aA,aC,aB,aN,ad,frz,aR,Nat.reduceBEq,Nat.reduceLT,reduceCtorEq,↓reduceIte,aL,AV.cellsOf,AV.fine,AV.one,aQ,Nat.reduceMul,Nat.reduceAdd,Nat.reduceLeDiff,Nat.reduceEqDiff,Int.reduceToNat,Nat.reduceSub,Nat.reduceMod,Nat.reduceDiv,indexK.aggOf,Int.reducePow,Int.reduceLE,Int.reduceNeg,Int.reduceLT,Int.reduceBEq,Int.reduceBNe,Int.reduceEq,aZ,aU,Try.facts,aj hk]
  exact Abs.Sub.refl _
def vnums (l : List Int) : List UInt8 := l.flatMap vnum
theorem vnums_length (l : List Int) : (vnums l).length ≤ l.length * 7 := by
  induction l with
  | nil => simp [vnums]
  | cons z l ih =>
    have := vnum_length z
    simp only [vnums,List.flatMap_cons,List.length_append,List.length_cons] at *
    omega
theorem numbers_pure (b : List UInt8) (hb : b.length ≤ 3999900) (l : List Int) (hll : l.length ≤ 4) : APure Try.prog 79 [bytesV b,.imm 0 (l.map fun z => .sc (.int .i64 z)) l.length] (bytesV (b ++ vnums l)) := by
  have hw := fun b hb z => wnum_pure b hb z
  have hlen : (l.map fun z => (AV.sc (.int .i64 z))).length = l.length := by simp
  have hget : ∀ i (h : i < l.length),(l.map fun z => (AV.sc (.int .i64 z)))[i]? = some (.sc (.int .i64 l[i])) := fun i h => by simp [h]
  generalize hC : (l.map fun z => (AV.sc (.int .i64 z))) = C at *
  have hr : ∀ i,(b ++ vnums (l.take i)).length ≤ 3999928 := fun i => by
    have := vnums_length (l.take i)
    rw [List.length_append]
    have h2 : (l.take i).length ≤ 4 := by rw [List.length_take]; omega
    omega
  have hst : ∀ i (h : i < l.length),b ++ vnums (l.take (i + 1)) = (b ++ vnums (l.take i)) ++ vnum l[i] := fun i h => by
    rw [List.take_succ_eq_append_getElem h]
    unfold vnums
    rw [List.flatMap_append,List.append_assoc]
    simp only [List.flatMap_cons,List.flatMap_nil,List.append_nil]
  refine az (c := ⟨Try.prog,18,[],[],[]⟩) (rs := [ResultVar.tmp 4]) Try.mixed Try.func79 rfl rfl rfl (Nat.le_of_ble_eq_true rfl) (by kernel_rfl) fun H => ?_
  simp (disch := omega) only [↓aI,aD,aG,ixA,aX,aV,ag,aT,ae,mkA,ab,bnd,aS,aH,aK,cvO,aJ,aY,↓aO,aW,aE,aF,aM,aA,aC,aB,aN,ad,frz,aR,Nat.reduceBEq,Nat.reduceLT,reduceCtorEq,↓reduceIte,aL,AV.cellsOf,AV.fine,AV.one,aQ,Nat.reduceMul,Nat.reduceAdd,Nat.reduceLeDiff,Nat.reduceEqDiff,Int.reduceToNat,Nat.reduceSub,Nat.reduceMod,Nat.reduceDiv,indexK.aggOf,Int.reducePow,Int.reduceLE,Int.reduceNeg,Int.reduceLT,Int.reduceBEq,Int.reduceBNe,Int.reduceEq,aZ,aU,Try.facts]
  refine br (c := ⟨Try.prog,18,[],[],[]⟩) Try.mixed (by kernel_rfl) (fun mm σ H' => H' = H ∧ ∃ i,i + mm = l.length ∧ σ 0 = bytesV (b ++ vnums (l.take i)) ∧ σ 7 = .imm 0 C l.length ∧ σ 8 = .sc (.int .i64 (l.length : Nat)) ∧ σ 9 = .sc (.int .i64 (i : Nat))) l.length ?_ ?_
  · refine ⟨rfl,0,by omega,?_⟩
    rw [List.take_zero,show vnums [] = [] from rfl,List.append_nil]
    simp (disch := omega) only [↓aI,aD,aG,ixA,aX,aV,ag,aT,ae,mkA,ab,bnd,aS,aH,aK,cvO,aJ,aY,↓aO,aW,aE,aF,aM,aA,aC,aB,aN,ad,frz,aR,Nat.reduceBEq,Nat.reduceLT,reduceCtorEq,↓reduceIte,aL,AV.cellsOf,AV.fine,AV.one,aQ,Nat.reduceMul,Nat.reduceAdd,Nat.reduceLeDiff,Nat.reduceEqDiff,Int.reduceToNat,Nat.reduceSub,Nat.reduceMod,Nat.reduceDiv,indexK.aggOf,Int.reducePow,Int.reduceLE,Int.reduceNeg,Int.reduceLT,Int.reduceBEq,Int.reduceBNe,Int.reduceEq,aZ,aU,Try.facts]
  · rintro mm σ H' ⟨rfl,i,hi,s0,s7,s8,s9⟩
    by_cases hlt : i < l.length
    · have h1 := hw (b ++ vnums (l.take i)) (by have := hr i; omega) l[i]
      have hg := hget i hlt
      have hs := hst i hlt
      rw [← hs] at h1
      generalize b ++ vnums (l.take i) = r0 at *
      generalize hr1 : b ++ vnums (l.take (i + 1)) = r1 at *
      simp (disch := omega) only [↓aI,aD,aG,ixA,aX,aV,ag,aT,ae,mkA,ab,bnd,aS,aH,aK,cvO,aJ,aY,↓aO,aW,aE,aF,aM,aA,aC,aB,aN,ad,frz,aR,Nat.reduceBEq,Nat.reduceLT,reduceCtorEq,↓reduceIte,aL,AV.cellsOf,AV.fine,AV.one,aQ,Nat.reduceMul,Nat.reduceAdd,Nat.reduceLeDiff,Nat.reduceEqDiff,Int.reduceToNat,Nat.reduceSub,Nat.reduceMod,Nat.reduceDiv,indexK.aggOf,Int.reducePow,Int.reduceLE,Int.reduceNeg,Int.reduceLT,Int.reduceBEq,Int.reduceBNe,Int.reduceEq,aZ,aU,Try.facts,s0,s7,s8,s9,dT,dF,qT,qF,nT,nF,Bool.false_and,Bool.and_false,hg,hlen]
      first | refine CallK.p (h1) ?_ | refine CallP.i (h1) ?_
      simp (disch := omega) only [↓aI,aD,aG,ixA,aX,aV,ag,aT,ae,mkA,ab,bnd,aS,aH,aK,cvO,aJ,aY,↓aO,aW,aE,aF,aM,aA,aC,aB,aN,ad,frz,aR,Nat.reduceBEq,Nat.reduceLT,reduceCtorEq,↓reduceIte,aL,AV.cellsOf,AV.fine,AV.one,aQ,Nat.reduceMul,Nat.reduceAdd,Nat.reduceLeDiff,Nat.reduceEqDiff,Int.reduceToNat,Nat.reduceSub,Nat.reduceMod,Nat.reduceDiv,indexK.aggOf,Int.reducePow,Int.reduceLE,Int.reduceNeg,Int.reduceLT,Int.reduceBEq,Int.reduceBNe,Int.reduceEq,aZ,aU,Try.facts,s0,s7,s8,s9,dT,dF,qT,qF,nT,nF,Bool.false_and,Bool.and_false,hg]
      exact ⟨mm - 1,by omega,i + 1,by omega,by rw [hr1],rfl⟩
    · obtain rfl : i = l.length := by omega
      rw [List.take_length] at s0
      generalize b ++ vnums l = r at *
      simp (disch := omega) only [↓aI,aD,aG,ixA,aX,aV,ag,aT,ae,mkA,ab,bnd,aS,aH,aK,cvO,aJ,aY,↓aO,aW,aE,aF,aM,aA,aC,aB,aN,ad,frz,aR,Nat.reduceBEq,Nat.reduceLT,reduceCtorEq,↓reduceIte,aL,AV.cellsOf,AV.fine,AV.one,aQ,Nat.reduceMul,Nat.reduceAdd,Nat.reduceLeDiff,Nat.reduceEqDiff,Int.reduceToNat,Nat.reduceSub,Nat.reduceMod,Nat.reduceDiv,indexK.aggOf,Int.reducePow,Int.reduceLE,Int.reduceNeg,Int.reduceLT,Int.reduceBEq,Int.reduceBNe,Int.reduceEq,aZ,aU,Try.facts,s0,s7,s8,s9,dT,dF,qT,qF,nT,nF,Bool.false_and,Bool.and_false]
      exact Abs.Sub.refl _
end Go.Proofs.Ytimonfakmadhpaa
end
section
set_option linter.unusedSimpArgs false
set_option linter.unusedVariables false
set_option maxRecDepth 8000
set_option maxHeartbeats 4000000
namespace Go.Proofs.Ytimonfakmadhpaa
open Go Go.Abs Go.Proofs Go.Fug
def vIns (o : Opn) : List UInt8 := vid o.ins.id ++ vid o.ins.par ++ vfl o.ins.right ++ vnum (IntKind.i64.wrap o.ins.rune)
def vMar (m : Mk) : List UInt8 := vnum m.clock ++ vnum m.author ++ van m.fid m.fb ++ van m.tid m.tb ++ vnum m.name ++ vnum m.value
def vop (o : Opn) : List UInt8 := vnum o.kind ++ (if o.kind = 1 then vIns o else if o.kind = 2 then vid o.drop else if o.kind = 3 then vMar o.mar else [])
def vops (l : List Opn) : List UInt8 := l.flatMap vop
def vput (b : List UInt8) (l : List Opn) : List UInt8 := b ++ vnum l.length ++ vops l
theorem vop_length (o : Opn) : (vop o).length ≤ 100 := by
  have h0 := vnum_length o.kind
  have h1 := vid_length o.ins.id
  have h2 := vid_length o.ins.par
  have h3 := vfl_length o.ins.right
  have h4 := vnum_length (IntKind.i64.wrap o.ins.rune)
  have h5 := vid_length o.drop
  have h6 := vnum_length o.mar.clock
  have h7 := vnum_length o.mar.author
  have h8 := vid_length o.mar.fid
  have h9 := vid_length o.mar.tid
  have h10 := vfl_length o.mar.fb
  have h11 := vfl_length o.mar.tb
  have h12 := vnum_length o.mar.name
  have h13 := vnum_length o.mar.value
  unfold vop
  rw [List.length_append]
  split
  · simp only [vIns,List.length_append]; omega
  · split
    · omega
    · split
      · simp only [vMar,van,List.length_append]; omega
      · simp only [List.length_nil]; omega
theorem vops_length (l : List Opn) : (vops l).length ≤ l.length * 100 := by
  induction l with
  | nil => simp [vops]
  | cons o l ih =>
    have := vop_length o
    simp only [vops,List.flatMap_cons,List.length_append,List.length_cons] at *
    omega
theorem putAnchor_pure (b : List UInt8) (hb : b.length ≤ 3999000) (x : EId) (y : Bool) : APure Try.prog 80 [bytesV b,ancV x y] (bytesV (b ++ van x y)) := by
  obtain ⟨x1,x2⟩ := x
  have h1 := numbers_pure b (by omega) [x1,x2] (by simp)
  have hl := vid_length (x1,x2)
  have h2 := wflag_pure (b ++ vid (x1,x2)) (by rw [List.length_append]; omega) y
  rw [List.append_assoc] at h2
  rw [show vnums [x1,x2] = vid (x1,x2) by simp [vnums,vid]] at h1
  unfold van
  generalize b ++ (vid (x1,x2) ++ vfl y) = r at *
  generalize b ++ vid (x1,x2) = c at *
  simp only [List.map_cons,List.map_nil,List.length_cons,List.length_nil,Nat.reduceAdd] at h1
  refine az (c := ⟨Try.prog,17,[(1,[0,0,0,1,0,0,1,0,0,0,1,0,0]),(1000000,[3])],[],[]⟩) (rs := [ResultVar.tmp 4]) Try.mixed Try.func80 rfl rfl rfl (Nat.le_of_ble_eq_true rfl) (by kernel_rfl) fun H => ?_
  simp (disch := omega) only [↓aI,aD,aG,ixA,aX,aV,ag,aT,ae,mkA,ab,bnd,aS,aH,aK,cvO,aJ,aY,↓aO,aW,aE,aF,aM,aA,aC,aB,aN,ad,frz,aR,Nat.reduceBEq,Nat.reduceLT,reduceCtorEq,↓reduceIte,aL,AV.cellsOf,AV.fine,AV.one,aQ,Nat.reduceMul,Nat.reduceAdd,Nat.reduceLeDiff,Nat.reduceEqDiff,Int.reduceToNat,Nat.reduceSub,Nat.reduceMod,Nat.reduceDiv,indexK.aggOf,Int.reducePow,Int.reduceLE,Int.reduceNeg,Int.reduceLT,Int.reduceBEq,Int.reduceBNe,Int.reduceEq,aZ,aU,Try.facts]
  intro k hk0 hk
  try simp (disch := omega) only [↓aI,aD,aG,ixA,aX,aV,ag,aT,ae,mkA,ab,bnd,aS,aH,aK,cvO,aJ,aY,↓aO,aW,aE,aF,aM,aA,aC,aB,aN,ad,frz,aR,Nat.reduceBEq,Nat.reduceLT,reduceCtorEq,↓reduceIte,aL,AV.cellsOf,AV.fine,AV.one,aQ,Nat.reduceMul,Nat.reduceAdd,Nat.reduceLeDiff,Nat.reduceEqDiff,Int.reduceToNat,Nat.reduceSub,Nat.reduceMod,Nat.reduceDiv,indexK.aggOf,Int.reducePow,Int.reduceLE,Int.reduceNeg,Int.reduceLT,Int.reduceBEq,Int.reduceBNe,Int.reduceEq,aZ,aU,Try.facts,aj hk,ah]
  first | refine CallK.p (h1) ?_ | refine CallP.i (h1) ?_
  simp (disch := omega) only [↓aI,aD,aG,ixA,aX,aV,ag,aT,ae,mkA,ab,bnd,aS,aH,aK,cvO,aJ,aY,↓aO,aW,aE,aF,aM,aA,aC,aB,aN,ad,frz,aR,Nat.reduceBEq,Nat.reduceLT,reduceCtorEq,↓reduceIte,aL,AV.cellsOf,AV.fine,AV.one,aQ,Nat.reduceMul,Nat.reduceAdd,Nat.reduceLeDiff,Nat.reduceEqDiff,Int.reduceToNat,Nat.reduceSub,Nat.reduceMod,Nat.reduceDiv,indexK.aggOf,Int.reducePow,Int.reduceLE,Int.reduceNeg,Int.reduceLT,Int.reduceBEq,Int.reduceBNe,Int.reduceEq,aZ,aU,Try.facts,aj hk]
  first | refine CallK.p (h2) ?_ | refine CallP.i (h2) ?_
  simp (disch := omega) only [↓aI,aD,aG,ixA,aX,aV,ag,aT,ae,mkA,ab,bnd,aS,aH,aK,cvO,aJ,aY,↓aO,aW,aE,aF,aM,aA,aC,aB,aN,ad,frz,aR,Nat.reduceBEq,Nat.reduceLT,reduceCtorEq,↓reduceIte,aL,AV.cellsOf,AV.fine,AV.one,aQ,Nat.reduceMul,Nat.reduceAdd,Nat.reduceLeDiff,Nat.reduceEqDiff,Int.reduceToNat,Nat.reduceSub,Nat.reduceMod,Nat.reduceDiv,indexK.aggOf,Int.reducePow,Int.reduceLE,Int.reduceNeg,Int.reduceLT,Int.reduceBEq,Int.reduceBNe,Int.reduceEq,aZ,aU,Try.facts,aj hk]
  exact Abs.Sub.refl _
theorem wput_pure (b : List UInt8) (l : List Opn) (hb : b.length ≤ 2000000) (hl : l.length ≤ 10000) : APure Try.prog 36 [bytesV b,opsV l] (bytesV (vput b l)) := by
  have hol := cq l
  have hn0 := wnum_pure b (by omega) l.length
  have hnl := vnum_length l.length
  have hlen : ∀ i,(b ++ vnum l.length ++ vops (l.take i)).length ≤ 3001000 := fun i => by
    have h1 := vops_length (l.take i)
    have h2 : (l.take i).length ≤ 10000 := by rw [List.length_take]; omega
    simp only [List.length_append]
    omega
  have hstep : ∀ i (h : i < l.length),b ++ vnum l.length ++ vops (l.take (i + 1)) = (b ++ vnum l.length ++ vops (l.take i)) ++ vop l[i] := fun i h => by
    rw [List.take_succ_eq_append_getElem h]
    unfold vops
    rw [List.flatMap_append,List.append_assoc _ _ (vop _)]
    simp only [List.flatMap_cons,List.flatMap_nil,List.append_nil]
  unfold vput
  generalize hb0 : b ++ vnum l.length = b0 at *
  refine az (c := ⟨Try.prog,89,[(9,[0,0,0,1,0,0,1,0,0,1,0,0,1,0,0,0,1,0,0]),(15,[0,0,1,0,1,0,0,0,1,0,0,1,0,0]),(1000004,[6]),(1000008,[7]),(1000014,[8]),(4000010,[0,13,14,15]),(4000009,[0,7,13,14,15]),(4000012,[0,13,14,15]),(4000016,[0,13,14,15]),(4000015,[0,8,13,14,15]),(4000005,[0,6,13,14,15]),(4000001,[0,1])],[],[]⟩) (rs := [ResultVar.tmp 4]) Try.mixed Try.func36 rfl rfl rfl (Nat.le_of_ble_eq_true rfl) (by kernel_rfl) fun H => ?_
  simp (disch := omega) only [↓aI,aD,aG,ixA,aX,aV,ag,aT,ae,mkA,ab,bnd,aS,aH,aK,cvO,aJ,aY,↓aO,aW,aE,aF,aM,aA,aC,aB,aN,ad,frz,aR,Nat.reduceBEq,Nat.reduceLT,reduceCtorEq,↓reduceIte,aL,AV.cellsOf,AV.fine,AV.one,aQ,Nat.reduceMul,Nat.reduceAdd,Nat.reduceLeDiff,Nat.reduceEqDiff,Int.reduceToNat,Nat.reduceSub,Nat.reduceMod,Nat.reduceDiv,indexK.aggOf,Int.reducePow,Int.reduceLE,Int.reduceNeg,Int.reduceLT,Int.reduceBEq,Int.reduceBNe,Int.reduceEq,aZ,aU,Try.facts]
  first | refine CallK.p (hn0) ?_ | refine CallP.i (hn0) ?_
  simp (disch := omega) only [↓aI,aD,aG,ixA,aX,aV,ag,aT,ae,mkA,ab,bnd,aS,aH,aK,cvO,aJ,aY,↓aO,aW,aE,aF,aM,aA,aC,aB,aN,ad,frz,aR,Nat.reduceBEq,Nat.reduceLT,reduceCtorEq,↓reduceIte,aL,AV.cellsOf,AV.fine,AV.one,aQ,Nat.reduceMul,Nat.reduceAdd,Nat.reduceLeDiff,Nat.reduceEqDiff,Int.reduceToNat,Nat.reduceSub,Nat.reduceMod,Nat.reduceDiv,indexK.aggOf,Int.reducePow,Int.reduceLE,Int.reduceNeg,Int.reduceLT,Int.reduceBEq,Int.reduceBNe,Int.reduceEq,aZ,aU,Try.facts]
  refine br (c := ⟨Try.prog,89,[(9,[0,0,0,1,0,0,1,0,0,1,0,0,1,0,0,0,1,0,0]),(15,[0,0,1,0,1,0,0,0,1,0,0,1,0,0]),(1000004,[6]),(1000008,[7]),(1000014,[8]),(4000010,[0,13,14,15]),(4000009,[0,7,13,14,15]),(4000012,[0,13,14,15]),(4000016,[0,13,14,15]),(4000015,[0,8,13,14,15]),(4000005,[0,6,13,14,15]),(4000001,[0,1])],[],[]⟩) Try.mixed (by kernel_rfl) (fun mm σ H' => H' = H ∧ ∃ i,i + mm = l.length ∧ σ 0 = bytesV (b0 ++ vops (l.take i)) ∧ σ 13 = opsV l ∧ σ 14 = .sc (.int .i64 (l.length : Nat)) ∧ σ 15 = .sc (.int .i64 (i : Nat))) l.length ?_ ?_
  · refine ⟨rfl,0,by omega,?_⟩
    rw [List.take_zero,show vops [] = [] from rfl,List.append_nil]
    simp (disch := omega) only [↓aI,aD,aG,ixA,aX,aV,ag,aT,ae,mkA,ab,bnd,aS,aH,aK,cvO,aJ,aY,↓aO,aW,aE,aF,aM,aA,aC,aB,aN,ad,frz,aR,Nat.reduceBEq,Nat.reduceLT,reduceCtorEq,↓reduceIte,aL,AV.cellsOf,AV.fine,AV.one,aQ,Nat.reduceMul,Nat.reduceAdd,Nat.reduceLeDiff,Nat.reduceEqDiff,Int.reduceToNat,Nat.reduceSub,Nat.reduceMod,Nat.reduceDiv,indexK.aggOf,Int.reducePow,Int.reduceLE,Int.reduceNeg,Int.reduceLT,Int.reduceBEq,Int.reduceBNe,Int.reduceEq,aZ,aU,Try.facts]
  · rintro mm σ H' ⟨rfl,i,him,s0,s13,s14,s15⟩
    by_cases hlt : i < l.length
    · have hld := opsC_load hlt
      have hle : i * 19 + 19 ≤ l.length * 19 := by omega
      have hli := hlen i
      have hs := hstep i hlt
      generalize l[i] = q at *
      generalize hr0 : b0 ++ vops (l.take i) = r0 at *
      generalize hr9 : b0 ++ vops (l.take (i + 1)) = r9 at *
      obtain ⟨kd,⟨⟨a,c⟩,⟨pa,pc⟩,ri,ru⟩,⟨x,y⟩,⟨mc,ma,⟨g1,g2⟩,fb,⟨t1,t2⟩,tb,nm,vl⟩⟩ := q
      simp only [opC] at hld
      have h1 := wnum_pure r0 (by omega) kd
      have l1 := vnum_length kd
      have hv : vop ⟨kd,⟨(a,c),(pa,pc),ri,ru⟩,(x,y),⟨mc,ma,(g1,g2),fb,(t1,t2),tb,nm,vl⟩⟩ = vnum kd ++ (if kd = 1 then vIns ⟨kd,⟨(a,c),(pa,pc),ri,ru⟩,(x,y),⟨mc,ma,(g1,g2),fb,(t1,t2),tb,nm,vl⟩⟩ else if kd = 2 then vid (x,y) else if kd = 3 then vMar ⟨mc,ma,(g1,g2),fb,(t1,t2),tb,nm,vl⟩ else []) := rfl
      rw [hv,← List.append_assoc] at hs
      have hr1l : (r0 ++ vnum kd).length ≤ 3001100 := by rw [List.length_append]; omega
      generalize hr1 : r0 ++ vnum kd = r1 at *
      by_cases k1 : kd = 1
      · rw [if_pos k1] at hs
        have l2 := vnums_length [a,c,pa,pc]
        have l3 := vfl_length ri
        simp only [List.length_cons,List.length_nil] at l2
        have h2 := numbers_pure r1 (by omega) [a,c,pa,pc] (by simp)
        have h3 := wflag_pure (r1 ++ vnums [a,c,pa,pc]) (by rw [List.length_append]; omega) ri
        have h4 := wnum_pure (r1 ++ vnums [a,c,pa,pc] ++ vfl ri) (by simp only [List.length_append]; omega) (IntKind.i64.wrap ru)
        rw [show r1 ++ vnums [a,c,pa,pc] ++ vfl ri ++ vnum (IntKind.i64.wrap ru) = r9 by rw [hs]; simp [vIns,vnums,vid]] at h4
        simp only [List.map_cons,List.map_nil,List.length_cons,List.length_nil,Nat.reduceAdd] at h2
        generalize r1 ++ vnums [a,c,pa,pc] ++ vfl ri = r3 at *
        generalize r1 ++ vnums [a,c,pa,pc] = r2 at *
        simp (disch := omega) only [↓aI,aD,aG,ixA,aX,aV,ag,aT,ae,mkA,ab,bnd,aS,aH,aK,cvO,aJ,aY,↓aO,aW,aE,aF,aM,aA,aC,aB,aN,ad,frz,aR,Nat.reduceBEq,Nat.reduceLT,reduceCtorEq,↓reduceIte,aL,AV.cellsOf,AV.fine,AV.one,aQ,Nat.reduceMul,Nat.reduceAdd,Nat.reduceLeDiff,Nat.reduceEqDiff,Int.reduceToNat,Nat.reduceSub,Nat.reduceMod,Nat.reduceDiv,indexK.aggOf,Int.reducePow,Int.reduceLE,Int.reduceNeg,Int.reduceLT,Int.reduceBEq,Int.reduceBNe,Int.reduceEq,aZ,aU,Try.facts,s0,s13,s14,s15,dT,dF,qT,qF,nT,nF,Bool.false_and,Bool.and_false,hld,hle,hol]
        intro b6 hb60 hb6
        simp (disch := omega) only [↓aI,aD,aG,ixA,aX,aV,ag,aT,ae,mkA,ab,bnd,aS,aH,aK,cvO,aJ,aY,↓aO,aW,aE,aF,aM,aA,aC,aB,aN,ad,frz,aR,Nat.reduceBEq,Nat.reduceLT,reduceCtorEq,↓reduceIte,aL,AV.cellsOf,AV.fine,AV.one,aQ,Nat.reduceMul,Nat.reduceAdd,Nat.reduceLeDiff,Nat.reduceEqDiff,Int.reduceToNat,Nat.reduceSub,Nat.reduceMod,Nat.reduceDiv,indexK.aggOf,Int.reducePow,Int.reduceLE,Int.reduceNeg,Int.reduceLT,Int.reduceBEq,Int.reduceBNe,Int.reduceEq,aZ,aU,Try.facts,s0,s13,s14,s15,dT,dF,qT,qF,nT,nF,Bool.false_and,Bool.and_false,aj hb6,ah]
        first | refine CallK.p (h1) ?_ | refine CallP.i (h1) ?_
        simp (disch := omega) only [↓aI,aD,aG,ixA,aX,aV,ag,aT,ae,mkA,ab,bnd,aS,aH,aK,cvO,aJ,aY,↓aO,aW,aE,aF,aM,aA,aC,aB,aN,ad,frz,aR,Nat.reduceBEq,Nat.reduceLT,reduceCtorEq,↓reduceIte,aL,AV.cellsOf,AV.fine,AV.one,aQ,Nat.reduceMul,Nat.reduceAdd,Nat.reduceLeDiff,Nat.reduceEqDiff,Int.reduceToNat,Nat.reduceSub,Nat.reduceMod,Nat.reduceDiv,indexK.aggOf,Int.reducePow,Int.reduceLE,Int.reduceNeg,Int.reduceLT,Int.reduceBEq,Int.reduceBNe,Int.reduceEq,aZ,aU,Try.facts,s0,s13,s14,s15,dT,dF,qT,qF,nT,nF,Bool.false_and,Bool.and_false,aj hb6,ah]
        intro b7 hb70 hb7
        try simp (disch := omega) only [↓aI,aD,aG,ixA,aX,aV,ag,aT,ae,mkA,ab,bnd,aS,aH,aK,cvO,aJ,aY,↓aO,aW,aE,aF,aM,aA,aC,aB,aN,ad,frz,aR,Nat.reduceBEq,Nat.reduceLT,reduceCtorEq,↓reduceIte,aL,AV.cellsOf,AV.fine,AV.one,aQ,Nat.reduceMul,Nat.reduceAdd,Nat.reduceLeDiff,Nat.reduceEqDiff,Int.reduceToNat,Nat.reduceSub,Nat.reduceMod,Nat.reduceDiv,indexK.aggOf,Int.reducePow,Int.reduceLE,Int.reduceNeg,Int.reduceLT,Int.reduceBEq,Int.reduceBNe,Int.reduceEq,aZ,aU,Try.facts,s0,s13,s14,s15,dT,dF,qT,qF,nT,nF,Bool.false_and,Bool.and_false,aj hb7,ah]
        first | refine CallK.p (h2) ?_ | refine CallP.i (h2) ?_
        simp (disch := omega) only [↓aI,aD,aG,ixA,aX,aV,ag,aT,ae,mkA,ab,bnd,aS,aH,aK,cvO,aJ,aY,↓aO,aW,aE,aF,aM,aA,aC,aB,aN,ad,frz,aR,Nat.reduceBEq,Nat.reduceLT,reduceCtorEq,↓reduceIte,aL,AV.cellsOf,AV.fine,AV.one,aQ,Nat.reduceMul,Nat.reduceAdd,Nat.reduceLeDiff,Nat.reduceEqDiff,Int.reduceToNat,Nat.reduceSub,Nat.reduceMod,Nat.reduceDiv,indexK.aggOf,Int.reducePow,Int.reduceLE,Int.reduceNeg,Int.reduceLT,Int.reduceBEq,Int.reduceBNe,Int.reduceEq,aZ,aU,Try.facts,s0,s13,s14,s15,dT,dF,qT,qF,nT,nF,Bool.false_and,Bool.and_false,ah]
        first | refine CallK.p (h3) ?_ | refine CallP.i (h3) ?_
        simp (disch := omega) only [↓aI,aD,aG,ixA,aX,aV,ag,aT,ae,mkA,ab,bnd,aS,aH,aK,cvO,aJ,aY,↓aO,aW,aE,aF,aM,aA,aC,aB,aN,ad,frz,aR,Nat.reduceBEq,Nat.reduceLT,reduceCtorEq,↓reduceIte,aL,AV.cellsOf,AV.fine,AV.one,aQ,Nat.reduceMul,Nat.reduceAdd,Nat.reduceLeDiff,Nat.reduceEqDiff,Int.reduceToNat,Nat.reduceSub,Nat.reduceMod,Nat.reduceDiv,indexK.aggOf,Int.reducePow,Int.reduceLE,Int.reduceNeg,Int.reduceLT,Int.reduceBEq,Int.reduceBNe,Int.reduceEq,aZ,aU,Try.facts,s0,s13,s14,s15,dT,dF,qT,qF,nT,nF,Bool.false_and,Bool.and_false,ah]
        first | refine CallK.p (h4) ?_ | refine CallP.i (h4) ?_
        simp (disch := omega) only [↓aI,aD,aG,ixA,aX,aV,ag,aT,ae,mkA,ab,bnd,aS,aH,aK,cvO,aJ,aY,↓aO,aW,aE,aF,aM,aA,aC,aB,aN,ad,frz,aR,Nat.reduceBEq,Nat.reduceLT,reduceCtorEq,↓reduceIte,aL,AV.cellsOf,AV.fine,AV.one,aQ,Nat.reduceMul,Nat.reduceAdd,Nat.reduceLeDiff,Nat.reduceEqDiff,Int.reduceToNat,Nat.reduceSub,Nat.reduceMod,Nat.reduceDiv,indexK.aggOf,Int.reducePow,Int.reduceLE,Int.reduceNeg,Int.reduceLT,Int.reduceBEq,Int.reduceBNe,Int.reduceEq,aZ,aU,Try.facts,s0,s13,s14,s15,dT,dF,qT,qF,nT,nF,Bool.false_and,Bool.and_false,ah,aj hb7]
        exact ⟨mm - 1,by omega,i + 1,by omega,by rw [hr9],rfl⟩
      · rw [if_neg k1] at hs
        by_cases k2 : kd = 2
        · rw [if_pos k2] at hs
          have h2 := numbers_pure r1 (by omega) [x,y] (by simp)
          rw [show r1 ++ vnums [x,y] = r9 by rw [hs]; simp [vnums,vid]] at h2
          simp only [List.map_cons,List.map_nil,List.length_cons,List.length_nil,Nat.reduceAdd] at h2
          simp (disch := omega) only [↓aI,aD,aG,ixA,aX,aV,ag,aT,ae,mkA,ab,bnd,aS,aH,aK,cvO,aJ,aY,↓aO,aW,aE,aF,aM,aA,aC,aB,aN,ad,frz,aR,Nat.reduceBEq,Nat.reduceLT,reduceCtorEq,↓reduceIte,aL,AV.cellsOf,AV.fine,AV.one,aQ,Nat.reduceMul,Nat.reduceAdd,Nat.reduceLeDiff,Nat.reduceEqDiff,Int.reduceToNat,Nat.reduceSub,Nat.reduceMod,Nat.reduceDiv,indexK.aggOf,Int.reducePow,Int.reduceLE,Int.reduceNeg,Int.reduceLT,Int.reduceBEq,Int.reduceBNe,Int.reduceEq,aZ,aU,Try.facts,s0,s13,s14,s15,dT,dF,qT,qF,nT,nF,Bool.false_and,Bool.and_false,hld,hle,hol]
          intro b6 hb60 hb6
          simp (disch := omega) only [↓aI,aD,aG,ixA,aX,aV,ag,aT,ae,mkA,ab,bnd,aS,aH,aK,cvO,aJ,aY,↓aO,aW,aE,aF,aM,aA,aC,aB,aN,ad,frz,aR,Nat.reduceBEq,Nat.reduceLT,reduceCtorEq,↓reduceIte,aL,AV.cellsOf,AV.fine,AV.one,aQ,Nat.reduceMul,Nat.reduceAdd,Nat.reduceLeDiff,Nat.reduceEqDiff,Int.reduceToNat,Nat.reduceSub,Nat.reduceMod,Nat.reduceDiv,indexK.aggOf,Int.reducePow,Int.reduceLE,Int.reduceNeg,Int.reduceLT,Int.reduceBEq,Int.reduceBNe,Int.reduceEq,aZ,aU,Try.facts,s0,s13,s14,s15,dT,dF,qT,qF,nT,nF,Bool.false_and,Bool.and_false,aj hb6,ah]
          first | refine CallK.p (h1) ?_ | refine CallP.i (h1) ?_
          simp (disch := omega) only [↓aI,aD,aG,ixA,aX,aV,ag,aT,ae,mkA,ab,bnd,aS,aH,aK,cvO,aJ,aY,↓aO,aW,aE,aF,aM,aA,aC,aB,aN,ad,frz,aR,Nat.reduceBEq,Nat.reduceLT,reduceCtorEq,↓reduceIte,aL,AV.cellsOf,AV.fine,AV.one,aQ,Nat.reduceMul,Nat.reduceAdd,Nat.reduceLeDiff,Nat.reduceEqDiff,Int.reduceToNat,Nat.reduceSub,Nat.reduceMod,Nat.reduceDiv,indexK.aggOf,Int.reducePow,Int.reduceLE,Int.reduceNeg,Int.reduceLT,Int.reduceBEq,Int.reduceBNe,Int.reduceEq,aZ,aU,Try.facts,s0,s13,s14,s15,dT,dF,qT,qF,nT,nF,Bool.false_and,Bool.and_false,aj hb6,ah]
          first | refine CallK.p (h2) ?_ | refine CallP.i (h2) ?_
          simp (disch := omega) only [↓aI,aD,aG,ixA,aX,aV,ag,aT,ae,mkA,ab,bnd,aS,aH,aK,cvO,aJ,aY,↓aO,aW,aE,aF,aM,aA,aC,aB,aN,ad,frz,aR,Nat.reduceBEq,Nat.reduceLT,reduceCtorEq,↓reduceIte,aL,AV.cellsOf,AV.fine,AV.one,aQ,Nat.reduceMul,Nat.reduceAdd,Nat.reduceLeDiff,Nat.reduceEqDiff,Int.reduceToNat,Nat.reduceSub,Nat.reduceMod,Nat.reduceDiv,indexK.aggOf,Int.reducePow,Int.reduceLE,Int.reduceNeg,Int.reduceLT,Int.reduceBEq,Int.reduceBNe,Int.reduceEq,aZ,aU,Try.facts,s0,s13,s14,s15,dT,dF,qT,qF,nT,nF,Bool.false_and,Bool.and_false,ah]
          exact ⟨mm - 1,by omega,i + 1,by omega,by rw [hr9],rfl⟩
        · rw [if_neg k2] at hs
          by_cases k3 : kd = 3
          · rw [if_pos k3] at hs
            have l2 := vnums_length [mc,ma]
            have l3 := vid_length (g1,g2)
            have l4 := vid_length (t1,t2)
            have l5 := vfl_length fb
            have l6 := vfl_length tb
            simp only [List.length_cons,List.length_nil] at l2
            have h2 := numbers_pure r1 (by omega) [mc,ma] (by simp)
            have h3 := putAnchor_pure (r1 ++ vnums [mc,ma]) (by rw [List.length_append]; omega) (g1,g2) fb
            have h4 := putAnchor_pure (r1 ++ vnums [mc,ma] ++ van (g1,g2) fb) (by simp only [van,List.length_append]; omega) (t1,t2) tb
            have h5 := numbers_pure (r1 ++ vnums [mc,ma] ++ van (g1,g2) fb ++ van (t1,t2) tb) (by simp only [van,List.length_append]; omega) [nm,vl] (by simp)
            rw [show r1 ++ vnums [mc,ma] ++ van (g1,g2) fb ++ van (t1,t2) tb ++ vnums [nm,vl] = r9 by rw [hs]; simp [vMar,vnums]] at h5
            simp only [List.map_cons,List.map_nil,List.length_cons,List.length_nil,Nat.reduceAdd] at h2 h5
            generalize r1 ++ vnums [mc,ma] ++ van (g1,g2) fb ++ van (t1,t2) tb = r4 at *
            generalize r1 ++ vnums [mc,ma] ++ van (g1,g2) fb = r3 at *
            generalize r1 ++ vnums [mc,ma] = r2 at *
            simp (disch := omega) only [↓aI,aD,aG,ixA,aX,aV,ag,aT,ae,mkA,ab,bnd,aS,aH,aK,cvO,aJ,aY,↓aO,aW,aE,aF,aM,aA,aC,aB,aN,ad,frz,aR,Nat.reduceBEq,Nat.reduceLT,reduceCtorEq,↓reduceIte,aL,AV.cellsOf,AV.fine,AV.one,aQ,Nat.reduceMul,Nat.reduceAdd,Nat.reduceLeDiff,Nat.reduceEqDiff,Int.reduceToNat,Nat.reduceSub,Nat.reduceMod,Nat.reduceDiv,indexK.aggOf,Int.reducePow,Int.reduceLE,Int.reduceNeg,Int.reduceLT,Int.reduceBEq,Int.reduceBNe,Int.reduceEq,aZ,aU,Try.facts,s0,s13,s14,s15,dT,dF,qT,qF,nT,nF,Bool.false_and,Bool.and_false,hld,hle,hol]
            intro b6 hb60 hb6
            simp (disch := omega) only [↓aI,aD,aG,ixA,aX,aV,ag,aT,ae,mkA,ab,bnd,aS,aH,aK,cvO,aJ,aY,↓aO,aW,aE,aF,aM,aA,aC,aB,aN,ad,frz,aR,Nat.reduceBEq,Nat.reduceLT,reduceCtorEq,↓reduceIte,aL,AV.cellsOf,AV.fine,AV.one,aQ,Nat.reduceMul,Nat.reduceAdd,Nat.reduceLeDiff,Nat.reduceEqDiff,Int.reduceToNat,Nat.reduceSub,Nat.reduceMod,Nat.reduceDiv,indexK.aggOf,Int.reducePow,Int.reduceLE,Int.reduceNeg,Int.reduceLT,Int.reduceBEq,Int.reduceBNe,Int.reduceEq,aZ,aU,Try.facts,s0,s13,s14,s15,dT,dF,qT,qF,nT,nF,Bool.false_and,Bool.and_false,aj hb6,ah]
            first | refine CallK.p (h1) ?_ | refine CallP.i (h1) ?_
            simp (disch := omega) only [↓aI,aD,aG,ixA,aX,aV,ag,aT,ae,mkA,ab,bnd,aS,aH,aK,cvO,aJ,aY,↓aO,aW,aE,aF,aM,aA,aC,aB,aN,ad,frz,aR,Nat.reduceBEq,Nat.reduceLT,reduceCtorEq,↓reduceIte,aL,AV.cellsOf,AV.fine,AV.one,aQ,Nat.reduceMul,Nat.reduceAdd,Nat.reduceLeDiff,Nat.reduceEqDiff,Int.reduceToNat,Nat.reduceSub,Nat.reduceMod,Nat.reduceDiv,indexK.aggOf,Int.reducePow,Int.reduceLE,Int.reduceNeg,Int.reduceLT,Int.reduceBEq,Int.reduceBNe,Int.reduceEq,aZ,aU,Try.facts,s0,s13,s14,s15,dT,dF,qT,qF,nT,nF,Bool.false_and,Bool.and_false,aj hb6,ah]
            intro b8 hb80 hb8
            try simp (disch := omega) only [↓aI,aD,aG,ixA,aX,aV,ag,aT,ae,mkA,ab,bnd,aS,aH,aK,cvO,aJ,aY,↓aO,aW,aE,aF,aM,aA,aC,aB,aN,ad,frz,aR,Nat.reduceBEq,Nat.reduceLT,reduceCtorEq,↓reduceIte,aL,AV.cellsOf,AV.fine,AV.one,aQ,Nat.reduceMul,Nat.reduceAdd,Nat.reduceLeDiff,Nat.reduceEqDiff,Int.reduceToNat,Nat.reduceSub,Nat.reduceMod,Nat.reduceDiv,indexK.aggOf,Int.reducePow,Int.reduceLE,Int.reduceNeg,Int.reduceLT,Int.reduceBEq,Int.reduceBNe,Int.reduceEq,aZ,aU,Try.facts,s0,s13,s14,s15,dT,dF,qT,qF,nT,nF,Bool.false_and,Bool.and_false,aj hb8,ah]
            first | refine CallK.p (h2) ?_ | refine CallP.i (h2) ?_
            simp (disch := omega) only [↓aI,aD,aG,ixA,aX,aV,ag,aT,ae,mkA,ab,bnd,aS,aH,aK,cvO,aJ,aY,↓aO,aW,aE,aF,aM,aA,aC,aB,aN,ad,frz,aR,Nat.reduceBEq,Nat.reduceLT,reduceCtorEq,↓reduceIte,aL,AV.cellsOf,AV.fine,AV.one,aQ,Nat.reduceMul,Nat.reduceAdd,Nat.reduceLeDiff,Nat.reduceEqDiff,Int.reduceToNat,Nat.reduceSub,Nat.reduceMod,Nat.reduceDiv,indexK.aggOf,Int.reducePow,Int.reduceLE,Int.reduceNeg,Int.reduceLT,Int.reduceBEq,Int.reduceBNe,Int.reduceEq,aZ,aU,Try.facts,s0,s13,s14,s15,dT,dF,qT,qF,nT,nF,Bool.false_and,Bool.and_false,ah]
            first | refine CallK.p (h3) ?_ | refine CallP.i (h3) ?_
            simp (disch := omega) only [↓aI,aD,aG,ixA,aX,aV,ag,aT,ae,mkA,ab,bnd,aS,aH,aK,cvO,aJ,aY,↓aO,aW,aE,aF,aM,aA,aC,aB,aN,ad,frz,aR,Nat.reduceBEq,Nat.reduceLT,reduceCtorEq,↓reduceIte,aL,AV.cellsOf,AV.fine,AV.one,aQ,Nat.reduceMul,Nat.reduceAdd,Nat.reduceLeDiff,Nat.reduceEqDiff,Int.reduceToNat,Nat.reduceSub,Nat.reduceMod,Nat.reduceDiv,indexK.aggOf,Int.reducePow,Int.reduceLE,Int.reduceNeg,Int.reduceLT,Int.reduceBEq,Int.reduceBNe,Int.reduceEq,aZ,aU,Try.facts,s0,s13,s14,s15,dT,dF,qT,qF,nT,nF,Bool.false_and,Bool.and_false,ah]
            first | refine CallK.p (h4) ?_ | refine CallP.i (h4) ?_
            simp (disch := omega) only [↓aI,aD,aG,ixA,aX,aV,ag,aT,ae,mkA,ab,bnd,aS,aH,aK,cvO,aJ,aY,↓aO,aW,aE,aF,aM,aA,aC,aB,aN,ad,frz,aR,Nat.reduceBEq,Nat.reduceLT,reduceCtorEq,↓reduceIte,aL,AV.cellsOf,AV.fine,AV.one,aQ,Nat.reduceMul,Nat.reduceAdd,Nat.reduceLeDiff,Nat.reduceEqDiff,Int.reduceToNat,Nat.reduceSub,Nat.reduceMod,Nat.reduceDiv,indexK.aggOf,Int.reducePow,Int.reduceLE,Int.reduceNeg,Int.reduceLT,Int.reduceBEq,Int.reduceBNe,Int.reduceEq,aZ,aU,Try.facts,s0,s13,s14,s15,dT,dF,qT,qF,nT,nF,Bool.false_and,Bool.and_false,ah]
            first | refine CallK.p (h5) ?_ | refine CallP.i (h5) ?_
            simp (disch := omega) only [↓aI,aD,aG,ixA,aX,aV,ag,aT,ae,mkA,ab,bnd,aS,aH,aK,cvO,aJ,aY,↓aO,aW,aE,aF,aM,aA,aC,aB,aN,ad,frz,aR,Nat.reduceBEq,Nat.reduceLT,reduceCtorEq,↓reduceIte,aL,AV.cellsOf,AV.fine,AV.one,aQ,Nat.reduceMul,Nat.reduceAdd,Nat.reduceLeDiff,Nat.reduceEqDiff,Int.reduceToNat,Nat.reduceSub,Nat.reduceMod,Nat.reduceDiv,indexK.aggOf,Int.reducePow,Int.reduceLE,Int.reduceNeg,Int.reduceLT,Int.reduceBEq,Int.reduceBNe,Int.reduceEq,aZ,aU,Try.facts,s0,s13,s14,s15,dT,dF,qT,qF,nT,nF,Bool.false_and,Bool.and_false,ah,aj hb8]
            exact ⟨mm - 1,by omega,i + 1,by omega,by rw [hr9],rfl⟩
          · rw [if_neg k3,List.append_nil] at hs
            subst hs
            simp (disch := omega) only [↓aI,aD,aG,ixA,aX,aV,ag,aT,ae,mkA,ab,bnd,aS,aH,aK,cvO,aJ,aY,↓aO,aW,aE,aF,aM,aA,aC,aB,aN,ad,frz,aR,Nat.reduceBEq,Nat.reduceLT,reduceCtorEq,↓reduceIte,aL,AV.cellsOf,AV.fine,AV.one,aQ,Nat.reduceMul,Nat.reduceAdd,Nat.reduceLeDiff,Nat.reduceEqDiff,Int.reduceToNat,Nat.reduceSub,Nat.reduceMod,Nat.reduceDiv,indexK.aggOf,Int.reducePow,Int.reduceLE,Int.reduceNeg,Int.reduceLT,Int.reduceBEq,Int.reduceBNe,Int.reduceEq,aZ,aU,Try.facts,s0,s13,s14,s15,dT,dF,qT,qF,nT,nF,Bool.false_and,Bool.and_false,hld,hle,hol]
            intro b6 hb60 hb6
            simp (disch := omega) only [↓aI,aD,aG,ixA,aX,aV,ag,aT,ae,mkA,ab,bnd,aS,aH,aK,cvO,aJ,aY,↓aO,aW,aE,aF,aM,aA,aC,aB,aN,ad,frz,aR,Nat.reduceBEq,Nat.reduceLT,reduceCtorEq,↓reduceIte,aL,AV.cellsOf,AV.fine,AV.one,aQ,Nat.reduceMul,Nat.reduceAdd,Nat.reduceLeDiff,Nat.reduceEqDiff,Int.reduceToNat,Nat.reduceSub,Nat.reduceMod,Nat.reduceDiv,indexK.aggOf,Int.reducePow,Int.reduceLE,Int.reduceNeg,Int.reduceLT,Int.reduceBEq,Int.reduceBNe,Int.reduceEq,aZ,aU,Try.facts,s0,s13,s14,s15,dT,dF,qT,qF,nT,nF,Bool.false_and,Bool.and_false,aj hb6,ah]
            first | refine CallK.p (h1) ?_ | refine CallP.i (h1) ?_
            simp (disch := omega) only [↓aI,aD,aG,ixA,aX,aV,ag,aT,ae,mkA,ab,bnd,aS,aH,aK,cvO,aJ,aY,↓aO,aW,aE,aF,aM,aA,aC,aB,aN,ad,frz,aR,Nat.reduceBEq,Nat.reduceLT,reduceCtorEq,↓reduceIte,aL,AV.cellsOf,AV.fine,AV.one,aQ,Nat.reduceMul,Nat.reduceAdd,Nat.reduceLeDiff,Nat.reduceEqDiff,Int.reduceToNat,Nat.reduceSub,Nat.reduceMod,Nat.reduceDiv,indexK.aggOf,Int.reducePow,Int.reduceLE,Int.reduceNeg,Int.reduceLT,Int.reduceBEq,Int.reduceBNe,Int.reduceEq,aZ,aU,Try.facts,s0,s13,s14,s15,dT,dF,qT,qF,nT,nF,Bool.false_and,Bool.and_false,aj hb6,ah]
            exact ⟨mm - 1,by omega,i + 1,by omega,by rw [hr9],rfl⟩
    · obtain rfl : i = l.length := by omega
      rw [List.take_length] at s0
      generalize b0 ++ vops l = r at *
      simp (disch := omega) only [↓aI,aD,aG,ixA,aX,aV,ag,aT,ae,mkA,ab,bnd,aS,aH,aK,cvO,aJ,aY,↓aO,aW,aE,aF,aM,aA,aC,aB,aN,ad,frz,aR,Nat.reduceBEq,Nat.reduceLT,reduceCtorEq,↓reduceIte,aL,AV.cellsOf,AV.fine,AV.one,aQ,Nat.reduceMul,Nat.reduceAdd,Nat.reduceLeDiff,Nat.reduceEqDiff,Int.reduceToNat,Nat.reduceSub,Nat.reduceMod,Nat.reduceDiv,indexK.aggOf,Int.reducePow,Int.reduceLE,Int.reduceNeg,Int.reduceLT,Int.reduceBEq,Int.reduceBNe,Int.reduceEq,aZ,aU,Try.facts,s0,s13,s14,s15,dT,dF,qT,qF,nT,nF,Bool.false_and,Bool.and_false]
      exact Abs.Sub.refl _
end Go.Proofs.Ytimonfakmadhpaa
end
section
set_option linter.unusedSimpArgs false
set_option linter.unusedVariables false
set_option maxRecDepth 8000
set_option maxHeartbeats 4000000
namespace Go.Proofs.Ytimonfakmadhpaa
open Go Go.Abs Go.Proofs Go.Fug
theorem rput18_pure (b : List UInt8) (l : List Opn) (hb : b.length ≤ 2000000) (hl : l.length ≤ 10000) : APure Try.prog 37 [bytesV b,opsV l] (bytesV (vput b l)) := by
  have hol := cq l
  have hn0 := rnum18_pure b (by omega) l.length
  have hnl := vnum_length l.length
  have hlen : ∀ i,(b ++ vnum l.length ++ vops (l.take i)).length ≤ 3001000 := fun i => by
    have h1 := vops_length (l.take i)
    have h2 : (l.take i).length ≤ 10000 := by rw [List.length_take]; omega
    simp only [List.length_append]
    omega
  have hstep : ∀ i (h : i < l.length),b ++ vnum l.length ++ vops (l.take (i + 1)) = (b ++ vnum l.length ++ vops (l.take i)) ++ vop l[i] := fun i h => by
    rw [List.take_succ_eq_append_getElem h]
    unfold vops
    rw [List.flatMap_append,List.append_assoc _ _ (vop _)]
    simp only [List.flatMap_cons,List.flatMap_nil,List.append_nil]
  unfold vput
  generalize hb0 : b ++ vnum l.length = b0 at *
  refine az (c := ⟨Try.prog,84,[(8,[0,0,0,1,0,0,0,1,0,0,0,1,0,0]),(13,[0,0,0,1,0,0,0,1,0,0,0,1,0,0,0,1,0,0]),(14,[0,0,0,1,0,0,0,1,0,0]),(1000005,[6]),(4000014,[0,1,5]),(4000013,[0,1,5,6]),(4000011,[0,1,5,6]),(4000009,[0,1,5,6]),(4000008,[0,1,5,6]),(4000006,[0,1,5,6]),(4000005,[0,1,5,6]),(4000001,[0,1])],[],[]⟩) (rs := [ResultVar.tmp 4]) Try.mixed Try.func37 rfl rfl rfl (Nat.le_of_ble_eq_true rfl) (by kernel_rfl) fun H => ?_
  simp (disch := omega) only [↓aI,aD,aG,ixA,aX,aV,ag,aT,ae,mkA,ab,bnd,aS,aH,aK,cvO,aJ,aY,↓aO,aW,aE,aF,aM,aA,aC,aB,aN,ad,frz,aR,Nat.reduceBEq,Nat.reduceLT,reduceCtorEq,↓reduceIte,aL,AV.cellsOf,AV.fine,AV.one,aQ,Nat.reduceMul,Nat.reduceAdd,Nat.reduceLeDiff,Nat.reduceEqDiff,Int.reduceToNat,Nat.reduceSub,Nat.reduceMod,Nat.reduceDiv,indexK.aggOf,Int.reducePow,Int.reduceLE,Int.reduceNeg,Int.reduceLT,Int.reduceBEq,Int.reduceBNe,Int.reduceEq,aZ,aU,Try.facts]
  first | refine CallK.p (hn0) ?_ | refine CallP.i (hn0) ?_
  simp (disch := omega) only [↓aI,aD,aG,ixA,aX,aV,ag,aT,ae,mkA,ab,bnd,aS,aH,aK,cvO,aJ,aY,↓aO,aW,aE,aF,aM,aA,aC,aB,aN,ad,frz,aR,Nat.reduceBEq,Nat.reduceLT,reduceCtorEq,↓reduceIte,aL,AV.cellsOf,AV.fine,AV.one,aQ,Nat.reduceMul,Nat.reduceAdd,Nat.reduceLeDiff,Nat.reduceEqDiff,Int.reduceToNat,Nat.reduceSub,Nat.reduceMod,Nat.reduceDiv,indexK.aggOf,Int.reducePow,Int.reduceLE,Int.reduceNeg,Int.reduceLT,Int.reduceBEq,Int.reduceBNe,Int.reduceEq,aZ,aU,Try.facts]
  refine br (c := ⟨Try.prog,84,[(8,[0,0,0,1,0,0,0,1,0,0,0,1,0,0]),(13,[0,0,0,1,0,0,0,1,0,0,0,1,0,0,0,1,0,0]),(14,[0,0,0,1,0,0,0,1,0,0]),(1000005,[6]),(4000014,[0,1,5]),(4000013,[0,1,5,6]),(4000011,[0,1,5,6]),(4000009,[0,1,5,6]),(4000008,[0,1,5,6]),(4000006,[0,1,5,6]),(4000005,[0,1,5,6]),(4000001,[0,1])],[],[]⟩) Try.mixed (by kernel_rfl) (fun mm σ H' => H' = H ∧ ∃ i,i + mm = l.length ∧ σ 0 = bytesV (b0 ++ vops (l.take i)) ∧ σ 1 = opsV l ∧ σ 5 = .sc (.int .i64 (i : Nat))) l.length ?_ ?_
  · refine ⟨rfl,0,by omega,?_⟩
    rw [List.take_zero,show vops [] = [] from rfl,List.append_nil]
    simp (disch := omega) only [↓aI,aD,aG,ixA,aX,aV,ag,aT,ae,mkA,ab,bnd,aS,aH,aK,cvO,aJ,aY,↓aO,aW,aE,aF,aM,aA,aC,aB,aN,ad,frz,aR,Nat.reduceBEq,Nat.reduceLT,reduceCtorEq,↓reduceIte,aL,AV.cellsOf,AV.fine,AV.one,aQ,Nat.reduceMul,Nat.reduceAdd,Nat.reduceLeDiff,Nat.reduceEqDiff,Int.reduceToNat,Nat.reduceSub,Nat.reduceMod,Nat.reduceDiv,indexK.aggOf,Int.reducePow,Int.reduceLE,Int.reduceNeg,Int.reduceLT,Int.reduceBEq,Int.reduceBNe,Int.reduceEq,aZ,aU,Try.facts]
  · rintro mm σ H' ⟨rfl,i,him,s0,s1,s5⟩
    by_cases hlt : i < l.length
    · have hld := opsC_load hlt
      have hle : i * 19 + 19 ≤ l.length * 19 := by omega
      have hli := hlen i
      have hs := hstep i hlt
      generalize l[i] = q at *
      generalize hr0 : b0 ++ vops (l.take i) = r0 at *
      generalize hr9 : b0 ++ vops (l.take (i + 1)) = r9 at *
      obtain ⟨kd,⟨⟨a,c⟩,⟨pa,pc⟩,ri,ru⟩,⟨x,y⟩,⟨mc,ma,⟨g1,g2⟩,fb,⟨t1,t2⟩,tb,nm,vl⟩⟩ := q
      simp only [opC] at hld
      have h1 := rnum18_pure r0 (by omega) kd
      have l1 := vnum_length kd
      have hv : vop ⟨kd,⟨(a,c),(pa,pc),ri,ru⟩,(x,y),⟨mc,ma,(g1,g2),fb,(t1,t2),tb,nm,vl⟩⟩ = vnum kd ++ (if kd = 1 then vIns ⟨kd,⟨(a,c),(pa,pc),ri,ru⟩,(x,y),⟨mc,ma,(g1,g2),fb,(t1,t2),tb,nm,vl⟩⟩ else if kd = 2 then vid (x,y) else if kd = 3 then vMar ⟨mc,ma,(g1,g2),fb,(t1,t2),tb,nm,vl⟩ else []) := rfl
      rw [hv,← List.append_assoc] at hs
      have hr1l : (r0 ++ vnum kd).length ≤ 3001100 := by rw [List.length_append]; omega
      generalize hr1 : r0 ++ vnum kd = r1 at *
      by_cases k1 : kd = 1
      · rw [if_pos k1] at hs
        have l2 := vid_length (a,c)
        have l3 := vid_length (pa,pc)
        have l4 := vfl_length ri
        have h2 := rid_pure r1 (by omega) (a,c)
        have h3 := rid_pure (r1 ++ vid (a,c)) (by rw [List.length_append]; omega) (pa,pc)
        have h4 := rflag_pure (r1 ++ vid (a,c) ++ vid (pa,pc)) (by simp only [List.length_append]; omega) ri
        have h5 := rnum18_pure (r1 ++ vid (a,c) ++ vid (pa,pc) ++ vfl ri) (by simp only [List.length_append]; omega) (IntKind.i64.wrap ru)
        rw [show r1 ++ vid (a,c) ++ vid (pa,pc) ++ vfl ri ++ vnum (IntKind.i64.wrap ru) = r9 by rw [hs]; simp [vIns]] at h5
        generalize r1 ++ vid (a,c) ++ vid (pa,pc) ++ vfl ri = r4 at *
        generalize r1 ++ vid (a,c) ++ vid (pa,pc) = r3 at *
        generalize r1 ++ vid (a,c) = r2 at *
        simp (disch := omega) only [↓aI,aD,aG,ixA,aX,aV,ag,aT,ae,mkA,ab,bnd,aS,aH,aK,cvO,aJ,aY,↓aO,aW,aE,aF,aM,aA,aC,aB,aN,ad,frz,aR,Nat.reduceBEq,Nat.reduceLT,reduceCtorEq,↓reduceIte,aL,AV.cellsOf,AV.fine,AV.one,aQ,Nat.reduceMul,Nat.reduceAdd,Nat.reduceLeDiff,Nat.reduceEqDiff,Int.reduceToNat,Nat.reduceSub,Nat.reduceMod,Nat.reduceDiv,indexK.aggOf,Int.reducePow,Int.reduceLE,Int.reduceNeg,Int.reduceLT,Int.reduceBEq,Int.reduceBNe,Int.reduceEq,aZ,aU,Try.facts,s0,s1,s5,dT,dF,qT,qF,nT,nF,Bool.false_and,Bool.and_false,hld,hle,hol]
        intro b6 hb60 hb6
        simp (disch := omega) only [↓aI,aD,aG,ixA,aX,aV,ag,aT,ae,mkA,ab,bnd,aS,aH,aK,cvO,aJ,aY,↓aO,aW,aE,aF,aM,aA,aC,aB,aN,ad,frz,aR,Nat.reduceBEq,Nat.reduceLT,reduceCtorEq,↓reduceIte,aL,AV.cellsOf,AV.fine,AV.one,aQ,Nat.reduceMul,Nat.reduceAdd,Nat.reduceLeDiff,Nat.reduceEqDiff,Int.reduceToNat,Nat.reduceSub,Nat.reduceMod,Nat.reduceDiv,indexK.aggOf,Int.reducePow,Int.reduceLE,Int.reduceNeg,Int.reduceLT,Int.reduceBEq,Int.reduceBNe,Int.reduceEq,aZ,aU,Try.facts,s0,s1,s5,dT,dF,qT,qF,nT,nF,Bool.false_and,Bool.and_false,aj hb6,ah]
        first | refine CallK.p (h1) ?_ | refine CallP.i (h1) ?_
        simp (disch := omega) only [↓aI,aD,aG,ixA,aX,aV,ag,aT,ae,mkA,ab,bnd,aS,aH,aK,cvO,aJ,aY,↓aO,aW,aE,aF,aM,aA,aC,aB,aN,ad,frz,aR,Nat.reduceBEq,Nat.reduceLT,reduceCtorEq,↓reduceIte,aL,AV.cellsOf,AV.fine,AV.one,aQ,Nat.reduceMul,Nat.reduceAdd,Nat.reduceLeDiff,Nat.reduceEqDiff,Int.reduceToNat,Nat.reduceSub,Nat.reduceMod,Nat.reduceDiv,indexK.aggOf,Int.reducePow,Int.reduceLE,Int.reduceNeg,Int.reduceLT,Int.reduceBEq,Int.reduceBNe,Int.reduceEq,aZ,aU,Try.facts,s0,s1,s5,dT,dF,qT,qF,nT,nF,Bool.false_and,Bool.and_false,aj hb6,ah]
        first | refine CallK.p (h2) ?_ | refine CallP.i (h2) ?_
        simp (disch := omega) only [↓aI,aD,aG,ixA,aX,aV,ag,aT,ae,mkA,ab,bnd,aS,aH,aK,cvO,aJ,aY,↓aO,aW,aE,aF,aM,aA,aC,aB,aN,ad,frz,aR,Nat.reduceBEq,Nat.reduceLT,reduceCtorEq,↓reduceIte,aL,AV.cellsOf,AV.fine,AV.one,aQ,Nat.reduceMul,Nat.reduceAdd,Nat.reduceLeDiff,Nat.reduceEqDiff,Int.reduceToNat,Nat.reduceSub,Nat.reduceMod,Nat.reduceDiv,indexK.aggOf,Int.reducePow,Int.reduceLE,Int.reduceNeg,Int.reduceLT,Int.reduceBEq,Int.reduceBNe,Int.reduceEq,aZ,aU,Try.facts,s0,s1,s5,dT,dF,qT,qF,nT,nF,Bool.false_and,Bool.and_false,aj hb6,ah]
        first | refine CallK.p (h3) ?_ | refine CallP.i (h3) ?_
        simp (disch := omega) only [↓aI,aD,aG,ixA,aX,aV,ag,aT,ae,mkA,ab,bnd,aS,aH,aK,cvO,aJ,aY,↓aO,aW,aE,aF,aM,aA,aC,aB,aN,ad,frz,aR,Nat.reduceBEq,Nat.reduceLT,reduceCtorEq,↓reduceIte,aL,AV.cellsOf,AV.fine,AV.one,aQ,Nat.reduceMul,Nat.reduceAdd,Nat.reduceLeDiff,Nat.reduceEqDiff,Int.reduceToNat,Nat.reduceSub,Nat.reduceMod,Nat.reduceDiv,indexK.aggOf,Int.reducePow,Int.reduceLE,Int.reduceNeg,Int.reduceLT,Int.reduceBEq,Int.reduceBNe,Int.reduceEq,aZ,aU,Try.facts,s0,s1,s5,dT,dF,qT,qF,nT,nF,Bool.false_and,Bool.and_false,aj hb6,ah]
        first | refine CallK.p (h4) ?_ | refine CallP.i (h4) ?_
        simp (disch := omega) only [↓aI,aD,aG,ixA,aX,aV,ag,aT,ae,mkA,ab,bnd,aS,aH,aK,cvO,aJ,aY,↓aO,aW,aE,aF,aM,aA,aC,aB,aN,ad,frz,aR,Nat.reduceBEq,Nat.reduceLT,reduceCtorEq,↓reduceIte,aL,AV.cellsOf,AV.fine,AV.one,aQ,Nat.reduceMul,Nat.reduceAdd,Nat.reduceLeDiff,Nat.reduceEqDiff,Int.reduceToNat,Nat.reduceSub,Nat.reduceMod,Nat.reduceDiv,indexK.aggOf,Int.reducePow,Int.reduceLE,Int.reduceNeg,Int.reduceLT,Int.reduceBEq,Int.reduceBNe,Int.reduceEq,aZ,aU,Try.facts,s0,s1,s5,dT,dF,qT,qF,nT,nF,Bool.false_and,Bool.and_false,aj hb6,ah]
        first | refine CallK.p (h5) ?_ | refine CallP.i (h5) ?_
        simp (disch := omega) only [↓aI,aD,aG,ixA,aX,aV,ag,aT,ae,mkA,ab,bnd,aS,aH,aK,cvO,aJ,aY,↓aO,aW,aE,aF,aM,aA,aC,aB,aN,ad,frz,aR,Nat.reduceBEq,Nat.reduceLT,reduceCtorEq,↓reduceIte,aL,AV.cellsOf,AV.fine,AV.one,aQ,Nat.reduceMul,Nat.reduceAdd,Nat.reduceLeDiff,Nat.reduceEqDiff,Int.reduceToNat,Nat.reduceSub,Nat.reduceMod,Nat.reduceDiv,indexK.aggOf,Int.reducePow,Int.reduceLE,Int.reduceNeg,Int.reduceLT,Int.reduceBEq,Int.reduceBNe,Int.reduceEq,aZ,aU,Try.facts,s0,s1,s5,dT,dF,qT,qF,nT,nF,Bool.false_and,Bool.and_false,aj hb6,ah]
        exact ⟨mm - 1,by omega,i + 1,by omega,by rw [hr9],rfl⟩
      · rw [if_neg k1] at hs
        by_cases k2 : kd = 2
        · rw [if_pos k2] at hs
          have h2 := rid_pure r1 (by omega) (x,y)
          rw [← hs] at h2
          simp (disch := omega) only [↓aI,aD,aG,ixA,aX,aV,ag,aT,ae,mkA,ab,bnd,aS,aH,aK,cvO,aJ,aY,↓aO,aW,aE,aF,aM,aA,aC,aB,aN,ad,frz,aR,Nat.reduceBEq,Nat.reduceLT,reduceCtorEq,↓reduceIte,aL,AV.cellsOf,AV.fine,AV.one,aQ,Nat.reduceMul,Nat.reduceAdd,Nat.reduceLeDiff,Nat.reduceEqDiff,Int.reduceToNat,Nat.reduceSub,Nat.reduceMod,Nat.reduceDiv,indexK.aggOf,Int.reducePow,Int.reduceLE,Int.reduceNeg,Int.reduceLT,Int.reduceBEq,Int.reduceBNe,Int.reduceEq,aZ,aU,Try.facts,s0,s1,s5,dT,dF,qT,qF,nT,nF,Bool.false_and,Bool.and_false,hld,hle,hol]
          intro b6 hb60 hb6
          simp (disch := omega) only [↓aI,aD,aG,ixA,aX,aV,ag,aT,ae,mkA,ab,bnd,aS,aH,aK,cvO,aJ,aY,↓aO,aW,aE,aF,aM,aA,aC,aB,aN,ad,frz,aR,Nat.reduceBEq,Nat.reduceLT,reduceCtorEq,↓reduceIte,aL,AV.cellsOf,AV.fine,AV.one,aQ,Nat.reduceMul,Nat.reduceAdd,Nat.reduceLeDiff,Nat.reduceEqDiff,Int.reduceToNat,Nat.reduceSub,Nat.reduceMod,Nat.reduceDiv,indexK.aggOf,Int.reducePow,Int.reduceLE,Int.reduceNeg,Int.reduceLT,Int.reduceBEq,Int.reduceBNe,Int.reduceEq,aZ,aU,Try.facts,s0,s1,s5,dT,dF,qT,qF,nT,nF,Bool.false_and,Bool.and_false,aj hb6,ah]
          first | refine CallK.p (h1) ?_ | refine CallP.i (h1) ?_
          simp (disch := omega) only [↓aI,aD,aG,ixA,aX,aV,ag,aT,ae,mkA,ab,bnd,aS,aH,aK,cvO,aJ,aY,↓aO,aW,aE,aF,aM,aA,aC,aB,aN,ad,frz,aR,Nat.reduceBEq,Nat.reduceLT,reduceCtorEq,↓reduceIte,aL,AV.cellsOf,AV.fine,AV.one,aQ,Nat.reduceMul,Nat.reduceAdd,Nat.reduceLeDiff,Nat.reduceEqDiff,Int.reduceToNat,Nat.reduceSub,Nat.reduceMod,Nat.reduceDiv,indexK.aggOf,Int.reducePow,Int.reduceLE,Int.reduceNeg,Int.reduceLT,Int.reduceBEq,Int.reduceBNe,Int.reduceEq,aZ,aU,Try.facts,s0,s1,s5,dT,dF,qT,qF,nT,nF,Bool.false_and,Bool.and_false,aj hb6,ah]
          first | refine CallK.p (h2) ?_ | refine CallP.i (h2) ?_
          simp (disch := omega) only [↓aI,aD,aG,ixA,aX,aV,ag,aT,ae,mkA,ab,bnd,aS,aH,aK,cvO,aJ,aY,↓aO,aW,aE,aF,aM,aA,aC,aB,aN,ad,frz,aR,Nat.reduceBEq,Nat.reduceLT,reduceCtorEq,↓reduceIte,aL,AV.cellsOf,AV.fine,AV.one,aQ,Nat.reduceMul,Nat.reduceAdd,Nat.reduceLeDiff,Nat.reduceEqDiff,Int.reduceToNat,Nat.reduceSub,Nat.reduceMod,Nat.reduceDiv,indexK.aggOf,Int.reducePow,Int.reduceLE,Int.reduceNeg,Int.reduceLT,Int.reduceBEq,Int.reduceBNe,Int.reduceEq,aZ,aU,Try.facts,s0,s1,s5,dT,dF,qT,qF,nT,nF,Bool.false_and,Bool.and_false,aj hb6,ah]
          exact ⟨mm - 1,by omega,i + 1,by omega,by rw [hr9],rfl⟩
        · rw [if_neg k2] at hs
          by_cases k3 : kd = 3
          · rw [if_pos k3] at hs
            have l1 := vnum_length mc
            have l2 := vnum_length ma
            have l3 := vid_length (g1,g2)
            have l4 := vid_length (t1,t2)
            have l5 := vfl_length fb
            have l6 := vfl_length tb
            have l7 := vnum_length nm
            have h2 := rnum18_pure r1 (by omega) mc
            have h3 := rnum18_pure (r1 ++ vnum mc) (by simp only [List.length_append]; omega) ma
            have h4 := ranchor_pure (r1 ++ vnum mc ++ vnum ma) (by simp only [List.length_append]; omega) (g1,g2) fb
            have h5 := ranchor_pure (r1 ++ vnum mc ++ vnum ma ++ van (g1,g2) fb) (by simp only [van,List.length_append]; omega) (t1,t2) tb
            have h6 := rnum18_pure (r1 ++ vnum mc ++ vnum ma ++ van (g1,g2) fb ++ van (t1,t2) tb) (by simp only [van,List.length_append]; omega) nm
            have h7 := rnum18_pure (r1 ++ vnum mc ++ vnum ma ++ van (g1,g2) fb ++ van (t1,t2) tb ++ vnum nm) (by simp only [van,List.length_append]; omega) vl
            rw [show r1 ++ vnum mc ++ vnum ma ++ van (g1,g2) fb ++ van (t1,t2) tb ++ vnum nm ++ vnum vl = r9 by rw [hs]; simp [vMar]] at h7
            generalize r1 ++ vnum mc ++ vnum ma ++ van (g1,g2) fb ++ van (t1,t2) tb ++ vnum nm = r6 at *
            generalize r1 ++ vnum mc ++ vnum ma ++ van (g1,g2) fb ++ van (t1,t2) tb = r5 at *
            generalize r1 ++ vnum mc ++ vnum ma ++ van (g1,g2) fb = r4 at *
            generalize r1 ++ vnum mc ++ vnum ma = r3 at *
            generalize r1 ++ vnum mc = r2 at *
            simp (disch := omega) only [↓aI,aD,aG,ixA,aX,aV,ag,aT,ae,mkA,ab,bnd,aS,aH,aK,cvO,aJ,aY,↓aO,aW,aE,aF,aM,aA,aC,aB,aN,ad,frz,aR,Nat.reduceBEq,Nat.reduceLT,reduceCtorEq,↓reduceIte,aL,AV.cellsOf,AV.fine,AV.one,aQ,Nat.reduceMul,Nat.reduceAdd,Nat.reduceLeDiff,Nat.reduceEqDiff,Int.reduceToNat,Nat.reduceSub,Nat.reduceMod,Nat.reduceDiv,indexK.aggOf,Int.reducePow,Int.reduceLE,Int.reduceNeg,Int.reduceLT,Int.reduceBEq,Int.reduceBNe,Int.reduceEq,aZ,aU,Try.facts,s0,s1,s5,dT,dF,qT,qF,nT,nF,Bool.false_and,Bool.and_false,hld,hle,hol]
            intro b6 hb60 hb6
            simp (disch := omega) only [↓aI,aD,aG,ixA,aX,aV,ag,aT,ae,mkA,ab,bnd,aS,aH,aK,cvO,aJ,aY,↓aO,aW,aE,aF,aM,aA,aC,aB,aN,ad,frz,aR,Nat.reduceBEq,Nat.reduceLT,reduceCtorEq,↓reduceIte,aL,AV.cellsOf,AV.fine,AV.one,aQ,Nat.reduceMul,Nat.reduceAdd,Nat.reduceLeDiff,Nat.reduceEqDiff,Int.reduceToNat,Nat.reduceSub,Nat.reduceMod,Nat.reduceDiv,indexK.aggOf,Int.reducePow,Int.reduceLE,Int.reduceNeg,Int.reduceLT,Int.reduceBEq,Int.reduceBNe,Int.reduceEq,aZ,aU,Try.facts,s0,s1,s5,dT,dF,qT,qF,nT,nF,Bool.false_and,Bool.and_false,aj hb6,ah]
            first | refine CallK.p (h1) ?_ | refine CallP.i (h1) ?_
            simp (disch := omega) only [↓aI,aD,aG,ixA,aX,aV,ag,aT,ae,mkA,ab,bnd,aS,aH,aK,cvO,aJ,aY,↓aO,aW,aE,aF,aM,aA,aC,aB,aN,ad,frz,aR,Nat.reduceBEq,Nat.reduceLT,reduceCtorEq,↓reduceIte,aL,AV.cellsOf,AV.fine,AV.one,aQ,Nat.reduceMul,Nat.reduceAdd,Nat.reduceLeDiff,Nat.reduceEqDiff,Int.reduceToNat,Nat.reduceSub,Nat.reduceMod,Nat.reduceDiv,indexK.aggOf,Int.reducePow,Int.reduceLE,Int.reduceNeg,Int.reduceLT,Int.reduceBEq,Int.reduceBNe,Int.reduceEq,aZ,aU,Try.facts,s0,s1,s5,dT,dF,qT,qF,nT,nF,Bool.false_and,Bool.and_false,aj hb6,ah]
            first | refine CallK.p (h2) ?_ | refine CallP.i (h2) ?_
            simp (disch := omega) only [↓aI,aD,aG,ixA,aX,aV,ag,aT,ae,mkA,ab,bnd,aS,aH,aK,cvO,aJ,aY,↓aO,aW,aE,aF,aM,aA,aC,aB,aN,ad,frz,aR,Nat.reduceBEq,Nat.reduceLT,reduceCtorEq,↓reduceIte,aL,AV.cellsOf,AV.fine,AV.one,aQ,Nat.reduceMul,Nat.reduceAdd,Nat.reduceLeDiff,Nat.reduceEqDiff,Int.reduceToNat,Nat.reduceSub,Nat.reduceMod,Nat.reduceDiv,indexK.aggOf,Int.reducePow,Int.reduceLE,Int.reduceNeg,Int.reduceLT,Int.reduceBEq,Int.reduceBNe,Int.reduceEq,aZ,aU,Try.facts,s0,s1,s5,dT,dF,qT,qF,nT,nF,Bool.false_and,Bool.and_false,aj hb6,ah]
            first | refine CallK.p (h3) ?_ | refine CallP.i (h3) ?_
            simp (disch := omega) only [↓aI,aD,aG,ixA,aX,aV,ag,aT,ae,mkA,ab,bnd,aS,aH,aK,cvO,aJ,aY,↓aO,aW,aE,aF,aM,aA,aC,aB,aN,ad,frz,aR,Nat.reduceBEq,Nat.reduceLT,reduceCtorEq,↓reduceIte,aL,AV.cellsOf,AV.fine,AV.one,aQ,Nat.reduceMul,Nat.reduceAdd,Nat.reduceLeDiff,Nat.reduceEqDiff,Int.reduceToNat,Nat.reduceSub,Nat.reduceMod,Nat.reduceDiv,indexK.aggOf,Int.reducePow,Int.reduceLE,Int.reduceNeg,Int.reduceLT,Int.reduceBEq,Int.reduceBNe,Int.reduceEq,aZ,aU,Try.facts,s0,s1,s5,dT,dF,qT,qF,nT,nF,Bool.false_and,Bool.and_false,aj hb6,ah]
            first | refine CallK.p (h4) ?_ | refine CallP.i (h4) ?_
            simp (disch := omega) only [↓aI,aD,aG,ixA,aX,aV,ag,aT,ae,mkA,ab,bnd,aS,aH,aK,cvO,aJ,aY,↓aO,aW,aE,aF,aM,aA,aC,aB,aN,ad,frz,aR,Nat.reduceBEq,Nat.reduceLT,reduceCtorEq,↓reduceIte,aL,AV.cellsOf,AV.fine,AV.one,aQ,Nat.reduceMul,Nat.reduceAdd,Nat.reduceLeDiff,Nat.reduceEqDiff,Int.reduceToNat,Nat.reduceSub,Nat.reduceMod,Nat.reduceDiv,indexK.aggOf,Int.reducePow,Int.reduceLE,Int.reduceNeg,Int.reduceLT,Int.reduceBEq,Int.reduceBNe,Int.reduceEq,aZ,aU,Try.facts,s0,s1,s5,dT,dF,qT,qF,nT,nF,Bool.false_and,Bool.and_false,aj hb6,ah]
            first | refine CallK.p (h5) ?_ | refine CallP.i (h5) ?_
            simp (disch := omega) only [↓aI,aD,aG,ixA,aX,aV,ag,aT,ae,mkA,ab,bnd,aS,aH,aK,cvO,aJ,aY,↓aO,aW,aE,aF,aM,aA,aC,aB,aN,ad,frz,aR,Nat.reduceBEq,Nat.reduceLT,reduceCtorEq,↓reduceIte,aL,AV.cellsOf,AV.fine,AV.one,aQ,Nat.reduceMul,Nat.reduceAdd,Nat.reduceLeDiff,Nat.reduceEqDiff,Int.reduceToNat,Nat.reduceSub,Nat.reduceMod,Nat.reduceDiv,indexK.aggOf,Int.reducePow,Int.reduceLE,Int.reduceNeg,Int.reduceLT,Int.reduceBEq,Int.reduceBNe,Int.reduceEq,aZ,aU,Try.facts,s0,s1,s5,dT,dF,qT,qF,nT,nF,Bool.false_and,Bool.and_false,aj hb6,ah]
            first | refine CallK.p (h6) ?_ | refine CallP.i (h6) ?_
            simp (disch := omega) only [↓aI,aD,aG,ixA,aX,aV,ag,aT,ae,mkA,ab,bnd,aS,aH,aK,cvO,aJ,aY,↓aO,aW,aE,aF,aM,aA,aC,aB,aN,ad,frz,aR,Nat.reduceBEq,Nat.reduceLT,reduceCtorEq,↓reduceIte,aL,AV.cellsOf,AV.fine,AV.one,aQ,Nat.reduceMul,Nat.reduceAdd,Nat.reduceLeDiff,Nat.reduceEqDiff,Int.reduceToNat,Nat.reduceSub,Nat.reduceMod,Nat.reduceDiv,indexK.aggOf,Int.reducePow,Int.reduceLE,Int.reduceNeg,Int.reduceLT,Int.reduceBEq,Int.reduceBNe,Int.reduceEq,aZ,aU,Try.facts,s0,s1,s5,dT,dF,qT,qF,nT,nF,Bool.false_and,Bool.and_false,aj hb6,ah]
            first | refine CallK.p (h7) ?_ | refine CallP.i (h7) ?_
            simp (disch := omega) only [↓aI,aD,aG,ixA,aX,aV,ag,aT,ae,mkA,ab,bnd,aS,aH,aK,cvO,aJ,aY,↓aO,aW,aE,aF,aM,aA,aC,aB,aN,ad,frz,aR,Nat.reduceBEq,Nat.reduceLT,reduceCtorEq,↓reduceIte,aL,AV.cellsOf,AV.fine,AV.one,aQ,Nat.reduceMul,Nat.reduceAdd,Nat.reduceLeDiff,Nat.reduceEqDiff,Int.reduceToNat,Nat.reduceSub,Nat.reduceMod,Nat.reduceDiv,indexK.aggOf,Int.reducePow,Int.reduceLE,Int.reduceNeg,Int.reduceLT,Int.reduceBEq,Int.reduceBNe,Int.reduceEq,aZ,aU,Try.facts,s0,s1,s5,dT,dF,qT,qF,nT,nF,Bool.false_and,Bool.and_false,aj hb6,ah]
            exact ⟨mm - 1,by omega,i + 1,by omega,by rw [hr9],rfl⟩
          · rw [if_neg k3,List.append_nil] at hs
            subst hs
            simp (disch := omega) only [↓aI,aD,aG,ixA,aX,aV,ag,aT,ae,mkA,ab,bnd,aS,aH,aK,cvO,aJ,aY,↓aO,aW,aE,aF,aM,aA,aC,aB,aN,ad,frz,aR,Nat.reduceBEq,Nat.reduceLT,reduceCtorEq,↓reduceIte,aL,AV.cellsOf,AV.fine,AV.one,aQ,Nat.reduceMul,Nat.reduceAdd,Nat.reduceLeDiff,Nat.reduceEqDiff,Int.reduceToNat,Nat.reduceSub,Nat.reduceMod,Nat.reduceDiv,indexK.aggOf,Int.reducePow,Int.reduceLE,Int.reduceNeg,Int.reduceLT,Int.reduceBEq,Int.reduceBNe,Int.reduceEq,aZ,aU,Try.facts,s0,s1,s5,dT,dF,qT,qF,nT,nF,Bool.false_and,Bool.and_false,hld,hle,hol]
            intro b6 hb60 hb6
            simp (disch := omega) only [↓aI,aD,aG,ixA,aX,aV,ag,aT,ae,mkA,ab,bnd,aS,aH,aK,cvO,aJ,aY,↓aO,aW,aE,aF,aM,aA,aC,aB,aN,ad,frz,aR,Nat.reduceBEq,Nat.reduceLT,reduceCtorEq,↓reduceIte,aL,AV.cellsOf,AV.fine,AV.one,aQ,Nat.reduceMul,Nat.reduceAdd,Nat.reduceLeDiff,Nat.reduceEqDiff,Int.reduceToNat,Nat.reduceSub,Nat.reduceMod,Nat.reduceDiv,indexK.aggOf,Int.reducePow,Int.reduceLE,Int.reduceNeg,Int.reduceLT,Int.reduceBEq,Int.reduceBNe,Int.reduceEq,aZ,aU,Try.facts,s0,s1,s5,dT,dF,qT,qF,nT,nF,Bool.false_and,Bool.and_false,aj hb6,ah]
            first | refine CallK.p (h1) ?_ | refine CallP.i (h1) ?_
            simp (disch := omega) only [↓aI,aD,aG,ixA,aX,aV,ag,aT,ae,mkA,ab,bnd,aS,aH,aK,cvO,aJ,aY,↓aO,aW,aE,aF,aM,aA,aC,aB,aN,ad,frz,aR,Nat.reduceBEq,Nat.reduceLT,reduceCtorEq,↓reduceIte,aL,AV.cellsOf,AV.fine,AV.one,aQ,Nat.reduceMul,Nat.reduceAdd,Nat.reduceLeDiff,Nat.reduceEqDiff,Int.reduceToNat,Nat.reduceSub,Nat.reduceMod,Nat.reduceDiv,indexK.aggOf,Int.reducePow,Int.reduceLE,Int.reduceNeg,Int.reduceLT,Int.reduceBEq,Int.reduceBNe,Int.reduceEq,aZ,aU,Try.facts,s0,s1,s5,dT,dF,qT,qF,nT,nF,Bool.false_and,Bool.and_false,aj hb6,ah]
            exact ⟨mm - 1,by omega,i + 1,by omega,by rw [hr9],rfl⟩
    · obtain rfl : i = l.length := by omega
      rw [List.take_length] at s0
      generalize b0 ++ vops l = r at *
      simp (disch := omega) only [↓aI,aD,aG,ixA,aX,aV,ag,aT,ae,mkA,ab,bnd,aS,aH,aK,cvO,aJ,aY,↓aO,aW,aE,aF,aM,aA,aC,aB,aN,ad,frz,aR,Nat.reduceBEq,Nat.reduceLT,reduceCtorEq,↓reduceIte,aL,AV.cellsOf,AV.fine,AV.one,aQ,Nat.reduceMul,Nat.reduceAdd,Nat.reduceLeDiff,Nat.reduceEqDiff,Int.reduceToNat,Nat.reduceSub,Nat.reduceMod,Nat.reduceDiv,indexK.aggOf,Int.reducePow,Int.reduceLE,Int.reduceNeg,Int.reduceLT,Int.reduceBEq,Int.reduceBNe,Int.reduceEq,aZ,aU,Try.facts,s0,s1,s5,dT,dF,qT,qF,nT,nF,Bool.false_and,Bool.and_false]
      exact Abs.Sub.refl _
end Go.Proofs.Ytimonfakmadhpaa
end
