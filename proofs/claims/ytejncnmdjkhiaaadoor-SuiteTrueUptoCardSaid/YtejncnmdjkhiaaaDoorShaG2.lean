/-
  Several texts in one: each says what it proves.
  Conditions: none. Lemmas only.
-/
import Derived.Test.YtejncnmdjkhiaaaDoorSuiG1
import Derived.Test.YtejncnmdjkhiaaaDoorShaG1
set_option linter.all false
section
set_option linter.unusedSimpArgs false
set_option linter.unusedVariables false
set_option maxRecDepth 20000
namespace Go.Proofs.YtejncnmdjkhiaaaDoor
open Go Go.Abs Go.Proofs Go.Sha
theorem bits_u32 : IntKind.u32.bits = 32 := rfl
theorem wcast32 {a : Nat} : IntKind.u32.wrap (a : Int) = ((a % 4294967296 : Nat) : Int) := by
  unfold IntKind.wrap
  simp only [bits_u32,IntKind.signed,Bool.false_and,Bool.false_eq_true,if_false]
  exact (Int.natCast_emod a 4294967296).symm
theorem lt32 {a : Nat} (h : a < 4294967296) : a < 2 ^ 32 := h
theorem bits_xor32 {a b : Nat} (ha : a < 4294967296) (hb : b < 4294967296) : bits .xor .u32 (a : Int) (b : Int) = ((a ^^^ b : Nat) : Int) := by
  show IntKind.u32.wrap ((BitVec.ofInt 32 (a : Int) ^^^ BitVec.ofInt 32 (b : Int)).toNat : Int) = _
  rw [BitVec.ofInt_natCast,BitVec.ofInt_natCast]
  simp only [BitVec.toNat_xor,BitVec.toNat_ofNat,Nat.mod_eq_of_lt (lt32 ha),Nat.mod_eq_of_lt (lt32 hb)]
  rw [wcast32,Nat.mod_eq_of_lt (Nat.xor_lt_two_pow (lt32 ha) (lt32 hb))]
theorem bits_and32 {a b : Nat} (ha : a < 4294967296) (hb : b < 4294967296) : bits .and .u32 (a : Int) (b : Int) = ((a &&& b : Nat) : Int) := by
  show IntKind.u32.wrap ((BitVec.ofInt 32 (a : Int) &&& BitVec.ofInt 32 (b : Int)).toNat : Int) = _
  rw [BitVec.ofInt_natCast,BitVec.ofInt_natCast]
  simp only [BitVec.toNat_and,BitVec.toNat_ofNat,Nat.mod_eq_of_lt (lt32 ha),Nat.mod_eq_of_lt (lt32 hb)]
  rw [wcast32,Nat.mod_eq_of_lt (Nat.and_lt_two_pow _ (lt32 hb))]
theorem bits_or32 {a b : Nat} (ha : a < 4294967296) (hb : b < 4294967296) : bits .or .u32 (a : Int) (b : Int) = ((a ||| b : Nat) : Int) := by
  show IntKind.u32.wrap ((BitVec.ofInt 32 (a : Int) ||| BitVec.ofInt 32 (b : Int)).toNat : Int) = _
  rw [BitVec.ofInt_natCast,BitVec.ofInt_natCast]
  simp only [BitVec.toNat_or,BitVec.toNat_ofNat,Nat.mod_eq_of_lt (lt32 ha),Nat.mod_eq_of_lt (lt32 hb)]
  rw [wcast32,Nat.mod_eq_of_lt (Nat.or_lt_two_pow (lt32 ha) (lt32 hb))]
theorem lt64 {a : Nat} (h : a < 18446744073709551616) : a < 2 ^ 64 := h
theorem bits_xor64 {a b : Nat} (ha : a < 18446744073709551616) (hb : b < 18446744073709551616) : bits .xor .u64 (a : Int) (b : Int) = ((a ^^^ b : Nat) : Int) := by
  show IntKind.u64.wrap ((BitVec.ofInt 64 (a : Int) ^^^ BitVec.ofInt 64 (b : Int)).toNat : Int) = _
  rw [BitVec.ofInt_natCast,BitVec.ofInt_natCast]
  simp only [BitVec.toNat_xor,BitVec.toNat_ofNat,Nat.mod_eq_of_lt (lt64 ha),Nat.mod_eq_of_lt (lt64 hb)]
  exact jw (Nat.xor_lt_two_pow (lt64 ha) (lt64 hb))
theorem bits_and64 {a b : Nat} (ha : a < 18446744073709551616) (hb : b < 18446744073709551616) : bits .and .u64 (a : Int) (b : Int) = ((a &&& b : Nat) : Int) := by
  show IntKind.u64.wrap ((BitVec.ofInt 64 (a : Int) &&& BitVec.ofInt 64 (b : Int)).toNat : Int) = _
  rw [BitVec.ofInt_natCast,BitVec.ofInt_natCast]
  simp only [BitVec.toNat_and,BitVec.toNat_ofNat,Nat.mod_eq_of_lt (lt64 ha),Nat.mod_eq_of_lt (lt64 hb)]
  exact jw (Nat.and_lt_two_pow _ (lt64 hb))
theorem wadd32 {a b : Nat} : IntKind.u32.wrap ((a : Int) + (b : Int)) = (((a + b) % 4294967296 : Nat) : Int) := by rw [← Int.natCast_add,wcast32]
theorem shl32 {a n : Nat} : IntKind.u32.wrap ((a : Int) * 2 ^ n) = ((a * 2 ^ n % 4294967296 : Nat) : Int) := by
  have : ((a : Int) * 2 ^ n) = ((a * 2 ^ n : Nat) : Int) := by rw [Int.natCast_mul,Int.natCast_pow]; rfl
  rw [this,wcast32]
theorem shrN {a n : Nat} : ((a : Int)).fdiv (2 ^ n) = ((a / 2 ^ n : Nat) : Int) := by
  have : (2 ^ n : Int) = ((2 ^ n : Nat) : Int) := by rw [Int.natCast_pow]; rfl
  rw [this,Int.fdiv_eq_ediv_of_nonneg _ (Int.natCast_nonneg _)]; rfl
theorem minL {n m : Nat} (h : n ≤ m) : min n m = n := Nat.min_eq_left h
theorem turn_pure (x n : Nat) (hx : x < 4294967296) (hn : n ≤ 32) : APure Tryd.prog 61 [.sc (.int .u32 x),.sc (.int .i64 n),.sc (.int .i64 32)] (.sc (.int .u32 (rotM 32 x n))) := by
  have e := rot_or (w := 32) (lt32 hx) hn
  have h1 : x / 2 ^ n < 4294967296 := Nat.lt_of_le_of_lt (Nat.div_le_self _ _) hx
  have h2 : x * 2 ^ (32 - n) % 4294967296 < 4294967296 := Nat.mod_lt _ (by decide)
  rw [← e]
  have h3 : ((32 : Int) - (n : Int)) = ((32 - n : Nat) : Int) := by omega
  refine az (c := ⟨Tryd.prog,16,[(1,[0,0,0,0,0,0,0,0,0,0])],[],[]⟩) (rs := [ResultVar.tmp 6]) Tryd.mixed Tryd.func61 rfl rfl rfl (Nat.le_of_ble_eq_true rfl) (by kernel_rfl) fun H => ?_
  simp (disch := omega) only [↓aI,↓zP,aD,zD,aS,Nat.reduceBEq,Nat.reduceLT,reduceCtorEq,↓reduceIte,Nat.reduceMul,Nat.reduceAdd,Nat.reduceLeDiff,Nat.reduceEqDiff,Int.reduceToNat,Nat.reduceSub,Nat.reduceMod,Nat.reduceDiv,Int.reducePow,Int.reduceLE,Int.reduceNeg,Int.reduceLT,Int.reduceBEq,Int.reduceBNe,Int.reduceEq,Tryd.facts,bits_u32,minL,shl32,shrN,bits_or32 h1 h2,h3]
  first | exact Abs.Sub.refl _ | trace_state
end Go.Proofs.YtejncnmdjkhiaaaDoor
end
section
set_option linter.unusedSimpArgs false
set_option linter.unusedVariables false
set_option maxRecDepth 20000
namespace Go.Proofs.YtejncnmdjkhiaaaDoor
open Go Go.Abs Go.Proofs Go.Sha
def by3 (a b c : Nat) : AV := .agg [.sc (.int .i64 a),.sc (.int .i64 b),.sc (.int .i64 c)]
theorem rot32 {x n : Nat} (hx : x < 4294967296) (hn : n ≤ 32) : rotM 32 x n < 4294967296 := rot_lt (w := 32) hx hn
theorem xor32 {a b : Nat} (ha : a < 4294967296) (hb : b < 4294967296) : a ^^^ b < 4294967296 := xor_lt (w := 32) ha hb
theorem turned_pure (x a b c : Nat) (hx : x < 4294967296) (ha : a ≤ 32) (hb : b ≤ 32) (hc : c ≤ 32) : APure Tryd.prog 54 [.sc (.int .u32 x),by3 a b c,.sc (.int .i64 32)] (.sc (.int .u32 (turM 32 x a b c))) := by
  have h1 := turn_pure x a hx ha
  have h2 := turn_pure x b hx hb
  have h3 := turn_pure x c hx hc
  have l1 := rot32 hx ha
  have l2 := rot32 hx hb
  have l3 := rot32 hx hc
  have l4 := xor32 l1 l2
  unfold turM by3
  generalize rotM 32 x a = u at *
  generalize rotM 32 x b = v at *
  generalize rotM 32 x c = w at *
  refine az (c := ⟨Tryd.prog,24,[(1,[0,0,1,0,0,0,0,1,0,0,0,0,0,1,0,0,0,0]),(1000000,[4])],[],[]⟩) (rs := [ResultVar.tmp 6]) Tryd.mixed Tryd.func54 rfl rfl rfl (Nat.le_of_ble_eq_true rfl) (by kernel_rfl) fun H => ?_
  simp (disch := omega) only [↓aI,↓zP,aD,zD,aS,Nat.reduceBEq,Nat.reduceLT,reduceCtorEq,↓reduceIte,Nat.reduceMul,Nat.reduceAdd,Nat.reduceLeDiff,Nat.reduceEqDiff,Int.reduceToNat,Nat.reduceSub,Nat.reduceMod,Nat.reduceDiv,Int.reducePow,Int.reduceLE,Int.reduceNeg,Int.reduceLT,Int.reduceBEq,Int.reduceBNe,Int.reduceEq,Tryd.facts]
  intro k hk0 hk
  first | refine CallK.p (h1) ?_ | refine CallP.i (h1) ?_
  simp (disch := omega) only [↓aI,↓zP,aD,zD,aS,Nat.reduceBEq,Nat.reduceLT,reduceCtorEq,↓reduceIte,Nat.reduceMul,Nat.reduceAdd,Nat.reduceLeDiff,Nat.reduceEqDiff,Int.reduceToNat,Nat.reduceSub,Nat.reduceMod,Nat.reduceDiv,Int.reducePow,Int.reduceLE,Int.reduceNeg,Int.reduceLT,Int.reduceBEq,Int.reduceBNe,Int.reduceEq,Tryd.facts]
  first | refine CallK.p (h2) ?_ | refine CallP.i (h2) ?_
  simp (disch := omega) only [↓aI,↓zP,aD,zD,aS,Nat.reduceBEq,Nat.reduceLT,reduceCtorEq,↓reduceIte,Nat.reduceMul,Nat.reduceAdd,Nat.reduceLeDiff,Nat.reduceEqDiff,Int.reduceToNat,Nat.reduceSub,Nat.reduceMod,Nat.reduceDiv,Int.reducePow,Int.reduceLE,Int.reduceNeg,Int.reduceLT,Int.reduceBEq,Int.reduceBNe,Int.reduceEq,Tryd.facts,bits_xor32 l1 l2]
  first | refine CallK.p (h3) ?_ | refine CallP.i (h3) ?_
  simp (disch := omega) only [↓aI,↓zP,aD,zD,aS,Nat.reduceBEq,Nat.reduceLT,reduceCtorEq,↓reduceIte,Nat.reduceMul,Nat.reduceAdd,Nat.reduceLeDiff,Nat.reduceEqDiff,Int.reduceToNat,Nat.reduceSub,Nat.reduceMod,Nat.reduceDiv,Int.reducePow,Int.reduceLE,Int.reduceNeg,Int.reduceLT,Int.reduceBEq,Int.reduceBNe,Int.reduceEq,Tryd.facts,bits_xor32 l1 l2,bits_xor32 l4 l3]
  exact Sub.box hk
theorem shifted_pure (x a b c : Nat) (hx : x < 4294967296) (ha : a ≤ 32) (hb : b ≤ 32) (hc : c ≤ 32) : APure Tryd.prog 53 [.sc (.int .u32 x),by3 a b c,.sc (.int .i64 32)] (.sc (.int .u32 (shfM 32 x a b c))) := by
  have h1 := turn_pure x a hx ha
  have h2 := turn_pure x b hx hb
  have l1 := rot32 hx ha
  have l2 := rot32 hx hb
  have l3 : x / 2 ^ c < 4294967296 := Nat.lt_of_le_of_lt (Nat.div_le_self _ _) hx
  have l4 := xor32 l1 l2
  unfold shfM by3
  generalize rotM 32 x a = u at *
  generalize rotM 32 x b = v at *
  refine az (c := ⟨Tryd.prog,23,[(1,[0,0,1,0,0,0,0,1,0,0,0,0,0,1,0,0,0]),(1000000,[4])],[],[]⟩) (rs := [ResultVar.tmp 6]) Tryd.mixed Tryd.func53 rfl rfl rfl (Nat.le_of_ble_eq_true rfl) (by kernel_rfl) fun H => ?_
  simp (disch := omega) only [↓aI,↓zP,aD,zD,aS,Nat.reduceBEq,Nat.reduceLT,reduceCtorEq,↓reduceIte,Nat.reduceMul,Nat.reduceAdd,Nat.reduceLeDiff,Nat.reduceEqDiff,Int.reduceToNat,Nat.reduceSub,Nat.reduceMod,Nat.reduceDiv,Int.reducePow,Int.reduceLE,Int.reduceNeg,Int.reduceLT,Int.reduceBEq,Int.reduceBNe,Int.reduceEq,Tryd.facts]
  intro k hk0 hk
  first | refine CallK.p (h1) ?_ | refine CallP.i (h1) ?_
  simp (disch := omega) only [↓aI,↓zP,aD,zD,aS,Nat.reduceBEq,Nat.reduceLT,reduceCtorEq,↓reduceIte,Nat.reduceMul,Nat.reduceAdd,Nat.reduceLeDiff,Nat.reduceEqDiff,Int.reduceToNat,Nat.reduceSub,Nat.reduceMod,Nat.reduceDiv,Int.reducePow,Int.reduceLE,Int.reduceNeg,Int.reduceLT,Int.reduceBEq,Int.reduceBNe,Int.reduceEq,Tryd.facts]
  first | refine CallK.p (h2) ?_ | refine CallP.i (h2) ?_
  simp (disch := omega) only [↓aI,↓zP,aD,zD,aS,Nat.reduceBEq,Nat.reduceLT,reduceCtorEq,↓reduceIte,Nat.reduceMul,Nat.reduceAdd,Nat.reduceLeDiff,Nat.reduceEqDiff,Int.reduceToNat,Nat.reduceSub,Nat.reduceMod,Nat.reduceDiv,Int.reducePow,Int.reduceLE,Int.reduceNeg,Int.reduceLT,Int.reduceBEq,Int.reduceBNe,Int.reduceEq,Tryd.facts,bits_xor32 l1 l2,bits_u32,minL,shrN,bits_xor32 l4 l3]
  exact Sub.box hk
theorem glob1 : globV 1 = .ip (keys256.map fun x : Nat => AV.sc (.int .u32 x)) 0 := rfl
theorem keys_at {t : Nat} (h : t < 64) : (keys256.map fun x : Nat => AV.sc (.int .u32 x))[t]? = some (.sc (.int .u32 (kM t))) := by
  have hl : keys256.length = 64 := rfl
  rw [List.getElem?_map,List.getElem?_eq_getElem (by omega)]
  simp [kM,List.getD,List.getElem?_eq_getElem (show t < keys256.length by omega)]
theorem key256_pure (t : Nat) (ht : t < 64) : APure Tryd.prog 43 [.sc (.int .i64 t)] (.sc (.int .u32 (kM t))) := by
  have hk := keys_at ht
  have hg := glob1
  have hl : (keys256.map fun x : Nat => AV.sc (.int .u32 x)).length = 64 := rfl
  generalize (keys256.map fun x : Nat => AV.sc (.int .u32 x)) = ks at *
  generalize kM t = y at *
  refine az (c := ⟨Tryd.prog,6,[],[],[]⟩) (rs := [ResultVar.tmp 2]) Tryd.mixed Tryd.func43 rfl rfl rfl (Nat.le_of_ble_eq_true rfl) (by kernel_rfl) fun H => ?_
  simp (disch := omega) only [↓aI,↓zP,aD,zD,aS,Nat.reduceBEq,Nat.reduceLT,reduceCtorEq,↓reduceIte,Nat.reduceMul,Nat.reduceAdd,Nat.reduceLeDiff,Nat.reduceEqDiff,Int.reduceToNat,Nat.reduceSub,Nat.reduceMod,Nat.reduceDiv,Int.reducePow,Int.reduceLE,Int.reduceNeg,Int.reduceLT,Int.reduceBEq,Int.reduceBNe,Int.reduceEq,Tryd.facts,hg,hk,hl]
  first | exact Abs.Sub.refl _ | trace_state
end Go.Proofs.YtejncnmdjkhiaaaDoor
end
section
set_option linter.unusedSimpArgs false
set_option linter.unusedVariables false
set_option maxRecDepth 20000
namespace Go.Proofs.YtejncnmdjkhiaaaDoor
open Go Go.Abs Go.Proofs Go.Sha
def kindV (ks fs : AV) : AV := .agg [.sc (.int .i64 32),.sc (.int .i64 64),.sc (.int .i64 2),.sc (.int .i64 13),.sc (.int .i64 22),.sc (.int .i64 6),.sc (.int .i64 11),.sc (.int .i64 25),.sc (.int .i64 7),.sc (.int .i64 18),.sc (.int .i64 3),.sc (.int .i64 17),.sc (.int .i64 19),.sc (.int .i64 10),ks,fs]
theorem cut_pure (ks fs : List AV) (n m : Nat) (x : Nat) (hx : x < 18446744073709551616) : APure Tryd.prog 59 [kindV (.imm 0 ks n) (.imm 0 fs m),.sc (.int .u64 x)] (.sc (.int .u64 (x % 4294967296 : Nat))) := by
  unfold kindV
  refine az (c := ⟨Tryd.prog,11,[(1000000,[2])],[],[]⟩) (rs := [ResultVar.tmp 4]) Tryd.mixed Tryd.func59 rfl rfl rfl (Nat.le_of_ble_eq_true rfl) (by kernel_rfl) fun H => ?_
  simp (disch := omega) only [↓aI,↓zP,aD,zD,aS,Nat.reduceBEq,Nat.reduceLT,reduceCtorEq,↓reduceIte,Nat.reduceMul,Nat.reduceAdd,Nat.reduceLeDiff,Nat.reduceEqDiff,Int.reduceToNat,Nat.reduceSub,Nat.reduceMod,Nat.reduceDiv,Int.reducePow,Int.reduceLE,Int.reduceNeg,Int.reduceLT,Int.reduceBEq,Int.reduceBNe,Int.reduceEq,Tryd.facts]
  intro k hk0 hk
  simp (disch := omega) only [↓aI,↓zP,aD,zD,aS,Nat.reduceBEq,Nat.reduceLT,reduceCtorEq,↓reduceIte,Nat.reduceMul,Nat.reduceAdd,Nat.reduceLeDiff,Nat.reduceEqDiff,Int.reduceToNat,Nat.reduceSub,Nat.reduceMod,Nat.reduceDiv,Int.reducePow,Int.reduceLE,Int.reduceNeg,Int.reduceLT,Int.reduceBEq,Int.reduceBNe,Int.reduceEq,Tryd.facts,jd]
  exact Sub.box hk
theorem pow_le_32 {i : Nat} (h : i ≤ 32) : 2 ^ i ≤ 4294967296 := Nat.le_trans (Nat.pow_le_pow_right (by decide) h) (by decide)
theorem dturn_pure (ks fs : List AV) (n0 m0 : Nat) (x n : Nat) (hx : x < 4294967296) (hn : n ≤ 32) : APure Tryd.prog 65 [kindV (.imm 0 ks n0) (.imm 0 fs m0),.sc (.int .u64 x),.sc (.int .i64 n)] (.sc (.int .u64 (rotM 32 x n))) := by
  unfold kindV
  refine az (c := ⟨Tryd.prog,31,[(1000000,[3])],[],[]⟩) (rs := [ResultVar.tmp 6]) Tryd.mixed Tryd.func65 rfl rfl rfl (Nat.le_of_ble_eq_true rfl) (by kernel_rfl) fun H => ?_
  simp (disch := omega) only [↓aI,↓zP,aD,zD,aS,Nat.reduceBEq,Nat.reduceLT,reduceCtorEq,↓reduceIte,Nat.reduceMul,Nat.reduceAdd,Nat.reduceLeDiff,Nat.reduceEqDiff,Int.reduceToNat,Nat.reduceSub,Nat.reduceMod,Nat.reduceDiv,Int.reducePow,Int.reduceLE,Int.reduceNeg,Int.reduceLT,Int.reduceBEq,Int.reduceBNe,Int.reduceEq,Tryd.facts]
  intro k hk0 hk
  refine br (c := ⟨Tryd.prog,31,[(1000000,[3])],[],[]⟩) Tryd.mixed (by kernel_rfl) (fun m σ H' => ∃ i : Nat,i + m = 32 ∧ 1 ≤ i ∧ σ 1 = .sc (.int .u64 x) ∧ σ 2 = .sc (.int .i64 n) ∧ σ 3 = .ip (AV.cellsOf (kindV (.imm 0 ks n0) (.imm 0 fs m0))) 0 ∧ σ 7 = .sc (.int .u64 (2 ^ (i - 1) : Nat)) ∧ σ 8 = .sc (.int .i64 i) ∧ H' = H) 31 ?_ ?_
  · refine ⟨1,by omega,by omega,?_⟩
    simp (disch := omega) only [↓aI,↓zP,aD,zD,aS,Nat.reduceBEq,Nat.reduceLT,reduceCtorEq,↓reduceIte,Nat.reduceMul,Nat.reduceAdd,Nat.reduceLeDiff,Nat.reduceEqDiff,Int.reduceToNat,Nat.reduceSub,Nat.reduceMod,Nat.reduceDiv,Int.reducePow,Int.reduceLE,Int.reduceNeg,Int.reduceLT,Int.reduceBEq,Int.reduceBNe,Int.reduceEq,Tryd.facts,aj hk,kindV]
    trivial
  · rintro m σ H' ⟨i,hi,h1i,h1,h2,h3,h7,h8,rfl⟩
    by_cases hlt : i < 32
    · have hb : decide ((i : Int) < 32) = true := by simp; omega
      have hp : 2 ^ (i - 1) * 2 = 2 ^ i := by rw [← Nat.pow_succ]; congr 1; omega
      have hq := pow_le_32 (i := i) (by omega)
      generalize hz : 2 ^ (i - 1) = z at *
      have hw : IntKind.u64.wrap ((z : Int) * 2) = ((2 ^ i : Nat) : Int) := by rw [umul64n (n := 2) (by show z * 2 < _; omega),← hp]
      simp (disch := omega) only [↓aI,↓zP,aD,zD,aS,Nat.reduceBEq,Nat.reduceLT,reduceCtorEq,↓reduceIte,Nat.reduceMul,Nat.reduceAdd,Nat.reduceLeDiff,Nat.reduceEqDiff,Int.reduceToNat,Nat.reduceSub,Nat.reduceMod,Nat.reduceDiv,Int.reducePow,Int.reduceLE,Int.reduceNeg,Int.reduceLT,Int.reduceBEq,Int.reduceBNe,Int.reduceEq,Tryd.facts,h1,h2,h3,h7,h8,hb,kindV,hw]
      exact ⟨m - 1,by omega,i + 1,by omega,by omega,rfl,rfl⟩
    · obtain rfl : i = 32 := by omega
      have hb : decide ((32 : Int) < 32) = false := by decide
      simp (disch := omega) only [↓aI,↓zP,aD,zD,aS,Nat.reduceBEq,Nat.reduceLT,reduceCtorEq,↓reduceIte,Nat.reduceMul,Nat.reduceAdd,Nat.reduceLeDiff,Nat.reduceEqDiff,Int.reduceToNat,Nat.reduceSub,Nat.reduceMod,Nat.reduceDiv,Int.reducePow,Int.reduceLE,Int.reduceNeg,Int.reduceLT,Int.reduceBEq,Int.reduceBNe,Int.reduceEq,Tryd.facts,h1,h2,h3,h7,h8,hb,kindV]
      refine br (c := ⟨Tryd.prog,31,[(1000000,[3])],[],[]⟩) Tryd.mixed (by kernel_rfl) (fun m σ H'' => ∃ i : Nat,i + m = n ∧ σ 1 = .sc (.int .u64 (rotM 32 x i)) ∧ σ 2 = .sc (.int .i64 n) ∧ σ 7 = .sc (.int .u64 (2147483648 : Nat)) ∧ σ 9 = .sc (.int .i64 i) ∧ H'' = H') n ?_ ?_
      · refine ⟨0,by omega,?_⟩
        simp (disch := omega) only [↓aI,↓zP,aD,zD,aS,Nat.reduceBEq,Nat.reduceLT,reduceCtorEq,↓reduceIte,Nat.reduceMul,Nat.reduceAdd,Nat.reduceLeDiff,Nat.reduceEqDiff,Int.reduceToNat,Nat.reduceSub,Nat.reduceMod,Nat.reduceDiv,Int.reducePow,Int.reduceLE,Int.reduceNeg,Int.reduceLT,Int.reduceBEq,Int.reduceBNe,Int.reduceEq,Tryd.facts,rot_zero]
        exact ⟨h1,h2,h7⟩
      · rintro m2 σ2 H2 ⟨j,hj,g1,g2,g7,g9,rfl⟩
        by_cases hlt2 : j < n
        · have hb2 : decide ((j : Int) < (n : Int)) = true := by simp; omega
          have hs := rot_step (w := 32) (lt32 hx) (show j < 32 by omega)
          have hl := rot32 hx (show j ≤ 32 by omega)
          generalize hz : rotM 32 x j = z at *
          have hw : IntKind.u64.wrap (((z % 2 : Nat) : Int) * 2147483648) = ((z % 2 * 2147483648 : Nat) : Int) := umul64n (n := 2147483648) (by show z % 2 * 2147483648 < _; omega)
          have hw2 : IntKind.u64.wrap (((z / 2 : Nat) : Int) + ((z % 2 * 2147483648 : Nat) : Int)) = ((rotM 32 x (j + 1) : Nat) : Int) := by rw [← hs,uadd64 (by omega)]
          have hw3 : IntKind.u64.wrap ((z / 2 : Nat) : Int) = ((z / 2 : Nat) : Int) := jw (by omega)
          simp (disch := omega) only [↓aI,↓zP,aD,zD,aS,Nat.reduceBEq,Nat.reduceLT,reduceCtorEq,↓reduceIte,Nat.reduceMul,Nat.reduceAdd,Nat.reduceLeDiff,Nat.reduceEqDiff,Int.reduceToNat,Nat.reduceSub,Nat.reduceMod,Nat.reduceDiv,Int.reducePow,Int.reduceLE,Int.reduceNeg,Int.reduceLT,Int.reduceBEq,Int.reduceBNe,Int.reduceEq,Tryd.facts,g1,g2,g7,g9,hb2,jd,tdivN,hw,hw2,hw3]
          exact ⟨m2 - 1,by omega,j + 1,by omega,rfl,rfl⟩
        · obtain rfl : j = n := by omega
          have hb2 : decide ((j : Int) < (j : Int)) = false := by simp
          simp (disch := omega) only [↓aI,↓zP,aD,zD,aS,Nat.reduceBEq,Nat.reduceLT,reduceCtorEq,↓reduceIte,Nat.reduceMul,Nat.reduceAdd,Nat.reduceLeDiff,Nat.reduceEqDiff,Int.reduceToNat,Nat.reduceSub,Nat.reduceMod,Nat.reduceDiv,Int.reducePow,Int.reduceLE,Int.reduceNeg,Int.reduceLT,Int.reduceBEq,Int.reduceBNe,Int.reduceEq,Tryd.facts,g1,g2,g7,g9,hb2]
          first | exact Abs.Sub.refl _ | trace_state
theorem dturned_pure (ks fs : List AV) (n0 m0 : Nat) (x a b c : Nat) (hx : x < 4294967296) (ha : a ≤ 32) (hb : b ≤ 32) (hc : c ≤ 32) : APure Tryd.prog 58 [kindV (.imm 0 ks n0) (.imm 0 fs m0),.sc (.int .u64 x),by3 a b c] (.sc (.int .u64 (turM 32 x a b c))) := by
  have h1 := dturn_pure ks fs n0 m0 x a hx ha
  have h2 := dturn_pure ks fs n0 m0 x b hx hb
  have h3 := dturn_pure ks fs n0 m0 x c hx hc
  have l1 := rot32 hx ha
  have l2 := rot32 hx hb
  have l3 := rot32 hx hc
  have l4 := xor32 l1 l2
  unfold turM by3
  generalize rotM 32 x a = u at *
  generalize rotM 32 x b = v at *
  generalize rotM 32 x c = w at *
  have e1 := bits_xor64 (a := u) (b := v) (by omega) (by omega)
  have e2 := bits_xor64 (a := u ^^^ v) (b := w) (by omega) (by omega)
  unfold kindV at *
  refine az (c := ⟨Tryd.prog,24,[(1,[1,0,0,1,0,1,0,0,1,0,0,1,0,0,1,0,0,0]),(1000000,[5,3])],[],[]⟩) (rs := [ResultVar.tmp 6]) Tryd.mixed Tryd.func58 rfl rfl rfl (Nat.le_of_ble_eq_true rfl) (by kernel_rfl) fun H => ?_
  simp (disch := omega) only [↓aI,↓zP,aD,zD,aS,Nat.reduceBEq,Nat.reduceLT,reduceCtorEq,↓reduceIte,Nat.reduceMul,Nat.reduceAdd,Nat.reduceLeDiff,Nat.reduceEqDiff,Int.reduceToNat,Nat.reduceSub,Nat.reduceMod,Nat.reduceDiv,Int.reducePow,Int.reduceLE,Int.reduceNeg,Int.reduceLT,Int.reduceBEq,Int.reduceBNe,Int.reduceEq,Tryd.facts]
  intro k hk0 hk k2 hk20 hk2
  simp (disch := omega) only [↓aI,↓zP,aD,zD,aS,Nat.reduceBEq,Nat.reduceLT,reduceCtorEq,↓reduceIte,Nat.reduceMul,Nat.reduceAdd,Nat.reduceLeDiff,Nat.reduceEqDiff,Int.reduceToNat,Nat.reduceSub,Nat.reduceMod,Nat.reduceDiv,Int.reducePow,Int.reduceLE,Int.reduceNeg,Int.reduceLT,Int.reduceBEq,Int.reduceBNe,Int.reduceEq,Tryd.facts,aj hk2,aj hk]
  first | refine CallK.p (h1) ?_ | refine CallP.i (h1) ?_
  simp (disch := omega) only [↓aI,↓zP,aD,zD,aS,Nat.reduceBEq,Nat.reduceLT,reduceCtorEq,↓reduceIte,Nat.reduceMul,Nat.reduceAdd,Nat.reduceLeDiff,Nat.reduceEqDiff,Int.reduceToNat,Nat.reduceSub,Nat.reduceMod,Nat.reduceDiv,Int.reducePow,Int.reduceLE,Int.reduceNeg,Int.reduceLT,Int.reduceBEq,Int.reduceBNe,Int.reduceEq,Tryd.facts]
  first | refine CallK.p (h2) ?_ | refine CallP.i (h2) ?_
  simp (disch := omega) only [↓aI,↓zP,aD,zD,aS,Nat.reduceBEq,Nat.reduceLT,reduceCtorEq,↓reduceIte,Nat.reduceMul,Nat.reduceAdd,Nat.reduceLeDiff,Nat.reduceEqDiff,Int.reduceToNat,Nat.reduceSub,Nat.reduceMod,Nat.reduceDiv,Int.reducePow,Int.reduceLE,Int.reduceNeg,Int.reduceLT,Int.reduceBEq,Int.reduceBNe,Int.reduceEq,Tryd.facts,e1]
  first | refine CallK.p (h3) ?_ | refine CallP.i (h3) ?_
  simp (disch := omega) only [↓aI,↓zP,aD,zD,aS,Nat.reduceBEq,Nat.reduceLT,reduceCtorEq,↓reduceIte,Nat.reduceMul,Nat.reduceAdd,Nat.reduceLeDiff,Nat.reduceEqDiff,Int.reduceToNat,Nat.reduceSub,Nat.reduceMod,Nat.reduceDiv,Int.reducePow,Int.reduceLE,Int.reduceNeg,Int.reduceLT,Int.reduceBEq,Int.reduceBNe,Int.reduceEq,Tryd.facts,e1,e2]
  exact Abs.Sub.refl _
theorem shift_pure (x n : Nat) (hx : x < 18446744073709551616) (hn : n ≤ 64) : APure Tryd.prog 47 [.sc (.int .u64 x),.sc (.int .i64 n)] (.sc (.int .u64 (x / 2 ^ n : Nat))) := by
  refine az (c := ⟨Tryd.prog,14,[],[],[]⟩) (rs := [ResultVar.tmp 4]) Tryd.mixed Tryd.func47 rfl rfl rfl (Nat.le_of_ble_eq_true rfl) (by kernel_rfl) fun H => ?_
  simp (disch := omega) only [↓aI,↓zP,aD,zD,aS,Nat.reduceBEq,Nat.reduceLT,reduceCtorEq,↓reduceIte,Nat.reduceMul,Nat.reduceAdd,Nat.reduceLeDiff,Nat.reduceEqDiff,Int.reduceToNat,Nat.reduceSub,Nat.reduceMod,Nat.reduceDiv,Int.reducePow,Int.reduceLE,Int.reduceNeg,Int.reduceLT,Int.reduceBEq,Int.reduceBNe,Int.reduceEq,Tryd.facts]
  refine br (c := ⟨Tryd.prog,14,[],[],[]⟩) Tryd.mixed (by kernel_rfl) (fun m σ H' => ∃ i : Nat,i + m = n ∧ σ 0 = .sc (.int .u64 (x / 2 ^ i : Nat)) ∧ σ 1 = .sc (.int .i64 n) ∧ σ 5 = .sc (.int .i64 i) ∧ H' = H) n ?_ ?_
  · refine ⟨0,by omega,?_⟩
    simp (disch := omega) only [↓aI,↓zP,aD,zD,aS,Nat.reduceBEq,Nat.reduceLT,reduceCtorEq,↓reduceIte,Nat.reduceMul,Nat.reduceAdd,Nat.reduceLeDiff,Nat.reduceEqDiff,Int.reduceToNat,Nat.reduceSub,Nat.reduceMod,Nat.reduceDiv,Int.reducePow,Int.reduceLE,Int.reduceNeg,Int.reduceLT,Int.reduceBEq,Int.reduceBNe,Int.reduceEq,Tryd.facts,Nat.pow_zero,Nat.div_one]
  · rintro m σ H' ⟨i,hi,h0,h1,h5,rfl⟩
    by_cases hlt : i < n
    · have hb : decide ((i : Int) < (n : Int)) = true := by simp; omega
      have hd : x / 2 ^ i / 2 = x / 2 ^ (i + 1) := by rw [Nat.div_div_eq_div_mul,Nat.pow_succ]
      have hl : x / 2 ^ (i + 1) ≤ x := Nat.div_le_self _ _
      generalize x / 2 ^ i = z at *
      have hw : IntKind.u64.wrap ((z / 2 : Nat) : Int) = ((x / 2 ^ (i + 1) : Nat) : Int) := by rw [hd,jw (by omega)]
      simp (disch := omega) only [↓aI,↓zP,aD,zD,aS,Nat.reduceBEq,Nat.reduceLT,reduceCtorEq,↓reduceIte,Nat.reduceMul,Nat.reduceAdd,Nat.reduceLeDiff,Nat.reduceEqDiff,Int.reduceToNat,Nat.reduceSub,Nat.reduceMod,Nat.reduceDiv,Int.reducePow,Int.reduceLE,Int.reduceNeg,Int.reduceLT,Int.reduceBEq,Int.reduceBNe,Int.reduceEq,Tryd.facts,h0,h1,h5,hb,tdivN,hw]
      first | exact ⟨m - 1,by omega,i + 1,by omega,rfl,rfl⟩ | trace_state
    · obtain rfl : i = n := by omega
      have hb : decide ((i : Int) < (i : Int)) = false := by simp
      simp (disch := omega) only [↓aI,↓zP,aD,zD,aS,Nat.reduceBEq,Nat.reduceLT,reduceCtorEq,↓reduceIte,Nat.reduceMul,Nat.reduceAdd,Nat.reduceLeDiff,Nat.reduceEqDiff,Int.reduceToNat,Nat.reduceSub,Nat.reduceMod,Nat.reduceDiv,Int.reducePow,Int.reduceLE,Int.reduceNeg,Int.reduceLT,Int.reduceBEq,Int.reduceBNe,Int.reduceEq,Tryd.facts,h0,h1,h5,hb]
      first | exact Abs.Sub.refl _ | trace_state
theorem dshifted_pure (ks fs : List AV) (n0 m0 : Nat) (x a b c : Nat) (hx : x < 4294967296) (ha : a ≤ 32) (hb : b ≤ 32) (hc : c ≤ 32) : APure Tryd.prog 64 [kindV (.imm 0 ks n0) (.imm 0 fs m0),.sc (.int .u64 x),by3 a b c] (.sc (.int .u64 (shfM 32 x a b c))) := by
  have h1 := dturn_pure ks fs n0 m0 x a hx ha
  have h2 := dturn_pure ks fs n0 m0 x b hx hb
  have h3 := shift_pure x c (by omega) (by omega)
  have l1 := rot32 hx ha
  have l2 := rot32 hx hb
  have l3 : x / 2 ^ c ≤ x := Nat.div_le_self _ _
  have l4 := xor32 l1 l2
  unfold shfM by3
  generalize rotM 32 x a = u at *
  generalize rotM 32 x b = v at *
  generalize x / 2 ^ c = w at *
  have e1 := bits_xor64 (a := u) (b := v) (by omega) (by omega)
  have e2 := bits_xor64 (a := u ^^^ v) (b := w) (by omega) (by omega)
  unfold kindV at *
  refine az (c := ⟨Tryd.prog,23,[(1,[1,0,0,1,0,1,0,0,1,0,0,0,0,1,0,0,0]),(1000000,[5,3])],[],[]⟩) (rs := [ResultVar.tmp 6]) Tryd.mixed Tryd.func64 rfl rfl rfl (Nat.le_of_ble_eq_true rfl) (by kernel_rfl) fun H => ?_
  simp (disch := omega) only [↓aI,↓zP,aD,zD,aS,Nat.reduceBEq,Nat.reduceLT,reduceCtorEq,↓reduceIte,Nat.reduceMul,Nat.reduceAdd,Nat.reduceLeDiff,Nat.reduceEqDiff,Int.reduceToNat,Nat.reduceSub,Nat.reduceMod,Nat.reduceDiv,Int.reducePow,Int.reduceLE,Int.reduceNeg,Int.reduceLT,Int.reduceBEq,Int.reduceBNe,Int.reduceEq,Tryd.facts]
  intro k hk0 hk k2 hk20 hk2
  simp (disch := omega) only [↓aI,↓zP,aD,zD,aS,Nat.reduceBEq,Nat.reduceLT,reduceCtorEq,↓reduceIte,Nat.reduceMul,Nat.reduceAdd,Nat.reduceLeDiff,Nat.reduceEqDiff,Int.reduceToNat,Nat.reduceSub,Nat.reduceMod,Nat.reduceDiv,Int.reducePow,Int.reduceLE,Int.reduceNeg,Int.reduceLT,Int.reduceBEq,Int.reduceBNe,Int.reduceEq,Tryd.facts,aj hk2,aj hk]
  first | refine CallK.p (h1) ?_ | refine CallP.i (h1) ?_
  simp (disch := omega) only [↓aI,↓zP,aD,zD,aS,Nat.reduceBEq,Nat.reduceLT,reduceCtorEq,↓reduceIte,Nat.reduceMul,Nat.reduceAdd,Nat.reduceLeDiff,Nat.reduceEqDiff,Int.reduceToNat,Nat.reduceSub,Nat.reduceMod,Nat.reduceDiv,Int.reducePow,Int.reduceLE,Int.reduceNeg,Int.reduceLT,Int.reduceBEq,Int.reduceBNe,Int.reduceEq,Tryd.facts]
  first | refine CallK.p (h2) ?_ | refine CallP.i (h2) ?_
  simp (disch := omega) only [↓aI,↓zP,aD,zD,aS,Nat.reduceBEq,Nat.reduceLT,reduceCtorEq,↓reduceIte,Nat.reduceMul,Nat.reduceAdd,Nat.reduceLeDiff,Nat.reduceEqDiff,Int.reduceToNat,Nat.reduceSub,Nat.reduceMod,Nat.reduceDiv,Int.reducePow,Int.reduceLE,Int.reduceNeg,Int.reduceLT,Int.reduceBEq,Int.reduceBNe,Int.reduceEq,Tryd.facts,e1]
  first | refine CallK.p (h3) ?_ | refine CallP.i (h3) ?_
  simp (disch := omega) only [↓aI,↓zP,aD,zD,aS,Nat.reduceBEq,Nat.reduceLT,reduceCtorEq,↓reduceIte,Nat.reduceMul,Nat.reduceAdd,Nat.reduceLeDiff,Nat.reduceEqDiff,Int.reduceToNat,Nat.reduceSub,Nat.reduceMod,Nat.reduceDiv,Int.reducePow,Int.reduceLE,Int.reduceNeg,Int.reduceLT,Int.reduceBEq,Int.reduceBNe,Int.reduceEq,Tryd.facts,e1,e2]
  exact Abs.Sub.refl _
end Go.Proofs.YtejncnmdjkhiaaaDoor
end
section
set_option linter.unusedSimpArgs false
set_option linter.unusedVariables false
set_option maxRecDepth 20000
namespace Go.Proofs.YtejncnmdjkhiaaaDoor
open Go Go.Abs Go.Proofs Go.Sha
def numsA (l : List Nat) : List AV := l.map fun x : Nat => AV.sc (.int .i64 x)
theorem numsA_length (l : List Nat) : (numsA l).length = l.length := by simp [numsA]
theorem numsA_at {l : List Nat} {i : Nat} (h : i < l.length) : (numsA l)[i]? = some (.sc (.int .i64 (l[i] : Nat))) := by simp [numsA,h]
theorem numsA_snoc (l : List Nat) (x : Nat) : numsA l ++ [.sc (.int .i64 x)] = numsA (l ++ [x]) := by simp [numsA]
theorem least_mem {p : Nat} : ∀ {l : List Nat},leastM p l = p ∨ leastM p l ∈ l
  | [] => .inl rfl
  | q :: l => by
    unfold leastM
    split
    · exact .inr (List.mem_cons_self ..)
    · rcases least_mem (p := p) (l := l) with h | h
      · exact .inl h
      · exact .inr (List.mem_cons_of_mem _ h)
theorem primes_pure (n N : Nat) (hn : 1 ≤ n ∧ n ≤ 64) (hN : N ≤ 400) (h1 : (primM N).length = n) (h2 : ∀ k,k < N → (primM k).length < n) : APure Tryd.prog 55 [.sc (.int .i64 n)] (.imm 0 (numsA (primM N)) n) := by
  refine az (c := ⟨Tryd.prog,44,[],[],[]⟩) (rs := [ResultVar.tmp 2]) Tryd.mixed Tryd.func55 rfl rfl rfl (Nat.le_of_ble_eq_true rfl) (by kernel_rfl) fun H => ?_
  simp (disch := omega) only [↓aI,↓zP,aD,zD,aS,Nat.reduceBEq,Nat.reduceLT,reduceCtorEq,↓reduceIte,Nat.reduceMul,Nat.reduceAdd,Nat.reduceLeDiff,Nat.reduceEqDiff,Int.reduceToNat,Nat.reduceSub,Nat.reduceMod,Nat.reduceDiv,Int.reducePow,Int.reduceLE,Int.reduceNeg,Int.reduceLT,Int.reduceBEq,Int.reduceBNe,Int.reduceEq,Tryd.facts]
  refine jn 3 (by simp (disch := omega) only [↓aI,↓zP,aD,zD,aS,Nat.reduceBEq,Nat.reduceLT,reduceCtorEq,↓reduceIte,Nat.reduceMul,Nat.reduceAdd,Nat.reduceLeDiff,Nat.reduceEqDiff,Int.reduceToNat,Nat.reduceSub,Nat.reduceMod,Nat.reduceDiv,Int.reducePow,Int.reduceLE,Int.reduceNeg,Int.reduceLT,Int.reduceBEq,Int.reduceBNe,Int.reduceEq,Tryd.facts]) fun k hk0 hk => ?_
  refine br (c := ⟨Tryd.prog,44,[],[],[]⟩) Tryd.mixed (by kernel_rfl) (fun m σ H' => ∃ K : Nat,K + m = N ∧ σ 0 = .sc (.int .i64 n) ∧ σ 4 = .sc (.int .i64 (K + 2 : Nat)) ∧ ∃ k o,k ≠ 0 ∧ H k = none ∧ H' = H.set k o ∧ cy 3 1 o (primM K).length ∧ σ 3 = .imm k (numsA (primM K)) (primM K).length) N ?_ ?_
  · refine ⟨0,by omega,?_⟩
    simp (disch := omega) only [↓aI,↓zP,aD,zD,aS,Nat.reduceBEq,Nat.reduceLT,reduceCtorEq,↓reduceIte,Nat.reduceMul,Nat.reduceAdd,Nat.reduceLeDiff,Nat.reduceEqDiff,Int.reduceToNat,Nat.reduceSub,Nat.reduceMod,Nat.reduceDiv,Int.reducePow,Int.reduceLE,Int.reduceNeg,Int.reduceLT,Int.reduceBEq,Int.reduceBNe,Int.reduceEq,Tryd.facts]
    exact ⟨k,_,hk0,hk,rfl,.inr ⟨rfl,rfl⟩,rfl⟩
  · rintro m σ H' ⟨K,hK,h0,h4,k,o,hk0,hk,rfl,ho,h3⟩
    by_cases hlt : K < N
    · have hl := h2 K hlt
      have hb : decide (((primM K).length : Int) < (n : Int)) = true := by simp; omega
      have hmem : ∀ q ∈ primM K,2 ≤ q ∧ q ≤ K + 1 := fun q h => prim_mem h
      have hst : primM (K + 1) = if leastM (K + 2) (primM K) = K + 2 then primM K ++ [K + 2] else primM K := rfl
      have hle := least_mem (p := K + 2) (l := primM K)
      generalize hps : primM (K + 1) = ps' at *
      generalize primM K = ps at *
      have hnl := numsA_length ps
      simp (disch := omega) only [↓aI,↓zP,aD,zD,aS,Nat.reduceBEq,Nat.reduceLT,reduceCtorEq,↓reduceIte,Nat.reduceMul,Nat.reduceAdd,Nat.reduceLeDiff,Nat.reduceEqDiff,Int.reduceToNat,Nat.reduceSub,Nat.reduceMod,Nat.reduceDiv,Int.reducePow,Int.reduceLE,Int.reduceNeg,Int.reduceLT,Int.reduceBEq,Int.reduceBNe,Int.reduceEq,Tryd.facts,h0,h4,h3,hb]
      refine br (c := ⟨Tryd.prog,44,[],[],[]⟩) Tryd.mixed (by kernel_rfl) (fun m2 σ2 H2 => ∃ i e : Nat,i + m2 = ps.length ∧ σ2 0 = .sc (.int .i64 n) ∧ σ2 4 = .sc (.int .i64 (K + 2 : Nat)) ∧ H2 = H.set k o ∧ σ2 3 = .imm k (numsA ps) ps.length ∧ σ2 6 = .sc (.int .i64 i) ∧ σ2 5 = .sc (.int .i64 e) ∧ ((e = K + 2 ∧ leastM (K + 2) (ps.drop i) = leastM (K + 2) ps) ∨ (e ≠ K + 2 ∧ e = leastM (K + 2) ps))) ps.length ?_ ?_
      · refine ⟨0,K + 2,by omega,?_⟩
        simp (disch := omega) only [↓aI,↓zP,aD,zD,aS,Nat.reduceBEq,Nat.reduceLT,reduceCtorEq,↓reduceIte,Nat.reduceMul,Nat.reduceAdd,Nat.reduceLeDiff,Nat.reduceEqDiff,Int.reduceToNat,Nat.reduceSub,Nat.reduceMod,Nat.reduceDiv,Int.reducePow,Int.reduceLE,Int.reduceNeg,Int.reduceLT,Int.reduceBEq,Int.reduceBNe,Int.reduceEq,Tryd.facts,h0,h4,h3]
        exact .inl trivial
      · rintro m2 σ2 H2 ⟨i,e,hi,g0,g4,rfl,g3,g6,g5,hor⟩
        by_cases hil : i < ps.length
        · have hb2 : decide ((i : Int) < (ps.length : Int)) = true := by simp; omega
          by_cases he : e = K + 2
          · subst he
            have hdr : leastM (K + 2) (ps.drop i) = leastM (K + 2) ps := by
              rcases hor with h | h
              · exact h.2
              · exact absurd rfl h.1
            have hat := numsA_at hil
            have hq := hmem _ (List.getElem_mem hil)
            rw [List.drop_eq_getElem_cons hil,leastM] at hdr
            generalize ps[i] = q at *
            have hm : (((K + 2 : Nat) : Int)).tmod (q : Int) = (((K + 2) % q : Nat) : Int) := rfl
            by_cases hd : (K + 2) % q = 0
            · rw [if_pos hd] at hdr
              have hz : ((((K + 2) % q : Nat) : Int) == 0) = true := by rw [hd]; rfl
              simp (disch := omega) only [↓aI,↓zP,aD,zD,aS,Nat.reduceBEq,Nat.reduceLT,reduceCtorEq,↓reduceIte,Nat.reduceMul,Nat.reduceAdd,Nat.reduceLeDiff,Nat.reduceEqDiff,Int.reduceToNat,Nat.reduceSub,Nat.reduceMod,Nat.reduceDiv,Int.reducePow,Int.reduceLE,Int.reduceNeg,Int.reduceLT,Int.reduceBEq,Int.reduceBNe,Int.reduceEq,Tryd.facts,g0,g4,g3,g6,g5,hb2,hat,hnl,hm,hz]
              first | exact ⟨m2 - 1,by omega,i + 1,q,by omega,rfl,rfl,.inr ⟨by omega,hdr⟩⟩ | trace_state
            · rw [if_neg hd] at hdr
              have hz : ((((K + 2) % q : Nat) : Int) == 0) = false := beq_eq_false_iff_ne.2 fun h => hd (Int.ofNat.inj h)
              simp (disch := omega) only [↓aI,↓zP,aD,zD,aS,Nat.reduceBEq,Nat.reduceLT,reduceCtorEq,↓reduceIte,Nat.reduceMul,Nat.reduceAdd,Nat.reduceLeDiff,Nat.reduceEqDiff,Int.reduceToNat,Nat.reduceSub,Nat.reduceMod,Nat.reduceDiv,Int.reducePow,Int.reduceLE,Int.reduceNeg,Int.reduceLT,Int.reduceBEq,Int.reduceBNe,Int.reduceEq,Tryd.facts,g0,g4,g3,g6,g5,hb2,hat,hnl,hm,hz]
              first | exact ⟨m2 - 1,by omega,i + 1,K + 2,by omega,rfl,rfl,.inl ⟨rfl,hdr⟩⟩ | trace_state
          · have hq : ((e : Int) == ((K + 2 : Nat) : Int)) = false := by simp; omega
            have hee : e = leastM (K + 2) ps := by
              rcases hor with h | h
              · exact absurd h.1 he
              · exact h.2
            rw [if_neg (by rw [← hee]; exact he)] at hst
            subst hst
            simp (disch := omega) only [↓aI,↓zP,aD,zD,aS,Nat.reduceBEq,Nat.reduceLT,reduceCtorEq,↓reduceIte,Nat.reduceMul,Nat.reduceAdd,Nat.reduceLeDiff,Nat.reduceEqDiff,Int.reduceToNat,Nat.reduceSub,Nat.reduceMod,Nat.reduceDiv,Int.reducePow,Int.reduceLE,Int.reduceNeg,Int.reduceLT,Int.reduceBEq,Int.reduceBNe,Int.reduceEq,Tryd.facts,g0,g4,g3,g6,g5,hb2,hq]
            first | exact ⟨m - 1,by omega,K + 1,by omega,rfl,k,o,hk0,hk,rfl,by rw [hps]; exact ho,by rw [hps]⟩ | trace_state
        · obtain rfl : i = ps.length := by omega
          have hb2 : decide ((ps.length : Int) < (ps.length : Int)) = false := by simp
          have hdr : e = leastM (K + 2) ps := by
            rcases hor with h | h
            · rw [h.1,← h.2,List.drop_length]; rfl
            · exact h.2
          by_cases he : e = K + 2
          · subst he
            rw [if_pos hdr.symm] at hst
            have hap := numsA_snoc ps (K + 2)
            have hq : ((((K + 2 : Nat) : Int)) == ((K + 2 : Nat) : Int)) = true := by simp
            subst hst
            simp (disch := omega) only [↓aI,↓zP,aD,zD,aS,Nat.reduceBEq,Nat.reduceLT,reduceCtorEq,↓reduceIte,Nat.reduceMul,Nat.reduceAdd,Nat.reduceLeDiff,Nat.reduceEqDiff,Int.reduceToNat,Nat.reduceSub,Nat.reduceMod,Nat.reduceDiv,Int.reducePow,Int.reduceLE,Int.reduceNeg,Int.reduceLT,Int.reduceBEq,Int.reduceBNe,Int.reduceEq,Tryd.facts,g0,g4,g3,g6,g5,hb2,hq,ho,hap,hnl]
            intro k' o' hk0' hk' ho'
            rw [numsA_length] at ho'
            exact ⟨m - 1,by omega,K + 1,by omega,rfl,k',o',hk0',am hk',rfl,by rw [hps]; exact ho',by rw [hps]; simp⟩
          · have hq : ((e : Int) == ((K + 2 : Nat) : Int)) = false := by simp; omega
            rw [if_neg (by rw [← hdr]; exact he)] at hst
            subst hst
            simp (disch := omega) only [↓aI,↓zP,aD,zD,aS,Nat.reduceBEq,Nat.reduceLT,reduceCtorEq,↓reduceIte,Nat.reduceMul,Nat.reduceAdd,Nat.reduceLeDiff,Nat.reduceEqDiff,Int.reduceToNat,Nat.reduceSub,Nat.reduceMod,Nat.reduceDiv,Int.reducePow,Int.reduceLE,Int.reduceNeg,Int.reduceLT,Int.reduceBEq,Int.reduceBNe,Int.reduceEq,Tryd.facts,g0,g4,g3,g6,g5,hb2,hq]
            first | exact ⟨m - 1,by omega,K + 1,by omega,rfl,k,o,hk0,hk,rfl,by rw [hps]; exact ho,by rw [hps]⟩ | trace_state
    · obtain rfl : K = N := by omega
      have hb : decide ((n : Int) < (n : Int)) = false := by simp
      rw [h1] at ho h3
      simp (disch := omega) only [↓aI,↓zP,aD,zD,aS,Nat.reduceBEq,Nat.reduceLT,reduceCtorEq,↓reduceIte,Nat.reduceMul,Nat.reduceAdd,Nat.reduceLeDiff,Nat.reduceEqDiff,Int.reduceToNat,Nat.reduceSub,Nat.reduceMod,Nat.reduceDiv,Int.reducePow,Int.reduceLE,Int.reduceNeg,Int.reduceLT,Int.reduceBEq,Int.reduceBNe,Int.reduceEq,Tryd.facts,h0,h4,h3,hb]
      first | exact Sub.set_new hk | trace_state
end Go.Proofs.YtejncnmdjkhiaaaDoor
end
