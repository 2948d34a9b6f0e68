/-
  Several texts in one: each says what it proves.
  Conditions: none. Lemmas only.
-/
import Derived.Test.YtibipjdngpjndaaBxG1
import Derived.Test.YtibipjdngpjndaaLetG1
set_option linter.all false
section
set_option linter.unusedSimpArgs false
set_option linter.unusedVariables false
set_option maxRecDepth 20000
set_option maxHeartbeats 4000000
namespace Go.Proofs.Ytibipjdngpjndaa
open Go Go.Abs Go.Proofs Go.Box
theorem bits_u32 : IntKind.u32.bits = 32 := rfl
theorem wcast32 {a : Nat} : IntKind.u32.wrap (a : Int) = ((a % 4294967296 : Nat) : Int) := by
  unfold IntKind.wrap
  simp only [bits_u32,IntKind.signed,Bool.false_and,Bool.false_eq_true,if_false]
  exact (Int.natCast_emod a 4294967296).symm
theorem lt32 {a : Nat} (h : a < 4294967296) : a < 2 ^ 32 := h
theorem bits_xor32 {a b : Nat} (ha : a < 4294967296) (hb : b < 4294967296) : bits .xor .u32 (a : Int) (b : Int) = ((a ^^^ b : Nat) : Int) := by
  show IntKind.u32.wrap ((BitVec.ofInt 32 (a : Int) ^^^ BitVec.ofInt 32 (b : Int)).toNat : Int) = _
  rw [BitVec.ofInt_natCast,BitVec.ofInt_natCast]
  simp only [BitVec.toNat_xor,BitVec.toNat_ofNat,Nat.mod_eq_of_lt (lt32 ha),Nat.mod_eq_of_lt (lt32 hb)]
  rw [wcast32,Nat.mod_eq_of_lt (Nat.xor_lt_two_pow (lt32 ha) (lt32 hb))]
theorem bits_or32 {a b : Nat} (ha : a < 4294967296) (hb : b < 4294967296) : bits .or .u32 (a : Int) (b : Int) = ((a ||| b : Nat) : Int) := by
  show IntKind.u32.wrap ((BitVec.ofInt 32 (a : Int) ||| BitVec.ofInt 32 (b : Int)).toNat : Int) = _
  rw [BitVec.ofInt_natCast,BitVec.ofInt_natCast]
  simp only [BitVec.toNat_or,BitVec.toNat_ofNat,Nat.mod_eq_of_lt (lt32 ha),Nat.mod_eq_of_lt (lt32 hb)]
  rw [wcast32,Nat.mod_eq_of_lt (Nat.or_lt_two_pow (lt32 ha) (lt32 hb))]
theorem lt64 {a : Nat} (h : a < 18446744073709551616) : a < 2 ^ 64 := h
theorem bits_xor64 {a b : Nat} (ha : a < 18446744073709551616) (hb : b < 18446744073709551616) : bits .xor .u64 (a : Int) (b : Int) = ((a ^^^ b : Nat) : Int) := by
  show IntKind.u64.wrap ((BitVec.ofInt 64 (a : Int) ^^^ BitVec.ofInt 64 (b : Int)).toNat : Int) = _
  rw [BitVec.ofInt_natCast,BitVec.ofInt_natCast]
  simp only [BitVec.toNat_xor,BitVec.toNat_ofNat,Nat.mod_eq_of_lt (lt64 ha),Nat.mod_eq_of_lt (lt64 hb)]
  exact jw (Nat.xor_lt_two_pow (lt64 ha) (lt64 hb))
theorem bits_and64 {a b : Nat} (ha : a < 18446744073709551616) (hb : b < 18446744073709551616) : bits .and .u64 (a : Int) (b : Int) = ((a &&& b : Nat) : Int) := by
  show IntKind.u64.wrap ((BitVec.ofInt 64 (a : Int) &&& BitVec.ofInt 64 (b : Int)).toNat : Int) = _
  rw [BitVec.ofInt_natCast,BitVec.ofInt_natCast]
  simp only [BitVec.toNat_and,BitVec.toNat_ofNat,Nat.mod_eq_of_lt (lt64 ha),Nat.mod_eq_of_lt (lt64 hb)]
  exact jw (Nat.and_lt_two_pow _ (lt64 hb))
theorem wadd32 {a b : Nat} : IntKind.u32.wrap ((a : Int) + (b : Int)) = (((a + b) % 4294967296 : Nat) : Int) := by rw [← Int.natCast_add,wcast32]
theorem shl32 {a n : Nat} : IntKind.u32.wrap ((a : Int) * 2 ^ n) = ((a * 2 ^ n % 4294967296 : Nat) : Int) := by
  have : ((a : Int) * 2 ^ n) = ((a * 2 ^ n : Nat) : Int) := by rw [Int.natCast_mul,Int.natCast_pow]; rfl
  rw [this,wcast32]
theorem shrN {a n : Nat} : ((a : Int)).fdiv (2 ^ n) = ((a / 2 ^ n : Nat) : Int) := by
  have : (2 ^ n : Int) = ((2 ^ n : Nat) : Int) := by rw [Int.natCast_pow]; rfl
  rw [this,Int.fdiv_eq_ediv_of_nonneg _ (Int.natCast_nonneg _)]; rfl
theorem minL {n m : Nat} (h : n ≤ m) : min n m = n := Nat.min_eq_left h
theorem bits_or64 {a b : Nat} (ha : a < 18446744073709551616) (hb : b < 18446744073709551616) : bits .or .u64 (a : Int) (b : Int) = ((a ||| b : Nat) : Int) := by
  show IntKind.u64.wrap ((BitVec.ofInt 64 (a : Int) ||| BitVec.ofInt 64 (b : Int)).toNat : Int) = _
  rw [BitVec.ofInt_natCast,BitVec.ofInt_natCast]
  simp only [BitVec.toNat_or,BitVec.toNat_ofNat,Nat.mod_eq_of_lt (lt64 ha),Nat.mod_eq_of_lt (lt64 hb)]
  exact jw (Nat.or_lt_two_pow (lt64 ha) (lt64 hb))
theorem bits_u64 : IntKind.u64.bits = 64 := rfl
theorem wcast64 {a : Nat} : IntKind.u64.wrap (a : Int) = ((a % 18446744073709551616 : Nat) : Int) := by
  unfold IntKind.wrap
  simp only [bits_u64,IntKind.signed,Bool.false_and,Bool.false_eq_true,if_false]
  exact (Int.natCast_emod a 18446744073709551616).symm
theorem wadd64 {a b : Nat} : IntKind.u64.wrap ((a : Int) + (b : Int)) = (((a + b) % 18446744073709551616 : Nat) : Int) := by rw [← Int.natCast_add,wcast64]
theorem xor_all {w a : Nat} (h : a < 2 ^ w) : (2 ^ w - 1) ^^^ a = 2 ^ w - 1 - a := by
  apply Nat.eq_of_testBit_eq
  intro i
  rw [Nat.testBit_xor,Nat.testBit_two_pow_sub_one,show 2 ^ w - 1 - a = 2 ^ w - (a + 1) by omega,Nat.testBit_two_pow_sub_succ h]
  by_cases hi : i < w
  · simp [hi]
  · have : a.testBit i = false := Nat.testBit_lt_two_pow (Nat.lt_of_lt_of_le h (Nat.pow_le_pow_right (by decide) (by omega)))
    simp [hi,this]
theorem not64 {a : Nat} (h : a < 18446744073709551616) : notI .u64 (a : Int) = ((18446744073709551615 - a : Nat) : Int) := by
  have e := bits_xor64 (a := 18446744073709551615) (b := a) (by omega) h
  rw [show (18446744073709551615 : Nat) ^^^ a = 18446744073709551615 - a from xor_all (w := 64) h] at e
  exact e
end Go.Proofs.Ytibipjdngpjndaa
end
section
set_option linter.unusedSimpArgs false
set_option linter.unusedVariables false
set_option maxRecDepth 20000
set_option maxHeartbeats 4000000
namespace Go.Proofs.Ytibipjdngpjndaa
open Go Go.Abs Go.Proofs Go.Box
theorem left_pure (x n : Nat) (hx : x < 4294967296) (hn : n ≤ 32) : APure Try.prog 66 [.sc (.int .u32 x),.sc (.int .i64 n)] (.sc (.int .u32 (rlM x n : Nat))) := by
  refine az (c := ⟨Try.prog,17,[],[],[]⟩) (rs := [ResultVar.tmp 4]) Try.mixed Try.func66 rfl rfl rfl (Nat.le_of_ble_eq_true rfl) (by kernel_rfl) fun H => ?_
  simp (disch := omega) only [↓aI,↓zP,aD,zD,aS0,Nat.reduceBEq,Nat.reduceLT,reduceCtorEq,↓reduceIte,Nat.reduceMul,Nat.reduceAdd,Nat.reduceLeDiff,Nat.reduceEqDiff,Int.reduceToNat,Nat.reduceSub,Nat.reduceMod,Nat.reduceDiv,Int.reducePow,Int.reduceLE,Int.reduceNeg,Int.reduceLT,Int.reduceBEq,Int.reduceBNe,Int.reduceEq,Try.facts]
  refine br (c := ⟨Try.prog,17,[],[],[]⟩) Try.mixed (by kernel_rfl) (fun m σ H' => ∃ i : Nat,i + m = n ∧ σ 0 = .sc (.int .u32 (rlM x i : Nat)) ∧ σ 1 = .sc (.int .i64 n) ∧ σ 5 = .sc (.int .i64 i) ∧ H' = H) n ?_ ?_
  · refine ⟨0,by omega,?_⟩
    rw [rl_zero hx]
    simp (disch := omega) only [↓aI,↓zP,aD,zD,aS0,Nat.reduceBEq,Nat.reduceLT,reduceCtorEq,↓reduceIte,Nat.reduceMul,Nat.reduceAdd,Nat.reduceLeDiff,Nat.reduceEqDiff,Int.reduceToNat,Nat.reduceSub,Nat.reduceMod,Nat.reduceDiv,Int.reducePow,Int.reduceLE,Int.reduceNeg,Int.reduceLT,Int.reduceBEq,Int.reduceBNe,Int.reduceEq,Try.facts]
  · rintro m σ H' ⟨i,hi,h0,h1,h5,rfl⟩
    by_cases hlt : i < n
    · have hb : decide ((i : Int) < (n : Int)) = true := by simp; omega
      have hs := rl_step hx (show i < 32 by omega)
      have hl := rl_lt (n := i) hx
      have hl2 := rl_lt (n := i + 1) hx
      generalize hy : rlM x (i + 1) = y at *
      generalize rlM x i = z at *
      have w1 : IntKind.u32.wrap ((z : Int) * 2) = ((z * 2 % 4294967296 : Nat) : Int) := by rw [show (z : Int) * 2 = ((z * 2 : Nat) : Int) by omega,wcast32]
      have w2 : IntKind.u32.wrap ((z / 2147483648 : Nat) : Int) = ((z / 2147483648 : Nat) : Int) := by rw [wcast32,Nat.mod_eq_of_lt (by omega)]
      have w3 : IntKind.u32.wrap (((z * 2 % 4294967296 : Nat) : Int) + ((z / 2147483648 : Nat) : Int)) = (y : Int) := by rw [wadd32,hs,Nat.mod_eq_of_lt hl2]
      simp (disch := omega) only [↓aI,↓zP,aD,zD,aS0,Nat.reduceBEq,Nat.reduceLT,reduceCtorEq,↓reduceIte,Nat.reduceMul,Nat.reduceAdd,Nat.reduceLeDiff,Nat.reduceEqDiff,Int.reduceToNat,Nat.reduceSub,Nat.reduceMod,Nat.reduceDiv,Int.reducePow,Int.reduceLE,Int.reduceNeg,Int.reduceLT,Int.reduceBEq,Int.reduceBNe,Int.reduceEq,Try.facts,h0,h1,h5,hb,w1,w2,w3,tdivN]
      exact ⟨m - 1,by omega,i + 1,by omega,by rw [hy],rfl⟩
    · obtain rfl : i = n := by omega
      have hb : decide ((i : Int) < (i : Int)) = false := by simp
      simp (disch := omega) only [↓aI,↓zP,aD,zD,aS0,Nat.reduceBEq,Nat.reduceLT,reduceCtorEq,↓reduceIte,Nat.reduceMul,Nat.reduceAdd,Nat.reduceLeDiff,Nat.reduceEqDiff,Int.reduceToNat,Nat.reduceSub,Nat.reduceMod,Nat.reduceDiv,Int.reducePow,Int.reduceLE,Int.reduceNeg,Int.reduceLT,Int.reduceBEq,Int.reduceBNe,Int.reduceEq,Try.facts,h0,h1,h5,hb]
      first | exact Abs.Sub.refl _ | trace_state
theorem dquart_pure (a b c d : Nat) (h : OkQ ⟨a,b,c,d⟩) : APure Try.prog 47 [.sc (.int .u32 a),.sc (.int .u32 b),.sc (.int .u32 c),.sc (.int .u32 d)] (.imm 0 [.sc (.int .u32 (quartM ⟨a,b,c,d⟩).a),.sc (.int .u32 (quartM ⟨a,b,c,d⟩).b),.sc (.int .u32 (quartM ⟨a,b,c,d⟩).c),.sc (.int .u32 (quartM ⟨a,b,c,d⟩).d)] 4) := by
  have h2 := half_ok h 16 12
  have q1 : quartM ⟨a,b,c,d⟩ = halfM (halfM ⟨a,b,c,d⟩ 16 12) 8 7 := rfl
  rw [q1]
  have k := h2
  unfold halfM at k ⊢
  obtain ⟨l1,l2,l3,l4⟩ := h
  obtain ⟨k1,k2,k3,k4⟩ := k
  simp only at l1 l2 l3 l4 k1 k2 k3 k4 ⊢
  have a1 := addM_lt a b
  have ha : (a + b) % 4294967296 = eU a b := rfl
  generalize eU a b = A1 at *
  have x1 := x32 l4 a1
  have c1 := left_pure (d ^^^ A1) 16 x1 (by omega)
  have b1 := bits_xor32 l4 a1
  generalize rlM (d ^^^ A1) 16 = D1 at *
  have hc : (c + D1) % 4294967296 = eU c D1 := rfl
  generalize eU c D1 = C1 at *
  have x2 := x32 l2 k3
  have c2 := left_pure (b ^^^ C1) 12 x2 (by omega)
  have b2 := bits_xor32 l2 k3
  generalize rlM (b ^^^ C1) 12 = B1 at *
  have ha2 : (A1 + B1) % 4294967296 = eU A1 B1 := rfl
  have a2 := addM_lt A1 B1
  generalize eU A1 B1 = A2 at *
  have x3 := x32 k4 a2
  have c3 := left_pure (D1 ^^^ A2) 8 x3 (by omega)
  have b3 := bits_xor32 k4 a2
  have d2 := rl_lt (n := 8) x3
  generalize rlM (D1 ^^^ A2) 8 = D2 at *
  have hc2 : (C1 + D2) % 4294967296 = eU C1 D2 := rfl
  have cc2 := addM_lt C1 D2
  generalize eU C1 D2 = C2 at *
  have x4 := x32 k2 cc2
  have c4 := left_pure (B1 ^^^ C2) 7 x4 (by omega)
  have b4 := bits_xor32 k2 cc2
  generalize rlM (B1 ^^^ C2) 7 = B2 at *
  refine az (c := ⟨Try.prog,42,[],[],[]⟩) (rs := [ResultVar.tmp 8]) Try.mixed Try.func47 rfl rfl rfl (Nat.le_of_ble_eq_true rfl) (by kernel_rfl) fun H => ?_
  simp (disch := omega) only [↓aI,↓zP,aD,zD,aS0,Nat.reduceBEq,Nat.reduceLT,reduceCtorEq,↓reduceIte,Nat.reduceMul,Nat.reduceAdd,Nat.reduceLeDiff,Nat.reduceEqDiff,Int.reduceToNat,Nat.reduceSub,Nat.reduceMod,Nat.reduceDiv,Int.reducePow,Int.reduceLE,Int.reduceNeg,Int.reduceLT,Int.reduceBEq,Int.reduceBNe,Int.reduceEq,Try.facts,wadd32,ha,b1]
  first | refine CallK.p (c1) ?_ | refine CallP.i (c1) ?_
  simp (disch := omega) only [↓aI,↓zP,aD,zD,aS0,Nat.reduceBEq,Nat.reduceLT,reduceCtorEq,↓reduceIte,Nat.reduceMul,Nat.reduceAdd,Nat.reduceLeDiff,Nat.reduceEqDiff,Int.reduceToNat,Nat.reduceSub,Nat.reduceMod,Nat.reduceDiv,Int.reducePow,Int.reduceLE,Int.reduceNeg,Int.reduceLT,Int.reduceBEq,Int.reduceBNe,Int.reduceEq,Try.facts,wadd32,hc,b2]
  first | refine CallK.p (c2) ?_ | refine CallP.i (c2) ?_
  simp (disch := omega) only [↓aI,↓zP,aD,zD,aS0,Nat.reduceBEq,Nat.reduceLT,reduceCtorEq,↓reduceIte,Nat.reduceMul,Nat.reduceAdd,Nat.reduceLeDiff,Nat.reduceEqDiff,Int.reduceToNat,Nat.reduceSub,Nat.reduceMod,Nat.reduceDiv,Int.reducePow,Int.reduceLE,Int.reduceNeg,Int.reduceLT,Int.reduceBEq,Int.reduceBNe,Int.reduceEq,Try.facts,wadd32,ha2,b3]
  first | refine CallK.p (c3) ?_ | refine CallP.i (c3) ?_
  simp (disch := omega) only [↓aI,↓zP,aD,zD,aS0,Nat.reduceBEq,Nat.reduceLT,reduceCtorEq,↓reduceIte,Nat.reduceMul,Nat.reduceAdd,Nat.reduceLeDiff,Nat.reduceEqDiff,Int.reduceToNat,Nat.reduceSub,Nat.reduceMod,Nat.reduceDiv,Int.reducePow,Int.reduceLE,Int.reduceNeg,Int.reduceLT,Int.reduceBEq,Int.reduceBNe,Int.reduceEq,Try.facts,wadd32,hc2,b4]
  first | refine CallK.p (c4) ?_ | refine CallP.i (c4) ?_
  simp (disch := omega) only [↓aI,↓zP,aD,zD,aS0,Nat.reduceBEq,Nat.reduceLT,reduceCtorEq,↓reduceIte,Nat.reduceMul,Nat.reduceAdd,Nat.reduceLeDiff,Nat.reduceEqDiff,Int.reduceToNat,Nat.reduceSub,Nat.reduceMod,Nat.reduceDiv,Int.reducePow,Int.reduceLE,Int.reduceNeg,Int.reduceLT,Int.reduceBEq,Int.reduceBNe,Int.reduceEq,Try.facts,wadd32]
  first | exact Abs.Sub.refl _ | trace_state
end Go.Proofs.Ytibipjdngpjndaa
end
section
set_option linter.unusedSimpArgs false
set_option linter.unusedVariables false
set_option maxRecDepth 20000
set_option maxHeartbeats 4000000
namespace Go.Proofs.Ytibipjdngpjndaa
open Go Go.Abs Go.Proofs Go.Box
def u32A (l : List Nat) : List AV := l.map fun x : Nat => AV.sc (.int .u32 x)
theorem u32A_length (l : List Nat) : (u32A l).length = l.length := by simp [u32A]
theorem u32A_at {l : List Nat} {i : Nat} (h : i < l.length) : (u32A l)[i]? = some (.sc (.int .u32 (l.getD i 0 : Nat))) := by simp [u32A,List.getD,h]
theorem u32A_snoc (l : List Nat) (x : Nat) : u32A l ++ [.sc (.int .u32 x)] = u32A (l ++ [x]) := by simp [u32A]
theorem u32A_put {l : List Nat} {i x : Nat} (h : i < l.length) : bG (u32A l) i [.sc (.int .u32 x)] = u32A (l.set i x) := by
  rw [ah,List.set_eq_take_append_cons_drop,if_pos h]
  simp [u32A]
theorem wordsM_len (b : List UInt8) (n : Nat) : (wordsM b n).length = n := by simp [wordsM]
theorem wordsM_snoc (b : List UInt8) (n : Nat) : wordsM b (n + 1) = wordsM b n ++ [leM b n] := by simp [wordsM,List.range_succ]
theorem words_pure (b : List UInt8) (n : Nat) (h : b.length = 4 * n) (hn : n ≤ 100) : APure Try.prog 45 [eu b] (.imm 0 (u32A (wordsM b n)) n) := by
  have hel := gz b
  unfold eu
  refine az (c := ⟨Try.prog,45,[(5,[0,0,0,0,1,0,0,0,0,0,1,0,0,0,0,0,0,0,1,0,0,0,0,0,0,0,1,0,0,0,0,2,0])],[],[]⟩) (rs := [ResultVar.tmp 2]) Try.mixed Try.func45 rfl rfl rfl (Nat.le_of_ble_eq_true rfl) (by kernel_rfl) fun H => ?_
  simp (disch := omega) only [↓aI,↓zP,aD,zD,aS0,Nat.reduceBEq,Nat.reduceLT,reduceCtorEq,↓reduceIte,Nat.reduceMul,Nat.reduceAdd,Nat.reduceLeDiff,Nat.reduceEqDiff,Int.reduceToNat,Nat.reduceSub,Nat.reduceMod,Nat.reduceDiv,Int.reducePow,Int.reduceLE,Int.reduceNeg,Int.reduceLT,Int.reduceBEq,Int.reduceBNe,Int.reduceEq,Try.facts]
  refine jn 3 (by simp (disch := omega) only [↓aI,↓zP,aD,zD,aS0,Nat.reduceBEq,Nat.reduceLT,reduceCtorEq,↓reduceIte,Nat.reduceMul,Nat.reduceAdd,Nat.reduceLeDiff,Nat.reduceEqDiff,Int.reduceToNat,Nat.reduceSub,Nat.reduceMod,Nat.reduceDiv,Int.reducePow,Int.reduceLE,Int.reduceNeg,Int.reduceLT,Int.reduceBEq,Int.reduceBNe,Int.reduceEq,Try.facts]) fun k hk0 hk => ?_
  refine br (c := ⟨Try.prog,45,[(5,[0,0,0,0,1,0,0,0,0,0,1,0,0,0,0,0,0,0,1,0,0,0,0,0,0,0,1,0,0,0,0,2,0])],[],[]⟩) Try.mixed (by kernel_rfl) (fun m σ H' => ∃ i : Nat,i + m = n ∧ σ 0 = .imm 0 (bw b) b.length ∧ σ 4 = .sc (.int .i64 (4 * i : Nat)) ∧ ∃ k o,k ≠ 0 ∧ H k = none ∧ H' = H.set k o ∧ cy 49 1 o i ∧ σ 3 = .imm k (u32A (wordsM b i)) i) n ?_ ?_
  · refine ⟨0,by omega,?_⟩
    simp (disch := omega) only [↓aI,↓zP,aD,zD,aS0,Nat.reduceBEq,Nat.reduceLT,reduceCtorEq,↓reduceIte,Nat.reduceMul,Nat.reduceAdd,Nat.reduceLeDiff,Nat.reduceEqDiff,Int.reduceToNat,Nat.reduceSub,Nat.reduceMod,Nat.reduceDiv,Int.reducePow,Int.reduceLE,Int.reduceNeg,Int.reduceLT,Int.reduceBEq,Int.reduceBNe,Int.reduceEq,Try.facts]
    exact ⟨k,_,hk0,hk,rfl,.inr ⟨rfl,rfl⟩,rfl⟩
  · rintro m σ H' ⟨i,hi,h0,h4,k,o,hk0,hk,rfl,ho,h3⟩
    have htl : (u32A (wordsM b i)).length = i := by rw [u32A_length,wordsM_len]
    have v3 : IntKind.i64.wrap (((4 * i : Nat) : Int) + 3) = ((4 * i + 3 : Nat) : Int) := by rw [iw (by omega)]; rfl
    by_cases hlt : i < n
    · have hb : decide (((4 * i + 3 : Nat) : Int) < (b.length : Int)) = true := dT (by omega)
      have v1 : IntKind.i64.wrap (((4 * i : Nat) : Int) + 1) = ((4 * i + 1 : Nat) : Int) := by rw [iw (by omega)]; rfl
      have v2 : IntKind.i64.wrap (((4 * i : Nat) : Int) + 2) = ((4 * i + 2 : Nat) : Int) := by rw [iw (by omega)]; rfl
      have a0 := encB_get (l := b) (i := 4 * i) (by omega)
      have a1 := encB_get (l := b) (i := 4 * i + 1) (by omega)
      have a2 := encB_get (l := b) (i := 4 * i + 2) (by omega)
      have a3 := encB_get (l := b) (i := 4 * i + 3) (by omega)
      have hw := wordsM_snoc b i
      unfold leM at hw
      have l0 := (b.getD (4 * i) 0).toNat_lt
      have l1 := (b.getD (4 * i + 1) 0).toNat_lt
      have l2 := (b.getD (4 * i + 2) 0).toNat_lt
      have l3 := (b.getD (4 * i + 3) 0).toNat_lt
      generalize (b.getD (4 * i) 0).toNat = x0 at *
      generalize (b.getD (4 * i + 1) 0).toNat = x1 at *
      generalize (b.getD (4 * i + 2) 0).toNat = x2 at *
      generalize (b.getD (4 * i + 3) 0).toNat = x3 at *
      have c : ∀ x : Nat,x < 4294967296 → IntKind.u32.wrap (x : Int) = (x : Int) := fun x hx => by rw [wcast32,Nat.mod_eq_of_lt hx]
      have m1 : IntKind.u32.wrap (256 * (x1 : Int)) = ((256 * x1 : Nat) : Int) := by rw [show (256 : Int) * (x1 : Int) = ((256 * x1 : Nat) : Int) by omega]; exact c _ (by omega)
      have m2 : IntKind.u32.wrap (65536 * (x2 : Int)) = ((65536 * x2 : Nat) : Int) := by rw [show (65536 : Int) * (x2 : Int) = ((65536 * x2 : Nat) : Int) by omega]; exact c _ (by omega)
      have m3 : IntKind.u32.wrap (16777216 * (x3 : Int)) = ((16777216 * x3 : Nat) : Int) := by rw [show (16777216 : Int) * (x3 : Int) = ((16777216 * x3 : Nat) : Int) by omega]; exact c _ (by omega)
      have s1 : IntKind.u32.wrap ((x0 : Int) + ((256 * x1 : Nat) : Int)) = ((x0 + 256 * x1 : Nat) : Int) := by rw [← Int.natCast_add]; exact c _ (by omega)
      have s2 : IntKind.u32.wrap (((x0 + 256 * x1 : Nat) : Int) + ((65536 * x2 : Nat) : Int)) = ((x0 + 256 * x1 + 65536 * x2 : Nat) : Int) := by rw [← Int.natCast_add]; exact c _ (by omega)
      have s3 : IntKind.u32.wrap (((x0 + 256 * x1 + 65536 * x2 : Nat) : Int) + ((16777216 * x3 : Nat) : Int)) = ((x0 + 256 * x1 + 65536 * x2 + 16777216 * x3 : Nat) : Int) := by rw [← Int.natCast_add]; exact c _ (by omega)
      have c0 := c x0 (by omega)
      have c1 := c x1 (by omega)
      have c2 := c x2 (by omega)
      have c3 := c x3 (by omega)
      have v4 : IntKind.i64.wrap (((4 * i : Nat) : Int) + 4) = ((4 * (i + 1) : Nat) : Int) := by rw [iw (by omega)]; omega
      simp (disch := omega) only [↓aI,↓zP,aD,zD,aS0,Nat.reduceBEq,Nat.reduceLT,reduceCtorEq,↓reduceIte,Nat.reduceMul,Nat.reduceAdd,Nat.reduceLeDiff,Nat.reduceEqDiff,Int.reduceToNat,Nat.reduceSub,Nat.reduceMod,Nat.reduceDiv,Int.reducePow,Int.reduceLE,Int.reduceNeg,Int.reduceLT,Int.reduceBEq,Int.reduceBNe,Int.reduceEq,Try.facts,h0,h4,h3,hb,v1,v2,v3,v4,a0,a1,a2,a3,hel,c0,c1,c2,c3,m1,m2,m3,s1,s2,s3,hk0,ho,htl]
      intro k' o' hk0' hk' ho'
      exact ⟨m - 1,by omega,i + 1,by omega,rfl,k',o',hk0',am hk',rfl,by simpa [htl] using ho',by rw [hw,← u32A_snoc]⟩
    · obtain rfl : i = n := by omega
      have hb : decide (((4 * i + 3 : Nat) : Int) < (b.length : Int)) = false := dF (by omega)
      simp (disch := omega) only [↓aI,↓zP,aD,zD,aS0,Nat.reduceBEq,Nat.reduceLT,reduceCtorEq,↓reduceIte,Nat.reduceMul,Nat.reduceAdd,Nat.reduceLeDiff,Nat.reduceEqDiff,Int.reduceToNat,Nat.reduceSub,Nat.reduceMod,Nat.reduceDiv,Int.reducePow,Int.reduceLE,Int.reduceNeg,Int.reduceLT,Int.reduceBEq,Int.reduceBNe,Int.reduceEq,Try.facts,h0,h4,h3,hb,v3,hel]
      first | exact Sub.set_new hk | trace_state
def placeV (p : Nat × Nat × Nat × Nat) : AV := .imm 0 [.sc (.int .i64 (p.1 : Nat)),.sc (.int .i64 (p.2.1 : Nat)),.sc (.int .i64 (p.2.2.1 : Nat)),.sc (.int .i64 (p.2.2.2 : Nat))] 4
theorem places_pure : APure Try.prog 46 [] (.imm 0 (placesL.map placeV) 8) := by
  refine az (c := ⟨Try.prog,10,[],[],[]⟩) (rs := [ResultVar.tmp 0]) Try.mixed Try.func46 rfl rfl rfl (Nat.le_of_ble_eq_true rfl) (by kernel_rfl) fun H => ?_
  simp (disch := omega) only [↓aI,↓zP,aD,zD,aS0,Nat.reduceBEq,Nat.reduceLT,reduceCtorEq,↓reduceIte,Nat.reduceMul,Nat.reduceAdd,Nat.reduceLeDiff,Nat.reduceEqDiff,Int.reduceToNat,Nat.reduceSub,Nat.reduceMod,Nat.reduceDiv,Int.reducePow,Int.reduceLE,Int.reduceNeg,Int.reduceLT,Int.reduceBEq,Int.reduceBNe,Int.reduceEq,Try.facts]
  first | exact ⟨rfl,Abs.Sub.refl _⟩ | trace_state
end Go.Proofs.Ytibipjdngpjndaa
end
