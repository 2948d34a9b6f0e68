/-
  Several texts in one: each says what it proves.
  Conditions: none. Lemmas only.
-/
import Derived.Test.YtcncplameclkfaaGreatDoorBxG1
import Derived.Test.YtcncplameclkfaaGreatDoorLetG1
set_option linter.all false
section
set_option maxRecDepth 20000
set_option maxHeartbeats 4000000
namespace Go.Proofs.YtcncplameclkfaaGreatDoor
open Go Go.Abs Go.Proofs Go.Box
theorem lt64{a:Nat}(h:a<18446744073709551616):a<2^64:=h
theorem mK{a b:Nat}(ha:a<18446744073709551616)(hb:b<18446744073709551616):bits .xor .u64 (a:Int) (b:Int)=((a ^^^ b:Nat):Int):=by
 show IntKind.u64.wrap ((BitVec.ofInt 64 (a:Int) ^^^ BitVec.ofInt 64 (b:Int)).toNat:Int)=_
 rw[BitVec.ofInt_natCast,BitVec.ofInt_natCast]
 simp only[BitVec.toNat_xor,BitVec.toNat_ofNat,Nat.mod_eq_of_lt (lt64 ha),Nat.mod_eq_of_lt (lt64 hb)]
 exact jw (Nat.xor_lt_two_pow (lt64 ha) (lt64 hb))
theorem mJ{a b:Nat}(ha:a<18446744073709551616)(hb:b<18446744073709551616):bits .and .u64 (a:Int) (b:Int)=((a &&& b:Nat):Int):=by
 show IntKind.u64.wrap ((BitVec.ofInt 64 (a:Int) &&& BitVec.ofInt 64 (b:Int)).toNat:Int)=_
 rw[BitVec.ofInt_natCast,BitVec.ofInt_natCast]
 simp only[BitVec.toNat_and,BitVec.toNat_ofNat,Nat.mod_eq_of_lt (lt64 ha),Nat.mod_eq_of_lt (lt64 hb)]
 exact jw (Nat.and_lt_two_pow _ (lt64 hb))
theorem shrN{a n:Nat}:((a:Int)).fdiv (2^n)=((a/2^n:Nat):Int):=by
 have:(2^n:Int)=((2^n:Nat):Int):=by rw[Int.natCast_pow];rfl
 rw[this,Int.fdiv_eq_ediv_of_nonneg _ (Int.natCast_nonneg _)];rfl
theorem minL{n m:Nat}(h:n≤m):min n m=n:=Nat.min_eq_left h
theorem ou{a b:Nat}(ha:a<18446744073709551616)(hb:b<18446744073709551616):bits .or .u64 (a:Int) (b:Int)=((a ||| b:Nat):Int):=by
 show IntKind.u64.wrap ((BitVec.ofInt 64 (a:Int) ||| BitVec.ofInt 64 (b:Int)).toNat:Int)=_
 rw[BitVec.ofInt_natCast,BitVec.ofInt_natCast]
 simp only[BitVec.toNat_or,BitVec.toNat_ofNat,Nat.mod_eq_of_lt (lt64 ha),Nat.mod_eq_of_lt (lt64 hb)]
 exact jw (Nat.or_lt_two_pow (lt64 ha) (lt64 hb))
theorem mS:IntKind.u64.bits=64:=rfl
theorem wcast64{a:Nat}:IntKind.u64.wrap (a:Int)=((a % 18446744073709551616:Nat):Int):=by
 unfold IntKind.wrap
 simp only[mS,IntKind.signed,Bool.false_and,Bool.false_eq_true,if_false]
 exact(Int.natCast_emod a 18446744073709551616).symm
theorem mn{a b:Nat}:IntKind.u64.wrap ((a:Int)+(b:Int))=(((a+b) % 18446744073709551616:Nat):Int):=by rw[←Int.natCast_add,wcast64]
theorem xor_all{w a:Nat}(h:a<2^w):(2^w-1) ^^^ a=2^w-1-a:=by
 apply Nat.eq_of_testBit_eq
 intro i
 rw[Nat.testBit_xor,Nat.testBit_two_pow_sub_one,show 2^w-1-a=2^w-(a+1) by omega,Nat.testBit_two_pow_sub_succ h]
 by_cases hi:i<w
 ·simp[hi]
 ·have:a.testBit i=false:=Nat.testBit_lt_two_pow (Nat.lt_of_lt_of_le h (Nat.pow_le_pow_right (by decide) (by omega)))
  simp[hi,this]
theorem not64{a:Nat}(h:a<18446744073709551616):notI .u64 (a:Int)=((18446744073709551615-a:Nat):Int):=by
 have e:=mK (a:=18446744073709551615) (b:=a) (by omega) h
 rw[show(18446744073709551615:Nat) ^^^ a=18446744073709551615-a from xor_all (w:=64) h]at e
 exact e
end Go.Proofs.YtcncplameclkfaaGreatDoor
end
