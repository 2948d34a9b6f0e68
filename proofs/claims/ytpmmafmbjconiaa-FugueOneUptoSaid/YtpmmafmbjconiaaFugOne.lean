/-
  FugueOne: the call, of the arguments as they are read.
  Conditions: none. Lemmas only.
-/
import Derived.Test.YtpmmafmbjconiaaFugZ
set_option linter.all false
namespace Go.Proofs.Ytpmmafmbjconiaa
open Go Go.Abs Go.Proofs Go.Fug
theorem fugue_one (x0 : List DoX) (x1 : UInt8) (hb : Try.ty22.size x0 + Try.ty5.size x1 ≤ 1048576) :
    APure Try.prog 3 [(Try.ty22.enc x0).getD 0 .any, (Try.ty5.enc x1).getD 0 .any] (.sc (.bool true)) := by
  have hs := dos_size x0
  rw [dos_enc]
  have hl : (x0.map doOf).length ≤ 1048576 := by rw [List.length_map]; omega
  generalize x0.map doOf = l at *
  have hlv : x1.toNat < 256 := x1.toNat_lt
  show APure Try.prog _ [_, .sc (.int .u8 (x1.toNat : Nat))] _
  by_cases h : l.length ≤ 60
  · exact one_yes l _ hlv h
  · exact one_no l _ hlv hl h
end Go.Proofs.Ytpmmafmbjconiaa
