/-
  FugueStays: the call, of the arguments as they are read.
  Conditions: none. Lemmas only.
-/
import Derived.Test.YtpmmafmbjconiaaFugV
import Derived.Test.YtpmmafmbjconiaaFugPlays
set_option linter.all false
namespace Go.Proofs.Ytpmmafmbjconiaa
open Go Go.Abs Go.Proofs Go.Fug
theorem fugue_stays (x0 x1 : List DoX) (hb : Try.ty22.size x0 + Try.ty22.size x1 ≤ 1048576) :
    APure Try.prog 6 [(Try.ty22.enc x0).getD 0 .any, (Try.ty22.enc x1).getD 0 .any] (.sc (.bool true)) := by
  have hs := dos_size x0
  have hs1 := dos_size x1
  rw [dos_enc, dos_enc]
  have hl : (x0.map doOf).length ≤ 1048576 := by rw [List.length_map]; omega
  have hl1 : (x1.map doOf).length ≤ 1048576 := by rw [List.length_map]; omega
  generalize x0.map doOf = l at *
  generalize x1.map doOf = mo at *
  by_cases h : l.length ≤ 60 ∧ mo.length ≤ 60
  · exact stays_yes l mo h.1 h.2
  · exact stays_no l mo hl hl1 h
end Go.Proofs.Ytpmmafmbjconiaa
