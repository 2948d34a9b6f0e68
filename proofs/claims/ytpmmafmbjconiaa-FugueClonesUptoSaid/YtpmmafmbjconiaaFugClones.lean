/-
  FugueClones: the call, of the arguments as they are read.
  Conditions: none. Lemmas only.
-/
import Derived.Test.YtpmmafmbjconiaaFugAk
import Derived.Test.YtpmmafmbjconiaaFugPlays
set_option linter.all false
namespace Go.Proofs.Ytpmmafmbjconiaa
open Go Go.Abs Go.Proofs Go.Fug
theorem fugue_clones (x0 x1 x2 : List DoX) (hb : Try.ty22.size x0 + Try.ty22.size x1 + Try.ty22.size x2 ≤ 1048576) :
    APure Try.prog 7 [(Try.ty22.enc x0).getD 0 .any, (Try.ty22.enc x1).getD 0 .any, (Try.ty22.enc x2).getD 0 .any] (.sc (.bool true)) := by
  have hs := dos_size x0
  have hs1 := dos_size x1
  have hs2 := dos_size x2
  rw [dos_enc, dos_enc, dos_enc]
  have hl : (x0.map doOf).length ≤ 1048576 := by rw [List.length_map]; omega
  have hl1 : (x1.map doOf).length ≤ 1048576 := by rw [List.length_map]; omega
  have hl2 : (x2.map doOf).length ≤ 1048576 := by rw [List.length_map]; omega
  generalize x0.map doOf = l at *
  generalize x1.map doOf = a at *
  generalize x2.map doOf = b at *
  by_cases h : l.length ≤ 60 ∧ a.length ≤ 60 ∧ b.length ≤ 60
  · exact clones_yes l a b h.1 h.2.1 h.2.2
  · exact clones_no l a b hl hl1 hl2 h
end Go.Proofs.Ytpmmafmbjconiaa
