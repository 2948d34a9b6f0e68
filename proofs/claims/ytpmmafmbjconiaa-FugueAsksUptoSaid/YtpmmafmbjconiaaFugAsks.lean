/-
  FugueAsks: the call, of the arguments as they are read.
  Conditions: none. Lemmas only.
-/
import Derived.Test.YtpmmafmbjconiaaFugAd
import Derived.Test.YtpmmafmbjconiaaFugPlays
set_option linter.all false
namespace Go.Proofs.Ytpmmafmbjconiaa
open Go Go.Abs Go.Proofs Go.Fug
theorem fugue_asks (x0 : List DoX) (x1 : Int × Int × Unit) (x2 : Int) (hb : Try.ty22.size x0 + Try.ty31.size x1 + Try.ty3.size x2 ≤ 1048576) :
    APure Try.prog 8 [(Try.ty22.enc x0).getD 0 .any, .agg (Try.ty31.enc x1), (Try.ty3.enc x2).getD 0 .any] (.sc (.bool true)) := by
  have hs := dos_size x0
  rw [dos_enc]
  have hl : (x0.map doOf).length ≤ 1048576 := by rw [List.length_map]; omega
  generalize x0.map doOf = l at *
  obtain ⟨d1, d2, ⟨⟩⟩ := x1
  show APure Try.prog _ [_, idV (d1, d2), .sc (.int .i64 x2)] _
  by_cases h : l.length ≤ 60
  · exact asks_yes l _ _ h
  · exact asks_no l _ _ hl h
end Go.Proofs.Ytpmmafmbjconiaa
