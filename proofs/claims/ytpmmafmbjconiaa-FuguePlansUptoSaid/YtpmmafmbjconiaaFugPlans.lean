/-
  FuguePlans: the call, of the arguments as they are read.
  Conditions: none. Lemmas only.
-/
import Derived.Test.YtpmmafmbjconiaaFugAf
import Derived.Test.YtpmmafmbjconiaaFugPlays
set_option linter.all false
namespace Go.Proofs.Ytpmmafmbjconiaa
open Go Go.Abs Go.Proofs Go.Fug
theorem fugue_plans (x0 : List DoX) (x1 : Int) (x2 : Int × Int × Unit) (x3 : Int) (hb : Try.ty22.size x0 + Try.ty3.size x1 + Try.ty31.size x2 + Try.ty21.size x3 ≤ 1048576) :
    APure Try.prog 9 [(Try.ty22.enc x0).getD 0 .any, (Try.ty3.enc x1).getD 0 .any, .agg (Try.ty31.enc x2), (Try.ty21.enc x3).getD 0 .any] (.sc (.bool true)) := by
  have hs := dos_size x0
  rw [dos_enc]
  have hl : (x0.map doOf).length ≤ 1048576 := by rw [List.length_map]; omega
  generalize x0.map doOf = l at *
  obtain ⟨d1, d2, ⟨⟩⟩ := x2
  show APure Try.prog _ [_, .sc (.int .i64 x1), idV (d1, d2), .sc (.int .i32 x3)] _
  by_cases h : l.length ≤ 60
  · exact plans_yes l _ _ _ h
  · exact plans_no l _ _ _ hl h
end Go.Proofs.Ytpmmafmbjconiaa
