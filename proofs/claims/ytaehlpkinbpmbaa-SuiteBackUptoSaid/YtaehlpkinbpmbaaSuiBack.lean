/-
  SuiteBack: the call, of the arguments as they are read.
  Conditions: none. Lemmas only.
-/
import Derived.Test.YtaehlpkinbpmbaaLetB
import Derived.Test.YtaehlpkinbpmbaaFugTys
import Derived.Test.YtaehlpkinbpmbaaAbsG6
set_option linter.all false
set_option maxRecDepth 20000
namespace Go.Proofs.Ytaehlpkinbpmbaa
open Go Go.Abs Go.Proofs
theorem row_bytes (xs : List UInt8) : (Try.ty22.enc xs).getD 0 .any = bytesV xs := by
  show AV.imm 0 (xs.flatMap fun b => [AV.sc (.int .u8 b.toNat)]) xs.length = .imm 0 (bw xs) xs.length
  rw [flat_one]; rfl
theorem size_bytes (xs : List UInt8) : Try.ty22.size xs = xs.length + 1 := by
  show sumMap (fun _ => 1) xs + 1 = _
  rw [sum_one]
abbrev BothX := List UInt8 × List UInt8 × List UInt8 × Int × Unit
theorem both_enc (a b c : List UInt8) (n : Int) : Try.ty49.enc (a,b,c,n,()) = bothV a b c n := by
  show [(Try.ty22.enc a).getD 0 .any,(Try.ty22.enc b).getD 0 .any,(Try.ty22.enc c).getD 0 .any,.sc (.int .i64 n)] = _
  rw [row_bytes,row_bytes,row_bytes]
theorem suite_back (x : BothX) (o : Try.ty49.ok x) (hb : Try.ty49.size x ≤ 1048576) : APure Try.prog 5 [.agg (Try.ty49.enc x)] (.sc (.bool true)) := by
  obtain ⟨a,b,c,n,⟨⟩⟩ := x
  obtain ⟨-,-,-,h1,-⟩ := o
  rw [both_enc]
  have hs : Try.ty22.size a + (Try.ty22.size b + (Try.ty22.size c + (1 + 0))) + 1 ≤ 1048576 := hb
  rw [size_bytes,size_bytes,size_bytes] at hs
  exact back_walk _ _ _ _ (wf_i64 h1).2 (by omega) (by omega)
end Go.Proofs.Ytaehlpkinbpmbaa
