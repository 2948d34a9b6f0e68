/-
  LetterBytes: the call, of the arguments as they are read.
  Conditions: none. Lemmas only.
-/
import Derived.Test.YtaehlpkinbpmbaaLtK
import Derived.Test.YtaehlpkinbpmbaaLtEnc
set_option linter.all false
set_option maxRecDepth 20000
namespace Go.Proofs.Ytaehlpkinbpmbaa
open Go Go.Abs Go.Proofs
theorem letter_bytes (l : LtrX) (b : List UInt8) (hb : Try.ty24.size l + Try.ty22.size b ≤ 1048576) : APure Try.prog 7 [.agg (Try.ty24.enc l),(Try.ty22.enc b).getD 0 .any] (.sc (.bool true)) := by
  rw [size_bytes] at hb
  rw [ltr_enc,row_bytes]
  exact bytes_walk22 _ _ (by omega)
end Go.Proofs.Ytaehlpkinbpmbaa
