/-
  RosterBytes: the call, of the arguments as they are read.
  Conditions: none. Lemmas only.
-/
import Derived.Test.YtjlnpngaiphnmaaGreatRzE
import Derived.Test.YtjlnpngaiphnmaaGreatRtEnc
set_option linter.all false
set_option maxRecDepth 20000
namespace Go.Proofs.YtjlnpngaiphnmaaGreat
open Go Go.Abs Go.Proofs
theorem roster_bytes (x : EntX) (b : List UInt8) (hb : Tryz.ty27.size x + Tryz.ty22.size b ≤ 1048576) : APure Tryz.prog 3 [.agg (Tryz.ty27.enc x),(Tryz.ty22.enc b).getD 0 .any] (.sc (.bool true)) := by
  rw [size_bytes] at hb
  rw [ent_enc,jX]
  exact bytes_walk21 _ _ (by omega)
end Go.Proofs.YtjlnpngaiphnmaaGreat
