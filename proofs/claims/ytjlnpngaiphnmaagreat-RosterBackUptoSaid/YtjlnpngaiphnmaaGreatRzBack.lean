/-
  RosterBack: the call, of the arguments as they are read.
  Conditions: none. Lemmas only.
-/
import Derived.Test.YtjlnpngaiphnmaaGreatRzI
import Derived.Test.YtjlnpngaiphnmaaGreatRtEnc
set_option linter.all false
set_option maxRecDepth 20000
namespace Go.Proofs.YtjlnpngaiphnmaaGreat
open Go Go.Abs Go.Proofs
theorem roster_back (l : List DoX) (w : UInt8) (hb : Tryz.ty45.size l + Tryz.ty5.size w ≤ 1048576) : APure Tryz.prog 4 [(Tryz.ty45.enc l).getD 0 .any,(Tryz.ty5.enc w).getD 0 .any] (.sc (.bool true)) := by
  rw [dos_enc]
  obtain ⟨h1,h2⟩ := dos_size l
  exact back_walk21 (dosOf l) w (by omega) (fun t ht => by have := h2 t ht; omega)
end Go.Proofs.YtjlnpngaiphnmaaGreat
