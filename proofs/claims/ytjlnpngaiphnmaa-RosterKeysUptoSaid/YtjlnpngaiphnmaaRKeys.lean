/-
  RosterKeys: the call, of the arguments as they are read.
  Conditions: none. Lemmas only.
-/
import Derived.Test.YtjlnpngaiphnmaaRosKeys
import Derived.Test.YtjlnpngaiphnmaaRtEnc
set_option linter.all false
set_option maxRecDepth 20000
namespace Go.Proofs.Ytjlnpngaiphnmaa
open Go Go.Abs Go.Proofs
theorem roster_keys (l : List DoX) (a : Int) (c : UInt8) (i : Int) (y : UInt8) (hb : Try.ty22.size l + Try.ty3.size a + Try.ty5.size c + Try.ty3.size i + Try.ty5.size y ≤ 1048576) :
    APure Try.prog 6 [(Try.ty22.enc l).getD 0 .any,(Try.ty3.enc a).getD 0 .any,(Try.ty5.enc c).getD 0 .any,(Try.ty3.enc i).getD 0 .any,(Try.ty5.enc y).getD 0 .any] (.sc (.bool true)) := by
  rw [dos_enc]
  obtain ⟨h1,h2⟩ := dos_size l
  exact keys_walk (dosOf l) a c i y (by omega) (fun t ht => by have := h2 t ht; omega)
end Go.Proofs.Ytjlnpngaiphnmaa
