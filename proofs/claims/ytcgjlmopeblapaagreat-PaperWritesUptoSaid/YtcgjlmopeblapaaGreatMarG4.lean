/-
  Several texts in one: each says what it proves.
  Conditions: none. Lemmas only.
-/
import Derived.Test.YtcgjlmopeblapaaGreatMarG3
import Derived.Test.YtcgjlmopeblapaaGreatFugG5
set_option linter.all false
section
set_option linter.unusedSimpArgs false
set_option linter.unusedVariables false
set_option maxRecDepth 8000
set_option maxHeartbeats 4000000
namespace Go.Proofs.YtcgjlmopeblapaaGreat
open Go Go.Abs Go.Proofs Go.Fug
end Go.Proofs.YtcgjlmopeblapaaGreat
end
section
set_option linter.unusedSimpArgs false
set_option linter.unusedVariables false
set_option maxRecDepth 8000
set_option maxHeartbeats 4000000
namespace Go.Proofs.YtcgjlmopeblapaaGreat
open Go Go.Abs Go.Proofs Go.Fug
structure Src (H : AH) (bv tv : AV) (l : List Mk) (ns : List Nd) (cap : List AV) (Res : AH → Prop) : Prop where
  sb : bv.strip = bv
  st : tv.strip = tv
  g : GoodM l
  nd : (idsNd ns).Nodup
  small : ns.length ≤ 4096
  al : ∀ H',ACalls Tryz.prog 63 [tv] H' fun r H'' => r = .fn (.func 86) [] cap ∧ H'' = H'
  it : IterP Tryz.prog 86 cap encN Res (fun xs => xs = ixd 0 ns) (fun pre => ∃ n,0 < n ∧ n ≤ ns.length ∧ pre = (ixd 0 ns).take n) (fun pre x => ∃ r,pre ++ x :: r = ixd 0 ns)
  res : ∀ H',Abs.Sub H H' → Res H'
  li : ∀ H',Abs.Sub H H' → ACalls Tryz.prog 43 [bv] H' fun v H'' => v = eM l ∧ H'' = H'
end Go.Proofs.YtcgjlmopeblapaaGreat
end
