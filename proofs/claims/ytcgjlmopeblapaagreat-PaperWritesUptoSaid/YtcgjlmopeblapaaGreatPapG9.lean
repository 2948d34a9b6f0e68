/-
  Several texts in one: each says what it proves.
  Conditions: none. Lemmas only.
-/
import Derived.Test.YtcgjlmopeblapaaGreatPapG4
import Derived.Test.YtcgjlmopeblapaaGreatPapG3
import Derived.Test.YtcgjlmopeblapaaGreatFugAe
import Derived.Lib.TrimUEq
set_option linter.all false
section
set_option linter.unusedSimpArgs false
set_option linter.unusedVariables false
set_option maxRecDepth 8000
set_option maxHeartbeats 4000000
namespace Go.Proofs.YtcgjlmopeblapaaGreat
open Go Go.Abs Go.Proofs Go.Fug
structure Wsh where
  at_ : Int
  n : Int
  name : Int
  value : Int
  author : Int
  txt : List UInt8
def wishC (w : Wsh) : List AV := [.sc (.int .i64 w.at_),.sc (.int .i64 w.n),.sc (.int .i64 w.name),.sc (.int .i64 w.value),.sc (.int .i64 w.author),.sc (.string ⟨w.txt.toArray⟩)]
end Go.Proofs.YtcgjlmopeblapaaGreat
end
section
set_option linter.unusedSimpArgs false
set_option linter.unusedVariables false
set_option maxRecDepth 8000
namespace Go.Proofs.YtcgjlmopeblapaaGreat
open Go Go.Abs Go.Proofs Go.Fug
end Go.Proofs.YtcgjlmopeblapaaGreat
end
section
set_option linter.unusedSimpArgs false
set_option linter.unusedVariables false
set_option maxRecDepth 8000
set_option maxHeartbeats 1000000
namespace Go.Proofs.YtcgjlmopeblapaaGreat
open Go Go.Abs Go.Proofs Go.Fug
end Go.Proofs.YtcgjlmopeblapaaGreat
end
