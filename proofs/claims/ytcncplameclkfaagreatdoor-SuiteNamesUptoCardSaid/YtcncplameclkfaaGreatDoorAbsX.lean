/-
  Functions without a body: the comparison of bytes.
  Conditions: none. Lemmas only.
-/
import Derived.Test.YtcncplameclkfaaGreatDoorAbsG5
import Derived.Lib.BytesEntry
import Derived.Lib.Bytealg
import Derived.Laws.Externs
set_option linter.all false
namespace Go.Abs
open Go Go.RowKit
end Go.Abs
