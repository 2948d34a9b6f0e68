/-
  The facts of the seat.
  Conditions: none.
-/
import Derived.Test.YtaehlpkinbpmbaaFugFacts
set_option linter.all false
