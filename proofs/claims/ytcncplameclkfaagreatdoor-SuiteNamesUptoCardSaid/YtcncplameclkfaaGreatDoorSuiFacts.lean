/-
  The facts of the seat, by another name.
  Conditions: none.
-/
import Derived.Test.YtcncplameclkfaaGreatDoorFugFacts
set_option linter.all false
