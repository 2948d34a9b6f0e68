/-
  The types of the seat, by another name.
  Conditions: none.
-/
import Derived.Test.YtcncplameclkfaaGreatDoorFugTys
set_option linter.all false
