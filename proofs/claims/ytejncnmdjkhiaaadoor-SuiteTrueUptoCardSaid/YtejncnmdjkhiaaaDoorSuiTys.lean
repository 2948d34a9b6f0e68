/-
  The types of the seat, by another name.
  Conditions: none.
-/
import Derived.Test.YtejncnmdjkhiaaaDoorFugTys
set_option linter.all false
