/-
  The facts of the seat, by another name.
  Conditions: none.
-/
import Derived.Test.YtibipjdngpjndaaFugFacts
set_option linter.all false
