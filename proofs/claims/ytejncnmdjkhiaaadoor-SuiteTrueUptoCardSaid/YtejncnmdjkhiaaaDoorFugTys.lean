/-
  The types of the laws' parameters, as Lean types. By program.
  Conditions: none.
-/
import Derived.Test.YtejncnmdjkhiaaaDoorFugFacts
import Derived.Test.YtejncnmdjkhiaaaDoorAbsG6
set_option linter.all false
namespace Go.Proofs
open Go Go.Abs
noncomputable def Tryd.ty5 : Ty Tryd.prog 5 UInt8 := Ty.u8 Tryd.underlying5 (by kernel_rfl)
noncomputable def Tryd.ty22 : Ty Tryd.prog 22 (List UInt8) := Ty.slice Tryd.ty5 Tryd.underlying22 (by kernel_rfl) (of_decide_eq_true (by kernel_rfl))
end Go.Proofs
