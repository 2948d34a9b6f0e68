/-
  The types of the laws' parameters, as Lean types. By program.
  Conditions: none.
-/
import Derived.Test.YtcncplameclkfaaGreatDoorFugFacts
import Derived.Test.YtcncplameclkfaaGreatDoorAbsG6
set_option linter.all false
namespace Go.Proofs
open Go Go.Abs
noncomputable def Tryz.ty5:Ty Tryz.prog 5 UInt8:=Ty.u8 Tryz.underlying5 (by kernel_rfl)
noncomputable def Tryz.ty22:Ty Tryz.prog 22 (List UInt8):=Ty.slice Tryz.ty5 Tryz.underlying22 (by kernel_rfl) (of_decide_eq_true (by kernel_rfl))
end Go.Proofs
