/-
  The types of the laws' parameters, as Lean types. By program.
  Conditions: none.
-/
import Derived.Test.YtmgbcjnhmgfhkaaSuiFacts
import Derived.Test.YtmgbcjnhmgfhkaaBrid
set_option linter.all false
namespace Go.Proofs
open Go Go.Abs
noncomputable def Try.ty5 : Ty Try.prog 5 UInt8 := Ty.u8 Try.underlying5 (by kernel_rfl)
noncomputable def Try.ty22 : Ty Try.prog 22 (List UInt8) := Ty.slice Try.ty5 Try.underlying22 (by kernel_rfl) (of_decide_eq_true (by kernel_rfl))
noncomputable def Try.ty3 : Ty Try.prog 3 Int := Ty.int .i64 Try.underlying3 (by kernel_rfl)
noncomputable def Try.ty41 : Ty Try.prog 41 (Int × (List UInt8) × Unit) := Ty.struct Try.underlying41 (Flds.cons Try.ty3 (Flds.cons Try.ty22 Flds.nil (by kernel_rfl)) (by kernel_rfl)) (by kernel_rfl)
noncomputable def Try.ty43 : Ty Try.prog 43 (Int × Int × (Int × (List UInt8) × Unit) × (Int × (List UInt8) × Unit) × (Int × (List UInt8) × Unit) × Unit) := Ty.struct Try.underlying43 (Flds.cons Try.ty3 (Flds.cons Try.ty3 (Flds.cons Try.ty41 (Flds.cons Try.ty41 (Flds.cons Try.ty41 Flds.nil (by kernel_rfl)) (by kernel_rfl)) (by kernel_rfl)) (by kernel_rfl)) (by kernel_rfl)) (by kernel_rfl)
noncomputable def Try.ty34 : Ty Try.prog 34 (List (Int × Int × (Int × (List UInt8) × Unit) × (Int × (List UInt8) × Unit) × (Int × (List UInt8) × Unit) × Unit)) := Ty.slice Try.ty43 Try.underlying34 (by kernel_rfl) (of_decide_eq_true (by kernel_rfl))
noncomputable def Try.ty4 : Ty Try.prog 4 Bool := Ty.bool Try.underlying4 (by kernel_rfl)
end Go.Proofs
