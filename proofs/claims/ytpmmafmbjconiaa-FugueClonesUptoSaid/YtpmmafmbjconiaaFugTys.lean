/-
  The types of the laws' parameters, as Lean types. By program.
  Conditions: none.
-/
import Derived.Test.YtpmmafmbjconiaaFugFacts
import Derived.Test.YtpmmafmbjconiaaBrid
set_option linter.all false
namespace Go.Proofs
open Go Go.Abs
noncomputable def Try.ty3 : Ty Try.prog 3 Int := Ty.int .i64 Try.underlying3 (by kernel_rfl)
noncomputable def Try.ty31 : Ty Try.prog 31 (Int × Int × Unit) := Ty.struct Try.underlying31 (Flds.cons Try.ty3 (Flds.cons Try.ty3 Flds.nil (by kernel_rfl)) (by kernel_rfl)) (by kernel_rfl)
noncomputable def Try.ty4 : Ty Try.prog 4 Bool := Ty.bool Try.underlying4 (by kernel_rfl)
noncomputable def Try.ty21 : Ty Try.prog 21 Int := Ty.int .i32 Try.underlying21 (by kernel_rfl)
noncomputable def Try.ty33 : Ty Try.prog 33 ((Int × Int × Unit) × (Int × Int × Unit) × Bool × Int × Unit) := Ty.struct Try.underlying33 (Flds.cons Try.ty31 (Flds.cons Try.ty31 (Flds.cons Try.ty4 (Flds.cons Try.ty21 Flds.nil (by kernel_rfl)) (by kernel_rfl)) (by kernel_rfl)) (by kernel_rfl)) (by kernel_rfl)
noncomputable def Try.ty35 : Ty Try.prog 35 (Int × ((Int × Int × Unit) × (Int × Int × Unit) × Bool × Int × Unit) × (Int × Int × Unit) × Unit) := Ty.struct Try.underlying35 (Flds.cons Try.ty3 (Flds.cons Try.ty33 (Flds.cons Try.ty31 Flds.nil (by kernel_rfl)) (by kernel_rfl)) (by kernel_rfl)) (by kernel_rfl)
noncomputable def Try.ty22 : Ty Try.prog 22 (List (Int × ((Int × Int × Unit) × (Int × Int × Unit) × Bool × Int × Unit) × (Int × Int × Unit) × Unit)) := Ty.slice Try.ty35 Try.underlying22 (by kernel_rfl) (of_decide_eq_true (by kernel_rfl))
noncomputable def Try.ty5 : Ty Try.prog 5 UInt8 := Ty.u8 Try.underlying5 (by kernel_rfl)
noncomputable def Try.ty51 : Ty Try.prog 51 (List Int) := Ty.slice Try.ty3 Try.underlying51 (by kernel_rfl) (of_decide_eq_true (by kernel_rfl))
end Go.Proofs
