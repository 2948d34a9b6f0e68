/-
  The types of the laws' parameters, as Lean types. By program.
  Conditions: none.
-/
import Derived.Test.YtaehlpkinbpmbaaFugFacts
import Derived.Test.YtaehlpkinbpmbaaAbsG6
set_option linter.all false
namespace Go.Proofs
open Go Go.Abs
noncomputable def Try.ty3 : Ty Try.prog 3 Int := Ty.int .i64 Try.underlying3 (by kernel_rfl)
noncomputable def Try.ty5 : Ty Try.prog 5 UInt8 := Ty.u8 Try.underlying5 (by kernel_rfl)
noncomputable def Try.ty22 : Ty Try.prog 22 (List UInt8) := Ty.slice Try.ty5 Try.underlying22 (by kernel_rfl) (of_decide_eq_true (by kernel_rfl))
noncomputable def Try.ty24 : Ty Try.prog 24 (Int × Int × Int × Int × (List UInt8) × (List UInt8) × (List UInt8) × Unit) := Ty.struct Try.underlying24 (Flds.cons Try.ty3 (Flds.cons Try.ty3 (Flds.cons Try.ty3 (Flds.cons Try.ty3 (Flds.cons Try.ty22 (Flds.cons Try.ty22 (Flds.cons Try.ty22 Flds.nil (by kernel_rfl)) (by kernel_rfl)) (by kernel_rfl)) (by kernel_rfl)) (by kernel_rfl)) (by kernel_rfl)) (by kernel_rfl)) (by kernel_rfl)
noncomputable def Try.ty4 : Ty Try.prog 4 Bool := Ty.bool Try.underlying4 (by kernel_rfl)
noncomputable def Try.ty26 : Ty Try.prog 26 ((Int × Int × Int × Int × (List UInt8) × (List UInt8) × (List UInt8) × Unit) × (List UInt8) × Bool × UInt8 × Int × Unit) := Ty.struct Try.underlying26 (Flds.cons Try.ty24 (Flds.cons Try.ty22 (Flds.cons Try.ty4 (Flds.cons Try.ty5 (Flds.cons Try.ty3 Flds.nil (by kernel_rfl)) (by kernel_rfl)) (by kernel_rfl)) (by kernel_rfl)) (by kernel_rfl)) (by kernel_rfl)
noncomputable def Try.ty49 : Ty Try.prog 49 ((List UInt8) × (List UInt8) × (List UInt8) × Int × Unit) := Ty.struct Try.underlying49 (Flds.cons Try.ty22 (Flds.cons Try.ty22 (Flds.cons Try.ty22 (Flds.cons Try.ty3 Flds.nil (by kernel_rfl)) (by kernel_rfl)) (by kernel_rfl)) (by kernel_rfl)) (by kernel_rfl)
end Go.Proofs
