/-
  The types of the laws' parameters, as Lean types. By program.
  Conditions: none.
-/
import Derived.Test.YtimonfakmadhpaaFugFacts
import Derived.Test.YtimonfakmadhpaaAbsG6
set_option linter.all false
namespace Go.Proofs
open Go Go.Abs
noncomputable def Try.ty3 : Ty Try.prog 3 Int := Ty.int .i64 Try.underlying3 (by kernel_rfl)
noncomputable def Try.ty76 : Ty Try.prog 76 (Int × Int × Unit) := Ty.struct Try.underlying76 (Flds.cons Try.ty3 (Flds.cons Try.ty3 Flds.nil (by kernel_rfl)) (by kernel_rfl)) (by kernel_rfl)
noncomputable def Try.ty4 : Ty Try.prog 4 Bool := Ty.bool Try.underlying4 (by kernel_rfl)
noncomputable def Try.ty21 : Ty Try.prog 21 Int := Ty.int .i32 Try.underlying21 (by kernel_rfl)
noncomputable def Try.ty78 : Ty Try.prog 78 ((Int × Int × Unit) × (Int × Int × Unit) × Bool × Int × Unit) := Ty.struct Try.underlying78 (Flds.cons Try.ty76 (Flds.cons Try.ty76 (Flds.cons Try.ty4 (Flds.cons Try.ty21 Flds.nil (by kernel_rfl)) (by kernel_rfl)) (by kernel_rfl)) (by kernel_rfl)) (by kernel_rfl)
noncomputable def Try.ty80 : Ty Try.prog 80 ((Int × Int × Unit) × Bool × Unit) := Ty.struct Try.underlying80 (Flds.cons Try.ty76 (Flds.cons Try.ty4 Flds.nil (by kernel_rfl)) (by kernel_rfl)) (by kernel_rfl)
noncomputable def Try.ty82 : Ty Try.prog 82 (Int × Int × ((Int × Int × Unit) × Bool × Unit) × ((Int × Int × Unit) × Bool × Unit) × Int × Int × Unit) := Ty.struct Try.underlying82 (Flds.cons Try.ty3 (Flds.cons Try.ty3 (Flds.cons Try.ty80 (Flds.cons Try.ty80 (Flds.cons Try.ty3 (Flds.cons Try.ty3 Flds.nil (by kernel_rfl)) (by kernel_rfl)) (by kernel_rfl)) (by kernel_rfl)) (by kernel_rfl)) (by kernel_rfl)) (by kernel_rfl)
noncomputable def Try.ty84 : Ty Try.prog 84 (Int × ((Int × Int × Unit) × (Int × Int × Unit) × Bool × Int × Unit) × (Int × Int × Unit) × (Int × Int × ((Int × Int × Unit) × Bool × Unit) × ((Int × Int × Unit) × Bool × Unit) × Int × Int × Unit) × Unit) := Ty.struct Try.underlying84 (Flds.cons Try.ty3 (Flds.cons Try.ty78 (Flds.cons Try.ty76 (Flds.cons Try.ty82 Flds.nil (by kernel_rfl)) (by kernel_rfl)) (by kernel_rfl)) (by kernel_rfl)) (by kernel_rfl)
noncomputable def Try.ty28 : Ty Try.prog 28 (List (Int × ((Int × Int × Unit) × (Int × Int × Unit) × Bool × Int × Unit) × (Int × Int × Unit) × (Int × Int × ((Int × Int × Unit) × Bool × Unit) × ((Int × Int × Unit) × Bool × Unit) × Int × Int × Unit) × Unit)) := Ty.slice Try.ty84 Try.underlying28 (by kernel_rfl) (of_decide_eq_true (by kernel_rfl))
noncomputable def Try.ty90 : Ty Try.prog 90 (List Int) := Ty.slice Try.ty3 Try.underlying90 (by kernel_rfl) (of_decide_eq_true (by kernel_rfl))
end Go.Proofs
