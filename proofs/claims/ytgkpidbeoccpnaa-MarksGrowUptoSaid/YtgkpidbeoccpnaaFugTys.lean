/-
  The types of the laws' parameters, as Lean types. By program.
  Conditions: none.
-/
import Derived.Test.YtgkpidbeoccpnaaFugFacts
import Derived.Test.YtgkpidbeoccpnaaAbsG6
set_option linter.all false
namespace Go.Proofs
open Go Go.Abs
noncomputable def Try.ty3 : Ty Try.prog 3 Int := Ty.int .i64 Try.underlying3 (by kernel_rfl)
noncomputable def Try.ty27 : Ty Try.prog 27 (Int × Int × Unit) := Ty.struct Try.underlying27 (Flds.cons Try.ty3 (Flds.cons Try.ty3 Flds.nil (by kernel_rfl)) (by kernel_rfl)) (by kernel_rfl)
noncomputable def Try.ty4 : Ty Try.prog 4 Bool := Ty.bool Try.underlying4 (by kernel_rfl)
noncomputable def Try.ty29 : Ty Try.prog 29 ((Int × Int × Unit) × Bool × Unit) := Ty.struct Try.underlying29 (Flds.cons Try.ty27 (Flds.cons Try.ty4 Flds.nil (by kernel_rfl)) (by kernel_rfl)) (by kernel_rfl)
noncomputable def Try.ty31 : Ty Try.prog 31 (Int × Int × ((Int × Int × Unit) × Bool × Unit) × ((Int × Int × Unit) × Bool × Unit) × Int × Int × Unit) := Ty.struct Try.underlying31 (Flds.cons Try.ty3 (Flds.cons Try.ty3 (Flds.cons Try.ty29 (Flds.cons Try.ty29 (Flds.cons Try.ty3 (Flds.cons Try.ty3 Flds.nil (by kernel_rfl)) (by kernel_rfl)) (by kernel_rfl)) (by kernel_rfl)) (by kernel_rfl)) (by kernel_rfl)) (by kernel_rfl)
noncomputable def Try.ty22 : Ty Try.prog 22 (List (Int × Int × ((Int × Int × Unit) × Bool × Unit) × ((Int × Int × Unit) × Bool × Unit) × Int × Int × Unit)) := Ty.slice Try.ty31 Try.underlying22 (by kernel_rfl) (of_decide_eq_true (by kernel_rfl))
noncomputable def Try.ty21 : Ty Try.prog 21 Int := Ty.int .i32 Try.underlying21 (by kernel_rfl)
noncomputable def Try.ty75 : Ty Try.prog 75 ((Int × Int × Unit) × (Int × Int × Unit) × Bool × Int × Unit) := Ty.struct Try.underlying75 (Flds.cons Try.ty27 (Flds.cons Try.ty27 (Flds.cons Try.ty4 (Flds.cons Try.ty21 Flds.nil (by kernel_rfl)) (by kernel_rfl)) (by kernel_rfl)) (by kernel_rfl)) (by kernel_rfl)
noncomputable def Try.ty42 : Ty Try.prog 42 (List ((Int × Int × Unit) × (Int × Int × Unit) × Bool × Int × Unit)) := Ty.slice Try.ty75 Try.underlying42 (by kernel_rfl) (of_decide_eq_true (by kernel_rfl))
noncomputable def Try.ty43 : Ty Try.prog 43 (List (Int × Int × Unit)) := Ty.slice Try.ty27 Try.underlying43 (by kernel_rfl) (of_decide_eq_true (by kernel_rfl))
noncomputable def Try.ty45 : Ty Try.prog 45 ((List ((Int × Int × Unit) × (Int × Int × Unit) × Bool × Int × Unit)) × (List (Int × Int × Unit)) × (List (Int × Int × ((Int × Int × Unit) × Bool × Unit) × ((Int × Int × Unit) × Bool × Unit) × Int × Int × Unit)) × Unit) := Ty.struct Try.underlying45 (Flds.cons Try.ty42 (Flds.cons Try.ty43 (Flds.cons Try.ty22 Flds.nil (by kernel_rfl)) (by kernel_rfl)) (by kernel_rfl)) (by kernel_rfl)
noncomputable def Try.ty62 : Ty Try.prog 62 (List Int) := Ty.slice Try.ty3 Try.underlying62 (by kernel_rfl) (of_decide_eq_true (by kernel_rfl))
end Go.Proofs
