/-
  The types of the laws' parameters, as Lean types. By program.
  Conditions: none.
-/
import Derived.Test.YtjlnpngaiphnmaaFugFacts
import Derived.Test.YtjlnpngaiphnmaaAbsG6
set_option linter.all false
namespace Go.Proofs
open Go Go.Abs
noncomputable def Try.ty5 : Ty Try.prog 5 UInt8 := Ty.u8 Try.underlying5 (by kernel_rfl)
noncomputable def Try.ty4 : Ty Try.prog 4 Bool := Ty.bool Try.underlying4 (by kernel_rfl)
noncomputable def Try.ty3 : Ty Try.prog 3 Int := Ty.int .i64 Try.underlying3 (by kernel_rfl)
noncomputable def Try.ty76 : Ty Try.prog 76 (Int × Int × Unit) := Ty.struct Try.underlying76 (Flds.cons Try.ty3 (Flds.cons Try.ty3 Flds.nil (by kernel_rfl)) (by kernel_rfl)) (by kernel_rfl)
noncomputable def Try.ty49 : Ty Try.prog 49 (List (Int × Int × Unit)) := Ty.slice Try.ty76 Try.underlying49 (by kernel_rfl) (of_decide_eq_true (by kernel_rfl))
noncomputable def Try.ty51 : Ty Try.prog 51 (UInt8 × Bool × Bool × (List (Int × Int × Unit)) × UInt8 × Bool × Int × UInt8 × Unit) := Ty.struct Try.underlying51 (Flds.cons Try.ty5 (Flds.cons Try.ty4 (Flds.cons Try.ty4 (Flds.cons Try.ty49 (Flds.cons Try.ty5 (Flds.cons Try.ty4 (Flds.cons Try.ty3 (Flds.cons Try.ty5 Flds.nil (by kernel_rfl)) (by kernel_rfl)) (by kernel_rfl)) (by kernel_rfl)) (by kernel_rfl)) (by kernel_rfl)) (by kernel_rfl)) (by kernel_rfl)) (by kernel_rfl)
noncomputable def Try.ty22 : Ty Try.prog 22 (List (UInt8 × Bool × Bool × (List (Int × Int × Unit)) × UInt8 × Bool × Int × UInt8 × Unit)) := Ty.slice Try.ty51 Try.underlying22 (by kernel_rfl) (of_decide_eq_true (by kernel_rfl))
noncomputable def Try.ty30 : Ty Try.prog 30 (List UInt8) := Ty.slice Try.ty5 Try.underlying30 (by kernel_rfl) (of_decide_eq_true (by kernel_rfl))
noncomputable def Try.ty55 : Ty Try.prog 55 (Int × (List UInt8) × (List UInt8) × Unit) := Ty.struct Try.underlying55 (Flds.cons Try.ty3 (Flds.cons Try.ty30 (Flds.cons Try.ty30 Flds.nil (by kernel_rfl)) (by kernel_rfl)) (by kernel_rfl)) (by kernel_rfl)
noncomputable def Try.ty35 : Ty Try.prog 35 (List (Int × (List UInt8) × (List UInt8) × Unit)) := Ty.slice Try.ty55 Try.underlying35 (by kernel_rfl) (of_decide_eq_true (by kernel_rfl))
noncomputable def Try.ty32 : Ty Try.prog 32 (List (List UInt8)) := Ty.slice Try.ty30 Try.underlying32 (by kernel_rfl) (of_decide_eq_true (by kernel_rfl))
noncomputable def Try.ty59 : Ty Try.prog 59 (Int × (List UInt8) × (List (Int × (List UInt8) × (List UInt8) × Unit)) × (List (Int × Int × Unit)) × (List UInt8) × (List (List UInt8)) × (List UInt8) × Unit) := Ty.struct Try.underlying59 (Flds.cons Try.ty3 (Flds.cons Try.ty30 (Flds.cons Try.ty35 (Flds.cons Try.ty49 (Flds.cons Try.ty30 (Flds.cons Try.ty32 (Flds.cons Try.ty30 Flds.nil (by kernel_rfl)) (by kernel_rfl)) (by kernel_rfl)) (by kernel_rfl)) (by kernel_rfl)) (by kernel_rfl)) (by kernel_rfl)) (by kernel_rfl)
end Go.Proofs
