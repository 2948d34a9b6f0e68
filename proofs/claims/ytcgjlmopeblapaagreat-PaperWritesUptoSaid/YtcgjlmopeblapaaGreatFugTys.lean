/-
  The types of the laws' parameters, as Lean types. By program.
  Conditions: none.
-/
import Derived.Test.YtcgjlmopeblapaaGreatFugFacts
import Derived.Test.YtcgjlmopeblapaaGreatAbsG6
set_option linter.all false
namespace Go.Proofs
open Go Go.Abs
noncomputable def Tryz.ty3 : Ty Tryz.prog 3 Int := Ty.int .i64 Tryz.underlying3 (by kernel_rfl)
noncomputable def Tryz.ty50 : Ty Tryz.prog 50 (Int × Int × Unit) := Ty.struct Tryz.underlying50 (Flds.cons Tryz.ty3 (Flds.cons Tryz.ty3 Flds.nil (by kernel_rfl)) (by kernel_rfl)) (by kernel_rfl)
noncomputable def Tryz.ty4 : Ty Tryz.prog 4 Bool := Ty.bool Tryz.underlying4 (by kernel_rfl)
noncomputable def Tryz.ty21 : Ty Tryz.prog 21 Int := Ty.int .i32 Tryz.underlying21 (by kernel_rfl)
noncomputable def Tryz.ty52 : Ty Tryz.prog 52 ((Int × Int × Unit) × (Int × Int × Unit) × Bool × Int × Unit) := Ty.struct Tryz.underlying52 (Flds.cons Tryz.ty50 (Flds.cons Tryz.ty50 (Flds.cons Tryz.ty4 (Flds.cons Tryz.ty21 Flds.nil (by kernel_rfl)) (by kernel_rfl)) (by kernel_rfl)) (by kernel_rfl)) (by kernel_rfl)
noncomputable def Tryz.ty54 : Ty Tryz.prog 54 ((Int × Int × Unit) × Bool × Unit) := Ty.struct Tryz.underlying54 (Flds.cons Tryz.ty50 (Flds.cons Tryz.ty4 Flds.nil (by kernel_rfl)) (by kernel_rfl)) (by kernel_rfl)
noncomputable def Tryz.ty56 : Ty Tryz.prog 56 (Int × Int × ((Int × Int × Unit) × Bool × Unit) × ((Int × Int × Unit) × Bool × Unit) × Int × Int × Unit) := Ty.struct Tryz.underlying56 (Flds.cons Tryz.ty3 (Flds.cons Tryz.ty3 (Flds.cons Tryz.ty54 (Flds.cons Tryz.ty54 (Flds.cons Tryz.ty3 (Flds.cons Tryz.ty3 Flds.nil (by kernel_rfl)) (by kernel_rfl)) (by kernel_rfl)) (by kernel_rfl)) (by kernel_rfl)) (by kernel_rfl)) (by kernel_rfl)
noncomputable def Tryz.ty58 : Ty Tryz.prog 58 (Int × ((Int × Int × Unit) × (Int × Int × Unit) × Bool × Int × Unit) × (Int × Int × Unit) × (Int × Int × ((Int × Int × Unit) × Bool × Unit) × ((Int × Int × Unit) × Bool × Unit) × Int × Int × Unit) × Unit) := Ty.struct Tryz.underlying58 (Flds.cons Tryz.ty3 (Flds.cons Tryz.ty52 (Flds.cons Tryz.ty50 (Flds.cons Tryz.ty56 Flds.nil (by kernel_rfl)) (by kernel_rfl)) (by kernel_rfl)) (by kernel_rfl)) (by kernel_rfl)
noncomputable def Tryz.ty28 : Ty Tryz.prog 28 (List (Int × ((Int × Int × Unit) × (Int × Int × Unit) × Bool × Int × Unit) × (Int × Int × Unit) × (Int × Int × ((Int × Int × Unit) × Bool × Unit) × ((Int × Int × Unit) × Bool × Unit) × Int × Int × Unit) × Unit)) := Ty.slice Tryz.ty58 Tryz.underlying28 (by kernel_rfl) (of_decide_eq_true (by kernel_rfl))
noncomputable def Tryz.ty22 : Ty Tryz.prog 22 (List (List (Int × ((Int × Int × Unit) × (Int × Int × Unit) × Bool × Int × Unit) × (Int × Int × Unit) × (Int × Int × ((Int × Int × Unit) × Bool × Unit) × ((Int × Int × Unit) × Bool × Unit) × Int × Int × Unit) × Unit))) := Ty.slice Tryz.ty28 Tryz.underlying22 (by kernel_rfl) (of_decide_eq_true (by kernel_rfl))
noncomputable def Tryz.ty9 : Ty Tryz.prog 9 (List UInt8) := Ty.str Tryz.underlying9 (by kernel_rfl)
noncomputable def Tryz.ty24 : Ty Tryz.prog 24 (Int × Int × Int × Int × Int × (List UInt8) × Unit) := Ty.struct Tryz.underlying24 (Flds.cons Tryz.ty3 (Flds.cons Tryz.ty3 (Flds.cons Tryz.ty3 (Flds.cons Tryz.ty3 (Flds.cons Tryz.ty3 (Flds.cons Tryz.ty9 Flds.nil (by kernel_rfl)) (by kernel_rfl)) (by kernel_rfl)) (by kernel_rfl)) (by kernel_rfl)) (by kernel_rfl)) (by kernel_rfl)
end Go.Proofs
