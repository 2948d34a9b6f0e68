/-
  The types of the laws' parameters, as Lean types. By program.
  Conditions: none.
-/
import Derived.Test.YtjlnpngaiphnmaaGreatFugFacts
import Derived.Test.YtjlnpngaiphnmaaGreatAbsG6
set_option linter.all false
namespace Go.Proofs
open Go Go.Abs
noncomputable def Tryz.ty3 : Ty Tryz.prog 3 Int := Ty.int .i64 Tryz.underlying3 (by kernel_rfl)
noncomputable def Tryz.ty5 : Ty Tryz.prog 5 UInt8 := Ty.u8 Tryz.underlying5 (by kernel_rfl)
noncomputable def Tryz.ty22 : Ty Tryz.prog 22 (List UInt8) := Ty.slice Tryz.ty5 Tryz.underlying22 (by kernel_rfl) (of_decide_eq_true (by kernel_rfl))
noncomputable def Tryz.ty30 : Ty Tryz.prog 30 (Int × (List UInt8) × (List UInt8) × Unit) := Ty.struct Tryz.underlying30 (Flds.cons Tryz.ty3 (Flds.cons Tryz.ty22 (Flds.cons Tryz.ty22 Flds.nil (by kernel_rfl)) (by kernel_rfl)) (by kernel_rfl)) (by kernel_rfl)
noncomputable def Tryz.ty23 : Ty Tryz.prog 23 (List (Int × (List UInt8) × (List UInt8) × Unit)) := Ty.slice Tryz.ty30 Tryz.underlying23 (by kernel_rfl) (of_decide_eq_true (by kernel_rfl))
noncomputable def Tryz.ty84 : Ty Tryz.prog 84 (Int × Int × Unit) := Ty.struct Tryz.underlying84 (Flds.cons Tryz.ty3 (Flds.cons Tryz.ty3 Flds.nil (by kernel_rfl)) (by kernel_rfl)) (by kernel_rfl)
noncomputable def Tryz.ty24 : Ty Tryz.prog 24 (List (Int × Int × Unit)) := Ty.slice Tryz.ty84 Tryz.underlying24 (by kernel_rfl) (of_decide_eq_true (by kernel_rfl))
noncomputable def Tryz.ty25 : Ty Tryz.prog 25 (List (List UInt8)) := Ty.slice Tryz.ty22 Tryz.underlying25 (by kernel_rfl) (of_decide_eq_true (by kernel_rfl))
noncomputable def Tryz.ty27 : Ty Tryz.prog 27 (Int × (List UInt8) × (List (Int × (List UInt8) × (List UInt8) × Unit)) × (List (Int × Int × Unit)) × (List UInt8) × (List (List UInt8)) × (List UInt8) × Unit) := Ty.struct Tryz.underlying27 (Flds.cons Tryz.ty3 (Flds.cons Tryz.ty22 (Flds.cons Tryz.ty23 (Flds.cons Tryz.ty24 (Flds.cons Tryz.ty22 (Flds.cons Tryz.ty25 (Flds.cons Tryz.ty22 Flds.nil (by kernel_rfl)) (by kernel_rfl)) (by kernel_rfl)) (by kernel_rfl)) (by kernel_rfl)) (by kernel_rfl)) (by kernel_rfl)) (by kernel_rfl)
noncomputable def Tryz.ty4 : Ty Tryz.prog 4 Bool := Ty.bool Tryz.underlying4 (by kernel_rfl)
noncomputable def Tryz.ty60 : Ty Tryz.prog 60 (UInt8 × Bool × Bool × (List (Int × Int × Unit)) × UInt8 × Bool × Int × UInt8 × Unit) := Ty.struct Tryz.underlying60 (Flds.cons Tryz.ty5 (Flds.cons Tryz.ty4 (Flds.cons Tryz.ty4 (Flds.cons Tryz.ty24 (Flds.cons Tryz.ty5 (Flds.cons Tryz.ty4 (Flds.cons Tryz.ty3 (Flds.cons Tryz.ty5 Flds.nil (by kernel_rfl)) (by kernel_rfl)) (by kernel_rfl)) (by kernel_rfl)) (by kernel_rfl)) (by kernel_rfl)) (by kernel_rfl)) (by kernel_rfl)) (by kernel_rfl)
noncomputable def Tryz.ty45 : Ty Tryz.prog 45 (List (UInt8 × Bool × Bool × (List (Int × Int × Unit)) × UInt8 × Bool × Int × UInt8 × Unit)) := Ty.slice Tryz.ty60 Tryz.underlying45 (by kernel_rfl) (of_decide_eq_true (by kernel_rfl))
end Go.Proofs
