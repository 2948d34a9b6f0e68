/-
  The types of the laws' parameters, as Lean types. By program.
  Conditions: none.
-/
import Derived.Test.YtibipjdngpjndaaFugFacts
import Derived.Test.YtibipjdngpjndaaAbsG6
set_option linter.all false
namespace Go.Proofs
open Go Go.Abs
noncomputable def Try.ty5 : Ty Try.prog 5 UInt8 := Ty.u8 Try.underlying5 (by kernel_rfl)
noncomputable def Try.ty22 : Ty Try.prog 22 (List UInt8) := Ty.slice Try.ty5 Try.underlying22 (by kernel_rfl) (of_decide_eq_true (by kernel_rfl))
noncomputable def Try.ty3 : Ty Try.prog 3 Int := Ty.int .i64 Try.underlying3 (by kernel_rfl)
end Go.Proofs
