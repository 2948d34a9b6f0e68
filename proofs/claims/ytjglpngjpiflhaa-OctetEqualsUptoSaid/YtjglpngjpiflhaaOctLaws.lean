/-
  What the laws' proofs want of the arguments.
  Conditions: none. Lemmas only.
-/
import Derived.Test.YtjglpngjpiflhaaOctF
import Derived.Test.YtjglpngjpiflhaaOctTys
set_option linter.all false
namespace Go.Proofs.Ytjglpngjpiflhaa
open Go Go.Abs Go.Proofs
theorem flat_one {α : Type} (f : α → AV) (xs : List α) : (xs.flatMap fun b => [f b]) = xs.map f := by
  induction xs with
  | nil => rfl
  | cons x xs ih => simp [List.flatMap_cons, ih]
theorem sum_one {α : Type} (xs : List α) : sumMap (fun _ => 1) xs = xs.length := by
  induction xs with
  | nil => rfl
  | cons x xs ih => simp [sumMap] at ih ⊢; omega
theorem row_bytes (xs : List UInt8) : (Try.ty22.enc xs).getD 0 .any = bytesV xs := by
  show AV.imm 0 (xs.flatMap fun b => [.sc (.int .u8 b.toNat)]) xs.length = _
  rw [flat_one]
  rfl
theorem size_bytes (xs : List UInt8) : Try.ty22.size xs = xs.length + 1 := by
  show sumMap (fun _ => 1) xs + 1 = _
  rw [sum_one]
theorem equals_walk (xs ys : List UInt8) (hb : Try.ty22.size xs + Try.ty22.size ys ≤ 1048576) :
    APure Try.prog 3 [(Try.ty22.enc xs).getD 0 .any, (Try.ty22.enc ys).getD 0 .any] (.sc (.bool true)) := by
  rw [size_bytes, size_bytes] at hb
  rw [row_bytes, row_bytes]
  exact equals_pure xs ys (by omega) (by omega)
end Go.Proofs.Ytjglpngjpiflhaa
