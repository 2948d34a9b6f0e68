/-
  What the laws' proofs want of the arguments.
  Conditions: none. Lemmas only.
-/
import Derived.Test.YtjglpngjpiflhaaOctJ
import Derived.Test.YtjglpngjpiflhaaOctTys
set_option linter.all false
namespace Go.Proofs.Ytjglpngjpiflhaa
open Go Go.Abs Go.Proofs
theorem row_bytes (xs : List UInt8) : (Try.ty22.enc xs).getD 0 .any = bytesV xs := by
  show AV.imm 0 (xs.flatMap fun b => [.sc (.int .u8 b.toNat)]) xs.length = _
  rw [flat_one]
  rfl
theorem size_bytes (xs : List UInt8) : Try.ty22.size xs = xs.length + 1 := by
  show sumMap (fun _ => 1) xs + 1 = _
  rw [sum_one]
theorem size_str (xs : List UInt8) : Try.ty9.size xs = xs.length + 1 := rfl
section
variable (xs ys : List UInt8)
theorem equals_walk (hb : Try.ty22.size xs + Try.ty22.size ys ≤ 1048576) :
    APure Try.prog 3 [(Try.ty22.enc xs).getD 0 .any, (Try.ty22.enc ys).getD 0 .any] (.sc (.bool true)) := by
  rw [size_bytes, size_bytes] at hb
  rw [row_bytes, row_bytes]
  exact equals_pure xs ys (by omega) (by omega)
theorem xors_walk (hb : Try.ty22.size xs + Try.ty22.size ys ≤ 1048576) :
    APure Try.prog 7 [(Try.ty22.enc xs).getD 0 .any, (Try.ty22.enc ys).getD 0 .any] (.sc (.bool true)) := by
  rw [size_bytes, size_bytes] at hb
  rw [row_bytes, row_bytes]
  exact xors_pure xs ys (by omega) (by omega)
theorem twice_walk (hb : Try.ty22.size xs + Try.ty22.size ys ≤ 1048576) :
    APure Try.prog 9 [(Try.ty22.enc xs).getD 0 .any, (Try.ty22.enc ys).getD 0 .any] (.sc (.bool true)) := by
  rw [size_bytes, size_bytes] at hb
  rw [row_bytes, row_bytes]
  exact twice_pure xs ys (by omega) (by omega)
theorem digits_walk (hb : Try.ty22.size xs + Try.ty9.size ys ≤ 1048576) :
    APure Try.prog 4 [(Try.ty22.enc xs).getD 0 .any, (Try.ty9.enc ys).getD 0 .any] (.sc (.bool true)) := by
  rw [size_bytes, size_str] at hb
  rw [row_bytes]
  exact digits_pure xs ys (by omega) (by omega)
theorem back_walk (hb : Try.ty22.size xs + Try.ty9.size ys ≤ 1048576) :
    APure Try.prog 5 [(Try.ty22.enc xs).getD 0 .any, (Try.ty9.enc ys).getD 0 .any] (.sc (.bool true)) := by
  rw [size_bytes, size_str] at hb
  rw [row_bytes]
  exact back_pure xs ys (by omega) (by omega)
theorem numbers_walk (n s : Int) (ok : Try.ty36.ok n) (hb : Try.ty22.size xs + Try.ty36.size n + Try.ty3.size s ≤ 1048576) :
    APure Try.prog 8 [(Try.ty22.enc xs).getD 0 .any, (Try.ty36.enc n).getD 0 .any, (Try.ty3.enc s).getD 0 .any] (.sc (.bool true)) := by
  rw [size_bytes] at hb
  obtain ⟨h0, h1⟩ := wf_u64 ok
  obtain ⟨n, rfl⟩ : ∃ m : Nat, n = m := ⟨n.toNat, by omega⟩
  rw [row_bytes]
  exact numbers_pure xs n s (by omega) (by omega)
theorem once_walk (n : Int) (ok : Try.ty36.ok n) (hb : Try.ty36.size n + Try.ty22.size xs ≤ 1048576) :
    APure Try.prog 10 [(Try.ty36.enc n).getD 0 .any, (Try.ty22.enc xs).getD 0 .any] (.sc (.bool true)) := by
  rw [size_bytes] at hb
  obtain ⟨h0, h1⟩ := wf_u64 ok
  obtain ⟨n, rfl⟩ : ∃ m : Nat, n = m := ⟨n.toNat, by omega⟩
  rw [row_bytes]
  exact once_pure xs n (by omega) (by omega)
theorem picks_walk (bit : Int) (hb : Try.ty3.size bit + Try.ty22.size xs + Try.ty22.size ys ≤ 1048576) :
    APure Try.prog 11 [(Try.ty3.enc bit).getD 0 .any, (Try.ty22.enc xs).getD 0 .any, (Try.ty22.enc ys).getD 0 .any] (.sc (.bool true)) := by
  rw [size_bytes, size_bytes] at hb
  rw [row_bytes, row_bytes]
  exact picks_pure bit xs ys (by omega) (by omega)
theorem sum_flat (ls : List (List UInt8)) : sumMap Try.ty22.size ls = ls.flatten.length + ls.length := by
  induction ls with
  | nil => rfl
  | cons l ls ih =>
    have : sumMap Try.ty22.size (l :: ls) = Try.ty22.size l + sumMap Try.ty22.size ls := by simp [sumMap]
    rw [this, ih, size_bytes]
    simp; omega
theorem joins_walk (ls : List (List UInt8)) (hb : Try.ty31.size ls ≤ 1048576) :
    APure Try.prog 6 [(Try.ty31.enc ls).getD 0 .any] (.sc (.bool true)) := by
  have h1 : Try.ty31.size ls = sumMap Try.ty22.size ls + 1 := rfl
  rw [h1, sum_flat] at hb
  have e : (Try.ty31.enc ls).getD 0 .any = rowsV ls := by
    show AV.imm 0 (ls.flatMap fun l => [(Try.ty22.enc l).getD 0 .any]) ls.length = _
    rw [flat_one]
    simp only [row_bytes]
  rw [e]
  exact joins_pure ls (by omega) (by omega)
end
end Go.Proofs.Ytjglpngjpiflhaa
