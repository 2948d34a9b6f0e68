/-
  Letters and wishes as they are read.
  Conditions: none. Lemmas only.
-/
import Derived.Test.YtaehlpkinbpmbaaLetG3
import Derived.Test.YtaehlpkinbpmbaaFugTys
import Derived.Test.YtaehlpkinbpmbaaAbsG6
set_option linter.all false
set_option maxRecDepth 20000
namespace Go.Proofs.Ytaehlpkinbpmbaa
open Go Go.Abs Go.Proofs
theorem row_bytes (xs : List UInt8) : (Try.ty22.enc xs).getD 0 .any = bytesV xs := by
  show AV.imm 0 (xs.flatMap fun b => [AV.sc (.int .u8 b.toNat)]) xs.length = .imm 0 (bw xs) xs.length
  rw [flat_one]; rfl
theorem enc_bytes (xs : List UInt8) : Try.ty22.enc xs = [bytesV xs] := by
  show [AV.imm 0 (xs.flatMap fun b => [AV.sc (.int .u8 b.toNat)]) xs.length] = [.imm 0 (bw xs) xs.length]
  rw [flat_one]; rfl
theorem size_bytes (xs : List UInt8) : Try.ty22.size xs = xs.length + 1 := by
  show sumMap (fun _ => 1) xs + 1 = _
  rw [sum_one]
abbrev LtrX := Int × Int × Int × Int × List UInt8 × List UInt8 × List UInt8 × Unit
abbrev WishX := LtrX × List UInt8 × Bool × UInt8 × Int × Unit
def ltrOf (x : LtrX) : Ltr := ⟨x.1,x.2.1,x.2.2.1,x.2.2.2.1,x.2.2.2.2.1,x.2.2.2.2.2.1,x.2.2.2.2.2.2.1⟩
theorem ltr_enc (x : LtrX) : Try.ty24.enc x = ltrC (ltrOf x) := by
  obtain ⟨a,b,c,d,p,q,r,⟨⟩⟩ := x
  show [AV.sc (.int .i64 a),.sc (.int .i64 b),.sc (.int .i64 c),.sc (.int .i64 d),(Try.ty22.enc p).getD 0 .any,(Try.ty22.enc q).getD 0 .any,(Try.ty22.enc r).getD 0 .any] = _
  rw [row_bytes,row_bytes,row_bytes]
  rfl
theorem ltr_size (x : LtrX) : (ltrOf x).prev.length + (ltrOf x).box.length + (ltrOf x).sig.length ≤ Try.ty24.size x := by
  obtain ⟨a,b,c,d,p,q,r,⟨⟩⟩ := x
  show p.length + q.length + r.length ≤ 1 + (1 + (1 + (1 + (Try.ty22.size p + (Try.ty22.size q + (Try.ty22.size r + 0)))))) + 1
  rw [size_bytes,size_bytes,size_bytes]
  omega
end Go.Proofs.Ytaehlpkinbpmbaa
