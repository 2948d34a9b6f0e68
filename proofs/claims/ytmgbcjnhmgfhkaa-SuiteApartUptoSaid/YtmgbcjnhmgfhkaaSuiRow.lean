/-
  The walks of the suite layer: arguments as they are read.
  Conditions: none. Lemmas only.
-/
import Derived.Test.YtmgbcjnhmgfhkaaSuiS
import Derived.Test.YtmgbcjnhmgfhkaaSuiTys
set_option linter.all false
namespace Go.Proofs.Ytmgbcjnhmgfhkaa
open Go Go.Abs Go.Proofs
theorem row_bytes (xs : List UInt8) : (Try.ty22.enc xs).getD 0 .any = bytesV xs := by
  show AV.imm 0 (xs.flatMap fun b => [.sc (.int .u8 b.toNat)]) xs.length = _
  rw [flat_one]
  rfl
theorem size_bytes (xs : List UInt8) : Try.ty22.size xs = xs.length + 1 := by
  show sumMap (fun _ => 1) xs + 1 = _
  rw [sum_one]
abbrev AskX := Int × Int × (Int × (List UInt8) × Unit) × (Int × (List UInt8) × Unit) × (Int × (List UInt8) × Unit) × Unit
abbrev askOf (x : AskX) : AskT :=
  ⟨x.1, x.2.1, ⟨x.2.2.1.1, x.2.2.1.2.1⟩, ⟨x.2.2.2.1.1, x.2.2.2.1.2.1⟩, ⟨x.2.2.2.2.1.1, x.2.2.2.2.1.2.1⟩⟩
theorem ask_enc (x : AskX) : Try.ty43.enc x = askC (askOf x) := by
  obtain ⟨kd, n, ⟨fa, a, ⟨⟩⟩, ⟨fb, b, ⟨⟩⟩, ⟨fc, c, ⟨⟩⟩, ⟨⟩⟩ := x
  have ha := row_bytes a
  have hb := row_bytes b
  have hc := row_bytes c
  show [.sc (.int .i64 kd), .sc (.int .i64 n), .sc (.int .i64 fa), (Try.ty22.enc a).getD 0 .any, .sc (.int .i64 fb), (Try.ty22.enc b).getD 0 .any, .sc (.int .i64 fc), (Try.ty22.enc c).getD 0 .any] = _
  rw [ha, hb, hc]
  rfl
theorem ask_size (x : AskX) : (askOf x).a.raw.length + (askOf x).b.raw.length + (askOf x).c.raw.length ≤ Try.ty43.size x := by
  obtain ⟨kd, n, ⟨fa, a, ⟨⟩⟩, ⟨fb, b, ⟨⟩⟩, ⟨fc, c, ⟨⟩⟩, ⟨⟩⟩ := x
  have ha := size_bytes a
  have hb := size_bytes b
  have hc := size_bytes c
  show a.length + b.length + c.length ≤ 1 + (1 + ((1 + (Try.ty22.size a + 0) + 1) + ((1 + (Try.ty22.size b + 0) + 1) + ((1 + (Try.ty22.size c + 0) + 1) + 0)))) + 1
  rw [ha, hb, hc]
  omega
abbrev In64 (i : Int) : Prop := -9223372036854775808 ≤ i ∧ i < 9223372036854775808
theorem ask_ok (x : AskX) (h : Try.ty43.ok x) : In64 (askOf x).n ∧ In64 (askOf x).a.from_ ∧ In64 (askOf x).b.from_ ∧ In64 (askOf x).c.from_ := by
  obtain ⟨kd, n, ⟨fa, a, ⟨⟩⟩, ⟨fb, b, ⟨⟩⟩, ⟨fc, c, ⟨⟩⟩, ⟨⟩⟩ := x
  obtain ⟨h0, h1, ⟨h2, -⟩, ⟨h3, -⟩, ⟨h4, -⟩, -⟩ := h
  exact ⟨wf_i64 h1, wf_i64 h2, wf_i64 h3, wf_i64 h4⟩
end Go.Proofs.Ytmgbcjnhmgfhkaa
