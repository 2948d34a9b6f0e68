/-
  Steps and entries as they are read.
  Conditions: none. Lemmas only.
-/
import Derived.Test.YtjlnpngaiphnmaaRtG2
import Derived.Test.YtjlnpngaiphnmaaFugTys
import Derived.Test.YtjlnpngaiphnmaaAbsG6
set_option linter.all false
set_option maxRecDepth 20000
namespace Go.Proofs.Ytjlnpngaiphnmaa
open Go Go.Abs Go.Proofs
abbrev NdX := Int × Int × Unit
def bl (x : NdX) : Nd := ⟨x.1,x.2.1⟩
theorem nd_enc (x : NdX) : Try.ty76.enc x = ndC (bl x) := by
  obtain ⟨a,b,⟨⟩⟩ := x
  rfl
abbrev DoX := UInt8 × Bool × Bool × List NdX × UInt8 × Bool × Int × UInt8 × Unit
def doOf (x : DoX) : DoM := ⟨x.1,x.2.1,x.2.2.1,x.2.2.2.1.map bl,x.2.2.2.2.1,x.2.2.2.2.2.1,x.2.2.2.2.2.2.1,x.2.2.2.2.2.2.2.1⟩
theorem flat_map_eq {α β γ : Type} {f : α → List γ} {g : β → List γ} {h : α → β} (e : ∀ x,f x = g (h x)) : ∀ l : List α,l.flatMap f = (l.map h).flatMap g
  | [] => rfl
  | x :: l => by rw [List.flatMap_cons,List.map_cons,List.flatMap_cons,e,flat_map_eq e l]
theorem nds_enc (l : List NdX) : (Try.ty49.enc l).getD 0 .any = ndsV (l.map bl) := by
  show AV.imm 0 (l.flatMap Try.ty76.enc) l.length = .imm 0 ((l.map bl).flatMap ndC) (l.map bl).length
  rw [flat_map_eq nd_enc,List.length_map]
theorem do_enc (x : DoX) : Try.ty51.enc x = doC (doOf x) := by
  obtain ⟨a,b,c,d,e,f,g,i,⟨⟩⟩ := x
  show [AV.sc (.int .u8 a.toNat),.sc (.bool b),.sc (.bool c),(Try.ty49.enc d).getD 0 .any,.sc (.int .u8 e.toNat),.sc (.bool f),.sc (.int .i64 g),.sc (.int .u8 i.toNat)] = _
  rw [nds_enc]
  rfl
abbrev dosOf (l : List DoX) : List DoM := l.map doOf
theorem dos_enc (l : List DoX) : (Try.ty22.enc l).getD 0 .any = dosV (dosOf l) := by
  show AV.imm 0 (l.flatMap Try.ty51.enc) l.length = .imm 0 ((dosOf l).flatMap doC) (dosOf l).length
  rw [flat_map_eq do_enc,List.length_map]
theorem nds_size : ∀ l : List NdX,l.length ≤ Try.ty49.size l := fun l => by
  show l.length ≤ sumMap Try.ty76.size l + 1
  have : ∀ l : List NdX,l.length ≤ sumMap Try.ty76.size l := by
    intro l
    induction l with
    | nil => exact Nat.zero_le _
    | cons a l ih =>
      show l.length + 1 ≤ _
      have h2 : 1 ≤ Try.ty76.size a := by
        show 1 ≤ (1 + (1 + 0)) + 1
        omega
      simp only [sumMap,List.map_cons,List.sum_cons] at ih ⊢
      omega
  have := this l
  omega
theorem do_size (x : DoX) : 1 + (doOf x).ends.length ≤ Try.ty51.size x := by
  obtain ⟨a,b,c,d,e,f,g,i,⟨⟩⟩ := x
  show 1 + (d.map bl).length ≤ 1 + (1 + (1 + (Try.ty49.size d + (1 + (1 + (1 + (1 + 0))))))) + 1
  have := nds_size d
  rw [List.length_map]
  omega
theorem dos_size (l : List DoX) : (dosOf l).length ≤ Try.ty22.size l ∧ ∀ t ∈ dosOf l,t.ends.length ≤ Try.ty22.size l := by
  show (l.map doOf).length ≤ sumMap Try.ty51.size l + 1 ∧ ∀ t ∈ l.map doOf,t.ends.length ≤ sumMap Try.ty51.size l + 1
  induction l with
  | nil => exact ⟨Nat.zero_le _,fun t h => by cases h⟩
  | cons x l ih =>
    have hx := do_size x
    simp only [sumMap,List.map_cons,List.sum_cons,List.length_cons] at ih ⊢
    refine ⟨by omega,fun t ht => ?_⟩
    rcases List.mem_cons.1 ht with rfl | ht
    · omega
    · have := ih.2 t ht
      omega
theorem row_bytes (xs : List UInt8) : (Try.ty30.enc xs).getD 0 .any = bytesV xs := by
  show AV.imm 0 (xs.flatMap fun b => [AV.sc (.int .u8 b.toNat)]) xs.length = .imm 0 (bw xs) xs.length
  rw [flat_one]; rfl
theorem enc_bytes (xs : List UInt8) : Try.ty30.enc xs = [bytesV xs] := by
  show [AV.imm 0 (xs.flatMap fun b => [AV.sc (.int .u8 b.toNat)]) xs.length] = [.imm 0 (bw xs) xs.length]
  rw [flat_one]; rfl
abbrev MemX := Int × List UInt8 × List UInt8 × Unit
def memOf (x : MemX) : Mem := ⟨x.1,x.2.1,x.2.2.1⟩
theorem mem_enc (x : MemX) : Try.ty55.enc x = memC (memOf x) := by
  obtain ⟨a,p,q,⟨⟩⟩ := x
  show [AV.sc (.int .i64 a),(Try.ty30.enc p).getD 0 .any,(Try.ty30.enc q).getD 0 .any] = _
  rw [row_bytes,row_bytes]
  rfl
theorem mems_enc (l : List MemX) : (Try.ty35.enc l).getD 0 .any = memsV (l.map memOf) := by
  show AV.imm 0 (l.flatMap Try.ty55.enc) l.length = .imm 0 ((l.map memOf).flatMap memC) (l.map memOf).length
  rw [flat_map_eq mem_enc,List.length_map]
theorem rows_enc (l : List (List UInt8)) : (Try.ty32.enc l).getD 0 .any = rowsV l := by
  show AV.imm 0 (l.flatMap Try.ty30.enc) l.length = .imm 0 (l.map bytesV) l.length
  have : ∀ l : List (List UInt8),l.flatMap Try.ty30.enc = l.map bytesV := by
    intro l
    induction l with
    | nil => rfl
    | cons a l ih => rw [List.flatMap_cons,List.map_cons,enc_bytes,ih]; rfl
  rw [this]
abbrev EntX := Int × List UInt8 × List MemX × List NdX × List UInt8 × List (List UInt8) × List UInt8 × Unit
def entOf (x : EntX) : Ent := ⟨x.1,x.2.1,x.2.2.1.map memOf,x.2.2.2.1.map bl,x.2.2.2.2.1,x.2.2.2.2.2.1,x.2.2.2.2.2.2.1⟩
theorem ent_enc (x : EntX) : Try.ty59.enc x = entC (entOf x) := by
  obtain ⟨n,p,ms,ns,o,bs,g,⟨⟩⟩ := x
  show [AV.sc (.int .i64 n),(Try.ty30.enc p).getD 0 .any,(Try.ty35.enc ms).getD 0 .any,(Try.ty49.enc ns).getD 0 .any,(Try.ty30.enc o).getD 0 .any,(Try.ty32.enc bs).getD 0 .any,(Try.ty30.enc g).getD 0 .any] = _
  rw [row_bytes,row_bytes,row_bytes,mems_enc,nds_enc,rows_enc]
  rfl
end Go.Proofs.Ytjlnpngaiphnmaa
