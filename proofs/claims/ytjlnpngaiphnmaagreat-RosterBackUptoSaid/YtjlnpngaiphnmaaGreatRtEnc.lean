/-
  Steps and entries as they are read.
  Conditions: none. Lemmas only.
-/
import Derived.Test.YtjlnpngaiphnmaaGreatRtG2
import Derived.Test.YtjlnpngaiphnmaaGreatFugTys
import Derived.Test.YtjlnpngaiphnmaaGreatAbsG6
set_option linter.all false
set_option maxRecDepth 20000
namespace Go.Proofs.YtjlnpngaiphnmaaGreat
open Go Go.Abs Go.Proofs
abbrev NdX := Int × Int × Unit
def bl (x : NdX) : Nd := ⟨x.1,x.2.1⟩
theorem nd_enc (x : NdX) : Tryz.ty84.enc x = ndC (bl x) := by
  obtain ⟨a,b,⟨⟩⟩ := x
  rfl
abbrev DoX := UInt8 × Bool × Bool × List NdX × UInt8 × Bool × Int × UInt8 × Unit
def doOf (x : DoX) : DoM := ⟨x.1,x.2.1,x.2.2.1,x.2.2.2.1.map bl,x.2.2.2.2.1,x.2.2.2.2.2.1,x.2.2.2.2.2.2.1,x.2.2.2.2.2.2.2.1⟩
theorem jt {α β γ : Type} {f : α → List γ} {g : β → List γ} {h : α → β} (e : ∀ x,f x = g (h x)) : ∀ l : List α,l.flatMap f = (l.map h).flatMap g
  | [] => rfl
  | x :: l => by rw [List.flatMap_cons,List.map_cons,List.flatMap_cons,e,jt e l]
theorem nds_enc (l : List NdX) : (Tryz.ty24.enc l).getD 0 .any = fY (l.map bl) := by
  show AV.imm 0 (l.flatMap Tryz.ty84.enc) l.length = .imm 0 ((l.map bl).flatMap ndC) (l.map bl).length
  rw [jt nd_enc,List.length_map]
theorem do_enc (x : DoX) : Tryz.ty60.enc x = doC (doOf x) := by
  obtain ⟨a,b,c,d,e,f,g,i,⟨⟩⟩ := x
  show [AV.sc (.int .u8 a.toNat),.sc (.bool b),.sc (.bool c),(Tryz.ty24.enc d).getD 0 .any,.sc (.int .u8 e.toNat),.sc (.bool f),.sc (.int .i64 g),.sc (.int .u8 i.toNat)] = _
  rw [nds_enc]
  rfl
abbrev dosOf (l : List DoX) : List DoM := l.map doOf
theorem dos_enc (l : List DoX) : (Tryz.ty45.enc l).getD 0 .any = dosV (dosOf l) := by
  show AV.imm 0 (l.flatMap Tryz.ty60.enc) l.length = .imm 0 ((dosOf l).flatMap doC) (dosOf l).length
  rw [jt do_enc,List.length_map]
theorem nds_size : ∀ l : List NdX,l.length ≤ Tryz.ty24.size l := fun l => by
  show l.length ≤ j2 Tryz.ty84.size l + 1
  have : ∀ l : List NdX,l.length ≤ j2 Tryz.ty84.size l := by
    intro l
    induction l with
    | nil => exact Nat.zero_le _
    | cons a l ih =>
      show l.length + 1 ≤ _
      have h2 : 1 ≤ Tryz.ty84.size a := by
        show 1 ≤ (1 + (1 + 0)) + 1
        omega
      simp only [j2,List.map_cons,List.sum_cons] at ih ⊢
      omega
  have := this l
  omega
theorem do_size (x : DoX) : 1 + (doOf x).ends.length ≤ Tryz.ty60.size x := by
  obtain ⟨a,b,c,d,e,f,g,i,⟨⟩⟩ := x
  show 1 + (d.map bl).length ≤ 1 + (1 + (1 + (Tryz.ty24.size d + (1 + (1 + (1 + (1 + 0))))))) + 1
  have := nds_size d
  rw [List.length_map]
  omega
theorem dos_size (l : List DoX) : (dosOf l).length ≤ Tryz.ty45.size l ∧ ∀ t ∈ dosOf l,t.ends.length ≤ Tryz.ty45.size l := by
  show (l.map doOf).length ≤ j2 Tryz.ty60.size l + 1 ∧ ∀ t ∈ l.map doOf,t.ends.length ≤ j2 Tryz.ty60.size l + 1
  induction l with
  | nil => exact ⟨Nat.zero_le _,fun t h => by cases h⟩
  | cons x l ih =>
    have hx := do_size x
    simp only [j2,List.map_cons,List.sum_cons,List.length_cons] at ih ⊢
    refine ⟨by omega,fun t ht => ?_⟩
    rcases List.mem_cons.1 ht with rfl | ht
    · omega
    · have := ih.2 t ht
      omega
theorem jX (xs : List UInt8) : (Tryz.ty22.enc xs).getD 0 .any = eu xs := by
  show AV.imm 0 (xs.flatMap fun b => [AV.sc (.int .u8 b.toNat)]) xs.length = .imm 0 (bw xs) xs.length
  rw [flat_one]; rfl
theorem enc_bytes (xs : List UInt8) : Tryz.ty22.enc xs = [eu xs] := by
  show [AV.imm 0 (xs.flatMap fun b => [AV.sc (.int .u8 b.toNat)]) xs.length] = [.imm 0 (bw xs) xs.length]
  rw [flat_one]; rfl
theorem size_bytes (xs : List UInt8) : Tryz.ty22.size xs = xs.length + 1 := by
  show j2 (fun _ => 1) xs + 1 = _
  rw [sum_one]
abbrev MemX := Int × List UInt8 × List UInt8 × Unit
def memOf (x : MemX) : Mem := ⟨x.1,x.2.1,x.2.2.1⟩
theorem mem_enc (x : MemX) : Tryz.ty30.enc x = fL (memOf x) := by
  obtain ⟨a,p,q,⟨⟩⟩ := x
  show [AV.sc (.int .i64 a),(Tryz.ty22.enc p).getD 0 .any,(Tryz.ty22.enc q).getD 0 .any] = _
  rw [jX,jX]
  rfl
theorem mems_enc (l : List MemX) : (Tryz.ty23.enc l).getD 0 .any = fE (l.map memOf) := by
  show AV.imm 0 (l.flatMap Tryz.ty30.enc) l.length = .imm 0 ((l.map memOf).flatMap fL) (l.map memOf).length
  rw [jt mem_enc,List.length_map]
theorem rows_enc (l : List (List UInt8)) : (Tryz.ty25.enc l).getD 0 .any = fZ l := by
  show AV.imm 0 (l.flatMap Tryz.ty22.enc) l.length = .imm 0 (l.map eu) l.length
  have : ∀ l : List (List UInt8),l.flatMap Tryz.ty22.enc = l.map eu := by
    intro l
    induction l with
    | nil => rfl
    | cons a l ih => rw [List.flatMap_cons,List.map_cons,enc_bytes,ih]; rfl
  rw [this]
abbrev EntX := Int × List UInt8 × List MemX × List NdX × List UInt8 × List (List UInt8) × List UInt8 × Unit
def entOf (x : EntX) : Ent := ⟨x.1,x.2.1,x.2.2.1.map memOf,x.2.2.2.1.map bl,x.2.2.2.2.1,x.2.2.2.2.2.1,x.2.2.2.2.2.2.1⟩
theorem ent_enc (x : EntX) : Tryz.ty27.enc x = fX (entOf x) := by
  obtain ⟨n,p,ms,ns,o,bs,g,⟨⟩⟩ := x
  show [AV.sc (.int .i64 n),(Tryz.ty22.enc p).getD 0 .any,(Tryz.ty23.enc ms).getD 0 .any,(Tryz.ty24.enc ns).getD 0 .any,(Tryz.ty22.enc o).getD 0 .any,(Tryz.ty25.enc bs).getD 0 .any,(Tryz.ty22.enc g).getD 0 .any] = _
  rw [jX,jX,jX,mems_enc,nds_enc,rows_enc]
  rfl
end Go.Proofs.YtjlnpngaiphnmaaGreat
