/-
  The laws of the marks layer: a page, as it is read.
  Conditions: none. Lemmas only.
-/
import Derived.Test.YtgkpidbeoccpnaaMarG6
import Derived.Test.YtgkpidbeoccpnaaFugTys
set_option linter.all false
set_option linter.unusedVariables false
namespace Go.Proofs.Ytgkpidbeoccpnaa
open Go Go.Abs Go.Proofs Go.Fug
abbrev IdX := Int × Int × Unit
abbrev InsX := IdX × IdX × Bool × Int × Unit
abbrev AncX := IdX × Bool × Unit
abbrev MkX := Int × Int × AncX × AncX × Int × Int × Unit
abbrev PageX := List InsX × List IdX × List MkX × Unit
abbrev idOf (x : IdX) : EId := (x.1,x.2.1)
abbrev insOf (x : InsX) : Ins := ⟨idOf x.1,idOf x.2.1,x.2.2.1,x.2.2.2.1⟩
abbrev mkOf (x : MkX) : Mk := ⟨x.1,x.2.1,idOf x.2.2.1.1,x.2.2.1.2.1,idOf x.2.2.2.1.1,x.2.2.2.1.2.1,x.2.2.2.2.1,x.2.2.2.2.2.1⟩
theorem id_enc (x : IdX) : Try.ty27.enc x = idC (idOf x) := by
  obtain ⟨a,c,⟨⟩⟩ := x
  rfl
theorem ins_enc (x : InsX) : Try.ty75.enc x = insC (insOf x) := by
  obtain ⟨⟨a,c,⟨⟩⟩,⟨pa,pc,⟨⟩⟩,ri,ru,⟨⟩⟩ := x
  rfl
theorem mk_enc (x : MkX) : Try.ty31.enc x = mkC (mkOf x) := by
  obtain ⟨c,a,⟨⟨f1,f2,⟨⟩⟩,fb,⟨⟩⟩,⟨⟨t1,t2,⟨⟩⟩,tb,⟨⟩⟩,n,v,⟨⟩⟩ := x
  rfl
theorem flat_map {α β : Type} {f : α → List AV} {g : β → List AV} {e : α → β} (h : ∀ x,f x = g (e x)) (xs : List α) : xs.flatMap f = (xs.map e).flatMap g := by
  rw [List.flatMap_map]
  induction xs with
  | nil => rfl
  | cons x xs ih => rw [List.flatMap_cons,List.flatMap_cons,ih,h]
theorem page_enc (x : PageX) : Try.ty45.enc x = pageC (x.1.map insOf) (x.2.1.map idOf) (x.2.2.1.map mkOf) := by
  obtain ⟨a,b,c,⟨⟩⟩ := x
  show [AV.imm 0 (a.flatMap Try.ty75.enc) a.length,AV.imm 0 (b.flatMap Try.ty27.enc) b.length,AV.imm 0 (c.flatMap Try.ty31.enc) c.length] = _
  rw [flat_map ins_enc,flat_map id_enc,flat_map mk_enc]
  unfold pageC idsV mksV inssV
  simp only [List.length_map]
  rfl
theorem sum_len {α : Type} (f : α → Nat) (hf : ∀ x,1 ≤ f x) : ∀ (l : List α),l.length ≤ sumMap f l
  | [] => Nat.le_refl _
  | y :: l => by
    have := sum_len f hf l
    have := hf y
    show l.length + 1 ≤ f y + sumMap f l
    omega
end Go.Proofs.Ytgkpidbeoccpnaa
