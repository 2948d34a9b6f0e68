/-
  Operations and wishes as they are read.
  Conditions: none. Lemmas only.
-/
import Derived.Test.YtcgjlmopeblapaaGreatPapG1
import Derived.Test.YtcgjlmopeblapaaGreatFugTys
set_option linter.all false
set_option maxRecDepth 20000
namespace Go.Proofs.YtcgjlmopeblapaaGreat
open Go Go.Abs Go.Proofs Go.Fug
abbrev IdX := Int × Int × Unit
abbrev InsX := IdX × IdX × Bool × Int × Unit
abbrev AncX := IdX × Bool × Unit
abbrev MkX := Int × Int × AncX × AncX × Int × Int × Unit
abbrev OpX := Int × InsX × IdX × MkX × Unit
abbrev idOf (x : IdX) : EId := (x.1,x.2.1)
abbrev insOf (x : InsX) : Ins := ⟨idOf x.1,idOf x.2.1,x.2.2.1,x.2.2.2.1⟩
abbrev mkOf (x : MkX) : Mk := ⟨x.1,x.2.1,idOf x.2.2.1.1,x.2.2.1.2.1,idOf x.2.2.2.1.1,x.2.2.2.1.2.1,x.2.2.2.2.1,x.2.2.2.2.2.1⟩
abbrev opOf (x : OpX) : Opn := ⟨x.1,insOf x.2.1,idOf x.2.2.1,mkOf x.2.2.2.1⟩
theorem op_enc (x : OpX) : Tryz.ty58.enc x = opC (opOf x) := by
  obtain ⟨k,⟨⟨a,c,⟨⟩⟩,⟨pa,pc,⟨⟩⟩,ri,ru,⟨⟩⟩,⟨d1,d2,⟨⟩⟩,⟨mc,ma,⟨⟨f1,f2,⟨⟩⟩,fb,⟨⟩⟩,⟨⟨t1,t2,⟨⟩⟩,tb,⟨⟩⟩,n,v,⟨⟩⟩,⟨⟩⟩ := x
  rfl
theorem ops_enc (l : List OpX) : l.flatMap Tryz.ty58.enc = dL (l.map opOf) := by
  induction l with
  | nil => rfl
  | cons x l ih =>
    rw [List.flatMap_cons,ih,op_enc]
    rfl
end Go.Proofs.YtcgjlmopeblapaaGreat
