/-
  Several texts in one: each says what it proves.
  Conditions: none. Lemmas only.
-/
import Derived.Test.YtcncplameclkfaaGreatDoorSuiG2
import Derived.Test.YtcncplameclkfaaGreatDoorAbsX
set_option linter.all false
section
set_option maxRecDepth 20000
namespace Go.Proofs.YtcncplameclkfaaGreatDoor
open Go Go.Abs Go.Proofs
def wfT(t:Term):Prop:=okT t∧(t.kind=103→2≤t.parts.length)∧(t.kind=118→1≤t.parts.length)∧(t.kind=112→1≤t.parts.length)
def fv(t:Term)(j:Nat):List UInt8:=t.parts.getD j []
theorem len_live(H:AH)(h m k d:Nat)(ts:List Term)(g:IsI H h m k d ts):ACalls Tryz.prog 20 [.ptr h 0] H fun v H'=>v=.sc (.int .i64 ts.length)∧H'=H:=by
 have hm:=jY H h m k d ts g
 obtain⟨k0,hi,hmm,ot,hk,ho⟩:=id g
 refine ao0 (c:=⟨Tryz.prog,12,[],[],[]⟩) (rs:=[ResultVar.tmp 2]) Tryz.mixed Tryz.func20 rfl rfl rfl (Nat.le_of_ble_eq_true rfl) (by kernel_rfl) ?_
 simp(disch:=omega)only[↓kX,kW,aS,simprocAttr]
 refine CallK.i hm ?_
 rintro v H1 ⟨rfl,rfl⟩
 simp(disch:=omega)only[↓kX,kW,aS,simprocAttr,hi]
 exact⟨_,rfl,_,Abs.Sub.refl _,rfl,rfl⟩
end Go.Proofs.YtcncplameclkfaaGreatDoor
end
