/-
  Several texts in one: each says what it proves.
  Conditions: none. Lemmas only.
-/
import Derived.Test.YtibipjdngpjndaaSuiG2
import Derived.Test.YtibipjdngpjndaaAbsX
set_option linter.all false
section
set_option linter.unusedSimpArgs false
set_option linter.unusedVariables false
set_option maxRecDepth 20000
namespace Go.Proofs.Ytibipjdngpjndaa
open Go Go.Abs Go.Proofs

end Go.Proofs.Ytibipjdngpjndaa
end
section
set_option linter.unusedSimpArgs false
set_option linter.unusedVariables false
set_option maxRecDepth 20000
namespace Go.Proofs.Ytibipjdngpjndaa
open Go Go.Abs Go.Proofs

def wfT (t : Term) : Prop := okT t ∧ (t.kind = 103 → 2 ≤ t.parts.length) ∧ (t.kind = 118 → 1 ≤ t.parts.length) ∧ (t.kind = 112 → 1 ≤ t.parts.length)
def fv (t : Term) (j : Nat) : List UInt8 := t.parts.getD j []
end Go.Proofs.Ytibipjdngpjndaa
end
section
set_option linter.unusedSimpArgs false
set_option linter.unusedVariables false
set_option maxRecDepth 20000
namespace Go.Proofs.Ytibipjdngpjndaa
open Go Go.Abs Go.Proofs

theorem len_live (H : AH) (h m k d : Nat) (ts : List Term) (g : IsI H h m k d ts) : ACalls Try.prog 14 [.ptr h 0] H fun v H' => v = .sc (.int .i64 ts.length) ∧ H' = H := by
  have hm := jY H h m k d ts g
  obtain ⟨k0,hi,hmm,ot,hk,ho⟩ := id g
  refine ao0 (c := ⟨Try.prog,12,[],[],[]⟩) (rs := [ResultVar.tmp 2]) Try.mixed Try.func14 rfl rfl rfl (Nat.le_of_ble_eq_true rfl) (by kernel_rfl) ?_
  simp (disch := omega) only [↓aI,↓zP,aD,zD,aS0,simprocAttr,Try.facts]
  refine CallK.i hm ?_
  rintro v H1 ⟨rfl,rfl⟩
  simp (disch := omega) only [↓aI,↓zP,aD,zD,aS0,simprocAttr,Try.facts,hi]
  exact ⟨_,rfl,_,Abs.Sub.refl _,rfl,rfl⟩
end Go.Proofs.Ytibipjdngpjndaa
end
