/-
  PaperTakes: the walk, and the call, of the arguments as they are read.
  Conditions: none. Lemmas only.
-/
import Derived.Test.YtimonfakmadhpaaPapGE
import Derived.Test.YtimonfakmadhpaaPapG4
import Derived.Test.YtimonfakmadhpaaPapGA
import Derived.Test.YtimonfakmadhpaaPapG7
set_option linter.all false
set_option linter.unusedSimpArgs false
set_option linter.unusedVariables false
set_option maxRecDepth 20000
set_option maxHeartbeats 8000000
namespace Go.Proofs.Ytimonfakmadhpaa
open Go Go.Abs Go.Proofs Go.Fug
theorem ops_rel (B H : AH) (h : PH) (s : PS) (P : List Opn) (p : IsP B H h s) (r : Rel P s) (t : InvP s) :
    ACalls Try.prog 43 [.ptr h.p 0] H fun v H' => v = opsV (rOps P) ∧ H' = H := by
  refine (ops_live B H h s p (fun i hi => ?_) t.dok).mono ?_
  · have := t.ok i hi
    unfold insO at this
    simp only [Bool.and_eq_true] at this
    exact this.1.1
  · rintro v H' ⟨rfl,O,hO,rfl⟩
    rw [ops_eq r p.g hO]
    exact ⟨rfl,rfl⟩
end Go.Proofs.Ytimonfakmadhpaa
