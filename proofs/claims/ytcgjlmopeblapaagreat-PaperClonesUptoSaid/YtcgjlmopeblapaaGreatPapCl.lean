/-
  The paper's Clone: a new one that is handed all operations.
  Conditions: none. Lemmas only.
-/
import Derived.Test.YtcgjlmopeblapaaGreatPapGE
import Derived.Test.YtcgjlmopeblapaaGreatPapGD
set_option linter.all false
set_option linter.unusedSimpArgs false
set_option linter.unusedVariables false
set_option maxRecDepth 8000
set_option maxHeartbeats 4000000
namespace Go.Proofs.YtcgjlmopeblapaaGreat
open Go Go.Abs Go.Proofs Go.Fug
theorem rOps_ok {P : List Opn} (h : OkO P) : OkO (rOps P) ∧ (rOps P).Perm P :=
  have hp := (rOps_sorted P h.ok h.nd).2
  ⟨h.perm hp,hp⟩
theorem Rel.okO {P : List Opn} {s : PS} (r : Rel P s) : OkO P := ⟨r.ok,r.nd⟩
def cloneP (P : List Opn) : PS := (doP ps0 (rOps P)).2
theorem clone_rel {P : List Opn} (h : OkO P) (hl : P.length ≤ 512) : Rel (rOps P) (cloneP P) ∧ InvP (cloneP P) ∧ (doP ps0 (rOps P)).1 = 0 := by
  obtain ⟨h1,h2⟩ := rOps_ok h
  have hn := h2.length_eq
  have r := Rel.nil.do_ (rOps P)
  rw [rdo_new (P := []) (F := rOps P) h1 (by rw [List.nil_append]; omega),List.nil_append] at r
  exact ⟨r.2,InvP.nil.do_ (rOps P) (by have : sizP ps0 = 0 := rfl; omega),r.1⟩
theorem pclone_live (B H : AH) (h : PH) (s : PS) (P : List Opn) (p : IsP B H h s) (r : Rel P s) (t : InvP s) (hl : P.length ≤ 512) :
    ACalls Tryz.prog 17 [.ptr h.p 0] H fun v H' => ∃ h' : PH,h'.p ≠ 0 ∧ v = .ptr h'.p 0 ∧ IsP H H' h' (cloneP P) := by
  have hr := clone_rel r.okO hl
  have hn := (rOps_ok r.okO).2.length_eq
  have hz0 : sizP ps0 = 0 := rfl
  obtain ⟨v,vp,-⟩ := p.pw
  unfold cloneP at hr ⊢
  refine ao (c := ⟨Tryz.prog,12,[],[],[]⟩) (rs := [ResultVar.tmp 2]) Tryz.mixed Tryz.func17 rfl rfl rfl (Nat.le_of_ble_eq_true rfl) (by kernel_rfl) ?_
  simp (disch := omega) only [↓aI,↓zP,aD,zD,aS,simprocAttr,Tryz.facts,vp]
  refine CallK.i (pnew_live H) ?_
  rintro v Ha ⟨h',rfl,h0,pa⟩
  have hop := ops_rel B Ha h s P (p.mono pa.sub) r t
  have hdo := do_live _ _ h' ps0 (rOps P) pa (by omega) (by omega)
  simp (disch := omega) only [↓aI,↓zP,aD,zD,aS,simprocAttr,Tryz.facts]
  refine CallK.i hop ?_
  rintro v E ⟨rfl,rfl⟩
  simp (disch := omega) only [↓aI,↓zP,aD,zD,aS,simprocAttr,Tryz.facts]
  refine CallK.i hdo ?_
  rintro v Hb ⟨rfl,pb⟩
  simp (disch := omega) only [↓aI,↓zP,aD,zD,aS,simprocAttr,Tryz.facts]
  exact ⟨_,rfl,_,Abs.Sub.refl _,h',h0,rfl,pb⟩
theorem known_perm {P Q : List Opn} (hp : P.Perm Q) (o : Opn) : knownR P o = knownR Q o := by
  unfold knownR
  rw [Bool.eq_iff_iff]
  simp only [Bool.and_eq_true,List.any_eq_true,hp.mem_iff]
theorem rfresh_perm : ∀ (l P Q : List Opn),P.Perm Q → (l.foldl rFresh P).Perm (l.foldl rFresh Q)
  | [],_,_,h => h
  | o :: l,P,Q,h => by
    rw [List.foldl_cons,List.foldl_cons]
    refine rfresh_perm l _ _ ?_
    unfold rFresh
    rw [known_perm h]
    split
    · exact h
    · exact h.append_right _
theorem rdo_perm {P Q : List Opn} (h : P.Perm Q) (l : List Opn) : (rDo P l).2.Perm (rDo Q l).2 := by
  have hf := rfresh_perm l P Q h
  have hm : dI (l.foldl rFresh P) = dI (l.foldl rFresh Q) := (hf.filter _).length_eq
  unfold rDo
  rw [hf.length_eq,hm]
  split
  · exact h
  · split
    · exact h
    · exact hf
theorem rMarks_good (P : List Opn) : GoodM (rMarks P) := by
  have : ∀ (P : List Opn) (l : List Mk),GoodM l → GoodM (P.foldl rMark l) := by
    intro P
    induction P with
    | nil => intro l h; exact h
    | cons o P ih =>
      intro l h
      rw [List.foldl_cons]
      refine ih _ ?_
      unfold rMark
      split
      · exact h.add _
      · exact h
  exact this P [] GoodM.nil
end Go.Proofs.YtcgjlmopeblapaaGreat
