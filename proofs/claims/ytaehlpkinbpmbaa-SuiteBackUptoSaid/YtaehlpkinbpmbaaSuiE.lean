/-
  The walks of the suite layer: names.
  Conditions: none. Lemmas only.
-/
import Derived.Test.YtaehlpkinbpmbaaSuiD
set_option linter.all false
set_option linter.unusedSimpArgs false
set_option linter.unusedVariables false
set_option maxRecDepth 20000
namespace Go.Proofs.Ytaehlpkinbpmbaa
open Go Go.Abs Go.Proofs

theorem numT_le (ts : List Term) (t : Term) : (numT ts t).2 ≤ ts.length + 1 := by
  unfold numT
  split
  · rename_i h; have := List.idxOf_lt_length_of_mem h; simp; omega
  · simp
def NameR (H : AH) (h m k d : Nat) (ts : List Term) (t : Term) (v : AV) (H' : AH) : Prop := ∃ H1,StepI H h m k d (numT ts t).1 H1 ∧ OwnB (nameT t (numT ts t).2) H1 v H'

theorem name_live (H : AH) (h m k d : Nat) (ts : List Term) (t : Term) (ht : okT t) (hts : ∀ x ∈ ts,okT x) (hl : ts.length ≤ 1000000) (g : IsI H h m k d ts) : ACalls Try.prog 43 [.ptr h 0,.sc (.int .u8 t.kind.toNat),rowsV t.parts] H (NameR H h m k d ts t) := by
  have hn := number_live H h m k d ts t ht hts hl g
  have hc := fun H => called_live t (numT ts t).2 ht (by have := numT_le ts t; omega) H
  obtain ⟨k0,hi,hm,o,hk,ho⟩ := id g
  obtain ⟨kd,ps⟩ := t

  refine ao (c := ⟨Try.prog,18,[(2,[0,0,0,0,1,2,2,0]),(1000001,[7])],[],[]⟩) (rs := [ResultVar.tmp 6]) Try.mixed Try.func43 rfl rfl rfl (Nat.le_of_ble_eq_true rfl) (by kernel_rfl) ?_
  simp (disch := omega) only [↓aI,↓zP,aD,zD,aS,simprocAttr,Try.facts,ah]
  intro b hb0 hb
  have hbi := bA hi hb
  first | simp (disch := omega) only [↓aI,↓zP,aD,zD,aS,simprocAttr,Try.facts,aj hb,ah] | skip
  refine CallK.i hn ?_
  rintro v H1 ⟨rfl,hs⟩
  simp (disch := omega) only [↓aI,↓zP,aD,zD,aS,simprocAttr,Try.facts]
  refine CallK.i (hc H1) ?_
  rintro v H2 hown
  simp (disch := omega) only [↓aI,↓zP,aD,zD,aS,simprocAttr,Try.facts]
  obtain ⟨kk,hkk0,hkk,rfl,rfl⟩ := hown
  exact ⟨_,rfl,_,Abs.Sub.refl _,H1,hs,kk,hkk0,hkk,rfl,rfl⟩

theorem made_live (H : AH) (h m k d : Nat) (ts : List Term) (g : IsI H h m k d ts) : ACalls Try.prog 42 [.ptr h 0] H fun v H' => v = .sc (.bool true) ∧ H' = H := by
  obtain ⟨k0,hi,hm,o,hk,ho⟩ := id g
  refine ao (c := ⟨Try.prog,13,[],[],[]⟩) (rs := [ResultVar.tmp 2]) Try.mixed Try.func42 rfl rfl rfl (Nat.le_of_ble_eq_true rfl) (by kernel_rfl) ?_
  simp (disch := omega) only [↓aI,↓zP,aD,zD,aS,simprocAttr,Try.facts,hi]
  exact ⟨_,rfl,H,Abs.Sub.refl _,rfl,rfl⟩

def NamedR (H : AH) (h m k d : Nat) (ts : List Term) (t : Term) (v : AV) (H' : AH) : Prop :=
  ((t.parts.headD []).length = 32 ∧ NameR H h m k d ts t v H') ∨ ((t.parts.headD []).length ≠ 32 ∧ v = .imm 0 [] 0 ∧ H' = H)

theorem named_live (H : AH) (h m k d : Nat) (ts : List Term) (t : Term) (ht : okT t) (hp : t.parts ≠ []) (hts : ∀ x ∈ ts,okT x) (hl : ts.length ≤ 1000000) (g : IsI H h m k d ts) : ACalls Try.prog 50 [.ptr h 0,.sc (.int .u8 t.kind.toNat),rowsV t.parts] H (NamedR H h m k d ts t) := by
  have hm := made_live H h m k d ts g
  have hn := name_live H h m k d ts t ht hts hl g
  obtain ⟨kd,ps⟩ := t
  obtain ⟨p,r,rfl⟩ : ∃ p r,ps = p :: r := by cases ps with | nil => exact (hp rfl).elim | cons p r => exact ⟨p,r,rfl⟩
  have hlen : (p :: r).length ≤ 1000000 := ht.2.1
  have h0 : (List.map bytesV (p :: r))[0]? = some (.imm 0 (bw p) p.length) := rfl
  have hpl : 0 < (p :: r).length := by simp
  generalize hps : p :: r = ps at *
  have hhd : ps.headD [] = p := by rw [← hps]; rfl
  refine ao (c := ⟨Try.prog,21,[],[],[]⟩) (rs := [ResultVar.tmp 6]) Try.mixed Try.func50 rfl rfl rfl (Nat.le_of_ble_eq_true rfl) (by kernel_rfl) ?_
  simp (disch := omega) only [↓aI,↓zP,aD,zD,aS,simprocAttr,Try.facts]
  refine CallK.i hm ?_
  rintro v H1 ⟨rfl,rfl⟩
  by_cases h32 : p.length = 32
  · have hb : ((p.length : Int) != 32) = false := by simp [h32]
    simp (disch := omega) only [↓aI,↓zP,aD,zD,aS,simprocAttr,Try.facts,h0,hb]
    refine CallK.i hn ?_
    intro v H2 hR
    simp (disch := omega) only [↓aI,↓zP,aD,zD,aS,simprocAttr,Try.facts]
    obtain ⟨H3,hs,kk,hkk0,hkk,rfl,rfl⟩ := hR
    exact ⟨_,rfl,_,Abs.Sub.refl _,.inl ⟨by rw [hhd]; exact h32,H3,hs,kk,hkk0,hkk,rfl,rfl⟩⟩
  · have hb : ((p.length : Int) != 32) = true := by simp; omega
    simp (disch := omega) only [↓aI,↓zP,aD,zD,aS,simprocAttr,Try.facts,h0,hb]
    exact ⟨_,rfl,H1,Abs.Sub.refl _,.inr ⟨by rw [hhd]; exact h32,rfl,rfl⟩⟩
end Go.Proofs.Ytaehlpkinbpmbaa
