/-
  The walks of the suite layer: what an ideal suite is asked, where it finds the answer.
  Conditions: none. Lemmas only.
-/
import Derived.Test.YtaehlpkinbpmbaaSuiH
import Derived.Test.YtaehlpkinbpmbaaAbsX
set_option linter.all false
set_option linter.unusedSimpArgs false
set_option linter.unusedVariables false
set_option maxRecDepth 20000
namespace Go.Proofs.Ytaehlpkinbpmbaa
open Go Go.Abs Go.Proofs

def wfT (t : Term) : Prop := okT t ∧ (t.kind = 103 → 2 ≤ t.parts.length) ∧ (t.kind = 118 → 1 ≤ t.parts.length) ∧ (t.kind = 112 → 1 ≤ t.parts.length)
theorem findT_mem {ts : List Term} {b : List UInt8} {kd : UInt8} (h : (findT ts b kd).2 = true) : (findT ts b kd).1 ∈ ts ∧ (findT ts b kd).1.kind = kd := by
  unfold findT at h ⊢
  split at h
  · cases h
  · rename_i h1
    rw [if_neg h1]
    split at h
    · cases h
    · rename_i h2
      rw [if_neg h2]
      have hj : numB b - 1 < ts.length := by omega
      simp only [decide_eq_true_eq] at h
      refine ⟨?_,h.1⟩
      simp only [List.getD,List.getElem?_eq_getElem hj,Option.getD_some]
      exact List.getElem_mem hj
def partT (t : Term) (j : Nat) : List UInt8 := t.parts.getD j []
theorem part_get {t : Term} {j : Nat} (h : j < t.parts.length) : (t.parts.map bytesV)[j]? = some (.imm 0 (bw (partT t j)) (partT t j).length) := by
  rw [getR h]
  have : partT t j = t.parts[j] := by simp [partT,List.getD,h]
  rw [this]
def verT (ts : List Term) (key b sig : List UInt8) : Bool :=
  (findT ts sig 103).2 && (findT ts key 118).2 && (partT (findT ts sig 103).1 0 == partT (findT ts key 118).1 0) && (partT (findT ts sig 103).1 1 == b)

theorem verify_live (H : AH) (h m k d : Nat) (ts : List Term) (key b sig : List UInt8) (h1 : key.length ≤ 140737488355328) (h2 : sig.length ≤ 140737488355328) (hts : ∀ x ∈ ts, wfT x) (hl : ts.length ≤ 1000000) (g : IsI H h m k d ts) :
    ACalls Try.prog 114 [.ptr h 0,bytesV key,bytesV b,bytesV sig] H fun v H' => v = .sc (.bool (verT ts key b sig)) ∧ H' = H := by
  have hm := made_live H h m k d ts g
  have f1 := find_live H h m k d ts sig 103 h2 (fun x hx => (hts x hx).1) hl g
  have f2 := fun H g => find_live H h m k d ts key 118 h1 (fun x hx => (hts x hx).1) hl g
  have e1 : (findT ts sig 103).2 = true → 2 ≤ (findT ts sig 103).1.parts.length := fun h => ((hts _ (findT_mem h).1).2.1 (findT_mem h).2)
  have e2 : (findT ts key 118).2 = true → 1 ≤ (findT ts key 118).1.parts.length := fun h => ((hts _ (findT_mem h).1).2.2.1 (findT_mem h).2)
  have hb1 := beq_pure (partT (findT ts sig 103).1 0) (partT (findT ts key 118).1 0)
  have hb2 := beq_pure (partT (findT ts sig 103).1 1) b
  have k103 : ((103 : UInt8).toNat : Int) = 103 := rfl
  have k118 : ((118 : UInt8).toNat : Int) = 118 := rfl
  simp only [verT]
  have pg1 := fun j (h : j < (findT ts sig 103).1.parts.length) => part_get h
  have pg2 := fun j (h : j < (findT ts key 118).1.parts.length) => part_get h
  rw [k103] at f1
  simp only [k118] at f2
  generalize findT ts sig 103 = x at *
  generalize findT ts key 118 = y at *
  obtain ⟨x,okx⟩ := x
  obtain ⟨y,oky⟩ := y
  simp only [] at *
  obtain ⟨k0,hi,hmm,o,hk,ho⟩ := id g
  refine ao (c := ⟨Try.prog,55,[(5,[0,0,0,0,0,0,1,0,1,0,1,0,1,0,0,0,0,1,0,1,0,0,0,0]),(1000003,[9]),(1000004,[11])],[],[]⟩) (rs := [ResultVar.tmp 8]) Try.mixed Try.func114 rfl rfl rfl (Nat.le_of_ble_eq_true rfl) (by kernel_rfl) ?_
  simp (disch := omega) only [↓aI,↓zP,aD,zD,aS,simprocAttr,Try.facts]
  refine CallK.i hm ?_
  rintro v H1 ⟨rfl,rfl⟩
  simp (disch := omega) only [↓aI,↓zP,aD,zD,aS,simprocAttr,Try.facts]
  refine CallK.i f1 ?_
  rintro v H2 ⟨rfl,rfl⟩
  simp (disch := omega) only [↓aI,↓zP,aD,zD,aS,simprocAttr,Try.facts]
  intro b1 hb10 hb1f
  simp (disch := omega) only [↓aI,↓zP,aD,zD,aS,simprocAttr,Try.facts,ah,aj hb1f]
  refine CallK.i (f2 _ g) ?_
  rintro v H3 ⟨rfl,rfl⟩
  simp (disch := omega) only [↓aI,↓zP,aD,zD,aS,simprocAttr,Try.facts]
  intro b2 hb20 hb2f
  cases okx with
  | false =>
    simp (disch := omega) only [↓aI,↓zP,aD,zD,aS,simprocAttr,Try.facts,ah,aj hb2f]
    exact ⟨_,rfl,_,Abs.Sub.refl _,by simp,rfl⟩
  | true =>
    cases oky with
    | false =>
      simp (disch := omega) only [↓aI,↓zP,aD,zD,aS,simprocAttr,Try.facts,ah,aj hb2f]
      exact ⟨_,rfl,_,Abs.Sub.refl _,by simp,rfl⟩
    | true =>
      have l1 := e1 rfl
      have l2 := e2 rfl
      have p1 := pg1 0 (by omega)
      have p2 := pg1 1 (by omega)
      have p3 := pg2 0 (by omega)
      simp (disch := omega) only [↓aI,↓zP,aD,zD,aS,simprocAttr,Try.facts,ah,aj hb2f,p1,p2,p3]
      first | refine CallK.p (hb1) ?_ | refine CallP.i (hb1) ?_
      simp (disch := omega) only [↓aI,↓zP,aD,zD,aS,simprocAttr,Try.facts,ah,aj hb2f,p1,p2,p3]
      cases hq : partT x 0 == partT y 0 with
      | false =>
        simp (disch := omega) only [↓aI,↓zP,aD,zD,aS,simprocAttr,Try.facts,ah,aj hb2f,p1,p2,p3]
        exact ⟨_,rfl,_,Abs.Sub.refl _,by simp,rfl⟩
      | true =>
        simp (disch := omega) only [↓aI,↓zP,aD,zD,aS,simprocAttr,Try.facts,ah,aj hb2f,p1,p2,p3]
        first | refine CallK.p (hb2) ?_ | refine CallP.i (hb2) ?_
        simp (disch := omega) only [↓aI,↓zP,aD,zD,aS,simprocAttr,Try.facts,ah,aj hb2f,p1,p2,p3]
        exact ⟨_,rfl,_,Abs.Sub.refl _,by simp,rfl⟩
end Go.Proofs.Ytaehlpkinbpmbaa
