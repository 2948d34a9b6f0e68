/-
  The walks of the suite layer: a term's key; the document's comparison.
  Conditions: none. Lemmas only.
-/
import Derived.Test.YtaehlpkinbpmbaaSuiB
set_option linter.all false
set_option linter.unusedSimpArgs false
set_option linter.unusedVariables false
set_option maxRecDepth 20000
namespace Go.Proofs.Ytaehlpkinbpmbaa
open Go Go.Abs Go.Proofs

def keyP (ps : List (List UInt8)) : List UInt8 := ps.flatMap fun p => lowL 8 p.length ++ p
def keyT (t : Term) : List UInt8 := t.kind :: keyP t.parts
theorem keyP_take {ls : List (List UInt8)} {i : Nat} (h : i < ls.length) : keyP (ls.take (i + 1)) = keyP (ls.take i) ++ (lowL 8 ls[i].length ++ ls[i]) := by
  rw [List.take_succ_eq_append_getElem h,keyP,List.flatMap_append,List.flatMap_singleton]; rfl
theorem keyP_length (ls : List (List UInt8)) : (keyP ls).length = 8 * ls.length + ls.flatten.length := by
  induction ls with
  | nil => rfl
  | cons p r ih =>
    have : keyP (p :: r) = lowL 8 p.length ++ p ++ keyP r := rfl
    rw [this,List.length_append,List.length_append,lowL_length,ih]; simp; omega

theorem key_pure (t : Term) (h : okT t) : APure Try.prog 91 [termV t] (strV (keyT t)) := by
  obtain ⟨kd,ps⟩ := t
  have h1 : ps.length ≤ 1000000 := h.2.1
  have h2 : ps.flatten.length ≤ 1000000000000 := h.2.2
  refine az (c := ⟨Try.prog,26,[(1000000,[1])],[8],[]⟩) (rs := [ResultVar.tmp 2]) Try.mixed Try.func91 rfl rfl rfl (Nat.le_of_ble_eq_true rfl) (by kernel_rfl) fun H => ?_
  simp (disch := omega) only [↓aI,↓zP,aD,zD,aS,simprocAttr,Try.facts]
  intro k hk0 hk k1 hk10 hk1
  simp (disch := omega) only [↓aI,↓zP,aD,zD,aS,simprocAttr,Try.facts,aj hk]
  rw [aj hk] at hk1
  refine br (c := ⟨Try.prog,26,[(1000000,[1])],[8],[]⟩) Try.mixed (by kernel_rfl) (fun m σ H' => ∃ i acc,i + m = ps.length ∧ acc = kd :: keyP (ps.take i) ∧ σ 10 = rowsV ps ∧ σ 11 = .sc (.int .i64 ps.length) ∧ σ 12 = .sc (.int .i64 i) ∧ ∃ k o,k ≠ 0 ∧ H k = none ∧ H' = H.set k o ∧ cy 5 1 o acc.length ∧ σ 3 = .imm k (bw acc) acc.length) ps.length ?_ ?_
  · refine ⟨0,_,by omega,rfl,?_⟩
    simp (disch := omega) only [↓aI,↓zP,aD,zD,aS,simprocAttr,Try.facts,aj hk]
    exact ⟨k1,_,hk10,hk1,rfl,.inl rfl,rfl⟩
  · rintro m σ H' ⟨i,acc,hi,hacc,h10,h11,h12,k,o,hk0,hk,rfl,ho,h3⟩
    have hal : acc.length = 1 + (8 * i + (ps.take i).flatten.length) := by rw [hacc,List.length_cons,keyP_length,List.length_take,Nat.min_eq_left (by omega)]; omega
    have hfl := flat_le (ls := ps) i
    by_cases hlt : i < ps.length
    · have hb1 : decide ((i : Int) < (ps.length : Int)) = true := by simp; omega
      have g1 := getR hlt
      have hz := keyP_take hlt
      have hpl := flat_mem (List.getElem_mem hlt)
      have he := eight_pure ps[i].length (by omega)
      have hel := lowL_length 8 ps[i].length
      generalize ps[i] = p at *
      generalize lowL 8 p.length = E at *
      simp (disch := omega) only [↓aI,↓zP,aD,zD,aS,simprocAttr,Try.facts,h3,h10,h11,h12,hb1,g1,ho]
      first | refine CallK.p (he) ?_ | refine CallP.i (he) ?_
      simp (disch := omega) only [↓aI,↓zP,aD,zD,aS,simprocAttr,Try.facts,h3,h10,h11,h12,hb1,g1,ho,hel]
      intro k2 o2 hk20 hk2 ho2
      replace hk2 := am hk2
      have hap : bw acc ++ bw E ++ bw p = bw (acc ++ (E ++ p)) := by rw [encB_append,encB_append,List.append_assoc]
      simp (disch := omega) only [↓aI,↓zP,aD,zD,aS,simprocAttr,Try.facts,h3,h10,h11,h12,hb1,g1,ho2,hel,hap]
      intro k3 o3 hk30 hk3 ho3
      have hzz : acc ++ (E ++ p) = kd :: keyP (ps.take (i + 1)) := by rw [hz,hacc]; rfl
      have hll : (acc ++ (E ++ p)).length = acc.length + 8 + p.length := by rw [List.length_append,List.length_append,hel]; omega
      have hll' : acc.length + (8 + p.length) = acc.length + 8 + p.length := by omega
      try rw [hll'] at ho3
      exact ⟨m - 1,by omega,i + 1,acc ++ (E ++ p),by omega,hzz,rfl,k3,o3,hk30,am hk3,rfl,by rw [hll]; exact ho3,by rw [hll]⟩
    · have hb1 : decide ((i : Int) < (ps.length : Int)) = false := by simp; omega
      obtain rfl : i = ps.length := by omega
      rw [List.take_length] at hacc
      simp (disch := omega) only [↓aI,↓zP,aD,zD,aS,simprocAttr,Try.facts,h3,h10,h11,h12,hb1]
      rw [hacc]
      exact ⟨rfl,Sub.set_new hk⟩

end Go.Proofs.Ytaehlpkinbpmbaa
