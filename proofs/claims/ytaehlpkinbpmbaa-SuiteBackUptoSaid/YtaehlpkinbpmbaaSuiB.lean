/-
  The walks of the suite layer: a term's size, name and key; the document's.
  Conditions: none. Lemmas only.
-/
import Derived.Test.YtaehlpkinbpmbaaSuiA
set_option linter.all false
set_option linter.unusedSimpArgs false
set_option linter.unusedVariables false
set_option maxRecDepth 20000
namespace Go.Proofs.Ytaehlpkinbpmbaa
open Go Go.Abs Go.Proofs

def sizeT (t : Term) : Nat := if t.kind = 103 then 64 else if t.kind = 98 then (t.parts.getD 3 []).length + 16 else 32
def nameT (t : Term) (n : Nat) : List UInt8 := t.kind :: lowL 8 n ++ List.replicate (sizeT t - 9) 0
def okT (t : Term) : Prop := (t.kind = 98 → 4 ≤ t.parts.length) ∧ t.parts.length ≤ 1000000 ∧ t.parts.flatten.length ≤ 1000000000000
theorem flat_take {ls : List (List UInt8)} {i : Nat} (h : i < ls.length) : (ls.take (i + 1)).flatten = (ls.take i).flatten ++ ls[i] := by
  rw [List.take_succ_eq_append_getElem h,List.flatten_append,List.flatten_singleton]
theorem flat_le {ls : List (List UInt8)} (i : Nat) : (ls.take i).flatten.length ≤ ls.flatten.length := by
  have : ls.flatten = (ls.take i).flatten ++ (ls.drop i).flatten := by rw [← List.flatten_append,List.take_append_drop]
  rw [this,List.length_append]; omega
theorem flat_mem {ls : List (List UInt8)} {p : List UInt8} (h : p ∈ ls) : p.length ≤ ls.flatten.length := by
  obtain ⟨i,hi,rfl⟩ := List.getElem_of_mem h
  have := flat_le (ls := ls) (i + 1)
  rw [flat_take hi,List.length_append] at this
  omega
theorem sizeT_ge (t : Term) : 16 ≤ sizeT t := by
  unfold sizeT; split
  · omega
  · split <;> omega
theorem nameT_length (t : Term) (n : Nat) : (nameT t n).length = sizeT t := by
  have := sizeT_ge t
  simp [nameT,lowL_length]; omega
theorem okT_3 {t : Term} (h : okT t) (hk : t.kind = 98) : ∃ p,t.parts[3]? = some p ∧ (t.parts.map bytesV)[3]? = some (.imm 0 (bw p) p.length) ∧ sizeT t = p.length + 16 ∧ p.length ≤ 1000000000000 := by
  have h3 : 3 < t.parts.length := by have := h.1 hk; omega
  refine ⟨t.parts[3],by simp [h3],by simp [h3],?_,Nat.le_trans (flat_mem (List.getElem_mem h3)) h.2.2⟩
  unfold sizeT
  rw [if_neg (by rw [hk]; decide),if_pos hk]
  simp [List.getD,h3]
theorem sizeT_le {t : Term} (h : okT t) : sizeT t ≤ 1000000000016 := by
  by_cases hk : t.kind = 98
  · obtain ⟨p,_,_,h3,h4⟩ := okT_3 h hk; omega
  · unfold sizeT
    rw [if_neg hk]
    split <;> omega

theorem size_pure (t : Term) (h : okT t) : APure Try.prog 90 [termV t] (.sc (.int .i64 (sizeT t))) := by
  obtain ⟨kd,parts⟩ := t
  refine az (c := ⟨Try.prog,15,[(1000000,[1])],[],[]⟩) (rs := [ResultVar.tmp 2]) Try.mixed Try.func90 rfl rfl rfl (Nat.le_of_ble_eq_true rfl) (by kernel_rfl) fun H => ?_
  by_cases h1 : kd = 103
  · subst h1
    have e : sizeT ⟨103,parts⟩ = 64 := by simp [sizeT]
    have hk : ((103 : UInt8).toNat : Int) = 103 := rfl
    rw [e]
    simp (disch := omega) only [↓aI,↓zP,aD,zD,aS,simprocAttr,Try.facts,hk]
    exact fun k hk0 hk => Sub.box hk
  · by_cases h2 : kd = 98
    · subst h2
      obtain ⟨p,h3,h4,h5,h6⟩ := okT_3 h rfl
      rw [h5]
      have hk : ((98 : UInt8).toNat : Int) = 98 := rfl
      have hp : 3 < parts.length := by have := h.1 rfl; simp at this; omega
      simp (disch := omega) only [↓aI,↓zP,aD,zD,aS,simprocAttr,Try.facts,hk]
      intro k hk0 hk
      simp (disch := omega) only [↓aI,↓zP,aD,zD,aS,simprocAttr,Try.facts,aj hk,h4]
      exact Abs.Sub.refl _
    · have e : sizeT ⟨kd,parts⟩ = 32 := by simp [sizeT,h1,h2]
      rw [e]
      have b1 : ((kd.toNat : Int) == 103) = false := by rw [show (103 : Int) = ((103 : UInt8).toNat : Int) from rfl,n8eq]; simpa using h1
      have b2 : ((kd.toNat : Int) == 98) = false := by rw [show (98 : Int) = ((98 : UInt8).toNat : Int) from rfl,n8eq]; simpa using h2
      simp (disch := omega) only [↓aI,↓zP,aD,zD,aS,simprocAttr,Try.facts,b1,b2]
      exact fun k hk0 hk => Sub.box hk

theorem called_live (t : Term) (n : Nat) (h : okT t) (hn : n < 9223372036854775808) (H : AH) : ACalls Try.prog 76 [termV t,.sc (.int .i64 n)] H (OwnB (nameT t n) H) := by
  have he := eight_pure n hn
  have hz := size_pure t h
  have hsz := sizeT_le h
  have hsg := sizeT_ge t
  have hlen := lowL_length 8 n
  have hnl := nameT_length t n
  have hnm : nameT t n = t.kind :: lowL 8 n ++ List.replicate (sizeT t - 9) 0 := rfl
  obtain ⟨kd,parts⟩ := t
  generalize sizeT ⟨kd,parts⟩ = s at *
  generalize nameT ⟨kd,parts⟩ n = L at *
  generalize lowL 8 n = E at *
  refine ao (c := ⟨Try.prog,17,[(2000001,[0,1,3,4,2,5,6]),(1,[0,1,0,0,2,2,0]),(1000000,[2])],[1000008,1000011,1000016],[]⟩) (rs := [ResultVar.tmp 4]) Try.mixed Try.func76 rfl rfl rfl (Nat.le_of_ble_eq_true rfl) (by kernel_rfl) ?_
  simp (disch := omega) only [↓aI,↓zP,aD,zD,aS,simprocAttr,Try.facts]
  intro k hk0 hk
  have hc : (AV.sc (.int .u8 kd.toNat) :: bw E) = bw (kd :: E) := rfl
  first | refine CallK.p (he) ?_ | refine CallP.i (he) ?_
  simp (disch := omega) only [↓aI,↓zP,aD,zD,aS,simprocAttr,Try.facts,aj hk]
  intro k1 hk10 hk1 k2 hk2
  obtain ⟨hk20,hk2⟩ := own_next hk10 hk1 hk2
  have hs9 : ((s : Int) - 9).toNat = s - 9 := by omega
  have hl9 : (kd :: E).length = 9 := by simp [hlen]
  first | refine CallK.p (hz) ?_ | refine CallP.i (hz) ?_
  simp (disch := omega) only [↓aI,↓zP,aD,zD,aS,simprocAttr,Try.facts,aj hk1,hc,hlen,hs9,hl9]
  intro k3 hk3
  obtain ⟨hk30,hk3⟩ := own_next hk20 hk2 hk3
  refine ⟨_,rfl,_,Abs.Sub.refl _,k3,hk30,hk3,?_,?_⟩
  · show AV.own k3 0 (9 + (s - 9)) = _
    rw [hnl]; congr 1; omega
  · rw [List.take_of_length_le (by rw [encB_length,hl9]; omega),encB_append,hnm]
theorem called_pure (t : Term) (n : Nat) (h : okT t) (hn : n < 9223372036854775808) : APure Try.prog 76 [termV t,.sc (.int .i64 n)] (bytesV (nameT t n)) := OwnB.pure (called_live t n h hn)

end Go.Proofs.Ytaehlpkinbpmbaa
