/-
  Several texts in one: each says what it proves.
  Conditions: none. Lemmas only.
-/
import Derived.Test.YtjlnpngaiphnmaaGreatSuiG3
set_option linter.all false
section
set_option linter.unusedSimpArgs false
set_option linter.unusedVariables false
set_option maxRecDepth 20000
namespace Go.Proofs.YtjlnpngaiphnmaaGreat
open Go Go.Abs Go.Proofs

end Go.Proofs.YtjlnpngaiphnmaaGreat
end
section
set_option linter.unusedSimpArgs false
set_option linter.unusedVariables false
set_option maxRecDepth 20000
namespace Go.Proofs.YtjlnpngaiphnmaaGreat
open Go Go.Abs Go.Proofs

abbrev fw (ts : List Term) (d : Nat) : AV := .agg [.imm 0 (dC ts) ts.length,.sc (.int .i64 d)]
theorem idx_first {ts : List Term} {t : Term} {i : Nat} (hi : i < ts.length) (h : t ∉ ts.take i) (he : ts[i] = t) : fC ts t = (ts,i + 1) := by
  have hm : t ∈ ts := he ▸ List.getElem_mem hi
  rw [fC,if_pos hm]
  have : ts.idxOf t = i := by
    have h1 := List.idxOf_lt_length_of_mem hm
    have h2 : ts[ts.idxOf t] = t := List.getElem_idxOf h1
    rcases Nat.lt_trichotomy (ts.idxOf t) i with h3 | h3 | h3
    · exfalso
      apply h
      have : (ts.take i)[ts.idxOf t]'(by rw [List.length_take]; omega) = t := by rw [List.getElem_take]; exact h2
      rw [← this]; exact List.getElem_mem _
    · exact h3
    · exfalso
      have := List.not_of_lt_findIdx (p := (· == t)) (xs := ts) (i := i) h3
      simp [he] at this
  rw [this]
theorem kR (ts : List Term) (d : Nat) (t : Term) (ht : okT t) (hts : ∀ x ∈ ts,okT x) (hl : ts.length ≤ 1000000) : APure Tryz.prog 86 [fw ts d,jo t] (.tup [fw (fC ts t).1 d,eu (fW t (fC ts t).2)]) := by
  have hTl := jJ ts
  have hs := fun x hx => same_pure x t (hts x hx) ht
  have hc := fun n hn => rcalled_pure t n ht hn
  have hin : ∀ i (hi : i < ts.length),t ∉ ts.take i → ts[i] = t → fC ts t = (ts,i + 1) := fun i hi => idx_first hi
  have hout : t ∉ ts → fC ts t = (ts ++ [t],ts.length + 1) := fun h => by rw [fC,if_neg h]
  have hT : dC ts ++ [.sc (.int .u8 t.kind.toNat),.imm 0 (t.parts.map eu) t.parts.length] = dC (ts ++ [t]) := termsC_snoc ts t
  generalize hZ : fC ts t = Z at *
  obtain ⟨kd,ps⟩ := t
  refine az (c := ⟨Tryz.prog,42,[(4,[0,1,0,0,1,1,0]),(5,[1,1,0,0,0,2,0]),(2000006,[1,2,4,5,0,3,6,7]),(6,[0,0,0,0,2,2,2,0]),(7,[0,0,1,0,1,0,1,0,2,0]),(1000000,[3,2])],[27],[]⟩) (rs := [ResultVar.cell 4 51,ResultVar.tmp 5]) Tryz.mixed Tryz.func86 rfl rfl rfl (Nat.le_of_ble_eq_true rfl) (by kernel_rfl) fun H => ?_
  simp (disch := omega) only [↓aI,↓zP,aD,zD,aS,simprocAttr,Tryz.facts]
  intro k1 hk10 hk1 k2 hk20 hk2 k3 hk30 hk3
  have n23 := bK hk3
  have n13 := bK (am hk3)
  have hkH := am (am hk3)
  simp (disch := omega) only [↓aI,↓zP,aD,zD,aS,simprocAttr,Tryz.facts,aP,bH hk2 n23,bH hk1 n13]
  refine br (c := ⟨Tryz.prog,42,[(4,[0,1,0,0,1,1,0]),(5,[1,1,0,0,0,2,0]),(2000006,[1,2,4,5,0,3,6,7]),(6,[0,0,0,0,2,2,2,0]),(7,[0,0,1,0,1,0,1,0,2,0]),(1000000,[3,2])],[27],[]⟩) Tryz.mixed (by kernel_rfl) (fun mm σ H' => H' = H.set k3 (.cells [.sc (.slice none 0 0),.sc (.int .i64 0)] 51 2) ∧ ∃ i,i + mm = ts.length ∧ (⟨kd,ps⟩ : Term) ∉ ts.take i ∧
    σ 2 = .ip [.imm 0 (dC ts) ts.length,.sc (.int .i64 d)] 0 ∧ σ 3 = .ip [.sc (.int .u8 kd.toNat),.imm 0 (ps.map eu) ps.length] 0 ∧ σ 4 = .ptr k3 0 ∧ σ 6 = .sc (.int .i64 i)) ts.length ?_ ?_
  · refine ⟨rfl,0,by omega,by simp,?_⟩
    simp (disch := omega) only [↓aI,↓zP,aD,zD,aS,simprocAttr,Tryz.facts]
  · rintro mm σ H' ⟨rfl,i,him,hnm,h2,h3,h4,h6⟩
    by_cases hlt : i < ts.length
    · have hb1 : decide ((i : Int) < (ts.length : Int)) = true := by simp; omega
      have hld := termsC_load hlt
      have hle' : i * 2 + 2 ≤ ts.length * 2 := by omega
      have hs1 := hs _ (List.getElem_mem hlt)
      have hc1 := hc (i + 1) (by omega)
      have hin1 := hin i hlt hnm
      have hnx : ts[i] ≠ ⟨kd,ps⟩ → (⟨kd,ps⟩ : Term) ∉ ts.take (i + 1) := fun h => by
        rw [List.take_succ_eq_append_getElem hlt]
        simp only [List.mem_append,List.mem_singleton,not_or]
        exact ⟨hnm,fun e => h e.symm⟩
      generalize ts[i] = x at *
      by_cases he : x = ⟨kd,ps⟩
      · have hd : decide (x = ⟨kd,ps⟩) = true := by simpa using he
        rw [hd] at hs1
        obtain rfl := hin1 he
        simp (disch := omega) only [↓aI,↓zP,aD,zD,aS,simprocAttr,Tryz.facts,h2,h3,h4,h6,hb1,hld,hle',hTl]
        first | refine CallK.p (hs1) ?_ | refine CallP.i (hs1) ?_
        simp (disch := omega) only [↓aI,↓zP,aD,zD,aS,simprocAttr,Tryz.facts,h2,h3,h4,h6,hb1,hld,hle',hTl]
        first | refine CallK.p (hc1) ?_ | refine CallP.i (hc1) ?_
        simp (disch := omega) only [↓aI,↓zP,aD,zD,aS,simprocAttr,Tryz.facts,h2,h3,h4,h6,hb1,hld,hle',hTl,ah]
        exact Sub.set_new hkH
      · have hd : decide (x = ⟨kd,ps⟩) = false := by simpa using he
        rw [hd] at hs1
        simp (disch := omega) only [↓aI,↓zP,aD,zD,aS,simprocAttr,Tryz.facts,h2,h3,h4,h6,hb1,hld,hle',hTl]
        first | refine CallK.p (hs1) ?_ | refine CallP.i (hs1) ?_
        simp (disch := omega) only [↓aI,↓zP,aD,zD,aS,simprocAttr,Tryz.facts,h2,h3,h4,h6,hb1,hld,hle',hTl]
        exact ⟨mm - 1,by omega,i + 1,by omega,hnx he,rfl⟩
    · have hb1 : decide ((i : Int) < (ts.length : Int)) = false := by simp; omega
      obtain rfl : i = ts.length := by omega
      rw [List.take_length] at hnm
      obtain rfl := hout hnm
      have hc1 := hc (ts.length + 1) (by omega)
      simp (disch := omega) only [↓aI,↓zP,aD,zD,aS,simprocAttr,Tryz.facts,h2,h3,h4,h6,hb1,hTl]
      intro kb hkb0 hkb
      simp (disch := omega) only [↓aI,↓zP,aD,zD,aS,simprocAttr,Tryz.facts,h2,h3,h4,h6,hb1,hTl,hkb0]
      intro k4 o4 hk40 hk4 ho4
      replace hk4 := am hk4
      simp (disch := omega) only [↓aI,↓zP,aD,zD,aS,simprocAttr,Tryz.facts,h2,h3,h4,h6,hb1,hTl,ho4,hk40,hT]
      intro k5 o5 hk50 hk5 ho5
      replace hk5 := am hk5
      have n35 := bK hk5
      first | refine CallK.p (hc1) ?_ | refine CallP.i (hc1) ?_
      simp (disch := omega) only [↓aI,↓zP,aD,zD,aS,simprocAttr,Tryz.facts,h2,h3,h4,h6,hb1,hTl,hT,aP,ah]
      exact ⟨by rw [fw,List.length_append]; rfl,((Sub.set_new hkH).set_free (am hk5)).set_free hkH⟩

theorem vnamed_pure (ts : List Term) (d : Nat) (t : Term) (ht : okT t) (hp : t.parts ≠ []) (hts : ∀ x ∈ ts, okT x) (hl : ts.length ≤ 1000000) : APure Tryz.prog 88 [fw ts d, jo t]
    (if (t.parts.headD []).length = 32 then .tup [fw (fC ts t).1 d,eu (fW t (fC ts t).2)] else .tup [fw ts d,.imm 0 [] 0]) := by
  have hn := kR ts d t ht hts hl
  generalize (fC ts t).1 = Z1 at *
  generalize fW t (fC ts t).2 = Z2 at *
  obtain ⟨kd,ps⟩ := t
  obtain ⟨p,r,rfl⟩ : ∃ p r,ps = p :: r := by cases ps with | nil => exact (hp rfl).elim | cons p r => exact ⟨p,r,rfl⟩
  have h0 : (List.map eu (p :: r))[0]? = some (.imm 0 (bw p) p.length) := rfl
  have hpl : 0 < (p :: r).length := by simp
  generalize hps : p :: r = ps at *
  have hhd : ps.headD [] = p := by rw [← hps]; rfl
  simp only [hhd]
  by_cases h32 : p.length = 32
  · rw [if_pos h32]
    have hb : ((p.length : Int) != 32) = false := by simp [h32]
    refine az (c := ⟨Tryz.prog,18,[(1000000,[3,2])],[],[]⟩) (rs := [ResultVar.cell 4 51,ResultVar.tmp 5]) Tryz.mixed Tryz.func88 rfl rfl rfl (Nat.le_of_ble_eq_true rfl) (by kernel_rfl) fun H => ?_
    simp (disch := omega) only [↓aI,↓zP,aD,zD,aS,simprocAttr,Tryz.facts]
    intro k1 hk10 hk1 k2 hk20 hk2 k3 hk30 hk3
    have n23 := bK hk3
    have n13 := bK (am hk3)
    have hkH := am (am hk3)
    simp (disch := omega) only [↓aI,↓zP,aD,zD,aS,simprocAttr,Tryz.facts,aP,bH hk2 n23,bH hk1 n13,h0,hpl,hb]
    first | refine CallK.p (hn) ?_ | refine CallP.i (hn) ?_
    simp (disch := omega) only [↓aI,↓zP,aD,zD,aS,simprocAttr,Tryz.facts,ah]
    exact Sub.set_new hkH
  · rw [if_neg h32]
    have hb : ((p.length : Int) != 32) = true := by simp; omega
    refine az (c := ⟨Tryz.prog,18,[(1000000,[3,2])],[],[]⟩) (rs := [ResultVar.cell 4 51,ResultVar.tmp 5]) Tryz.mixed Tryz.func88 rfl rfl rfl (Nat.le_of_ble_eq_true rfl) (by kernel_rfl) fun H => ?_
    simp (disch := omega) only [↓aI,↓zP,aD,zD,aS,simprocAttr,Tryz.facts]
    intro k1 hk10 hk1 k2 hk20 hk2 k3 hk30 hk3
    have n23 := bK hk3
    have n13 := bK (am hk3)
    have hkH := am (am hk3)
    simp (disch := omega) only [↓aI,↓zP,aD,zD,aS,simprocAttr,Tryz.facts,aP,bH hk2 n23,bH hk1 n13,h0,hpl,hb,ah]
    exact Sub.set_new hkH
theorem jc (ts : List Term) (d : Nat) (t : Term) (ht : okT t) (hp : t.parts ≠ []) (hts : ∀ x ∈ ts,okT x) (hl : ts.length ≤ 1000000) (h32 : (t.parts.headD []).length = 32) : APure Tryz.prog 88 [fw ts d,jo t] (.tup [fw (fC ts t).1 d,eu (fW t (fC ts t).2)]) := by
  have := vnamed_pure ts d t ht hp hts hl
  rwa [if_pos h32] at this
theorem kB (ts : List Term) (d : Nat) (t : Term) (ht : okT t) (hp : t.parts ≠ []) (hts : ∀ x ∈ ts,okT x) (hl : ts.length ≤ 1000000) (h32 : ¬ (t.parts.headD []).length = 32) : APure Tryz.prog 88 [fw ts d,jo t] (.tup [fw ts d,.imm 0 [] 0]) := by
  have := vnamed_pure ts d t ht hp hts hl
  rwa [if_neg h32] at this
end Go.Proofs.YtjlnpngaiphnmaaGreat
end
