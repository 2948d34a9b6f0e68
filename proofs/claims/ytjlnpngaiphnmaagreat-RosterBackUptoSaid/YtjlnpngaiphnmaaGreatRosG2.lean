/-
  Several texts in one: each says what it proves.
  Conditions: none. Lemmas only.
-/
import Derived.Test.YtjlnpngaiphnmaaGreatRosG1
set_option linter.all false
section
set_option linter.unusedSimpArgs false
set_option linter.unusedVariables false
set_option maxRecDepth 20000
set_option maxHeartbeats 8000000
namespace Go.Proofs.YtjlnpngaiphnmaaGreat
open Go Go.Abs Go.Proofs
theorem rising2_pure (es : List Nd) (hl : es.length ≤ 1000000) : APure Tryz.prog 65 [fY es,.fn (.func 66) [] []] (.sc (.bool (gC (-1) (es.map Nd.author)))) := by
  have hcl : (es.flatMap ndC).length = es.length * 2 := fF gZ es
  have hld := fun i (h : i < es.length) => nd_load h
  have hp := fun m => p2_pure m
  generalize hR : gC (-1) (es.map Nd.author) = R at *
  refine az (c := ⟨Tryz.prog,27,[(1000004,[7])],[],[]⟩) (rs := [ResultVar.tmp 4]) Tryz.mixed Tryz.func65 rfl rfl rfl (Nat.le_of_ble_eq_true rfl) (by kernel_rfl) fun H => ?_
  simp (disch := omega) only [↓aI,↓zP,aD,zD,aS,simprocAttr,Tryz.facts,zA]
  refine br (c := ⟨Tryz.prog,27,[(1000004,[7])],[],[]⟩) Tryz.mixed (by kernel_rfl) (fun mm σ H' => H' = H ∧ ∃ (i : Nat) (last : Int),i + mm = es.length ∧ gC last ((es.drop i).map Nd.author) = R ∧
    σ 1 = .fn (.func 66) [] [] ∧ σ 5 = .sc (.int .i64 last) ∧ σ 9 = fY es ∧ σ 10 = .sc (.int .i64 (es.length : Nat)) ∧ σ 11 = .sc (.int .i64 (i : Nat))) es.length ?_ ?_
  · refine ⟨rfl,0,-1,by omega,hR,?_⟩
    simp (disch := omega) only [↓aI,↓zP,aD,zD,aS,simprocAttr,Tryz.facts,zA]
  · rintro mm σ H' ⟨rfl,i,last,him,hf,s1,s5,s9,s10,s11⟩
    by_cases hlt : i < es.length
    · have hd : es.drop i = es[i] :: es.drop (i + 1) := List.drop_eq_getElem_cons hlt
      have hl := hld i hlt
      have hc3 : i * 2 + 2 ≤ es.length * 2 := by omega
      have hp1 := hp es[i]
      rw [hd,List.map_cons] at hf
      unfold gC at hf
      generalize es[i] = m at *
      obtain ⟨mi,mq⟩ := m
      simp only [ndC] at hf hl hp1
      by_cases c1 : last < mi
      · by_cases c2 : mi < 5
        · rw [decide_eq_true c1,decide_eq_true c2,Bool.true_and,Bool.true_and] at hf
          simp (disch := omega) only [↓aI,↓zP,aD,zD,aS,simprocAttr,Tryz.facts,zA,s1,s5,s9,s10,s11,hcl,hl,hc3,ah]
          intro k7 hk70 hk7
          try simp (disch := omega) only [↓aI,↓zP,aD,zD,aS,simprocAttr,Tryz.facts,zA,s1,s5,s9,s10,s11,hcl,hl,hc3,ah,aj hk7]
          first | refine CallK.p (hp1) ?_ | refine CallP.i (hp1) ?_
          simp (disch := omega) only [↓aI,↓zP,aD,zD,aS,simprocAttr,Tryz.facts,zA,s1,s5,s9,s10,s11]
          exact ⟨mm - 1,by omega,i + 1,mi,by omega,hf,rfl,rfl⟩
        · rw [decide_eq_true c1,decide_eq_false c2,Bool.true_and,Bool.false_and] at hf
          subst hf
          simp (disch := omega) only [↓aI,↓zP,aD,zD,aS,simprocAttr,Tryz.facts,zA,s1,s5,s9,s10,s11,hcl,hl,hc3,ah]
          intro k7 hk70 hk7
          try simp (disch := omega) only [↓aI,↓zP,aD,zD,aS,simprocAttr,Tryz.facts,zA,s1,s5,s9,s10,s11,hcl,hl,hc3,ah,aj hk7]
          first | refine CallK.p (hp1) ?_ | refine CallP.i (hp1) ?_
          simp (disch := omega) only [↓aI,↓zP,aD,zD,aS,simprocAttr,Tryz.facts,zA,s1,s5,s9,s10,s11]
          first | exact Abs.Sub.refl _ | exact ⟨rfl,Abs.Sub.refl _⟩ | (trace_state; fail)
      · rw [decide_eq_false c1,Bool.false_and] at hf
        subst hf
        simp (disch := omega) only [↓aI,↓zP,aD,zD,aS,simprocAttr,Tryz.facts,zA,s1,s5,s9,s10,s11,hcl,hl,hc3,ah]
        intro k7 hk70 hk7
        try simp (disch := omega) only [↓aI,↓zP,aD,zD,aS,simprocAttr,Tryz.facts,zA,s1,s5,s9,s10,s11,hcl,hl,hc3,ah,aj hk7]
        first | refine CallK.p (hp1) ?_ | refine CallP.i (hp1) ?_
        simp (disch := omega) only [↓aI,↓zP,aD,zD,aS,simprocAttr,Tryz.facts,zA,s1,s5,s9,s10,s11]
        first | exact Abs.Sub.refl _ | exact ⟨rfl,Abs.Sub.refl _⟩ | (trace_state; fail)
    · obtain rfl : i = es.length := by omega
      rw [List.drop_length,List.map_nil] at hf
      unfold gC at hf
      subst hf
      simp (disch := omega) only [↓aI,↓zP,aD,zD,aS,simprocAttr,Tryz.facts,zA,s1,s5,s9,s10,s11,hcl]
      first | exact Abs.Sub.refl _ | exact ⟨rfl,Abs.Sub.refl _⟩ | (trace_state; fail)
theorem parts_pure (ms : List Mem) (es : List Nd) (hm : ms.length ≤ 1000000) (he : es.length ≤ 1000000) : APure Tryz.prog 40 [fE ms,fY es] (.sc (.bool (gV ms es))) := by
  have hcl : (ms.flatMap fL).length = ms.length * 3 := fF fU ms
  have hel : (es.flatMap ndC).length = es.length * 2 := fF gZ es
  have hld := fun i (h : i < ms.length) => iJ h
  have hle := fun i (h : i < es.length) => nd_load h
  have h1 := rising1_pure ms hm
  have h2 := rising2_pure es he
  have hP : gV ms es = (decide ((ms.map Mem.id).headD 1 = 0) && (gC (-1) (ms.map Mem.id) && (gC (-1) (es.map Nd.author) && (ms.all jQ && es.all kC)))) := rfl
  generalize gV ms es = R at *
  generalize gC (-1) (ms.map Mem.id) = r1 at *
  generalize gC (-1) (es.map Nd.author) = r2 at *
  by_cases c0 : ms.length = 0
  · obtain rfl : ms = [] := List.length_eq_zero_iff.1 c0
    rw [show decide ((([] : List Mem).map Mem.id).headD 1 = 0) = false from rfl,Bool.false_and] at hP
    subst hP
    refine az (c := ⟨Tryz.prog,61,[(1000005,[6]),(1000011,[8]),(4000012,[46,47,48,59]),(4000006,[1,29,30,31,44]),(4000001,[0,1,28])],[],[]⟩) (rs := [ResultVar.tmp 4]) Tryz.mixed Tryz.func40 rfl rfl rfl (Nat.le_of_ble_eq_true rfl) (by kernel_rfl) fun H => ?_
    simp (disch := omega) only [↓aI,↓zP,aD,zD,aS,simprocAttr,Tryz.facts,zA]
    exact Abs.Sub.refl _
  · have hl0 := hld 0 (by omega)
    have hh : (ms.map Mem.id).headD 1 = (ms[0]).id := by
      cases ms with
      | nil => exact absurd rfl c0
      | cons m l => rfl
    rw [hh] at hP
    have hc0 : 3 ≤ ms.length * 3 := by omega
    have hg0 : (ms.flatMap fL)[0]? = some (.sc (.int .i64 (ms[0]).id)) := by
      have := gu fU (l := ms) (i := 0) (j := 0) (by omega) (by omega)
      simpa [fL] using this
    generalize (ms[0]).id = id0 at *
    by_cases c1 : id0 = 0
    · subst c1
      rw [decide_eq_true rfl,Bool.true_and] at hP
      cases r1
      · rw [Bool.false_and] at hP
        subst hP
        refine az (c := ⟨Tryz.prog,61,[(1000005,[6]),(1000011,[8]),(4000012,[46,47,48,59]),(4000006,[1,29,30,31,44]),(4000001,[0,1,28])],[],[]⟩) (rs := [ResultVar.tmp 4]) Tryz.mixed Tryz.func40 rfl rfl rfl (Nat.le_of_ble_eq_true rfl) (by kernel_rfl) fun H => ?_
        simp (disch := omega) only [↓aI,↓zP,aD,zD,aS,simprocAttr,Tryz.facts,zA,hcl,hg0,hc0]
        first | refine CallK.p (h1) ?_ | refine CallP.i (h1) ?_
        simp (disch := omega) only [↓aI,↓zP,aD,zD,aS,simprocAttr,Tryz.facts,zA]
        exact Abs.Sub.refl _
      · cases r2
        · rw [Bool.true_and,Bool.false_and] at hP
          subst hP
          refine az (c := ⟨Tryz.prog,61,[(1000005,[6]),(1000011,[8]),(4000012,[46,47,48,59]),(4000006,[1,29,30,31,44]),(4000001,[0,1,28])],[],[]⟩) (rs := [ResultVar.tmp 4]) Tryz.mixed Tryz.func40 rfl rfl rfl (Nat.le_of_ble_eq_true rfl) (by kernel_rfl) fun H => ?_
          simp (disch := omega) only [↓aI,↓zP,aD,zD,aS,simprocAttr,Tryz.facts,zA,hcl,hg0,hc0]
          first | refine CallK.p (h1) ?_ | refine CallP.i (h1) ?_
          simp (disch := omega) only [↓aI,↓zP,aD,zD,aS,simprocAttr,Tryz.facts,zA]
          first | refine CallK.p (h2) ?_ | refine CallP.i (h2) ?_
          simp (disch := omega) only [↓aI,↓zP,aD,zD,aS,simprocAttr,Tryz.facts,zA]
          exact Abs.Sub.refl _
        · rw [Bool.true_and,Bool.true_and] at hP
          refine az (c := ⟨Tryz.prog,61,[(1000005,[6]),(1000011,[8]),(4000012,[46,47,48,59]),(4000006,[1,29,30,31,44]),(4000001,[0,1,28])],[],[]⟩) (rs := [ResultVar.tmp 4]) Tryz.mixed Tryz.func40 rfl rfl rfl (Nat.le_of_ble_eq_true rfl) (by kernel_rfl) fun H => ?_
          simp (disch := omega) only [↓aI,↓zP,aD,zD,aS,simprocAttr,Tryz.facts,zA,hcl,hg0,hc0]
          first | refine CallK.p (h1) ?_ | refine CallP.i (h1) ?_
          simp (disch := omega) only [↓aI,↓zP,aD,zD,aS,simprocAttr,Tryz.facts,zA]
          first | refine CallK.p (h2) ?_ | refine CallP.i (h2) ?_
          simp (disch := omega) only [↓aI,↓zP,aD,zD,aS,simprocAttr,Tryz.facts,zA]
          refine br (c := ⟨Tryz.prog,61,[(1000005,[6]),(1000011,[8]),(4000012,[46,47,48,59]),(4000006,[1,29,30,31,44]),(4000001,[0,1,28])],[],[]⟩) Tryz.mixed (by kernel_rfl) (fun mm σ H' => H' = H ∧ ∃ (i : Nat),i + mm = ms.length ∧ ((ms.drop i).all jQ && es.all kC) = R ∧ σ 1 = fY es ∧ σ 29 = fE ms ∧ σ 30 = .sc (.int .i64 (ms.length : Nat)) ∧ σ 31 = .sc (.int .i64 (i : Nat))) ms.length ?_ ?_
          · refine ⟨rfl,0,by omega,hP.symm,?_⟩
            simp (disch := omega) only [↓aI,↓zP,aD,zD,aS,simprocAttr,Tryz.facts,zA]
            try rfl
          · rintro mm σ H' ⟨rfl,i,him,hf,s1,s29,s30,s31⟩
            by_cases hlt : i < ms.length
            · have hd : ms.drop i = ms[i] :: ms.drop (i + 1) := List.drop_eq_getElem_cons hlt
              have hl := hld i hlt
              have hc3 : i * 3 + 3 ≤ ms.length * 3 := by omega
              rw [hd,List.all_cons] at hf
              generalize ms[i] = m at *
              obtain ⟨mi,mp,mg⟩ := m
              unfold jQ at hf
              simp only [] at hf hl
              by_cases k1 : mp.length = 32
              · by_cases k2 : mg.length = 32
                · rw [decide_eq_true k1,decide_eq_true k2,Bool.true_and,Bool.true_and] at hf
                  simp (disch := omega) only [↓aI,↓zP,aD,zD,aS,simprocAttr,Tryz.facts,zA,s1,s29,s30,s31,hcl,hl,hc3,ah]
                  intro k6 hk60 hk6
                  try simp (disch := omega) only [↓aI,↓zP,aD,zD,aS,simprocAttr,Tryz.facts,zA,s1,s29,s30,s31,hcl,hl,hc3,ah,aj hk6]
                  exact ⟨mm - 1,by omega,i + 1,by omega,hf,rfl⟩
                · rw [decide_eq_true k1,decide_eq_false k2,Bool.true_and,Bool.false_and,Bool.false_and] at hf
                  subst hf
                  simp (disch := omega) only [↓aI,↓zP,aD,zD,aS,simprocAttr,Tryz.facts,zA,s1,s29,s30,s31,hcl,hl,hc3,ah]
                  intro k6 hk60 hk6
                  try simp (disch := omega) only [↓aI,↓zP,aD,zD,aS,simprocAttr,Tryz.facts,zA,s1,s29,s30,s31,hcl,hl,hc3,ah,aj hk6]
                  exact Abs.Sub.refl _
              · rw [decide_eq_false k1,Bool.false_and,Bool.false_and,Bool.false_and] at hf
                subst hf
                simp (disch := omega) only [↓aI,↓zP,aD,zD,aS,simprocAttr,Tryz.facts,zA,s1,s29,s30,s31,hcl,hl,hc3,ah]
                intro k6 hk60 hk6
                try simp (disch := omega) only [↓aI,↓zP,aD,zD,aS,simprocAttr,Tryz.facts,zA,s1,s29,s30,s31,hcl,hl,hc3,ah,aj hk6]
                exact Abs.Sub.refl _
            · obtain rfl : i = ms.length := by omega
              rw [List.drop_length,List.all_nil,Bool.true_and] at hf
              simp (disch := omega) only [↓aI,↓zP,aD,zD,aS,simprocAttr,Tryz.facts,zA,s1,s29,s30,s31,hcl]
              refine br (c := ⟨Tryz.prog,61,[(1000005,[6]),(1000011,[8]),(4000012,[46,47,48,59]),(4000006,[1,29,30,31,44]),(4000001,[0,1,28])],[],[]⟩) Tryz.mixed (by kernel_rfl) (fun mm σ H2 => H2 = H' ∧ ∃ (i : Nat),i + mm = es.length ∧ ((es.drop i).all kC) = R ∧ σ 46 = fY es ∧ σ 47 = .sc (.int .i64 (es.length : Nat)) ∧ σ 48 = .sc (.int .i64 (i : Nat))) es.length ?_ ?_
              · refine ⟨rfl,0,by omega,hf,?_⟩
                simp (disch := omega) only [↓aI,↓zP,aD,zD,aS,simprocAttr,Tryz.facts,zA]
                try rfl
              · rintro mm σ H2 ⟨rfl,i,him,hf,s46,s47,s48⟩
                by_cases hlt : i < es.length
                · have hd : es.drop i = es[i] :: es.drop (i + 1) := List.drop_eq_getElem_cons hlt
                  have hl := hle i hlt
                  have hc3 : i * 2 + 2 ≤ es.length * 2 := by omega
                  rw [hd,List.all_cons] at hf
                  generalize es[i] = x at *
                  obtain ⟨xa,xs⟩ := x
                  unfold kC at hf
                  simp only [] at hf hl
                  by_cases k1 : 0 ≤ xs
                  · by_cases k2 : xs ≤ 1048576
                    · rw [decide_eq_true k1,decide_eq_true k2,Bool.true_and,Bool.true_and] at hf
                      simp (disch := omega) only [↓aI,↓zP,aD,zD,aS,simprocAttr,Tryz.facts,zA,s46,s47,s48,hel,hl,hc3,ah]
                      intro k6 hk60 hk6
                      try simp (disch := omega) only [↓aI,↓zP,aD,zD,aS,simprocAttr,Tryz.facts,zA,s46,s47,s48,hel,hl,hc3,ah,aj hk6]
                      exact ⟨mm - 1,by omega,i + 1,by omega,hf,rfl⟩
                    · rw [decide_eq_true k1,decide_eq_false k2,Bool.true_and,Bool.false_and] at hf
                      subst hf
                      simp (disch := omega) only [↓aI,↓zP,aD,zD,aS,simprocAttr,Tryz.facts,zA,s46,s47,s48,hel,hl,hc3,ah]
                      intro k6 hk60 hk6
                      try simp (disch := omega) only [↓aI,↓zP,aD,zD,aS,simprocAttr,Tryz.facts,zA,s46,s47,s48,hel,hl,hc3,ah,aj hk6]
                      exact Abs.Sub.refl _
                  · rw [decide_eq_false k1,Bool.false_and,Bool.false_and] at hf
                    subst hf
                    simp (disch := omega) only [↓aI,↓zP,aD,zD,aS,simprocAttr,Tryz.facts,zA,s46,s47,s48,hel,hl,hc3,ah]
                    intro k6 hk60 hk6
                    try simp (disch := omega) only [↓aI,↓zP,aD,zD,aS,simprocAttr,Tryz.facts,zA,s46,s47,s48,hel,hl,hc3,ah,aj hk6]
                    exact Abs.Sub.refl _
                · obtain rfl : i = es.length := by omega
                  rw [List.drop_length,List.all_nil] at hf
                  subst hf
                  simp (disch := omega) only [↓aI,↓zP,aD,zD,aS,simprocAttr,Tryz.facts,zA,s46,s47,s48,hel]
                  exact Abs.Sub.refl _
    · rw [decide_eq_false c1,Bool.false_and] at hP
      subst hP
      refine az (c := ⟨Tryz.prog,61,[(1000005,[6]),(1000011,[8]),(4000012,[46,47,48,59]),(4000006,[1,29,30,31,44]),(4000001,[0,1,28])],[],[]⟩) (rs := [ResultVar.tmp 4]) Tryz.mixed Tryz.func40 rfl rfl rfl (Nat.le_of_ble_eq_true rfl) (by kernel_rfl) fun H => ?_
      simp (disch := omega) only [↓aI,↓zP,aD,zD,aS,simprocAttr,Tryz.facts,zA,hcl,hg0,hc0]
      exact Abs.Sub.refl _
end Go.Proofs.YtjlnpngaiphnmaaGreat
end
section
set_option linter.unusedSimpArgs false
set_option linter.unusedVariables false
set_option maxRecDepth 20000
set_option maxHeartbeats 8000000
namespace Go.Proofs.YtjlnpngaiphnmaaGreat
open Go Go.Abs Go.Proofs
theorem rise_len : ∀ (l : List Int) (last : Int),gC last l = true → last ≤ 4 → (l.length : Int) + last ≤ 4
  | [],last,_,h => by simp; exact h
  | n :: l,last,h,_ => by
    unfold gC at h
    rw [Bool.and_eq_true,Bool.and_eq_true,decide_eq_true_eq,decide_eq_true_eq] at h
    have := rise_len l n h.2.2 (by omega)
    rw [List.length_cons]
    omega
def docM : Int → List Mem → Bool
  | _,[] => true
  | last,m :: l => decide (last < m.id) && (decide (m.id < 5) && (jQ m && docM m.id l))
def docE : Int → List Nd → Bool
  | _,[] => true
  | last,x :: l => decide (last < x.author) && (decide (x.author < 5) && (kC x && docE x.author l))
theorem docM_eq : ∀ (l : List Mem) (last : Int),docM last l = (gC last (l.map Mem.id) && l.all jQ)
  | [],_ => rfl
  | m :: l,last => by
    have ih := docM_eq l m.id
    unfold docM
    rw [List.map_cons,List.all_cons,ih,show gC last (m.id :: l.map Mem.id) = (decide (last < m.id) && (decide (m.id < 5) && gC m.id (l.map Mem.id))) from rfl]
    generalize gC m.id (l.map Mem.id) = r
    generalize l.all jQ = k
    cases decide (last < m.id) <;> cases decide (m.id < 5) <;> cases jQ m <;> cases r <;> cases k <;> rfl
theorem docE_eq : ∀ (l : List Nd) (last : Int),docE last l = (gC last (l.map Nd.author) && l.all kC)
  | [],_ => rfl
  | m :: l,last => by
    have ih := docE_eq l m.author
    unfold docE
    rw [List.map_cons,List.all_cons,ih,show gC last (m.author :: l.map Nd.author) = (decide (last < m.author) && (decide (m.author < 5) && gC m.author (l.map Nd.author))) from rfl]
    generalize gC m.author (l.map Nd.author) = r
    generalize l.all kC = k
    cases decide (last < m.author) <;> cases decide (m.author < 5) <;> cases kC m <;> cases r <;> cases k <;> rfl
theorem parts_doc (ms : List Mem) (es : List Nd) : gV ms es = (decide ((ms.map Mem.id).headD 1 = 0) && (docM (-1) ms && docE (-1) es)) := by
  unfold gV
  rw [docM_eq,docE_eq]
  cases decide ((ms.map Mem.id).headD 1 = 0) <;> cases gC (-1) (ms.map Mem.id) <;> cases gC (-1) (es.map Nd.author) <;> cases ms.all jQ <;> cases es.all kC <;> rfl
theorem parts_long {ms : List Mem} {es : List Nd} (h : 5 < ms.length ∨ 5 < es.length) : gV ms es = false := by
  unfold gV
  rcases h with h | h
  · have : gC (-1) (ms.map Mem.id) = false := by
      rcases hr : gC (-1) (ms.map Mem.id) with _ | _
      · rfl
      · have := rise_len _ _ hr (by omega)
        rw [List.length_map] at this
        omega
    rw [this,Bool.false_and,Bool.and_false]
  · have : gC (-1) (es.map Nd.author) = false := by
      rcases hr : gC (-1) (es.map Nd.author) with _ | _
      · rfl
      · have := rise_len _ _ hr (by omega)
        rw [List.length_map] at this
        omega
    rw [this,Bool.false_and,Bool.and_false,Bool.and_false]
theorem rparts_pure (ms : List Mem) (es : List Nd) (hm : ms.length ≤ 1000000) (he : es.length ≤ 1000000) : APure Tryz.prog 41 [fE ms,fY es] (.sc (.bool (gV ms es))) := by
  have hcl : (ms.flatMap fL).length = ms.length * 3 := fF fU ms
  have hel : (es.flatMap ndC).length = es.length * 2 := fF gZ es
  have hld := fun i (h : i < ms.length) => iJ h
  have hle := fun i (h : i < es.length) => nd_load h
  have hgm : ∀ i (h : i < ms.length),(ms.flatMap fL)[i * 3]? = some (.sc (.int .i64 (ms[i]).id)) := fun i h => by
    have := gu fU (l := ms) (i := i) (j := 0) h (by omega)
    simpa [fL] using this
  have hge : ∀ i (h : i < es.length),(es.flatMap ndC)[i * 2]? = some (.sc (.int .i64 (es[i]).author)) := fun i h => by
    have := gu gZ (l := es) (i := i) (j := 0) h (by omega)
    simpa [ndC] using this
  have hP := parts_doc ms es
  have hlong := fun h => parts_long (ms := ms) (es := es) h
  generalize gV ms es = R at *
  by_cases c0 : ms.length = 0
  · obtain rfl : ms = [] := List.length_eq_zero_iff.1 c0
    rw [show decide ((([] : List Mem).map Mem.id).headD 1 = 0) = false from rfl,Bool.false_and] at hP
    subst hP
    refine az (c := ⟨Tryz.prog,112,[(7,[0,0,0,0,1,0,0,0,0,0,1,0,0,0,0,1,0,0,0,0,1,1,0,0,0,0,1,1,0,0]),(13,[0,0,0,0,1,0,0,0,0,0,1,0,0,0,0,1,0,0,0,0,1,0,0,0,0,1,0,0,0,0,1,0,0]),(1000006,[6]),(1000012,[8]),(4000013,[1,7,111]),(4000012,[1,7,8]),(4000007,[0,1,5,68]),(4000006,[0,1,5,6]),(4000001,[0,1,28])],[],[]⟩) (rs := [ResultVar.tmp 4]) Tryz.mixed Tryz.func41 rfl rfl rfl (Nat.le_of_ble_eq_true rfl) (by kernel_rfl) fun H => ?_
    simp (disch := omega) only [↓aI,↓zP,aD,zD,aS,simprocAttr,Tryz.facts,zA]
    exact Abs.Sub.refl _
  · by_cases cl : 5 < ms.length
    · obtain rfl := hlong (.inl cl)
      refine az (c := ⟨Tryz.prog,112,[(7,[0,0,0,0,1,0,0,0,0,0,1,0,0,0,0,1,0,0,0,0,1,1,0,0,0,0,1,1,0,0]),(13,[0,0,0,0,1,0,0,0,0,0,1,0,0,0,0,1,0,0,0,0,1,0,0,0,0,1,0,0,0,0,1,0,0]),(1000006,[6]),(1000012,[8]),(4000013,[1,7,111]),(4000012,[1,7,8]),(4000007,[0,1,5,68]),(4000006,[0,1,5,6]),(4000001,[0,1,28])],[],[]⟩) (rs := [ResultVar.tmp 4]) Tryz.mixed Tryz.func41 rfl rfl rfl (Nat.le_of_ble_eq_true rfl) (by kernel_rfl) fun H => ?_
      simp (disch := omega) only [↓aI,↓zP,aD,zD,aS,simprocAttr,Tryz.facts,zA]
      exact Abs.Sub.refl _
    · have hh : (ms.map Mem.id).headD 1 = (ms[0]).id := by
        cases ms with
        | nil => exact absurd rfl c0
        | cons m l => rfl
      rw [hh] at hP
      have hc0 : 3 ≤ ms.length * 3 := by omega
      have hg0 := hgm 0 (by omega)
      simp only [Nat.zero_mul] at hg0
      generalize hid : (ms[0]).id = id0 at *
      by_cases c1 : id0 = 0
      · subst c1
        rw [decide_eq_true rfl,Bool.true_and] at hP
        by_cases ce : 5 < es.length
        · obtain rfl := hlong (.inr ce)
          refine az (c := ⟨Tryz.prog,112,[(7,[0,0,0,0,1,0,0,0,0,0,1,0,0,0,0,1,0,0,0,0,1,1,0,0,0,0,1,1,0,0]),(13,[0,0,0,0,1,0,0,0,0,0,1,0,0,0,0,1,0,0,0,0,1,0,0,0,0,1,0,0,0,0,1,0,0]),(1000006,[6]),(1000012,[8]),(4000013,[1,7,111]),(4000012,[1,7,8]),(4000007,[0,1,5,68]),(4000006,[0,1,5,6]),(4000001,[0,1,28])],[],[]⟩) (rs := [ResultVar.tmp 4]) Tryz.mixed Tryz.func41 rfl rfl rfl (Nat.le_of_ble_eq_true rfl) (by kernel_rfl) fun H => ?_
          simp (disch := omega) only [↓aI,↓zP,aD,zD,aS,simprocAttr,Tryz.facts,zA,hcl,hg0,hc0]
          exact Abs.Sub.refl _
        · refine az (c := ⟨Tryz.prog,112,[(7,[0,0,0,0,1,0,0,0,0,0,1,0,0,0,0,1,0,0,0,0,1,1,0,0,0,0,1,1,0,0]),(13,[0,0,0,0,1,0,0,0,0,0,1,0,0,0,0,1,0,0,0,0,1,0,0,0,0,1,0,0,0,0,1,0,0]),(1000006,[6]),(1000012,[8]),(4000013,[1,7,111]),(4000012,[1,7,8]),(4000007,[0,1,5,68]),(4000006,[0,1,5,6]),(4000001,[0,1,28])],[],[]⟩) (rs := [ResultVar.tmp 4]) Tryz.mixed Tryz.func41 rfl rfl rfl (Nat.le_of_ble_eq_true rfl) (by kernel_rfl) fun H => ?_
          simp (disch := omega) only [↓aI,↓zP,aD,zD,aS,simprocAttr,Tryz.facts,zA,hcl,hg0,hc0]
          refine br (c := ⟨Tryz.prog,112,[(7,[0,0,0,0,1,0,0,0,0,0,1,0,0,0,0,1,0,0,0,0,1,1,0,0,0,0,1,1,0,0]),(13,[0,0,0,0,1,0,0,0,0,0,1,0,0,0,0,1,0,0,0,0,1,0,0,0,0,1,0,0,0,0,1,0,0]),(1000006,[6]),(1000012,[8]),(4000013,[1,7,111]),(4000012,[1,7,8]),(4000007,[0,1,5,68]),(4000006,[0,1,5,6]),(4000001,[0,1,28])],[],[]⟩) Tryz.mixed (by kernel_rfl) (fun mm σ H' => H' = H ∧ ∃ (i : Nat) (last : Int),i + mm = ms.length ∧ (docM last (ms.drop i) && docE (-1) es) = R ∧ ((i = 0 ∧ last = -1) ∨ (∃ h : i - 1 < ms.length,0 < i ∧ last = (ms[i - 1]).id)) ∧ σ 0 = fE ms ∧ σ 1 = fY es ∧ σ 5 = .sc (.int .i64 (i : Nat))) ms.length ?_ ?_
          · refine ⟨rfl,0,-1,by omega,hP.symm,.inl ⟨rfl,rfl⟩,?_⟩
            simp (disch := omega) only [↓aI,↓zP,aD,zD,aS,simprocAttr,Tryz.facts,zA]
            try rfl
          · rintro mm σ H' ⟨rfl,i,last,him,hf,hlast,s0,s1,s5⟩
            by_cases hlt : i < ms.length
            · have hd : ms.drop i = ms[i] :: ms.drop (i + 1) := List.drop_eq_getElem_cons hlt
              have hl := hld i hlt
              have hc3 : i * 3 + 3 ≤ ms.length * 3 := by omega
              rw [hd] at hf
              rw [show docM last (ms[i] :: ms.drop (i + 1)) = (decide (last < (ms[i]).id) && (decide ((ms[i]).id < 5) && (jQ ms[i] && docM (ms[i]).id (ms.drop (i + 1))))) from rfl] at hf
              have hi0 : i = 0 → (ms[i]).id = 0 := fun e => by subst e; exact hid
              generalize hmi : ms[i] = m at *
              obtain ⟨mi,mp,mg⟩ := m
              unfold jQ at hf
              simp only [] at hf hl hi0
              rcases hlast with ⟨hi,hla⟩ | ⟨hil,hi,hla⟩
              · subst hi
                have hmi0 := hi0 rfl
                subst hmi0
                simp only [Nat.zero_mul,List.drop_zero] at hl
                by_cases b3 : mp.length = 32
                · skip
                  by_cases b4 : mg.length = 32
                  · skip
                    rw [decide_eq_true (show last < 0 by omega),decide_eq_true (show (0 : Int) < 5 by omega),decide_eq_true b3,decide_eq_true b4,Bool.true_and,Bool.true_and,Bool.true_and,Bool.true_and] at hf
                    simp (disch := omega) only [↓aI,↓zP,aD,zD,aS,simprocAttr,Tryz.facts,zA,s0,s1,s5,hcl,hl,hc3,ah]
                    intro k6 hk60 hk6
                    try simp (disch := omega) only [↓aI,↓zP,aD,zD,aS,simprocAttr,Tryz.facts,zA,s0,s1,s5,hcl,hl,hc3,ah,aj hk6]
                    exact ⟨mm - 1,by omega,0 + 1,0,by omega,hf,.inr ⟨by omega,by omega,by show 0 = (ms[0]).id; rw [hmi]; rfl⟩,rfl⟩
                  · skip
                    obtain rfl : R = false := by rw [← hf]; simp [b4]
                    simp (disch := omega) only [↓aI,↓zP,aD,zD,aS,simprocAttr,Tryz.facts,zA,s0,s1,s5,hcl,hl,hc3,ah]
                    intro k6 hk60 hk6
                    try simp (disch := omega) only [↓aI,↓zP,aD,zD,aS,simprocAttr,Tryz.facts,zA,s0,s1,s5,hcl,hl,hc3,ah,aj hk6]
                    exact Abs.Sub.refl _
                · skip
                  obtain rfl : R = false := by rw [← hf]; simp [b3]
                  simp (disch := omega) only [↓aI,↓zP,aD,zD,aS,simprocAttr,Tryz.facts,zA,s0,s1,s5,hcl,hl,hc3,ah]
                  intro k6 hk60 hk6
                  try simp (disch := omega) only [↓aI,↓zP,aD,zD,aS,simprocAttr,Tryz.facts,zA,s0,s1,s5,hcl,hl,hc3,ah,aj hk6]
                  exact Abs.Sub.refl _
              · have hgp := hgm (i - 1) hil
                rw [← hla] at hgp
                have hiw : IntKind.i64.wrap ((i : Int) - 1) = ((i - 1 : Nat) : Int) := by rw [show ((i : Int) - 1) = ((i - 1 : Nat) : Int) by omega]; exact iw (by omega)
                have hc4 : (i - 1) * 3 + 3 ≤ ms.length * 3 := by omega
                by_cases b1 : last < mi
                · skip
                  by_cases b2 : mi < 5
                  · skip
                    by_cases b3 : mp.length = 32
                    · skip
                      by_cases b4 : mg.length = 32
                      · skip
                        rw [decide_eq_true (show last < mi by omega),decide_eq_true (show mi < 5 by omega),decide_eq_true b3,decide_eq_true b4,Bool.true_and,Bool.true_and,Bool.true_and,Bool.true_and] at hf
                        simp (disch := omega) only [↓aI,↓zP,aD,zD,aS,simprocAttr,Tryz.facts,zA,s0,s1,s5,hcl,hl,hc3,ah,hgp,hiw,hc4]
                        intro k6 hk60 hk6
                        try simp (disch := omega) only [↓aI,↓zP,aD,zD,aS,simprocAttr,Tryz.facts,zA,s0,s1,s5,hcl,hl,hc3,ah,hgp,hiw,hc4,aj hk6]
                        exact ⟨mm - 1,by omega,i + 1,mi,by omega,hf,.inr ⟨by omega,by omega,by show mi = (ms[i]).id; rw [hmi]⟩,rfl⟩
                      · skip
                        obtain rfl : R = false := by rw [← hf]; simp [b4]
                        simp (disch := omega) only [↓aI,↓zP,aD,zD,aS,simprocAttr,Tryz.facts,zA,s0,s1,s5,hcl,hl,hc3,ah,hgp,hiw,hc4]
                        intro k6 hk60 hk6
                        try simp (disch := omega) only [↓aI,↓zP,aD,zD,aS,simprocAttr,Tryz.facts,zA,s0,s1,s5,hcl,hl,hc3,ah,hgp,hiw,hc4,aj hk6]
                        exact Abs.Sub.refl _
                    · skip
                      obtain rfl : R = false := by rw [← hf]; simp [b3]
                      simp (disch := omega) only [↓aI,↓zP,aD,zD,aS,simprocAttr,Tryz.facts,zA,s0,s1,s5,hcl,hl,hc3,ah,hgp,hiw,hc4]
                      intro k6 hk60 hk6
                      try simp (disch := omega) only [↓aI,↓zP,aD,zD,aS,simprocAttr,Tryz.facts,zA,s0,s1,s5,hcl,hl,hc3,ah,hgp,hiw,hc4,aj hk6]
                      exact Abs.Sub.refl _
                  · skip
                    obtain rfl : R = false := by rw [← hf]; simp [b2]
                    simp (disch := omega) only [↓aI,↓zP,aD,zD,aS,simprocAttr,Tryz.facts,zA,s0,s1,s5,hcl,hl,hc3,ah,hgp,hiw,hc4]
                    intro k6 hk60 hk6
                    try simp (disch := omega) only [↓aI,↓zP,aD,zD,aS,simprocAttr,Tryz.facts,zA,s0,s1,s5,hcl,hl,hc3,ah,hgp,hiw,hc4,aj hk6]
                    exact Abs.Sub.refl _
                · skip
                  obtain rfl : R = false := by rw [← hf]; simp [b1]
                  simp (disch := omega) only [↓aI,↓zP,aD,zD,aS,simprocAttr,Tryz.facts,zA,s0,s1,s5,hcl,hl,hc3,ah,hgp,hiw,hc4]
                  intro k6 hk60 hk6
                  try simp (disch := omega) only [↓aI,↓zP,aD,zD,aS,simprocAttr,Tryz.facts,zA,s0,s1,s5,hcl,hl,hc3,ah,hgp,hiw,hc4,aj hk6]
                  exact Abs.Sub.refl _
            · obtain rfl : i = ms.length := by omega
              rw [List.drop_length,show docM last [] = true from rfl,Bool.true_and] at hf
              simp (disch := omega) only [↓aI,↓zP,aD,zD,aS,simprocAttr,Tryz.facts,zA,s0,s1,s5,hcl]
              refine br (c := ⟨Tryz.prog,112,[(7,[0,0,0,0,1,0,0,0,0,0,1,0,0,0,0,1,0,0,0,0,1,1,0,0,0,0,1,1,0,0]),(13,[0,0,0,0,1,0,0,0,0,0,1,0,0,0,0,1,0,0,0,0,1,0,0,0,0,1,0,0,0,0,1,0,0]),(1000006,[6]),(1000012,[8]),(4000013,[1,7,111]),(4000012,[1,7,8]),(4000007,[0,1,5,68]),(4000006,[0,1,5,6]),(4000001,[0,1,28])],[],[]⟩) Tryz.mixed (by kernel_rfl) (fun mm σ H2 => H2 = H' ∧ ∃ (i : Nat) (last : Int),i + mm = es.length ∧ docE last (es.drop i) = R ∧ ((i = 0 ∧ last = -1) ∨ (∃ h : i - 1 < es.length,0 < i ∧ 0 ≤ last ∧ last = (es[i - 1]).author)) ∧ σ 1 = fY es ∧ σ 7 = .sc (.int .i64 (i : Nat))) es.length ?_ ?_
              · refine ⟨rfl,0,-1,by omega,hf,.inl ⟨rfl,rfl⟩,?_⟩
                simp (disch := omega) only [↓aI,↓zP,aD,zD,aS,simprocAttr,Tryz.facts,zA]
                first | exact s1 | rfl
              · rintro mm σ H2 ⟨rfl,i,last,him,hf,hlast,s1,s7⟩
                by_cases hlt : i < es.length
                · have hd : es.drop i = es[i] :: es.drop (i + 1) := List.drop_eq_getElem_cons hlt
                  have hl := hle i hlt
                  have hc3 : i * 2 + 2 ≤ es.length * 2 := by omega
                  rw [hd] at hf
                  rw [show docE last (es[i] :: es.drop (i + 1)) = (decide (last < (es[i]).author) && (decide ((es[i]).author < 5) && (kC es[i] && docE (es[i]).author (es.drop (i + 1))))) from rfl] at hf
                  generalize hmi : es[i] = x at *
                  obtain ⟨xa,xs⟩ := x
                  unfold kC at hf
                  simp only [] at hf hl
                  rcases hlast with ⟨hi,hla⟩ | ⟨hil,hi,hla0,hla⟩
                  · subst hi
                    subst hla
                    simp only [Nat.zero_mul,List.drop_zero] at hl
                    by_cases b1 : -1 < xa
                    · skip
                      by_cases b2 : xa < 5
                      · skip
                        by_cases b3 : 0 ≤ xs
                        · skip
                          by_cases b4 : xs ≤ 1048576
                          · skip
                            rw [decide_eq_true b1,decide_eq_true b2,decide_eq_true b3,decide_eq_true b4,Bool.true_and,Bool.true_and,Bool.true_and,Bool.true_and] at hf
                            simp (disch := omega) only [↓aI,↓zP,aD,zD,aS,simprocAttr,Tryz.facts,zA,s1,s7,hel,hl,hc3,ah]
                            intro k6 hk60 hk6
                            try simp (disch := omega) only [↓aI,↓zP,aD,zD,aS,simprocAttr,Tryz.facts,zA,s1,s7,hel,hl,hc3,ah,aj hk6]
                            exact ⟨mm - 1,by omega,0 + 1,xa,by omega,hf,.inr ⟨by omega,by omega,by omega,by show xa = (es[0]).author; rw [hmi]⟩,rfl⟩
                          · skip
                            obtain rfl : R = false := by rw [← hf]; simp [b4]
                            simp (disch := omega) only [↓aI,↓zP,aD,zD,aS,simprocAttr,Tryz.facts,zA,s1,s7,hel,hl,hc3,ah]
                            intro k6 hk60 hk6
                            try simp (disch := omega) only [↓aI,↓zP,aD,zD,aS,simprocAttr,Tryz.facts,zA,s1,s7,hel,hl,hc3,ah,aj hk6]
                            exact Abs.Sub.refl _
                        · skip
                          obtain rfl : R = false := by rw [← hf]; simp [b3]
                          simp (disch := omega) only [↓aI,↓zP,aD,zD,aS,simprocAttr,Tryz.facts,zA,s1,s7,hel,hl,hc3,ah]
                          intro k6 hk60 hk6
                          try simp (disch := omega) only [↓aI,↓zP,aD,zD,aS,simprocAttr,Tryz.facts,zA,s1,s7,hel,hl,hc3,ah,aj hk6]
                          exact Abs.Sub.refl _
                      · skip
                        obtain rfl : R = false := by rw [← hf]; simp [b2]
                        simp (disch := omega) only [↓aI,↓zP,aD,zD,aS,simprocAttr,Tryz.facts,zA,s1,s7,hel,hl,hc3,ah]
                        intro k6 hk60 hk6
                        try simp (disch := omega) only [↓aI,↓zP,aD,zD,aS,simprocAttr,Tryz.facts,zA,s1,s7,hel,hl,hc3,ah,aj hk6]
                        exact Abs.Sub.refl _
                    · skip
                      obtain rfl : R = false := by rw [← hf]; simp [b1]
                      simp (disch := omega) only [↓aI,↓zP,aD,zD,aS,simprocAttr,Tryz.facts,zA,s1,s7,hel,hl,hc3,ah]
                      intro k6 hk60 hk6
                      try simp (disch := omega) only [↓aI,↓zP,aD,zD,aS,simprocAttr,Tryz.facts,zA,s1,s7,hel,hl,hc3,ah,aj hk6]
                      exact Abs.Sub.refl _
                  · have hgp := hge (i - 1) hil
                    rw [← hla] at hgp
                    have hiw : IntKind.i64.wrap ((i : Int) - 1) = ((i - 1 : Nat) : Int) := by rw [show ((i : Int) - 1) = ((i - 1 : Nat) : Int) by omega]; exact iw (by omega)
                    have hc4 : (i - 1) * 2 + 2 ≤ es.length * 2 := by omega
                    by_cases b1 : last < xa
                    · skip
                      by_cases b2 : xa < 5
                      · skip
                        by_cases b3 : 0 ≤ xs
                        · skip
                          by_cases b4 : xs ≤ 1048576
                          · skip
                            rw [decide_eq_true b1,decide_eq_true b2,decide_eq_true b3,decide_eq_true b4,Bool.true_and,Bool.true_and,Bool.true_and,Bool.true_and] at hf
                            simp (disch := omega) only [↓aI,↓zP,aD,zD,aS,simprocAttr,Tryz.facts,zA,s1,s7,hel,hl,hc3,ah,hgp,hiw,hc4]
                            intro k6 hk60 hk6
                            try simp (disch := omega) only [↓aI,↓zP,aD,zD,aS,simprocAttr,Tryz.facts,zA,s1,s7,hel,hl,hc3,ah,hgp,hiw,hc4,aj hk6]
                            exact ⟨mm - 1,by omega,i + 1,xa,by omega,hf,.inr ⟨by omega,by omega,by omega,by show xa = (es[i]).author; rw [hmi]⟩,rfl⟩
                          · skip
                            obtain rfl : R = false := by rw [← hf]; simp [b4]
                            simp (disch := omega) only [↓aI,↓zP,aD,zD,aS,simprocAttr,Tryz.facts,zA,s1,s7,hel,hl,hc3,ah,hgp,hiw,hc4]
                            intro k6 hk60 hk6
                            try simp (disch := omega) only [↓aI,↓zP,aD,zD,aS,simprocAttr,Tryz.facts,zA,s1,s7,hel,hl,hc3,ah,hgp,hiw,hc4,aj hk6]
                            exact Abs.Sub.refl _
                        · skip
                          obtain rfl : R = false := by rw [← hf]; simp [b3]
                          simp (disch := omega) only [↓aI,↓zP,aD,zD,aS,simprocAttr,Tryz.facts,zA,s1,s7,hel,hl,hc3,ah,hgp,hiw,hc4]
                          intro k6 hk60 hk6
                          try simp (disch := omega) only [↓aI,↓zP,aD,zD,aS,simprocAttr,Tryz.facts,zA,s1,s7,hel,hl,hc3,ah,hgp,hiw,hc4,aj hk6]
                          exact Abs.Sub.refl _
                      · skip
                        obtain rfl : R = false := by rw [← hf]; simp [b2]
                        simp (disch := omega) only [↓aI,↓zP,aD,zD,aS,simprocAttr,Tryz.facts,zA,s1,s7,hel,hl,hc3,ah,hgp,hiw,hc4]
                        intro k6 hk60 hk6
                        try simp (disch := omega) only [↓aI,↓zP,aD,zD,aS,simprocAttr,Tryz.facts,zA,s1,s7,hel,hl,hc3,ah,hgp,hiw,hc4,aj hk6]
                        exact Abs.Sub.refl _
                    · skip
                      obtain rfl : R = false := by rw [← hf]; simp [b1]
                      simp (disch := omega) only [↓aI,↓zP,aD,zD,aS,simprocAttr,Tryz.facts,zA,s1,s7,hel,hl,hc3,ah,hgp,hiw,hc4]
                      intro k6 hk60 hk6
                      try simp (disch := omega) only [↓aI,↓zP,aD,zD,aS,simprocAttr,Tryz.facts,zA,s1,s7,hel,hl,hc3,ah,hgp,hiw,hc4,aj hk6]
                      exact Abs.Sub.refl _
                · obtain rfl : i = es.length := by omega
                  rw [List.drop_length] at hf
                  unfold docE at hf
                  subst hf
                  simp (disch := omega) only [↓aI,↓zP,aD,zD,aS,simprocAttr,Tryz.facts,zA,s1,s7,hel]
                  exact Abs.Sub.refl _
      · rw [decide_eq_false c1,Bool.false_and] at hP
        subst hP
        refine az (c := ⟨Tryz.prog,112,[(7,[0,0,0,0,1,0,0,0,0,0,1,0,0,0,0,1,0,0,0,0,1,1,0,0,0,0,1,1,0,0]),(13,[0,0,0,0,1,0,0,0,0,0,1,0,0,0,0,1,0,0,0,0,1,0,0,0,0,1,0,0,0,0,1,0,0]),(1000006,[6]),(1000012,[8]),(4000013,[1,7,111]),(4000012,[1,7,8]),(4000007,[0,1,5,68]),(4000006,[0,1,5,6]),(4000001,[0,1,28])],[],[]⟩) (rs := [ResultVar.tmp 4]) Tryz.mixed Tryz.func41 rfl rfl rfl (Nat.le_of_ble_eq_true rfl) (by kernel_rfl) fun H => ?_
        simp (disch := omega) only [↓aI,↓zP,aD,zD,aS,simprocAttr,Tryz.facts,zA,hcl,hg0,hc0]
        exact Abs.Sub.refl _
end Go.Proofs.YtjlnpngaiphnmaaGreat
end
section
set_option linter.unusedSimpArgs false
set_option linter.unusedVariables false
set_option maxRecDepth 20000
set_option maxHeartbeats 8000000
namespace Go.Proofs.YtjlnpngaiphnmaaGreat
open Go Go.Abs Go.Proofs
theorem rcore_pure (b : List UInt8) (e : Ent) (hb : b.length ≤ 100) (he : OkE e) : APure Tryz.prog 70 [eu b,.agg (fX e)] (eu (b ++ gE e)) := by
  have l1 := fT 1
  have l2 := fT e.n
  have l3 := iH e.prev
  have l4 := fT e.members.length
  have l5 := mems_len he.ms he.ml
  have l6 := fT e.ends.length
  have l7 := nds_len he.el
  have q1 := he.prev
  have q2 := he.once
  have q3 := he.ml
  have q4 := he.el
  have h1 := iN b (by omega) 1
  have h2 := iN (b ++ fI 1) (by simp only [List.length_append]; omega) e.n
  have h3 := jE (b ++ fI 1 ++ fI e.n) e.prev (by simp only [List.length_append]; omega) (by omega)
  have h4 := iN (b ++ fI 1 ++ fI e.n ++ fj e.prev) (by simp only [List.length_append]; omega) e.members.length
  have h5 := iN (b ++ fI 1 ++ fI e.n ++ fj e.prev ++ fI e.members.length ++ e.members.flatMap j7) (by simp only [List.length_append]; omega) e.ends.length
  have h6 := jE (b ++ fI 1 ++ fI e.n ++ fj e.prev ++ fI e.members.length ++ e.members.flatMap j7 ++ fI e.ends.length ++ e.ends.flatMap ndL) e.once (by simp only [List.length_append]; omega) (by omega)
  have hfin : b ++ fI 1 ++ fI e.n ++ fj e.prev ++ fI e.members.length ++ e.members.flatMap j7 ++ fI e.ends.length ++ e.ends.flatMap ndL ++ fj e.once = b ++ gE e := by
    unfold gE
    simp only [List.append_assoc]
  rw [hfin] at h6
  have lp4 : (b ++ fI 1 ++ fI e.n ++ fj e.prev ++ fI e.members.length).length ≤ 6000 := by simp only [List.length_append]; omega
  have lp6 : (b ++ fI 1 ++ fI e.n ++ fj e.prev ++ fI e.members.length ++ e.members.flatMap j7 ++ fI e.ends.length).length ≤ 1020000 := by simp only [List.length_append]; omega
  generalize b ++ gE e = R at *
  generalize b ++ fI 1 ++ fI e.n ++ fj e.prev ++ fI e.members.length = p4 at *
  generalize b ++ fI 1 ++ fI e.n ++ fj e.prev = p3 at *
  generalize b ++ fI 1 ++ fI e.n = p2 at *
  generalize b ++ fI 1 = p1 at *
  obtain ⟨Z,hZ⟩ : ∃ Z : Nat → List UInt8,∀ i,Z i = p4 ++ (e.members.take i).flatMap j7 := ⟨_,fun _ => rfl⟩
  have hZ0 : p4 = Z 0 := by rw [hZ]; simp
  have hZn : p4 ++ e.members.flatMap j7 = Z e.members.length := by rw [hZ,List.take_length]
  have hZl : ∀ i,(Z i).length ≤ 1010000 := fun i => by
    rw [hZ,List.length_append]
    have := Nat.le_trans (iO j7 10021 (e.members.take i) fun x hx => memL_len (he.ms x (List.mem_of_mem_take hx))) (Nat.mul_le_mul_right _ (List.length_take_le' i e.members))
    omega
  have hZs : ∀ i (h : i < e.members.length),Z (i + 1) = Z i ++ fI (e.members[i]).id ++ fj (e.members[i]).pub ++ fj (e.members[i]).sgn := fun i h => by
    rw [hZ,hZ,jH j7 h]
    unfold j7
    simp only [List.append_assoc]
  rw [hZn] at h5 h6 lp6
  rw [hZ0] at h4
  generalize Z e.members.length ++ fI e.ends.length = p6 at *
  obtain ⟨Y,hY⟩ : ∃ Y : Nat → List UInt8,∀ i,Y i = p6 ++ (e.ends.take i).flatMap ndL := ⟨_,fun _ => rfl⟩
  have hY0 : p6 = Y 0 := by rw [hY]; simp
  have hYn : p6 ++ e.ends.flatMap ndL = Y e.ends.length := by rw [hY,List.take_length]
  have hYl : ∀ i,(Y i).length ≤ 1040000 := fun i => by
    rw [hY,List.length_append]
    have := Nat.le_trans (iO ndL 14 (e.ends.take i) fun x _ => ndL_len x) (Nat.mul_le_mul_right _ (List.length_take_le' i e.ends))
    omega
  have hYs : ∀ i (h : i < e.ends.length),Y (i + 1) = Y i ++ fI (e.ends[i]).author ++ fI (e.ends[i]).seq := fun i h => by
    rw [hY,hY,jH ndL h]
    unfold ndL
    simp only [List.append_assoc]
  rw [hYn] at h6
  rw [hY0] at h5
  have hms := he.ms
  clear hZ hY hZ0 hY0 hZn hYn lp4 lp6 l1 l2 l3 l4 l5 l6 l7
  obtain ⟨n,prev,ms,es,once,bs,sig⟩ := e
  simp only [fX] at *
  have hml : (ms.flatMap fL).length = ms.length * 3 := fF fU ms
  have hel : (es.flatMap ndC).length = es.length * 2 := fF gZ es
  refine az (c := ⟨Tryz.prog,79,[(1,[0,0,0,1,0,0,1,0,0,1,1,0,0]),(5,[0,0,1,0,0,0,1,0,0,1,0,0,0,1,0,0,1,0,0,0,1,0,0]),(10,[0,0,1,0,0,0,1,0,0,1,0,0,0,1,0,0]),(1000000,[3]),(4000011,[4]),(4000010,[0,3,6]),(4000008,[0,3,6,57]),(4000006,[0,3]),(4000005,[0,3,5]),(4000003,[0,3,5,23]),(4000001,[0,3])],[],[]⟩) (rs := [ResultVar.tmp 4]) Tryz.mixed Tryz.func70 rfl rfl rfl (Nat.le_of_ble_eq_true rfl) (by kernel_rfl) fun H => ?_
  simp (disch := omega) only [↓aI,↓zP,aD,zD,aS,simprocAttr,Tryz.facts,zA]
  intro k hk0 hk
  try simp (disch := omega) only [↓aI,↓zP,aD,zD,aS,simprocAttr,Tryz.facts,zA,aj hk]
  first | refine CallK.p (h1) ?_ | refine CallP.i (h1) ?_
  simp (disch := omega) only [↓aI,↓zP,aD,zD,aS,simprocAttr,Tryz.facts,zA]
  first | refine CallK.p (h2) ?_ | refine CallP.i (h2) ?_
  simp (disch := omega) only [↓aI,↓zP,aD,zD,aS,simprocAttr,Tryz.facts,zA]
  first | refine CallK.p (h3) ?_ | refine CallP.i (h3) ?_
  simp (disch := omega) only [↓aI,↓zP,aD,zD,aS,simprocAttr,Tryz.facts,zA]
  first | refine CallK.p (h4) ?_ | refine CallP.i (h4) ?_
  simp (disch := omega) only [↓aI,↓zP,aD,zD,aS,simprocAttr,Tryz.facts,zA]
  refine br (c := ⟨Tryz.prog,79,[(1,[0,0,0,1,0,0,1,0,0,1,1,0,0]),(5,[0,0,1,0,0,0,1,0,0,1,0,0,0,1,0,0,1,0,0,0,1,0,0]),(10,[0,0,1,0,0,0,1,0,0,1,0,0,0,1,0,0]),(1000000,[3]),(4000011,[4]),(4000010,[0,3,6]),(4000008,[0,3,6,57]),(4000006,[0,3]),(4000005,[0,3,5]),(4000003,[0,3,5,23]),(4000001,[0,3])],[],[]⟩) Tryz.mixed (by kernel_rfl) (fun mm σ H' => H' = H ∧ ∃ (i : Nat),i + mm = ms.length ∧ σ 0 = eu (Z i) ∧ σ 3 = .ip [.sc (.int .i64 n),eu prev,fE ms,fY es,eu once,fZ bs,eu sig] 0 ∧ σ 5 = .sc (.int .i64 (i : Nat))) ms.length ?_ ?_
  · refine ⟨aj hk,0,by omega,?_⟩
    simp (disch := omega) only [↓aI,↓zP,aD,zD,aS,simprocAttr,Tryz.facts,zA]
    try rfl
  · rintro mm σ H' ⟨rfl,i,him,s0,s3,s5⟩
    by_cases hlt : i < ms.length
    · have hg0 : (ms.flatMap fL)[i * 3]? = some (.sc (.int .i64 (ms[i]).id)) := gu fU (j := 0) hlt (by omega)
      have hg1 : (ms.flatMap fL)[i * 3 + 1]? = some (eu (ms[i]).pub) := gu fU (j := 1) hlt (by omega)
      have hg2 : (ms.flatMap fL)[i * 3 + 2]? = some (eu (ms[i]).sgn) := gu fU (j := 2) hlt (by omega)
      have hm := hms ms[i] (List.getElem_mem hlt)
      have hz := hZl i
      have lq1 := fT (ms[i]).id
      have lq2 := iH (ms[i]).pub
      have a1 := iN (Z i) (by omega) (ms[i]).id
      have a2 := jE (Z i ++ fI (ms[i]).id) (ms[i]).pub (by simp only [List.length_append]; omega) (by omega)
      have a3 := jE (Z i ++ fI (ms[i]).id ++ fj (ms[i]).pub) (ms[i]).sgn (by simp only [List.length_append]; omega) (by omega)
      rw [← hZs i hlt] at a3
      have hc3 : i * 3 + 3 ≤ ms.length * 3 := by omega
      generalize Z i ++ fI (ms[i]).id = A at *
      generalize A ++ fj (ms[i]).pub = B at *
      generalize ms[i] = m at *
      obtain ⟨mi,mp,mg⟩ := m
      simp only [] at hg0 hg1 hg2 a1 a2 a3
      simp (disch := omega) only [↓aI,↓zP,aD,zD,aS,simprocAttr,Tryz.facts,zA,s0,s3,s5,hml,hg0,hg1,hg2,hc3]
      first | refine CallK.p (a1) ?_ | refine CallP.i (a1) ?_
      simp (disch := omega) only [↓aI,↓zP,aD,zD,aS,simprocAttr,Tryz.facts,zA,s0,s3,s5,hml,hg0,hg1,hg2,hc3]
      first | refine CallK.p (a2) ?_ | refine CallP.i (a2) ?_
      simp (disch := omega) only [↓aI,↓zP,aD,zD,aS,simprocAttr,Tryz.facts,zA,s0,s3,s5,hml,hg0,hg1,hg2,hc3]
      first | refine CallK.p (a3) ?_ | refine CallP.i (a3) ?_
      simp (disch := omega) only [↓aI,↓zP,aD,zD,aS,simprocAttr,Tryz.facts,zA,s0,s3,s5,hml,hg0,hg1,hg2,hc3]
      exact ⟨mm - 1,by omega,i + 1,by omega,rfl,rfl⟩
    · obtain rfl : i = ms.length := by omega
      simp (disch := omega) only [↓aI,↓zP,aD,zD,aS,simprocAttr,Tryz.facts,zA,s0,s3,s5]
      first | refine CallK.p (h5) ?_ | refine CallP.i (h5) ?_
      simp (disch := omega) only [↓aI,↓zP,aD,zD,aS,simprocAttr,Tryz.facts,zA,s0,s3,s5]
      refine br (c := ⟨Tryz.prog,79,[(1,[0,0,0,1,0,0,1,0,0,1,1,0,0]),(5,[0,0,1,0,0,0,1,0,0,1,0,0,0,1,0,0,1,0,0,0,1,0,0]),(10,[0,0,1,0,0,0,1,0,0,1,0,0,0,1,0,0]),(1000000,[3]),(4000011,[4]),(4000010,[0,3,6]),(4000008,[0,3,6,57]),(4000006,[0,3]),(4000005,[0,3,5]),(4000003,[0,3,5,23]),(4000001,[0,3])],[],[]⟩) Tryz.mixed (by kernel_rfl) (fun mm σ H2 => H2 = H' ∧ ∃ (i : Nat),i + mm = es.length ∧ σ 0 = eu (Y i) ∧ σ 3 = .ip [.sc (.int .i64 n),eu prev,fE ms,fY es,eu once,fZ bs,eu sig] 0 ∧ σ 6 = .sc (.int .i64 (i : Nat))) es.length ?_ ?_
      · refine ⟨rfl,0,by omega,?_⟩
        simp (disch := omega) only [↓aI,↓zP,aD,zD,aS,simprocAttr,Tryz.facts,zA,s3]
      · rintro mm σ H2 ⟨rfl,i,him,s0,s3,s6⟩
        by_cases hlt : i < es.length
        · have hg0 : (es.flatMap ndC)[i * 2]? = some (.sc (.int .i64 (es[i]).author)) := gu gZ (j := 0) hlt (by omega)
          have hg1 : (es.flatMap ndC)[i * 2 + 1]? = some (.sc (.int .i64 (es[i]).seq)) := gu gZ (j := 1) hlt (by omega)
          have hz := hYl i
          have lq1 := fT (es[i]).author
          have a1 := iN (Y i) (by omega) (es[i]).author
          have a2 := iN (Y i ++ fI (es[i]).author) (by simp only [List.length_append]; omega) (es[i]).seq
          rw [← hYs i hlt] at a2
          have hc3 : i * 2 + 2 ≤ es.length * 2 := by omega
          generalize Y i ++ fI (es[i]).author = A at *
          generalize es[i] = x at *
          obtain ⟨xa,xs⟩ := x
          simp only [] at hg0 hg1 a1 a2
          simp (disch := omega) only [↓aI,↓zP,aD,zD,aS,simprocAttr,Tryz.facts,zA,s0,s3,s6,hel,hg0,hg1,hc3]
          first | refine CallK.p (a1) ?_ | refine CallP.i (a1) ?_
          simp (disch := omega) only [↓aI,↓zP,aD,zD,aS,simprocAttr,Tryz.facts,zA,s0,s3,s6,hel,hg0,hg1,hc3]
          first | refine CallK.p (a2) ?_ | refine CallP.i (a2) ?_
          simp (disch := omega) only [↓aI,↓zP,aD,zD,aS,simprocAttr,Tryz.facts,zA,s0,s3,s6,hel,hg0,hg1,hc3]
          exact ⟨mm - 1,by omega,i + 1,by omega,rfl,rfl⟩
        · obtain rfl : i = es.length := by omega
          simp (disch := omega) only [↓aI,↓zP,aD,zD,aS,simprocAttr,Tryz.facts,zA,s0,s3,s6]
          first | refine CallK.p (h6) ?_ | refine CallP.i (h6) ?_
          simp (disch := omega) only [↓aI,↓zP,aD,zD,aS,simprocAttr,Tryz.facts,zA,s0,s3,s6]
          exact Abs.Sub.refl _
theorem rwhole_pure (b : List UInt8) (e : Ent) (hb : b.length ≤ 100) (he : OkE e) : APure Tryz.prog 45 [eu b,.agg (fX e)] (eu (b ++ fV e)) := by
  have l1 := iz he
  have l2 := fT e.boxes.length
  have l3 := he.bl
  have h1 := rcore_pure b e hb he
  have h2 := iN (b ++ gE e) (by simp only [List.length_append]; omega) e.boxes.length
  have hfin : b ++ gE e ++ fI e.boxes.length ++ e.boxes.flatMap fj = b ++ fV e := by
    unfold fV
    simp only [List.append_assoc]
  have lp : (b ++ gE e ++ fI e.boxes.length).length ≤ 1030200 := by simp only [List.length_append]; omega
  rw [← hfin]
  generalize b ++ gE e ++ fI e.boxes.length = p2 at *
  generalize b ++ gE e = p1 at *
  obtain ⟨Z,hZ⟩ : ∃ Z : Nat → List UInt8,∀ i,Z i = p2 ++ (e.boxes.take i).flatMap fj := ⟨_,fun _ => rfl⟩
  have hZ0 : p2 = Z 0 := by rw [hZ]; simp
  have hZn : p2 ++ e.boxes.flatMap fj = Z e.boxes.length := by rw [hZ,List.take_length]
  have hZl : ∀ i,(Z i).length ≤ 1540000 := fun i => by
    rw [hZ,List.length_append]
    have := Nat.le_trans (iO fj 5007 (e.boxes.take i) fun x hx => by have := iH x; have := he.bs x (List.mem_of_mem_take hx); omega) (Nat.mul_le_mul_right _ (List.length_take_le' i e.boxes))
    omega
  have hZs : ∀ i (h : i < e.boxes.length),Z (i + 1) = Z i ++ fj (e.boxes[i]) := fun i h => by
    rw [hZ,hZ,jH fj h,List.append_assoc]
  have hbs := he.bs
  rw [hZn]
  rw [hZ0] at h2
  clear hZ hZ0 hZn hfin lp l1
  obtain ⟨n,prev,ms,es,once,bs,sig⟩ := e
  simp only [fX] at *
  have hbl : (bs.map eu).length = bs.length := by simp
  refine az (c := ⟨Tryz.prog,28,[(1,[0,1,0,0,1,1,0,0]),(1000000,[3])],[],[]⟩) (rs := [ResultVar.tmp 4]) Tryz.mixed Tryz.func45 rfl rfl rfl (Nat.le_of_ble_eq_true rfl) (by kernel_rfl) fun H => ?_
  simp (disch := omega) only [↓aI,↓zP,aD,zD,aS,simprocAttr,Tryz.facts,zA]
  intro k hk0 hk
  try simp (disch := omega) only [↓aI,↓zP,aD,zD,aS,simprocAttr,Tryz.facts,zA,aj hk]
  first | refine CallK.p (h1) ?_ | refine CallP.i (h1) ?_
  simp (disch := omega) only [↓aI,↓zP,aD,zD,aS,simprocAttr,Tryz.facts,zA]
  first | refine CallK.p (h2) ?_ | refine CallP.i (h2) ?_
  simp (disch := omega) only [↓aI,↓zP,aD,zD,aS,simprocAttr,Tryz.facts,zA]
  refine br (c := ⟨Tryz.prog,28,[(1,[0,1,0,0,1,1,0,0]),(1000000,[3])],[],[]⟩) Tryz.mixed (by kernel_rfl) (fun mm σ H' => H' = H ∧ ∃ (i : Nat),i + mm = bs.length ∧ σ 0 = eu (Z i) ∧ σ 3 = .ip [.sc (.int .i64 n),eu prev,fE ms,fY es,eu once,fZ bs,eu sig] 0 ∧ σ 5 = .sc (.int .i64 (i : Nat))) bs.length ?_ ?_
  · refine ⟨aj hk,0,by omega,?_⟩
    simp (disch := omega) only [↓aI,↓zP,aD,zD,aS,simprocAttr,Tryz.facts,zA]
    try rfl
  · rintro mm σ H' ⟨rfl,i,him,s0,s3,s5⟩
    by_cases hlt : i < bs.length
    · have hg := box_get hlt
      have hz := hZl i
      have hb5 := hbs bs[i] (List.getElem_mem hlt)
      have a1 := jE (Z i) (bs[i]) (by omega) (by omega)
      rw [← hZs i hlt] at a1
      generalize bs[i] = x at *
      simp (disch := omega) only [↓aI,↓zP,aD,zD,aS,simprocAttr,Tryz.facts,zA,s0,s3,s5,hbl,hg]
      first | refine CallK.p (a1) ?_ | refine CallP.i (a1) ?_
      simp (disch := omega) only [↓aI,↓zP,aD,zD,aS,simprocAttr,Tryz.facts,zA,s0,s3,s5]
      exact ⟨mm - 1,by omega,i + 1,by omega,rfl,rfl⟩
    · obtain rfl : i = bs.length := by omega
      simp (disch := omega) only [↓aI,↓zP,aD,zD,aS,simprocAttr,Tryz.facts,zA,s0,s3,s5]
      first | exact Abs.Sub.refl _ | exact ⟨rfl,Abs.Sub.refl _⟩
theorem rputR_pure (b : List UInt8) (e : Ent) (hb : b.length ≤ 100) (he : OkE e) : APure Tryz.prog 13 [eu b,.agg (fX e)] (eu (b ++ jy e)) := by
  have l1 := iM he
  have l2 := he.sig
  have h1 := rwhole_pure b e hb he
  have h2 := jE (b ++ fV e) e.sig (by simp only [List.length_append]; omega) (by omega)
  have hfin : b ++ fV e ++ fj e.sig = b ++ jy e := by
    unfold jy
    simp only [List.append_assoc]
  rw [hfin] at h2
  generalize b ++ jy e = R at *
  generalize b ++ fV e = p1 at *
  clear hfin l1
  obtain ⟨n,prev,ms,es,once,bs,sig⟩ := e
  simp only [fX] at *
  refine az (c := ⟨Tryz.prog,11,[(1,[0,1,0,0,1,0,0]),(1000000,[3])],[],[]⟩) (rs := [ResultVar.tmp 4]) Tryz.mixed Tryz.func13 rfl rfl rfl (Nat.le_of_ble_eq_true rfl) (by kernel_rfl) fun H => ?_
  simp (disch := omega) only [↓aI,↓zP,aD,zD,aS,simprocAttr,Tryz.facts,zA]
  intro k hk0 hk
  try simp (disch := omega) only [↓aI,↓zP,aD,zD,aS,simprocAttr,Tryz.facts,zA,aj hk]
  first | refine CallK.p (h1) ?_ | refine CallP.i (h1) ?_
  simp (disch := omega) only [↓aI,↓zP,aD,zD,aS,simprocAttr,Tryz.facts,zA]
  first | refine CallK.p (h2) ?_ | refine CallP.i (h2) ?_
  simp (disch := omega) only [↓aI,↓zP,aD,zD,aS,simprocAttr,Tryz.facts,zA]
  first | exact Abs.Sub.refl _ | exact Sub.box hk | exact ⟨rfl,Abs.Sub.refl _⟩ | (trace_state; fail)
end Go.Proofs.YtjlnpngaiphnmaaGreat
end
