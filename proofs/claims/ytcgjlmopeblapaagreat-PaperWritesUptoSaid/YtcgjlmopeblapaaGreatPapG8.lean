/-
  Several texts in one: each says what it proves.
  Conditions: none. Lemmas only.
-/
import Derived.Test.YtcgjlmopeblapaaGreatPapG3
set_option linter.all false
section
set_option linter.unusedSimpArgs false
set_option linter.unusedVariables false
set_option maxRecDepth 8000
set_option maxHeartbeats 4000000
namespace Go.Proofs.YtcgjlmopeblapaaGreat
open Go Go.Abs Go.Proofs Go.Fug
abbrev papR (P : List Opn) : AV := .agg [opsV P]
def knownR (P : List Opn) (o : Opn) : Bool := opR o && P.any fun x => oneO x o
theorem rknows_pure (P : List Opn) (o : Opn) (hP : P.length ≤ 1000000) : APure Tryz.prog 51 [papR P,.agg (opC o)] (.sc (.bool (knownR P o))) := by
  have hol := cq P
  have hr := rright18_pure o
  have h1 := fun x => one_pure x o
  have hB : knownR P o = (opR o && P.any fun x => oneO x o) := rfl
  have hcl := opC_len o
  have hst0 : (opC o).map AV.strip0 = opC o := rfl
  have hst1 : ∀ x,(opC x).map AV.strip0 = opC x := fun x => rfl
  generalize knownR P o = B at *
  generalize opR o = r at *
  have hone : ∀ i (h : i < P.length),(P.take (i + 1)).any (fun x => oneO x o) = ((P.take i).any (fun x => oneO x o) || oneO P[i] o) := fun i h => by
    rw [List.take_succ_eq_append_getElem h,List.any_append,List.any_cons,List.any_nil,Bool.or_false]
  have hany : ∀ i (h : i < P.length),oneO P[i] o = true → P.any (fun x => oneO x o) = true := fun i h e => List.any_eq_true.2 ⟨_,List.getElem_mem h,e⟩
  generalize (fun x => oneO x o) = F at *
  generalize opC o = C at *
  have hct : C.take 19 = C := List.take_of_length_le (by omega)
  refine az (c := ⟨Tryz.prog,24,[(4,[1,0,0,0,1,0,0,1,1,0,0]),(1000000,[3,2])],[],[]⟩) (rs := [ResultVar.tmp 4]) Tryz.mixed Tryz.func51 rfl rfl rfl (Nat.le_of_ble_eq_true rfl) (by kernel_rfl) fun H => ?_
  simp (disch := omega) only [↓aI,↓zP,aD,zD,aS,simprocAttr,Tryz.facts,hcl]
  intro k1 hk10 hk1 k2 hk20 hk2
  simp (disch := omega) only [↓aI,↓zP,aD,zD,aS,simprocAttr,Tryz.facts,aj hk2,aj hk1,hcl,hct]
  refine br (c := ⟨Tryz.prog,24,[(4,[1,0,0,0,1,0,0,1,1,0,0]),(1000000,[3,2])],[],[]⟩) Tryz.mixed (by kernel_rfl) (fun mm σ H' => H' = H ∧ ∃ i,i + mm = P.length ∧ (r && (P.take i).any F) = false ∧ σ 2 = .ip [opsV P] 0 ∧ σ 3 = .ip C 0 ∧ σ 5 = .sc (.int .i64 (i : Nat))) P.length ?_ ?_
  · refine ⟨rfl,0,by omega,by simp,?_⟩
    simp (disch := omega) only [↓aI,↓zP,aD,zD,aS,simprocAttr,Tryz.facts]
    try rfl
  · rintro mm σ H' ⟨rfl,i,him,hno,h2,h3,h5⟩
    by_cases hlt : i < P.length
    · have hld := opsC_load hlt
      have hle' : i * 19 + 19 ≤ P.length * 19 := by omega
      have h1' := h1 P[i]
      have hst := hone i hlt
      have hya := hany i hlt
      generalize P[i] = q at *
      simp (disch := omega) only [↓aI,↓zP,aD,zD,aS,simprocAttr,Tryz.facts,h2,h3,h5,zA,hol,hcl,hct,hst0,hst1]
      cases r
      · skip
        first | refine CallK.p (hr) ?_ | refine CallP.i (hr) ?_
        simp (disch := omega) only [↓aI,↓zP,aD,zD,aS,simprocAttr,Tryz.facts,h2,h3,h5,zA,hol,hcl,hct,hst0,hst1,hld,hle']
        exact ⟨mm - 1,by omega,i + 1,by omega,rfl⟩
      · cases ho : oneO q o
        · rw [ho] at h1' hst
          first | refine CallK.p (hr) ?_ | refine CallP.i (hr) ?_
          simp (disch := omega) only [↓aI,↓zP,aD,zD,aS,simprocAttr,Tryz.facts,h2,h3,h5,zA,hol,hcl,hct,hst0,hst1,hld,hle']
          first | refine CallK.p (h1') ?_ | refine CallP.i (h1') ?_
          simp (disch := omega) only [↓aI,↓zP,aD,zD,aS,simprocAttr,Tryz.facts,h2,h3,h5,zA,hol,hcl,hct,hst0,hst1,hld,hle']
          exact ⟨mm - 1,by omega,i + 1,by omega,by rw [hst,Bool.or_false]; exact hno,rfl⟩
        · rw [ho] at h1'
          obtain rfl : B = true := by rw [hB,hya ho]; rfl
          first | refine CallK.p (hr) ?_ | refine CallP.i (hr) ?_
          simp (disch := omega) only [↓aI,↓zP,aD,zD,aS,simprocAttr,Tryz.facts,h2,h3,h5,zA,hol,hcl,hct,hst0,hst1,hld,hle']
          first | refine CallK.p (h1') ?_ | refine CallP.i (h1') ?_
          simp (disch := omega) only [↓aI,↓zP,aD,zD,aS,simprocAttr,Tryz.facts,h2,h3,h5,zA,hol,hcl,hct,hst0,hst1,hld,hle']
          exact Abs.Sub.refl _
    · obtain rfl : i = P.length := by omega
      rw [List.take_length] at hno
      obtain rfl := hB.trans hno
      simp (disch := omega) only [↓aI,↓zP,aD,zD,aS,simprocAttr,Tryz.facts,h2,h3,h5,zA,hol]
      exact Abs.Sub.refl _
structure RD (H Hx : AH) (b4 b6 k : Nat) (Q : List Opn) : Prop where
  sub : Abs.Sub H Hx
  f4 : H b4 = none
  f6 : H b6 = none
  fk : H k = none
  n46 : ¬ b4 = b6
  v4 : Hx b4 = some (.cells [.sc (.slice none 0 0)] 30 1)
  v6 : Hx b6 = some (.cells [.imm k (dL Q) Q.length] 30 1)
  k0 : ¬ k = 0
  tok : ∃ o,Hx k = some o ∧ cy 58 19 o (Q.length * 19)
theorem opsC_kind {l : List Opn} {i : Nat} (h : i < l.length) : (dL l)[i * 19]? = some (.sc (.int .i64 l[i].kind)) := by
  have h2 : (((dL l).drop (i * 19)).take 19)[0]? = some (.sc (.int .i64 l[i].kind)) := by rw [opsC_load h]; rfl
  rwa [List.getElem?_take_of_lt (by omega),List.getElem?_drop,Nat.add_zero] at h2
def rFresh (P : List Opn) (o : Opn) : List Opn := if knownR P o = true then P else P ++ [o]
def rDo (P l : List Opn) : Int × List Opn :=
  if l.all opR = false then (1,P)
  else if 4096 < (l.foldl rFresh P).length ∨ 512 < dI (l.foldl rFresh P) then (14,P)
  else (0,l.foldl rFresh P)
theorem rdo_pure (P l : List Opn) (hP : P.length ≤ 100000) (hl : l.length ≤ 100000) : APure Tryz.prog 19 [papR P,opsV l] (.tup [papR (rDo P l).2,.sc (.int .i64 (rDo P l).1)]) := by
  have hol := cq P
  have hll := cq l
  have hst1 : ∀ x,(opC x).map AV.strip0 = opC x := fun x => rfl
  have hR : rDo P l = if l.all opR = false then (1,P) else if 4096 < (l.foldl rFresh P).length ∨ 512 < dI (l.foldl rFresh P) then (14,P) else (0,l.foldl rFresh P) := rfl
  generalize rDo P l = R at *
  refine az (c := ⟨Tryz.prog,77,[(10,[1,0,0,0,1,0,0]),(11,[0,1,0,0,0,1,0,2,0,2]),(1000000,[2]),(4000018,[2,4,6,74]),(4000016,[2,4,6,9,10,64]),(4000014,[2,4,6,9,10,55]),(4000011,[1,2,4,6,8]),(4000010,[1,2,4,6,8,41]),(4000005,[1,2,4,6,7,27]),(4000001,[1,2,4,6])],[11],[]⟩) (rs := [ResultVar.cell 4 30,ResultVar.tmp 5]) Tryz.mixed Tryz.func19 rfl rfl rfl (Nat.le_of_ble_eq_true rfl) (by kernel_rfl) fun H => ?_
  simp (disch := omega) only [↓aI,↓zP,aD,zD,aS,simprocAttr,Tryz.facts]
  intro b2 hb20 hb2 b4 hb40 hb4
  have hb4H := am hb4
  have n24 := bK hb4
  simp (disch := omega) only [↓aI,↓zP,aD,zD,aS,simprocAttr,Tryz.facts,aP,n24,bH hb2 n24,ah]
  intro b11 hb110 hb11
  try simp (disch := omega) only [↓aI,↓zP,aD,zD,aS,simprocAttr,Tryz.facts,aP,n24,bH hb2 n24,ah]
  intro k o hk0 hk ho
  try simp (disch := omega) only [↓aI,↓zP,aD,zD,aS,simprocAttr,Tryz.facts,aP,n24,bH hb2 n24,ah]
  intro b6 hb60 hb6
  have hn1 := bK hb6
  have hn2 := bK (am hb6)
  have hn3 := bK (am hk)
  have hkH := am (am hk)
  have hb6H := am (am hb6)
  try simp (disch := omega) only [↓aI,↓zP,aD,zD,aS,simprocAttr,Tryz.facts,aP,n24,bH hb2 n24,ah]
  have rd : ∃ Hx,Hx = ((H.set b4 (.cells [.sc (.slice none 0 0)] 30 1)).set k o).set b6 (.cells [.imm k (dL P) P.length] 30 1) ∧ RD H Hx b4 b6 k P := by
    refine ⟨_,rfl,(Sub.set_new hb4H).trans ((Sub.set_new (am hk)).trans (Sub.set_new hb6)),hb4H,hb6H,hkH,hn2,?_,set_get,hk0,o,?_,?_⟩
    · rw [aP hn2,aP hn3,set_get]
    · rw [aP hn1,set_get]
    · rw [← hol]; exact ho
  obtain ⟨Hx,hHx,rd⟩ := rd
  rw [← hHx]
  clear hHx hb2 hb4 hb11 hk ho hb6 hb4H n24 hn1 hn2 hn3 hkH hb6H hk0 o hb110 b11
  have v4 := rd.v4
  refine br (c := ⟨Tryz.prog,77,[(10,[1,0,0,0,1,0,0]),(11,[0,1,0,0,0,1,0,2,0,2]),(1000000,[2]),(4000018,[2,4,6,74]),(4000016,[2,4,6,9,10,64]),(4000014,[2,4,6,9,10,55]),(4000011,[1,2,4,6,8]),(4000010,[1,2,4,6,8,41]),(4000005,[1,2,4,6,7,27]),(4000001,[1,2,4,6])],[11],[]⟩) Tryz.mixed (by kernel_rfl) (fun mm σ H' => H' = Hx ∧ ∃ i,i + mm = l.length ∧ (∀ q ∈ l.take i,opR q = true) ∧ σ 1 = opsV l ∧ σ 2 = .ip [opsV P] 0 ∧ σ 4 = .ptr b4 0 ∧ σ 6 = .ptr b6 0 ∧ σ 7 = .sc (.int .i64 (i : Nat))) l.length ?_ ?_
  · refine ⟨rfl,0,by omega,by simp,?_⟩
    simp (disch := omega) only [↓aI,↓zP,aD,zD,aS,simprocAttr,Tryz.facts]
    try rfl
  · rintro mm σ H' ⟨rfl,i,him,hno,s1,s2,s4,s6,s7⟩
    by_cases hlt : i < l.length
    · have hld := opsC_load hlt
      have hle' : i * 19 + 19 ≤ l.length * 19 := by omega
      have hq := rright18_pure l[i]
      have hmem : l[i] ∈ l := List.getElem_mem hlt
      have htk : ∀ q ∈ l.take (i + 1),q ∈ l.take i ∨ q = l[i] := fun q hq => by
        rw [List.take_succ_eq_append_getElem hlt] at hq
        rcases List.mem_append.1 hq with h1 | h1
        · exact .inl h1
        · exact .inr (List.mem_singleton.1 h1)
      generalize l[i] = q at *
      cases hr : opR q
      · rw [hr] at hq
        have hall : l.all opR = false := List.all_eq_false.2 ⟨q,hmem,by rw [hr]; simp⟩
        rw [if_pos hall] at hR
        subst hR
        simp (disch := omega) only [↓aI,↓zP,aD,zD,aS,simprocAttr,Tryz.facts,s1,s2,s4,s6,s7,zA,hld,hle',hll,opC_len,hst1]
        first | refine CallK.p (hq) ?_ | refine CallP.i (hq) ?_
        simp (disch := omega) only [↓aI,↓zP,aD,zD,aS,simprocAttr,Tryz.facts,s1,s2,s4,s6,s7,zA,hld,hle',hll,opC_len,hst1,v4,hol,ah]
        exact rd.sub.set_free rd.f4
      · rw [hr] at hq
        have hno2 : ∀ z ∈ l.take (i + 1),opR z = true := fun z hz => by
          rcases htk z hz with h1 | rfl
          · exact hno z h1
          · exact hr
        simp (disch := omega) only [↓aI,↓zP,aD,zD,aS,simprocAttr,Tryz.facts,s1,s2,s4,s6,s7,zA,hld,hle',hll,opC_len,hst1]
        first | refine CallK.p (hq) ?_ | refine CallP.i (hq) ?_
        simp (disch := omega) only [↓aI,↓zP,aD,zD,aS,simprocAttr,Tryz.facts,s1,s2,s4,s6,s7,zA,hld,hle',hll,opC_len,hst1]
        exact ⟨mm - 1,by omega,i + 1,by omega,hno2,rfl⟩
    · obtain rfl : i = l.length := by omega
      rw [List.take_length] at hno
      rw [if_neg (by rw [List.all_eq_true.2 hno]; simp)] at hR
      clear hno
      simp (disch := omega) only [↓aI,↓zP,aD,zD,aS,simprocAttr,Tryz.facts,s1,s2,s4,s6,s7,zA,hll]
      refine br (c := ⟨Tryz.prog,77,[(10,[1,0,0,0,1,0,0]),(11,[0,1,0,0,0,1,0,2,0,2]),(1000000,[2]),(4000018,[2,4,6,74]),(4000016,[2,4,6,9,10,64]),(4000014,[2,4,6,9,10,55]),(4000011,[1,2,4,6,8]),(4000010,[1,2,4,6,8,41]),(4000005,[1,2,4,6,7,27]),(4000001,[1,2,4,6])],[11],[]⟩) Tryz.mixed (by kernel_rfl) (fun mm σ H' => ∃ (i k : Nat) (Q : List Opn),i + mm = l.length ∧ Q = (l.take i).foldl rFresh P ∧ Q.length ≤ P.length + i ∧ RD H H' b4 b6 k Q ∧ σ 1 = opsV l ∧ σ 2 = .ip [opsV P] 0 ∧ σ 4 = .ptr b4 0 ∧ σ 6 = .ptr b6 0 ∧ σ 8 = .sc (.int .i64 (i : Nat))) l.length ?_ ?_
      · refine ⟨0,k,P,by omega,rfl,by omega,rd,?_⟩
        simp (disch := omega) only [↓aI,↓zP,aD,zD,aS,simprocAttr,Tryz.facts,s1,s2,s4,s6]
        try rfl
      · clear s1 s2 s4 s6 s7 him v4 rd
        rintro mm σ H2 ⟨i,k,Q,him,hQ,hQl,rd,s1,s2,s4,s6,s8⟩
        have v6 := rd.v6
        have v4 := rd.v4
        obtain ⟨o,vk,ho⟩ := rd.tok
        by_cases hlt : i < l.length
        · have hld := opsC_load hlt
          have hle' : i * 19 + 19 ≤ l.length * 19 := by omega
          have hkn := rknows_pure Q l[i] (by omega)
          have hst : (l.take (i + 1)).foldl rFresh P = rFresh Q l[i] := by
            rw [List.take_succ_eq_append_getElem hlt,List.foldl_append,← hQ]
            rfl
          unfold rFresh at hst
          have hoq := cq Q
          have hsn := opsC_snoc Q l[i]
          generalize l[i] = q at *
          cases hr : knownR Q q
          · rw [hr] at hkn
            rw [hr,if_neg (by simp)] at hst
            simp (disch := omega) only [↓aI,↓zP,aD,zD,aS,simprocAttr,Tryz.facts,s1,s2,s4,s6,s8,zA,v6,hld,hle',hll,opC_len,hst1]
            have hk0 := rd.k0
            first | refine CallK.p (hkn) ?_ | refine CallP.i (hkn) ?_
            simp (disch := omega) only [↓aI,↓zP,aD,zD,aS,simprocAttr,Tryz.facts,s1,s2,s4,s6,s8,zA,v6,hld,hle',hll,opC_len,hst1,vk,ho,hoq,hsn,hk0]
            intro k2 o2 hk20 hk2 ho2
            have n6k : ¬ b6 = k := fun e => by
              subst e
              rw [v6] at vk
              cases vk
              rcases ho with h1 | ⟨-,h1⟩ <;> cases h1
            have n4k : ¬ b4 = k := fun e => by
              subst e
              rw [v4] at vk
              cases vk
              rcases ho with h1 | ⟨-,h1⟩ <;> cases h1
            have n62 : ¬ b6 = k2 := bA v6 hk2
            have n42 : ¬ b4 = k2 := bA v4 hk2
            have v6' : ((H2.kill k).set k2 o2) b6 = some (.cells [.imm k (dL Q) Q.length] 30 1) := by rw [aP n62,bZ n6k]; exact v6
            simp (disch := omega) only [↓aI,↓zP,aD,zD,aS,simprocAttr,Tryz.facts,s1,s2,s4,s6,s8,zA,v6',hk20,ah]
            have hk2H := rd.sub.free hk2
            have hl1 : (Q ++ [q]).length = Q.length + 1 := by simp
            refine ⟨mm - 1,by omega,i + 1,k2,Q ++ [q],by omega,hst.symm,by omega,⟨((rd.sub.kill_free rd.fk).set_free hk2H).set_free rd.f6,rd.f4,rd.f6,hk2H,rd.n46,?_,by rw [hl1]; exact set_get,hk20,o2,?_,by rw [← cq]; exact ho2⟩,rfl⟩
            · rw [aP rd.n46,aP n42,bZ n4k]; exact v4
            · rw [aP (fun e => n62 e.symm),set_get]
          · rw [hr] at hkn
            rw [hr,if_pos rfl] at hst
            simp (disch := omega) only [↓aI,↓zP,aD,zD,aS,simprocAttr,Tryz.facts,s1,s2,s4,s6,s8,zA,v6,hld,hle',hll,opC_len,hst1]
            first | refine CallK.p (hkn) ?_ | refine CallP.i (hkn) ?_
            simp (disch := omega) only [↓aI,↓zP,aD,zD,aS,simprocAttr,Tryz.facts,s1,s2,s4,s6,s8,zA,v6,hld,hle',hll,opC_len,hst1]
            exact ⟨mm - 1,by omega,i + 1,k,Q,by omega,hst.symm,by omega,rd,rfl⟩
        · obtain rfl : i = l.length := by omega
          rw [List.take_length] at hQ
          rw [← hQ] at hR
          have hoq := cq Q
          clear him hlt hQ
          simp (disch := omega) only [↓aI,↓zP,aD,zD,aS,simprocAttr,Tryz.facts,s1,s2,s4,s6,s8,zA,hll]
          refine br (c := ⟨Tryz.prog,77,[(10,[1,0,0,0,1,0,0]),(11,[0,1,0,0,0,1,0,2,0,2]),(1000000,[2]),(4000018,[2,4,6,74]),(4000016,[2,4,6,9,10,64]),(4000014,[2,4,6,9,10,55]),(4000011,[1,2,4,6,8]),(4000010,[1,2,4,6,8,41]),(4000005,[1,2,4,6,7,27]),(4000001,[1,2,4,6])],[11],[]⟩) Tryz.mixed (by kernel_rfl) (fun mm σ H' => H' = H2 ∧ ∃ i : Nat,i + mm = Q.length ∧ σ 2 = .ip [opsV P] 0 ∧ σ 4 = .ptr b4 0 ∧ σ 6 = .ptr b6 0 ∧ σ 9 = .sc (.int .i64 (dI (Q.take i) : Nat)) ∧ σ 10 = .sc (.int .i64 (i : Nat))) Q.length ?_ ?_
          · refine ⟨rfl,0,by omega,?_⟩
            simp (disch := omega) only [↓aI,↓zP,aD,zD,aS,simprocAttr,Tryz.facts,s2,s4,s6]
            try rfl
          · clear s1 s2 s4 s6 s8
            rintro mm σ H3 ⟨rfl,i,him,s2,s4,s6,s9,s10⟩
            by_cases hlt : i < Q.length
            · have hld := opsC_load hlt
              have hle' : i * 19 + 19 ≤ Q.length * 19 := by omega
              have hmi : dI (Q.take (i + 1)) = dI (Q.take i) + if Q[i].kind = 3 then 1 else 0 := by
                unfold dI
                rw [List.take_succ_eq_append_getElem hlt,List.filter_append,List.length_append]
                congr 1
                by_cases e : Q[i].kind = 3 <;> simp [e]
              have hmb : dI (Q.take i) ≤ Q.length := Nat.le_trans (List.length_filter_le _ _) (by rw [List.length_take]; omega)
              have hkd := opsC_kind hlt
              generalize Q[i] = q at *
              generalize dI (Q.take i) = mj at *
              by_cases hk3 : q.kind = 3
              · rw [if_pos hk3] at hmi
                simp (disch := omega) only [↓aI,↓zP,aD,zD,aS,simprocAttr,Tryz.facts,s2,s4,s6,s9,s10,v6,zA,hld,hle',hoq,hkd]
                exact ⟨mm - 1,by omega,i + 1,by omega,by first | (rw [hmi]; done) | (rw [hmi]; rfl),rfl⟩
              · rw [if_neg hk3] at hmi
                simp (disch := omega) only [↓aI,↓zP,aD,zD,aS,simprocAttr,Tryz.facts,s2,s4,s6,s9,s10,v6,zA,hld,hle',hoq,hkd]
                exact ⟨mm - 1,by omega,i + 1,by omega,by first | (rw [hmi]; done) | (rw [hmi]; rfl),rfl⟩
            · obtain rfl : i = Q.length := by omega
              rw [List.take_length] at s9
              by_cases hbig : 4096 < Q.length ∨ 512 < dI Q
              · rw [if_pos hbig] at hR
                subst hR
                by_cases hb1 : 4096 < Q.length
                · simp (disch := omega) only [↓aI,↓zP,aD,zD,aS,simprocAttr,Tryz.facts,s2,s4,s6,s9,s10,v6,v4,zA,hoq,ah]
                  exact rd.sub.set_free rd.f4
                · simp (disch := omega) only [↓aI,↓zP,aD,zD,aS,simprocAttr,Tryz.facts,s2,s4,s6,s9,s10,v6,v4,zA,hoq,ah]
                  exact rd.sub.set_free rd.f4
              · rw [if_neg hbig] at hR
                subst hR
                simp (disch := omega) only [↓aI,↓zP,aD,zD,aS,simprocAttr,Tryz.facts,s2,s4,s6,s9,s10,v6,v4,zA,hoq,ah]
                exact rd.sub.set_free rd.f4
end Go.Proofs.YtcgjlmopeblapaaGreat
end
section
set_option linter.unusedSimpArgs false
set_option linter.unusedVariables false
set_option maxRecDepth 8000
set_option maxHeartbeats 4000000
namespace Go.Proofs.YtcgjlmopeblapaaGreat
open Go Go.Abs Go.Proofs Go.Fug
abbrev opssV (l : List (List Opn)) : AV := .imm 0 (l.map opsV) l.length
theorem opss_get {l : List (List Opn)} {i : Nat} (h : i < l.length) : (l.map opsV)[i]? = some (opsV l[i]) := by simp [h]
def smallF : Nat → List (List Opn) → Nat
  | n,[] => n
  | n,x :: l => if n ≤ 60 then smallF (n + (1 + min x.length 60)) l else n
def smallB (l : List (List Opn)) : Bool := decide (smallF 0 l ≤ 60)
theorem smallF_sum : ∀ (l : List (List Opn)) (n : Nat),smallF n l ≤ 60 → n + l.length + (l.map List.length).sum ≤ 60
  | [],n,h => by simpa [smallF] using h
  | x :: l,n,h => by
    rw [smallF] at h
    split at h
    · have := smallF_sum l _ h
      simp only [List.length_cons,List.map_cons,List.sum_cons]
      have h9 := Nat.min_le_right x.length 60
      by_cases e : x.length ≤ 60
      · rw [Nat.min_eq_left e] at this; omega
      · rw [Nat.min_eq_right (by omega)] at this; omega
    · omega
theorem small_pure (l : List (List Opn)) (hl : l.length ≤ 2000000) : APure Tryz.prog 5 [opssV l] (.sc (.bool (smallB l))) := by
  have hB : smallB l = decide (smallF 0 l ≤ 60) := rfl
  generalize smallB l = B at *
  have hml : (l.map opsV).length = l.length := by simp
  refine az (c := ⟨Tryz.prog,26,[],[],[]⟩) (rs := [ResultVar.tmp 2]) Tryz.mixed Tryz.func5 rfl rfl rfl (Nat.le_of_ble_eq_true rfl) (by kernel_rfl) fun H => ?_
  simp (disch := omega) only [↓aI,↓zP,aD,zD,aS,simprocAttr,Tryz.facts]
  refine br (c := ⟨Tryz.prog,26,[],[],[]⟩) Tryz.mixed (by kernel_rfl) (fun mm σ H' => H' = H ∧ ∃ (i n : Nat),i + mm = l.length ∧ smallF n (l.drop i) = smallF 0 l ∧ n ≤ 121 ∧ σ 0 = opssV l ∧ σ 3 = .sc (.int .i64 (n : Nat)) ∧ σ 4 = .sc (.int .i64 (i : Nat))) l.length ?_ ?_
  · refine ⟨rfl,0,0,by omega,rfl,by omega,?_⟩
    simp (disch := omega) only [↓aI,↓zP,aD,zD,aS,simprocAttr,Tryz.facts]
    try rfl
  · rintro mm σ H' ⟨rfl,i,n,him,hn,hn1,s0,s3,s4⟩
    by_cases hlt : i < l.length
    · have hg := opss_get hlt
      rw [List.drop_eq_getElem_cons hlt,smallF] at hn
      generalize l[i] = q at *
      by_cases h60 : n ≤ 60
      · rw [if_pos h60] at hn
        by_cases hq : q.length ≤ 60
        · rw [Nat.min_eq_left hq] at hn
          simp (disch := omega) only [↓aI,↓zP,aD,zD,aS,simprocAttr,Tryz.facts,s0,s3,s4,zA,hg,hml]
          exact ⟨mm - 1,by omega,i + 1,n + (1 + q.length),by omega,hn,by omega,by rw [if_neg (by omega)]; push_cast; rfl,rfl⟩
        · rw [Nat.min_eq_right (by omega)] at hn
          simp (disch := omega) only [↓aI,↓zP,aD,zD,aS,simprocAttr,Tryz.facts,s0,s3,s4,zA,hg,hml]
          exact ⟨mm - 1,by omega,i + 1,n + (1 + 60),by omega,hn,by omega,by rw [if_pos (by omega)]; push_cast; rfl,rfl⟩
      · rw [if_neg h60] at hn
        rw [← hn] at hB
        simp (disch := omega) only [↓aI,↓zP,aD,zD,aS,simprocAttr,Tryz.facts,s0,s3,s4,zA,hg,hml]
        exact ⟨by rw [hB,decide_eq_false (by omega)],Abs.Sub.refl _⟩
    · obtain rfl : i = l.length := by omega
      rw [List.drop_length,smallF] at hn
      rw [← hn] at hB
      subst hB
      by_cases h60 : n ≤ 60
      · simp (disch := omega) only [↓aI,↓zP,aD,zD,aS,simprocAttr,Tryz.facts,s0,s3,s4,zA,hml]
        exact Abs.Sub.refl _
      · simp (disch := omega) only [↓aI,↓zP,aD,zD,aS,simprocAttr,Tryz.facts,s0,s3,s4,zA,hml]
        exact Abs.Sub.refl _
def bothS (l : List (List Opn)) : PS := l.foldl (fun s x => (doP s x).2) ps0
def bothR (l : List (List Opn)) : List Opn := l.foldl (fun P x => (rDo P x).2) []
def bothOk (l : List (List Opn)) : Bool := (l.foldl (fun (t : PS × List Opn × Bool) x => ((doP t.1 x).2,(rDo t.2.1 x).2,decide ((doP t.1 x).1 = (rDo t.2.1 x).1) && t.2.2)) (ps0,[],true)).2.2
def bothT (l : List (List Opn)) : PS × List Opn × Bool := l.foldl (fun (t : PS × List Opn × Bool) x => ((doP t.1 x).2,(rDo t.2.1 x).2,decide ((doP t.1 x).1 = (rDo t.2.1 x).1) && t.2.2)) (ps0,[],true)
theorem both_eq (l : List (List Opn)) : bothT l = (bothS l,bothR l,bothOk l) := by
  have key : ∀ (l : List (List Opn)) (t : PS × List Opn × Bool),(l.foldl (fun (t : PS × List Opn × Bool) x => ((doP t.1 x).2,(rDo t.2.1 x).2,decide ((doP t.1 x).1 = (rDo t.2.1 x).1) && t.2.2)) t).1 = l.foldl (fun s x => (doP s x).2) t.1 ∧ (l.foldl (fun (t : PS × List Opn × Bool) x => ((doP t.1 x).2,(rDo t.2.1 x).2,decide ((doP t.1 x).1 = (rDo t.2.1 x).1) && t.2.2)) t).2.1 = l.foldl (fun P x => (rDo P x).2) t.2.1 := by
    intro l
    induction l with
    | nil => intro t; exact ⟨rfl,rfl⟩
    | cons x l ih => intro t; simp only [List.foldl_cons]; exact ih _
  obtain ⟨h1,h2⟩ := key l (ps0,[],true)
  unfold bothT bothS bothR bothOk
  exact Prod.ext h1 (Prod.ext h2 rfl)
theorem settle_siz (s : PS) : sizP (settleP s) = sizP s := rfl
theorem do_siz (s : PS) (l : List Opn) : sizP (doP s l).2 ≤ sizP s + l.length := by
  unfold doP
  split
  · simp
  · split
    · simp
    · simp only
      rw [settle_siz]
      have h1 := takes_siz (freshP s l) s
      have h2 := fresh_len s l []
      simp only [List.length_nil] at h2
      unfold freshP at h1 ⊢
      omega
theorem rfresh_len : ∀ (l P : List Opn),(l.foldl rFresh P).length ≤ P.length + l.length
  | [],P => by simp
  | o :: l,P => by
    rw [List.foldl_cons]
    have h1 := rfresh_len l (rFresh P o)
    have h2 : (rFresh P o).length ≤ P.length + 1 := by
      unfold rFresh
      split
      · omega
      · simp
    simp only [List.length_cons]
    omega
theorem rdo_len (P l : List Opn) : (rDo P l).2.length ≤ P.length + l.length := by
  unfold rDo
  split
  · simp
  · split
    · simp
    · exact rfresh_len l P
theorem box_twice {H : AH} {a : Nat} {x y : AObj} : (H.set a x).set a y = H.set a y := by
  funext z
  simp only [AH.set]
  split <;> rfl
theorem IsP.box {B H : AH} {h : PH} {s : PS} (p : IsP B H h s) {b : Nat} (o : AObj) (hb : H b = none ∨ B b ≠ none) : IsP (B.set b o) (H.set b o) h s := by
  have key : ∀ y,B y = none → H y ≠ none → ¬ y = b := fun y h1 h2 e => by
    subst e
    rcases hb with h3 | h3
    · exact h2 h3
    · exact h3 h1
  obtain ⟨v,vp,hw⟩ := p.pw
  obtain ⟨f1,f2,f3,f4,f5,f6⟩ := p.f
  have n1 := key _ f1 (by rw [vp]; simp)
  have n2 := key _ f2 (by rw [p.mi]; simp)
  have n3 := key _ f3 (by rw [p.md]; simp)
  have n4 := key _ f4 (by rw [p.t.hi]; simp)
  have n5 := key _ f5 (by rw [p.t.hm]; simp)
  have n6 := key _ f6 (by rw [p.b]; simp)
  refine ⟨fun y x hy => ?_,⟨by rw [aP n1]; exact f1,by rw [aP n2]; exact f2,by rw [aP n3]; exact f3,by rw [aP n4]; exact f4,by rw [aP n5]; exact f5,by rw [aP n6]; exact f6⟩,p.ne,⟨v,by rw [aP n1]; exact vp,?_⟩,by rw [aP n2]; exact p.mi,by rw [aP n3]; exact p.md,⟨by rw [aP n4]; exact p.t.hi,⟨p.t.ord,p.t.perm,by rw [aP n5]; exact p.t.hm⟩,p.t.g,p.t.gs,p.t.gn,p.t.small⟩,by rw [aP n6]; exact p.b,p.g,p.nd,p.dd,p.big⟩
  · by_cases e : y = b
    · subst e; rw [set_get] at hy ⊢; exact hy
    · rw [aP e] at hy ⊢; exact p.sub y x hy
  · rcases hw with h1 | ⟨k,ok,h1,h2,h3,h4,h5⟩
    · exact .inl h1
    · have nk := key k h3 (by rw [h4]; simp)
      exact .inr ⟨k,ok,h1,h2,by rw [aP nk]; exact h3,by rw [aP nk]; exact h4,h5⟩
theorem IsP.base {B B' H : AH} {h : PH} {s : PS} (p : IsP B' H h s) (hs : Abs.Sub B B') : IsP B H h s := by
  obtain ⟨v,vp,hw⟩ := p.pw
  obtain ⟨f1,f2,f3,f4,f5,f6⟩ := p.f
  refine ⟨hs.trans p.sub,⟨hs.free f1,hs.free f2,hs.free f3,hs.free f4,hs.free f5,hs.free f6⟩,p.ne,⟨v,vp,?_⟩,p.mi,p.md,p.t,p.b,p.g,p.nd,p.dd,p.big⟩
  rcases hw with h1 | ⟨k,ok,h1,h2,h3,h4,h5⟩
  · exact .inl h1
  · exact .inr ⟨k,ok,h1,h2,hs.free h3,h4,h5⟩
theorem both_live (H : AH) (l : List (List Opn)) (hl : l.length ≤ 2000000) (hs : (l.map List.length).sum ≤ 100) :
    ACalls Tryz.prog 7 [opssV l] H fun v H' => ∃ h : PH,h.p ≠ 0 ∧ v = .tup [.ptr h.p 0,papR (bothR l),.sc (.bool (bothOk l))] ∧ IsP H H' h (bothS l) := by
  have hml : (l.map opsV).length = l.length := by simp
  have hbe := both_eq l
  generalize bothS l = S at *
  generalize bothR l = R at *
  generalize bothOk l = O at *
  have hnew := pnew_live
  refine ao (c := ⟨Tryz.prog,39,[(9,[0,1,0,0,2,0]),(1000005,[10])],[],[]⟩) (rs := [ResultVar.tmp 2,ResultVar.cell 3 30,ResultVar.tmp 4]) Tryz.mixed Tryz.func7 rfl rfl rfl (Nat.le_of_ble_eq_true rfl) (by kernel_rfl) ?_
  simp (disch := omega) only [↓aI,↓zP,aD,zD,aS,simprocAttr,Tryz.facts]
  intro b3 hb30 hb3
  try simp (disch := omega) only [↓aI,↓zP,aD,zD,aS,simprocAttr,Tryz.facts]
  refine CallK.i (hnew _) ?_
  rintro v H1 ⟨h,rfl,hh0,p⟩
  simp (disch := omega) only [↓aI,↓zP,aD,zD,aS,simprocAttr,Tryz.facts]
  intro b6 hb60 hb6
  have hb6H := am (p.sub.free hb6)
  have hB0 := p.sub.free hb6
  have n36 := bK hB0
  try simp (disch := omega) only [↓aI,↓zP,aD,zD,aS,simprocAttr,Tryz.facts,ah,hml]
  refine nil_t b6 0 set_get rfl ?_
  have p0 := p.box (.cells [opsV []] 30 1) (.inl hb6)
  rw [show (H1.set b6 (.cells [.sc (.slice none 0 0)] 30 1)).set b6 (.cells ([.sc (.slice none 0 0)].set 0 (.imm 0 [] 0)) 30 1) = H1.set b6 (.cells [opsV []] 30 1) from box_twice]
  generalize hB : H.set b3 (.cells [.sc (.slice none 0 0)] 30 1) = B0 at *
  have hB3 : B0 b3 = some (.cells [.sc (.slice none 0 0)] 30 1) := by rw [← hB]; exact set_get
  have hBs : Abs.Sub H B0 := by rw [← hB]; exact Sub.set_new hb3
  have hBn : ∀ c,Abs.Sub B0 (B0.set b6 c) := fun c => Sub.set_new hB0
  clear hB p hb6
  generalize hc0 : H1.set b6 (.cells [opsV []] 30 1) = Hc at *
  refine br (c := ⟨Tryz.prog,39,[(9,[0,1,0,0,2,0]),(1000005,[10])],[],[]⟩) Tryz.mixed (by kernel_rfl) (fun mm σ H' => ∃ (i : Nat) (P : List Opn) (s : PS) (ok : Bool),i + mm = l.length ∧ bothT (l.take i) = (s,P,ok) ∧ sizP s ≤ ((l.take i).map List.length).sum ∧ P.length ≤ ((l.take i).map List.length).sum ∧ IsP (B0.set b6 (.cells [opsV P] 30 1)) H' h s ∧
    σ 3 = .ptr b3 0 ∧ σ 5 = .ptr h.p 0 ∧ σ 6 = .ptr b6 0 ∧ σ 7 = .sc (.bool ok) ∧ σ 14 = opssV l ∧ σ 15 = .sc (.int .i64 (l.length : Nat)) ∧ σ 16 = .sc (.int .i64 (i : Nat))) l.length ?_ ?_
  · refine ⟨0,[],ps0,true,by omega,rfl,Nat.zero_le _,Nat.zero_le _,p0,?_⟩
    simp (disch := omega) only [↓aI,↓zP,aD,zD,aS,simprocAttr,Tryz.facts]
    try rfl
  · clear p0 hc0
    rintro mm σ H' ⟨i,P,s,ok,him,hT,hz,hPl,p,s3,s5,s6,s7,s14,s15,s16⟩
    have hsum : ∀ j,((l.take j).map List.length).sum ≤ 100 := fun j => by
      have e : l.take j ++ l.drop j = l := List.take_append_drop j l
      rw [← e,List.map_append,List.sum_append] at hs
      omega
    have hs1 := hsum i
    have v6 : H' b6 = some (.cells [opsV P] 30 1) := p.sub _ _ set_get
    have v3 : H' b3 = some (.cells [.sc (.slice none 0 0)] 30 1) := p.sub _ _ (by rw [aP n36]; exact hB3)
    by_cases hlt : i < l.length
    · have hg := opss_get hlt
      have hst : bothT (l.take (i + 1)) = ((doP s l[i]).2,(rDo P l[i]).2,decide ((doP s l[i]).1 = (rDo P l[i]).1) && ok) := by
        unfold bothT at hT ⊢
        rw [List.take_succ_eq_append_getElem hlt,List.foldl_append,hT]
        rfl
      have hs2 := hsum (i + 1)
      have hsm : ((l.take (i + 1)).map List.length).sum = ((l.take i).map List.length).sum + l[i].length := by
        rw [List.take_succ_eq_append_getElem hlt,List.map_append,List.sum_append]; simp
      have z1 := do_siz s l[i]
      have z2 := rdo_len P l[i]
      generalize l[i] = q at *
      have hrd := rdo_pure P q (by omega) (by omega)
      have hqo := cq q
      generalize rDo P q = RR at *
      obtain ⟨re,RP⟩ := RR
      simp only at hst z2 hrd
      simp (disch := omega) only [↓aI,↓zP,aD,zD,aS,simprocAttr,Tryz.facts,s3,s5,s6,s7,s14,s15,s16,zA,hg,hml,v6]
      first | refine CallK.p (hrd) ?_ | refine CallP.i (hrd) ?_
      simp (disch := omega) only [↓aI,↓zP,aD,zD,aS,simprocAttr,Tryz.facts,s3,s5,s6,s7,s14,s15,s16,zA,hg,hml,v6]
      intro b10 hb100 hb10
      try simp (disch := omega) only [↓aI,↓zP,aD,zD,aS,simprocAttr,Tryz.facts,s3,s5,s6,s7,s14,s15,s16,zA,hg,hml,v6,aj hb10,ah]
      have p1 := p.box (b := b6) (.cells [opsV RP] 30 1) (.inr (by rw [set_get]; simp))
      rw [box_twice] at p1
      have hdo := do_live _ _ h s q p1 (by omega) (by omega)
      generalize doP s q = DD at *
      obtain ⟨de,DS⟩ := DD
      simp only at hst z1 hdo
      refine CallK.i hdo ?_
      rintro v H2 ⟨rfl,p2⟩
      by_cases he : de = re
      · simp (disch := omega) only [↓aI,↓zP,aD,zD,aS,simprocAttr,Tryz.facts,s3,s5,s6,s7,s14,s15,s16,zA,he]
        exact ⟨mm - 1,by omega,i + 1,RP,DS,ok,by omega,by rw [hst,decide_eq_true he,Bool.true_and],by omega,by omega,p2,rfl,rfl⟩
      · simp (disch := omega) only [↓aI,↓zP,aD,zD,aS,simprocAttr,Tryz.facts,s3,s5,s6,s7,s14,s15,s16,zA,he]
        exact ⟨mm - 1,by omega,i + 1,RP,DS,false,by omega,by rw [hst,decide_eq_false he,Bool.false_and],by omega,by omega,p2,rfl,rfl⟩
    · obtain rfl : i = l.length := by omega
      rw [List.take_length,hbe] at hT
      cases hT
      simp (disch := omega) only [↓aI,↓zP,aD,zD,aS,simprocAttr,Tryz.facts,s3,s5,s6,s7,s14,s15,s16,zA,v6,v3,ah]
      have hnB : (B0.set b6 (.cells [opsV R] 30 1)) b3 ≠ none := by rw [aP n36,hB3]; simp
      refine ⟨_,rfl,_,Abs.Sub.refl _,h,hh0,rfl,(p.box _ (.inr hnB)).base ((hBs.trans (hBn _)).set_free hb3)⟩
end Go.Proofs.YtcgjlmopeblapaaGreat
end
section
set_option linter.unusedSimpArgs false
set_option linter.unusedVariables false
set_option maxRecDepth 8000
set_option maxHeartbeats 1000000
namespace Go.Proofs.YtcgjlmopeblapaaGreat
open Go Go.Abs Go.Proofs Go.Fug
theorem insO_ok {i : Ins} (h : insO i = true) : okI i = true := by
  rw [insO_okI,Bool.and_eq_true] at h
  exact h.1
theorem add_cases (L : List Ins) (i : Ins) (hk : okI i = true) (hL : L.length < 4096) :
    (dR L i = (L ++ [i],0) ∧ i.id ∉ L.map (·.id) ∧ (i.par = bL ∨ i.par ∈ L.map (·.id))) ∨ ((dR L i).2 ≠ 0 ∧ (i.id ∈ L.map (·.id) ∨ (i.par ≠ bL ∧ i.par ∉ L.map (·.id)))) := by
  unfold dR
  rw [if_neg (by rw [hk]; simp)]
  by_cases h2 : i.id ∈ L.map (·.id)
  · rw [if_pos h2]; exact .inr ⟨by simp,.inl h2⟩
  · rw [if_neg h2]
    by_cases h3 : i.par ≠ bL ∧ i.par ∉ L.map (·.id)
    · rw [if_pos h3]; exact .inr ⟨by simp,.inr h3⟩
    · rw [if_neg h3,if_neg (by omega)]
      refine .inl ⟨rfl,h2,?_⟩
      by_cases h5 : i.par = bL
      · exact .inl h5
      · exact .inr (Decidable.not_not.1 fun h => h3 ⟨h5,h⟩)
structure Mid (I : List Ins) (D : List EId) (L : List Ins) (G : List EId) (W : List Ins) : Prop where
  pm : (L ++ W).Perm I
  gd : ∀ x,x ∈ G ↔ x ∈ D ∧ x ∈ L.map (·.id)
theorem Mid.step {I : List Ins} {D : List EId} (ok : ∀ i ∈ I, okI i = true) (hI : I.length < 4096) {L R W : List Ins} {G : List EId} {i : Ins} (m : Mid I D L G (R ++ i :: W)) :
    Mid I D (addD D (L,G,R) i).1 (addD D (L,G,R) i).2.1 ((addD D (L,G,R) i).2.2 ++ W) ∧
      ((addD D (L,G,R) i).2.2.length = R.length + 1 → addD D (L,G,R) i = (L,G,R ++ [i]) ∧ (i.id ∈ L.map (·.id) ∨ (i.par ≠ bL ∧ i.par ∉ L.map (·.id)))) := by
  have hmem : i ∈ I := m.pm.mem_iff.1 (by simp)
  have hlen : L.length < 4096 := by
    have := m.pm.length_eq
    simp at this
    omega
  unfold addD
  rcases add_cases L i (ok i hmem) hlen with ⟨e,h1,h2⟩ | ⟨e,h1⟩
  · simp only [e,if_true]
    refine ⟨⟨?_,fun x => ?_⟩,fun h => by simp at h⟩
    · refine List.Perm.trans ?_ m.pm
      rw [List.append_assoc]
      refine List.Perm.append_left L ?_
      exact (List.perm_middle (a := i) (l₁ := R) (l₂ := W)).symm
    · have hg := m.gd x
      by_cases hd : i.id ∈ D
      · simp only [if_pos hd]
        have h3 : i.id ∉ G := fun h => h1 ((m.gd _).1 h).2
        unfold dropG
        rw [if_neg (by simp),if_neg h3]
        simp only [List.mem_append,List.mem_singleton,List.map_append,List.map_cons,List.map_nil,hg]
        constructor
        · rintro (h | rfl)
          · exact ⟨h.1,.inl h.2⟩
          · exact ⟨hd,.inr rfl⟩
        · rintro ⟨h,h' | h'⟩
          · exact .inl ⟨h,h'⟩
          · exact .inr h'
      · simp only [if_neg hd]
        simp only [List.mem_append,List.mem_singleton,List.map_append,List.map_cons,List.map_nil,hg]
        constructor
        · rintro h; exact ⟨h.1,.inl h.2⟩
        · rintro ⟨h,h' | rfl⟩
          · exact ⟨h,h'⟩
          · exact absurd h hd
  · simp only [if_neg e]
    refine ⟨⟨?_,m.gd⟩,fun _ => ⟨by trivial,h1⟩⟩
    rw [List.append_assoc]
    exact m.pm
theorem Mid.round {I : List Ins} {D : List EId} (ok : ∀ i ∈ I, okI i = true) (hI : I.length < 4096) : ∀ (W L R : List Ins) (G : List EId), Mid I D L G (R ++ W) →
    Mid I D (W.foldl (addD D) (L,G,R)).1 (W.foldl (addD D) (L,G,R)).2.1 (W.foldl (addD D) (L,G,R)).2.2 ∧ (W.foldl (addD D) (L,G,R)).2.2.length ≤ R.length + W.length ∧
      ((W.foldl (addD D) (L,G,R)).2.2.length = R.length + W.length → W.foldl (addD D) (L,G,R) = (L,G,R ++ W) ∧ ∀ i ∈ W,i.id ∈ L.map (·.id) ∨ (i.par ≠ bL ∧ i.par ∉ L.map (·.id)))
  | [],L,R,G,m => by
    rw [List.append_nil] at m
    exact ⟨m,by simp,fun _ => ⟨by simp,by simp⟩⟩
  | i :: W,L,R,G,m => by
    obtain ⟨m1,h1⟩ := m.step ok hI
    have hl := addD_len D (L,G,R) i
    rw [List.foldl_cons]
    generalize addD D (L,G,R) i = t at *
    obtain ⟨L1,G1,R1⟩ := t
    simp only at m1 h1 hl
    obtain ⟨m2,h2,h3⟩ := Mid.round ok hI W L1 R1 G1 m1
    refine ⟨m2,by simp only [List.length_cons]; omega,fun e => ?_⟩
    simp only [List.length_cons] at e
    obtain ⟨h4,h5⟩ := h1 (by omega)
    obtain ⟨rfl,rfl,rfl⟩ : L1 = L ∧ G1 = G ∧ R1 = R ++ [i] := by
      simp only [Prod.mk.injEq] at h4; exact h4
    obtain ⟨h6,h7⟩ := h3 (by omega)
    refine ⟨by rw [h6,List.append_assoc]; rfl,fun j hj => ?_⟩
    rcases List.mem_cons.1 hj with rfl | hj
    · exact h5
    · exact h7 j hj
def Stuck (L W : List Ins) : Prop := ∀ i ∈ W,i.id ∈ L.map (·.id) ∨ (i.par ≠ bL ∧ i.par ∉ L.map (·.id))
theorem Mid.settle {I : List Ins} {D : List EId} (ok : ∀ i ∈ I, okI i = true) (hI : I.length < 4096) : ∀ (n : Nat) (W L : List Ins) (G : List EId), W.length < n → Mid I D L G W →
    Mid I D (dG D n W L G).1 (dG D n W L G).2.1 (dG D n W L G).2.2 ∧ Stuck (dG D n W L G).1 (dG D n W L G).2.2
  | 0,W,L,G,h,_ => by omega
  | n + 1,W,L,G,h,m => by
    have hr := Mid.round ok hI W L [] G (by rw [List.nil_append]; exact m)
    rw [dG]
    unfold rndP
    generalize W.foldl (addD D) (L,G,[]) = t at *
    obtain ⟨L1,G1,R1⟩ := t
    simp only [List.length_nil,Nat.zero_add,List.nil_append] at hr ⊢
    obtain ⟨m1,h1,h2⟩ := hr
    by_cases e : R1.length = W.length
    · rw [if_pos e]
      obtain ⟨h3,h4⟩ := h2 e
      obtain ⟨rfl,rfl,rfl⟩ : L1 = L ∧ G1 = G ∧ R1 = W := by simp only [Prod.mk.injEq] at h3; exact h3
      exact ⟨m,h4⟩
    · rw [if_neg e]
      exact Mid.settle ok hI n R1 L1 G1 (by omega) m1
structure InvP (s : PS) : Prop where
  mid : Mid s.I s.D s.L s.G s.W
  ok : ∀ i ∈ s.I,insO i = true
  dok : ∀ x ∈ s.D,elO x = true
  st : Stuck s.L s.W
theorem InvP.nil : InvP ps0 := ⟨⟨List.Perm.refl _,by simp [ps0]⟩,by simp [ps0],by simp [ps0],by simp [ps0,Stuck]⟩
structure InvT (s : PS) : Prop where
  mid : Mid s.I s.D s.L s.G s.W
  ok : ∀ i ∈ s.I,insO i = true
  dok : ∀ x ∈ s.D,elO x = true
theorem InvT.take {s : PS} (t : InvT s) {o : Opn} (ho : opR o = true) : InvT (dK s o) := by
  unfold opR at ho
  unfold dK
  split at ho
  · rename_i h1
    rw [if_pos h1]
    simp only [Bool.and_eq_true] at ho
    refine ⟨⟨?_,t.mid.gd⟩,fun i hi => ?_,t.dok⟩
    · rw [← List.append_assoc]
      exact t.mid.pm.append_right _
    · rcases List.mem_append.1 hi with h | h
      · exact t.ok i h
      · rw [List.mem_singleton.1 h]; exact ho.1
  · rename_i h1
    rw [if_neg h1]
    split at ho
    · rename_i h2
      rw [if_pos h2]
      simp only [Bool.and_eq_true] at ho
      refine ⟨⟨t.mid.pm,fun x => ?_⟩,t.ok,fun x hx => ?_⟩
      · have hg := t.mid.gd x
        have hg2 := t.mid.gd o.drop
        show x ∈ (dropG s.L s.G o.drop).1 ↔ x ∈ s.D ++ [o.drop] ∧ x ∈ s.L.map (·.id)
        unfold dropG
        by_cases e1 : o.drop ∉ s.L.map (·.id)
        · rw [if_pos e1]
          rw [hg,List.mem_append,List.mem_singleton]
          constructor
          · rintro ⟨h,h'⟩; exact ⟨.inl h,h'⟩
          · rintro ⟨h | rfl,h'⟩
            · exact ⟨h,h'⟩
            · exact absurd h' e1
        · rw [if_neg e1]
          have e1' := Decidable.not_not.1 e1
          by_cases e2 : o.drop ∈ s.G
          · rw [if_pos e2]
            rw [hg,List.mem_append,List.mem_singleton]
            constructor
            · rintro ⟨h,h'⟩; exact ⟨.inl h,h'⟩
            · rintro ⟨h | rfl,h'⟩
              · exact ⟨h,h'⟩
              · exact hg2.1 e2
          · rw [if_neg e2]
            simp only [List.mem_append,List.mem_singleton]
            rw [hg]
            constructor
            · rintro (h | rfl)
              · exact ⟨.inl h.1,h.2⟩
              · exact ⟨.inr rfl,e1'⟩
            · rintro ⟨h | rfl,h'⟩
              · exact .inl ⟨h,h'⟩
              · exact .inr rfl
      · rcases List.mem_append.1 hx with h | h
        · exact t.dok x h
        · rw [List.mem_singleton.1 h]; exact ho.1
    · rename_i h2
      rw [if_neg h2]
      exact ⟨t.mid,t.ok,t.dok⟩
theorem InvT.takes : ∀ (F : List Opn) {s : PS},InvT s → (∀ o ∈ F,opR o = true) → InvT (F.foldl dK s)
  | [],s,t,_ => t
  | o :: F,s,t,h => InvT.takes F (t.take (h o (by simp))) fun q hq => h q (by simp [hq])
theorem InvT.settle {s : PS} (t : InvT s) (hI : s.I.length < 4096) : InvP (settleP s) := by
  obtain ⟨m,h⟩ := Mid.settle (fun i hi => insO_ok (t.ok i hi)) hI (s.W.length + 1) s.W s.L s.G (by omega) t.mid
  exact ⟨m,t.ok,t.dok,h⟩
theorem fresh_sub (s : PS) : ∀ (l F : List Opn) (o : Opn),o ∈ l.foldl (dZ s) F → o ∈ F ∨ o ∈ l
  | [],F,o,h => .inl h
  | q :: l,F,o,h => by
    rw [List.foldl_cons] at h
    rcases fresh_sub s l _ o h with h1 | h1
    · unfold dZ at h1
      split at h1
      · exact .inl h1
      · rcases List.mem_append.1 h1 with h2 | h2
        · exact .inl h2
        · exact .inr (by rw [List.mem_singleton.1 h2]; simp)
    · exact .inr (by simp [h1])
theorem InvP.do_ {s : PS} (t : InvP s) (l : List Opn) (hz : sizP s + l.length < 4096) : InvP (doP s l).2 := by
  unfold doP
  split
  · exact t
  · rename_i h1
    split
    · exact t
    · have hall : ∀ o ∈ l,opR o = true := List.all_eq_true.1 (by simpa using h1)
      have hF : ∀ o ∈ freshP s l,opR o = true := fun o ho => by
        rcases fresh_sub s l [] o ho with h | h
        · simp at h
        · exact hall o h
      refine InvT.settle (InvT.takes _ ⟨t.mid,t.ok,t.dok⟩ hF) ?_
      have h2 := takes_siz (freshP s l) s
      have h3 := fresh_len s l []
      simp only [List.length_nil,Nat.zero_add] at h3
      unfold freshP at h2 ⊢
      unfold sizP at h2 hz
      omega
theorem both_inv (l : List (List Opn)) (hs : (l.map List.length).sum ≤ 100) : InvP (bothS l) ∧ sizP (bothS l) ≤ (l.map List.length).sum := by
  have key : ∀ (l : List (List Opn)) (s : PS),InvP s → sizP s + (l.map List.length).sum ≤ 100 → InvP (l.foldl (fun s x => (doP s x).2) s) ∧ sizP (l.foldl (fun s x => (doP s x).2) s) ≤ sizP s + (l.map List.length).sum := by
    intro l
    induction l with
    | nil => intro s t _; exact ⟨t,by simp⟩
    | cons x l ih =>
      intro s t h
      simp only [List.map_cons,List.sum_cons] at h ⊢
      have h1 := do_siz s x
      obtain ⟨h2,h3⟩ := ih _ (t.do_ x (by omega)) (by omega)
      exact ⟨h2,by rw [List.foldl_cons]; omega⟩
  have h := key l ps0 InvP.nil (by show 0 + _ ≤ 100; omega)
  have e : sizP ps0 = 0 := rfl
  unfold bothS
  exact ⟨h.1,by omega⟩
end Go.Proofs.YtcgjlmopeblapaaGreat
end
