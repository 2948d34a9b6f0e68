/-
  Several texts in one: each says what it proves.
  Conditions: none. Lemmas only.
-/
import Derived.Test.YtcgjlmopeblapaaGreatPapG8
import Derived.Test.YtcgjlmopeblapaaGreatFugG3
import Derived.Test.YtcgjlmopeblapaaGreatFugG2
import Derived.Test.YtcgjlmopeblapaaGreatPapG3
import Derived.Test.YtcgjlmopeblapaaGreatMarG6
import Derived.Test.YtcgjlmopeblapaaGreatFugG5
set_option linter.all false
section
set_option linter.unusedSimpArgs false
set_option linter.unusedVariables false
set_option maxRecDepth 8000
set_option maxHeartbeats 4000000
namespace Go.Proofs.YtcgjlmopeblapaaGreat
open Go Go.Abs Go.Proofs Go.Fug
def rStep (t : List Ins × Bool) (o : Opn) : List Ins × Bool := if o.kind = 1 then ((dR t.1 o.ins).1,t.2 || decide ((dR t.1 o.ins).2 = 0)) else t
def rRound (P : List Opn) (L : List Ins) : List Ins × Bool := P.foldl rStep (L,false)
def rLoop (P : List Opn) : Nat → List Ins → List Ins
  | 0,L => L
  | n + 1,L => if (rRound P L).2 = true then rLoop P n (rRound P L).1 else (rRound P L).1
def rTreeL (P : List Opn) : List Ins := rLoop P (P.length + 1) []
def rDrop (L : List Ins) (G : List EId) (o : Opn) : List EId := if o.kind = 2 then (dropG L G o.drop).1 else G
def rTreeG (P : List Opn) : List EId := P.foldl (rDrop (rTreeL P)) []
theorem add_two (L : List Ins) (i : Ins) : (dR L i = (L ++ [i],0) ∧ okI i = true ∧ i.id ∉ L.map (·.id) ∧ (i.par = bL ∨ i.par ∈ L.map (·.id))) ∨ ((dR L i).1 = L ∧ (dR L i).2 ≠ 0) := by
  unfold dR
  by_cases h1 : okI i = false
  · rw [if_pos h1]; exact .inr ⟨rfl,by simp⟩
  · rw [if_neg h1]
    by_cases h2 : i.id ∈ L.map (·.id)
    · rw [if_pos h2]; exact .inr ⟨rfl,by simp⟩
    · rw [if_neg h2]
      by_cases h3 : i.par ≠ bL ∧ i.par ∉ L.map (·.id)
      · rw [if_pos h3]; exact .inr ⟨rfl,by simp⟩
      · rw [if_neg h3]
        by_cases h4 : L.length = 4096
        · rw [if_pos h4]; exact .inr ⟨rfl,by simp⟩
        · rw [if_neg h4]
          refine .inl ⟨rfl,by simpa using h1,h2,?_⟩
          by_cases h5 : i.par = bL
          · exact .inl h5
          · exact .inr (Decidable.not_not.1 fun h => h3 ⟨h5,h⟩)
structure InT (P : List Opn) (L : List Ins) : Prop where
  g : Fug.Good L
  sub : ∀ i ∈ L,∃ o ∈ P,o.kind = 1 ∧ o.ins = i
theorem InT.le {P : List Opn} {L : List Ins} (t : InT P L) : L.length ≤ P.length := by
  have h := cO (L.map (·.id)) (P.map fun o => o.ins.id) t.g.nd fun x hx => by
    obtain ⟨i,hi,rfl⟩ := List.mem_map.1 hx
    obtain ⟨o,ho,-,rfl⟩ := t.sub i hi
    exact List.mem_map.2 ⟨o,ho,rfl⟩
  simpa using h
theorem InT.round {P : List Opn} : ∀ (Q : List Opn) (L : List Ins) (b : Bool), (∀ o ∈ Q, o ∈ P) → InT P L →
    InT P (Q.foldl rStep (L,b)).1 ∧ L.length ≤ (Q.foldl rStep (L,b)).1.length ∧ ((Q.foldl rStep (L,b)).2 = true → b = true ∨ L.length < (Q.foldl rStep (L,b)).1.length) ∧
      ((Q.foldl rStep (L,b)).2 = false → b = false ∧ (Q.foldl rStep (L,b)).1 = L ∧ ∀ o ∈ Q,o.kind = 1 → (dR L o.ins).2 ≠ 0)
  | [],L,b,_,t => ⟨t,Nat.le_refl _,fun h => .inl h,fun h => ⟨h,rfl,by simp⟩⟩
  | o :: Q,L,b,h,t => by
    have hq : ∀ q ∈ Q,q ∈ P := fun q hq => h q (by simp [hq])
    rw [List.foldl_cons]
    unfold rStep
    by_cases k : o.kind = 1
    · simp only [if_pos k]
      rcases add_two L o.ins with ⟨e,h1,h2,h3⟩ | ⟨e1,e2⟩
      · rw [e]
        simp only [decide_true,Bool.or_true]
        have t' : InT P (L ++ [o.ins]) := ⟨t.g.snoc h1 h2 h3,fun i hi => by
          rcases List.mem_append.1 hi with h4 | h4
          · exact t.sub i h4
          · exact ⟨o,h o (by simp),k,(List.mem_singleton.1 h4).symm⟩⟩
        obtain ⟨r1,r2,r3,r4⟩ := InT.round Q (L ++ [o.ins]) true hq t'
        have hl : (L ++ [o.ins]).length = L.length + 1 := by simp
        refine ⟨r1,by unfold rStep at r2; omega,fun _ => .inr (by unfold rStep at r2; omega),fun e => ?_⟩
        have := (r4 e).1
        cases this
      · rw [e1]
        simp only [decide_eq_false e2,Bool.or_false]
        obtain ⟨r1,r2,r3,r4⟩ := InT.round Q L b hq t
        refine ⟨r1,r2,r3,fun e => ?_⟩
        obtain ⟨h5,h6,h7⟩ := r4 e
        refine ⟨h5,h6,fun q hq hk => ?_⟩
        rcases List.mem_cons.1 hq with rfl | hq
        · exact e2
        · exact h7 q hq hk
    · simp only [if_neg k]
      obtain ⟨r1,r2,r3,r4⟩ := InT.round Q L b hq t
      refine ⟨r1,r2,r3,fun e => ?_⟩
      obtain ⟨h5,h6,h7⟩ := r4 e
      refine ⟨h5,h6,fun q hq hk => ?_⟩
      rcases List.mem_cons.1 hq with rfl | hq
      · exact absurd hk k
      · exact h7 q hq hk
theorem InT.nil (P : List Opn) : InT P [] := ⟨Fug.Good.nil,by simp⟩
theorem InT.loop {P : List Opn} : ∀ (n : Nat) (L : List Ins),InT P L → P.length + 1 ≤ n + L.length → InT P (rLoop P n L) ∧ ∀ o ∈ P,o.kind = 1 → (dR (rLoop P n L) o.ins).2 ≠ 0
  | 0,L,t,h => by have := t.le; omega
  | n + 1,L,t,h => by
    obtain ⟨r1,r2,r3,r4⟩ := InT.round P L false (fun o ho => ho) t
    rw [rLoop]
    unfold rRound
    by_cases e : (P.foldl rStep (L,false)).2 = true
    · rw [if_pos e]
      rcases r3 e with h1 | h1
      · cases h1
      · exact InT.loop n _ r1 (by omega)
    · rw [if_neg e]
      obtain ⟨h5,h6,h7⟩ := r4 (by simpa using e)
      rw [h6]
      exact ⟨t,h7⟩
theorem rTree_in (P : List Opn) : InT P (rTreeL P) ∧ ∀ o ∈ P,o.kind = 1 → (dR (rTreeL P) o.ins).2 ≠ 0 := InT.loop _ _ (InT.nil P) (by simp)
theorem rDrops_len (L : List Ins) : ∀ (Q : List Opn) (G : List EId),(Q.foldl (rDrop L) G).length ≤ G.length + Q.length
  | [],G => by simp
  | o :: Q,G => by
    rw [List.foldl_cons]
    have h1 := rDrops_len L Q (rDrop L G o)
    have h2 : (rDrop L G o).length ≤ G.length + 1 := by
      unfold rDrop dropG
      repeat' split
      all_goals simp
    simp only [List.length_cons]
    omega
theorem opsC_load6 {l : List Opn} {i : Nat} (h : i < l.length) : ((dL l).drop (i * 19 + 1)).take 6 = cA l[i].ins := by
  have h2 : (((dL l).drop (i * 19)).take 19) = opC l[i] := opsC_load h
  have h3 : ((((dL l).drop (i * 19)).take 19).drop 1).take 6 = cA l[i].ins := by rw [h2]; rfl
  rw [List.drop_take,List.take_take,List.drop_drop] at h3
  exact h3
theorem opsC_load2 {l : List Opn} {i : Nat} (h : i < l.length) : ((dL l).drop (i * 19 + 7)).take 2 = idC l[i].drop := by
  have h2 : (((dL l).drop (i * 19)).take 19) = opC l[i] := opsC_load h
  have h3 : ((((dL l).drop (i * 19)).take 19).drop 7).take 2 = idC l[i].drop := by rw [h2]; rfl
  rw [List.drop_take,List.take_take,List.drop_drop] at h3
  exact h3
abbrev tB (L : List Ins) (G : List EId) : AObj := .cells (treeC L G) 74 2
theorem rtree_pure (P : List Opn) (hP : P.length ≤ 4096) : APure Tryz.prog 29 [papR P] (dJ (rTreeL P) (rTreeG P)) := by
  have hol := cq P
  have hsi : ∀ i,(cA i).map AV.strip0 = cA i := fun i => rfl
  have hfin := rTree_in P
  have hGl := rDrops_len (rTreeL P) P []
  have hGd : rTreeG P = P.foldl (rDrop (rTreeL P)) [] := rfl
  have hLd : rLoop P (P.length + 1) [] = rTreeL P := rfl
  generalize rTreeG P = GT at *
  generalize rTreeL P = LT at *
  rw [← hGd] at hGl
  simp only [List.length_nil,Nat.zero_add] at hGl
  have hLTl := hfin.1.le
  refine az (c := ⟨Tryz.prog,68,[(9,[0,0,0,0,0,0,0,0,0,0,0,2,2,0]),(16,[1,0,1,0,0,0,1,0,0,0,0,2]),(1000000,[1]),(1000009,[6]),(4000016,[1,2,3,8]),(4000015,[1,2,3,8,55]),(4000013,[1,2,3,8,46]),(4000011,[1,2,3,4,5]),(4000009,[1,2,3,4,5,6,7]),(4000008,[1,2,3,4,5,24]),(4000006,[1,2,3,4,5,15])],[],[(9,(.op 1 0 (.op 2 0 (.op 3 0 (.op 4 0 (.op 5 0 (.op 6 0 (.or (.op 0 2 (.op 7 0 (.op 8 0 (.op 9 0 (.op 10 0 (.op 11 2 (.op 12 2 (.op 13 0 .nil)))))))) (.op 11 2 (.op 0 2 (.op 7 0 (.op 8 0 (.op 9 0 (.op 10 0 (.op 12 2 (.op 13 0 .nil))))))))))))))))]⟩) (rs := [ResultVar.cell 2 74]) Tryz.mixed Tryz.func29 rfl rfl rfl (Nat.le_of_ble_eq_true rfl) (by kernel_rfl) fun H => ?_
  simp (disch := omega) only [↓aI,↓zP,aD,zD,aS,simprocAttr,Tryz.facts]
  intro b1 hb10 hb1 b2 hb20 hb2
  have hb2H := am hb2
  have n12 := bK hb2
  try simp (disch := omega) only [↓aI,↓zP,aD,zD,aS,simprocAttr,Tryz.facts,aP,n12,bH hb1 n12,ah]
  intro b3 hb30 hb3
  have n23 := bK hb3
  try simp (disch := omega) only [↓aI,↓zP,aD,zD,aS,simprocAttr,Tryz.facts]
  refine nil_t b3 0 set_get rfl ?_
  refine nil_t b3 1 set_get rfl ?_
  simp only [List.set_cons_zero,List.set_cons_succ,set_set]
  have vB : (H.set b2 (.cells [.sc (.slice none 0 0),.sc (.slice none 0 0)] 74 2)) b2 = some (.cells [.sc (.slice none 0 0),.sc (.slice none 0 0)] 74 2) := set_get
  have hBs : Abs.Sub H (H.set b2 (.cells [.sc (.slice none 0 0),.sc (.slice none 0 0)] 74 2)) := Sub.set_new hb2H
  generalize H.set b2 (.cells [.sc (.slice none 0 0),.sc (.slice none 0 0)] 74 2) = HB at *
  refine br (c := ⟨Tryz.prog,68,[(9,[0,0,0,0,0,0,0,0,0,0,0,2,2,0]),(16,[1,0,1,0,0,0,1,0,0,0,0,2]),(1000000,[1]),(1000009,[6]),(4000016,[1,2,3,8]),(4000015,[1,2,3,8,55]),(4000013,[1,2,3,8,46]),(4000011,[1,2,3,4,5]),(4000009,[1,2,3,4,5,6,7]),(4000008,[1,2,3,4,5,24]),(4000006,[1,2,3,4,5,15])],[],[(9,(.op 1 0 (.op 2 0 (.op 3 0 (.op 4 0 (.op 5 0 (.op 6 0 (.or (.op 0 2 (.op 7 0 (.op 8 0 (.op 9 0 (.op 10 0 (.op 11 2 (.op 12 2 (.op 13 0 .nil)))))))) (.op 11 2 (.op 0 2 (.op 7 0 (.op 8 0 (.op 9 0 (.op 10 0 (.op 12 2 (.op 13 0 .nil))))))))))))))))]⟩) Tryz.mixed (by kernel_rfl) (fun mm σ H' => ∃ (L : List Ins) (a : Bool),H' = HB.set b3 (tB L []) ∧ InT P L ∧ ((a = true ∧ rLoop P mm L = LT ∧ P.length + 1 ≤ mm + L.length) ∨ (a = false ∧ L = LT)) ∧ σ 1 = .ip [opsV P] 0 ∧ σ 2 = .ptr b2 0 ∧ σ 3 = .ptr b3 0 ∧ σ 4 = .sc (.bool a)) (P.length + 1) ?_ ?_
  · refine ⟨[],true,rfl,InT.nil P,.inl ⟨rfl,hLd,by simp⟩,?_⟩
    simp (disch := omega) only [↓aI,↓zP,aD,zD,aS,simprocAttr,Tryz.facts]
    try rfl
  · rintro mm σ H' ⟨L,a,rfl,hin,hcase,s1,s2,s3,s4⟩
    rcases hcase with ⟨rfl,hlp,hmm⟩ | ⟨rfl,rfl⟩
    · have hLl := hin.le
      obtain ⟨n,rfl⟩ : ∃ n,mm = n + 1 := ⟨mm - 1,by omega⟩
      simp (disch := omega) only [↓aI,↓zP,aD,zD,aS,simprocAttr,Tryz.facts,s1,s2,s3,s4]
      refine br (c := ⟨Tryz.prog,68,[(9,[0,0,0,0,0,0,0,0,0,0,0,2,2,0]),(16,[1,0,1,0,0,0,1,0,0,0,0,2]),(1000000,[1]),(1000009,[6]),(4000016,[1,2,3,8]),(4000015,[1,2,3,8,55]),(4000013,[1,2,3,8,46]),(4000011,[1,2,3,4,5]),(4000009,[1,2,3,4,5,6,7]),(4000008,[1,2,3,4,5,24]),(4000006,[1,2,3,4,5,15])],[],[(9,(.op 1 0 (.op 2 0 (.op 3 0 (.op 4 0 (.op 5 0 (.op 6 0 (.or (.op 0 2 (.op 7 0 (.op 8 0 (.op 9 0 (.op 10 0 (.op 11 2 (.op 12 2 (.op 13 0 .nil)))))))) (.op 11 2 (.op 0 2 (.op 7 0 (.op 8 0 (.op 9 0 (.op 10 0 (.op 12 2 (.op 13 0 .nil))))))))))))))))]⟩) Tryz.mixed (by kernel_rfl) (fun mm σ H' => ∃ (i : Nat) (L2 : List Ins) (b : Bool),i + mm = P.length ∧ (P.take i).foldl rStep (L,false) = (L2,b) ∧ H' = HB.set b3 (tB L2 []) ∧ σ 1 = .ip [opsV P] 0 ∧ σ 2 = .ptr b2 0 ∧ σ 3 = .ptr b3 0 ∧ σ 4 = .sc (.bool b) ∧ σ 5 = .sc (.int .i64 (i : Nat))) P.length ?_ ?_
      · refine ⟨0,L,false,by omega,rfl,rfl,?_⟩
        simp (disch := omega) only [↓aI,↓zP,aD,zD,aS,simprocAttr,Tryz.facts,s1,s2,s3,s4]
        try rfl
      · clear s1 s2 s3 s4
        rintro m2 σ H2 ⟨i,L2,b,him,hfo,rfl,s1,s2,s3,s4,s5⟩
        have hin2 := (InT.round (P.take i) L false (fun o ho => List.mem_of_mem_take ho) hin).1
        rw [hfo] at hin2
        simp only at hin2
        have hL2l := hin2.le
        have v3 : (HB.set b3 (tB L2 [])) b3 = some (tB L2 []) := set_get
        by_cases hlt : i < P.length
        · have hkd := opsC_kind hlt
          have hl6 := opsC_load6 hlt
          have hle : i * 19 + 19 ≤ P.length * 19 := by omega
          have hst : (P.take (i + 1)).foldl rStep (L,false) = rStep (L2,b) P[i] := by
            rw [List.take_succ_eq_append_getElem hlt,List.foldl_append,hfo]
            rfl
          unfold rStep at hst
          generalize P[i] = q at *
          by_cases k1 : q.kind = 1
          · simp only [if_pos k1] at hst
            have hra := radd_pure L2 [] q.ins (by omega) (by simp)
            generalize dR L2 q.ins = AA at *
            obtain ⟨L3,e3⟩ := AA
            simp only at hst hra
            have h6 : i * 19 + 1 + 6 ≤ P.length * 19 := by omega
            simp (disch := omega) only [↓aI,↓zP,aD,zD,aS,simprocAttr,Tryz.facts,s1,s2,s3,s4,s5,zA,hol,hkd,hl6,v3,h6]
            refine eI (fun σ F => ∃ b6,F = (HB.set b3 (tB L2 [])).set b6 (.cells (treeC L3 []) 74 2) ∧ (HB.set b3 (tB L2 [])) b6 = none ∧ σ 1 = .ip [opsV P] 0 ∧ σ 2 = .ptr b2 0 ∧ σ 3 = .ptr b3 0 ∧ σ 4 = .sc (.bool b) ∧ σ 5 = .sc (.int .i64 (i : Nat)) ∧ σ 6 = .ptr b6 0 ∧ σ 7 = .sc (.int .i64 e3)) ?_ ?_
            · simp (disch := omega) only [↓aI,↓zP,aD,zD,aS,simprocAttr,Tryz.facts,s1,s2,s3,s4,s5,zA,hol,hkd,hl6,v3,h6,hsi]
              refine And.intro ?_ ?_
              · skip
                first | refine CallK.p (hra) ?_ | refine CallP.i (hra) ?_
                simp (disch := omega) only [↓aI,↓zP,aD,zD,aS,simprocAttr,Tryz.facts,s1,s2,s3,s4,s5,zA,hol,v3]
                intro b6 hb60 hb6
                exact ⟨b6,rfl,hb6,rfl⟩
              · intro b6 hb60 hb6
                have n36 : ¬ b3 = b6 := bA v3 hb6
                have v3' : ((HB.set b3 (tB L2 [])).set b6 (.cells [.sc (.slice none 0 0),.sc (.slice none 0 0)] 74 2)) b3 = some (tB L2 []) := by rw [aP n36]; exact v3
                simp (disch := omega) only [↓aI,↓zP,aD,zD,aS,simprocAttr,Tryz.facts,s1,s2,s3,s4,s5,zA,hol,v3']
                first | refine CallK.p (hra) ?_ | refine CallP.i (hra) ?_
                simp (disch := omega) only [↓aI,↓zP,aD,zD,aS,simprocAttr,Tryz.facts,s1,s2,s3,s4,s5,zA,hol,v3',ah,set_get,set_set]
                exact ⟨b6,rfl,hb6,rfl⟩
            · rintro σ F ⟨b6,rfl,hb6,s1,s2,s3,s4,s5,s6,s7⟩
              cases b
              · by_cases h0 : e3 = 0
                · simp (disch := omega) only [↓aI,↓zP,aD,zD,aS,simprocAttr,Tryz.facts,s1,s2,s3,s4,s5,s6,s7,zA,aj hb6,ah,v3,set_set,h0]
                  exact ⟨m2 - 1,by omega,i + 1,L3,true,by omega,by rw [decide_eq_true h0] at hst; exact hst,rfl,rfl,rfl⟩
                · simp (disch := omega) only [↓aI,↓zP,aD,zD,aS,simprocAttr,Tryz.facts,s1,s2,s3,s4,s5,s6,s7,zA,aj hb6,ah,v3,set_set,h0]
                  exact ⟨m2 - 1,by omega,i + 1,L3,false,by omega,by rw [decide_eq_false h0] at hst; exact hst,rfl,rfl,rfl⟩
              · simp (disch := omega) only [↓aI,↓zP,aD,zD,aS,simprocAttr,Tryz.facts,s1,s2,s3,s4,s5,s6,s7,zA,aj hb6,ah,v3,set_set]
                exact ⟨m2 - 1,by omega,i + 1,L3,true,by omega,hst,rfl,rfl,rfl⟩
          · simp only [if_neg k1] at hst
            simp (disch := omega) only [↓aI,↓zP,aD,zD,aS,simprocAttr,Tryz.facts,s1,s2,s3,s4,s5,zA,hol,hkd]
            exact ⟨m2 - 1,by omega,i + 1,L2,b,by omega,hst,rfl,rfl,rfl⟩
        · obtain rfl : i = P.length := by omega
          rw [List.take_length] at hfo
          have hrr : rRound P L = (L2,b) := hfo
          rw [rLoop,hrr] at hlp
          simp only at hlp
          have hrd := InT.round P L false (fun o ho => ho) hin
          unfold rRound at hrr
          rw [hrr] at hrd
          simp only at hrd
          simp (disch := omega) only [↓aI,↓zP,aD,zD,aS,simprocAttr,Tryz.facts,s1,s2,s3,s4,s5,zA,hol]
          cases b
          · exact ⟨0,by omega,L2,false,rfl,hin2,.inr ⟨rfl,hlp⟩,rfl⟩
          · rcases hrd.2.2.1 rfl with h1 | h1
            · cases h1
            · exact ⟨n,by omega,L2,true,rfl,hin2,.inl ⟨rfl,hlp,by omega⟩,rfl⟩
    · simp (disch := omega) only [↓aI,↓zP,aD,zD,aS,simprocAttr,Tryz.facts,s1,s2,s3,s4]
      refine br (c := ⟨Tryz.prog,68,[(9,[0,0,0,0,0,0,0,0,0,0,0,2,2,0]),(16,[1,0,1,0,0,0,1,0,0,0,0,2]),(1000000,[1]),(1000009,[6]),(4000016,[1,2,3,8]),(4000015,[1,2,3,8,55]),(4000013,[1,2,3,8,46]),(4000011,[1,2,3,4,5]),(4000009,[1,2,3,4,5,6,7]),(4000008,[1,2,3,4,5,24]),(4000006,[1,2,3,4,5,15])],[],[(9,(.op 1 0 (.op 2 0 (.op 3 0 (.op 4 0 (.op 5 0 (.op 6 0 (.or (.op 0 2 (.op 7 0 (.op 8 0 (.op 9 0 (.op 10 0 (.op 11 2 (.op 12 2 (.op 13 0 .nil)))))))) (.op 11 2 (.op 0 2 (.op 7 0 (.op 8 0 (.op 9 0 (.op 10 0 (.op 12 2 (.op 13 0 .nil))))))))))))))))]⟩) Tryz.mixed (by kernel_rfl) (fun mm σ H' => ∃ (i : Nat) (G : List EId),i + mm = P.length ∧ G = (P.take i).foldl (rDrop L) [] ∧ H' = HB.set b3 (tB L G) ∧ σ 1 = .ip [opsV P] 0 ∧ σ 2 = .ptr b2 0 ∧ σ 3 = .ptr b3 0 ∧ σ 8 = .sc (.int .i64 (i : Nat))) P.length ?_ ?_
      · refine ⟨0,[],by omega,rfl,rfl,?_⟩
        simp (disch := omega) only [↓aI,↓zP,aD,zD,aS,simprocAttr,Tryz.facts,s1,s2,s3]
        try rfl
      · clear s1 s2 s3 s4
        rintro m2 σ H2 ⟨i,G,him,hG,rfl,s1,s2,s3,s8⟩
        have v3 : (HB.set b3 (tB L G)) b3 = some (tB L G) := set_get
        have hGl2 := rDrops_len L (P.take i) []
        rw [← hG] at hGl2
        simp only [List.length_nil,Nat.zero_add,List.length_take] at hGl2
        by_cases hlt : i < P.length
        · have hkd := opsC_kind hlt
          have hl2 := opsC_load2 hlt
          have hle : i * 19 + 19 ≤ P.length * 19 := by omega
          have hst : (P.take (i + 1)).foldl (rDrop L) [] = rDrop L G P[i] := by
            rw [List.take_succ_eq_append_getElem hlt,List.foldl_append,← hG]
            rfl
          unfold rDrop at hst
          generalize P[i] = q at *
          by_cases k2 : q.kind = 2
          · simp only [if_pos k2] at hst
            have hrd := rdrop_pure L G q.drop (by omega) (by omega)
            generalize dropG L G q.drop = AA at *
            obtain ⟨G3,e3⟩ := AA
            simp only at hst hrd
            have h7 : i * 19 + 7 + 2 ≤ P.length * 19 := by omega
            simp (disch := omega) only [↓aI,↓zP,aD,zD,aS,simprocAttr,Tryz.facts,s1,s2,s3,s8,zA,hol,hkd,hl2,v3,h7]
            first | refine CallK.p (hrd) ?_ | refine CallP.i (hrd) ?_
            simp (disch := omega) only [↓aI,↓zP,aD,zD,aS,simprocAttr,Tryz.facts,s1,s2,s3,s8,zA,hol,v3,ah,set_set]
            exact ⟨m2 - 1,by omega,i + 1,G3,by omega,hst.symm,rfl,rfl⟩
          · simp only [if_neg k2] at hst
            simp (disch := omega) only [↓aI,↓zP,aD,zD,aS,simprocAttr,Tryz.facts,s1,s2,s3,s8,zA,hol,hkd]
            exact ⟨m2 - 1,by omega,i + 1,G,by omega,hst.symm,rfl,rfl⟩
        · obtain rfl : i = P.length := by omega
          rw [List.take_length,← hGd] at hG
          subst hG
          have v2 : (HB.set b3 (tB L G)) b2 = some (.cells [.sc (.slice none 0 0),.sc (.slice none 0 0)] 74 2) := by rw [aP n23]; exact vB
          simp (disch := omega) only [↓aI,↓zP,aD,zD,aS,simprocAttr,Tryz.facts,s1,s2,s3,s8,zA,hol,v3,v2,ah]
          exact (hBs.trans (Sub.set_new hb3)).set_free hb2H
end Go.Proofs.YtcgjlmopeblapaaGreat
end
section
set_option linter.unusedSimpArgs false
set_option linter.unusedVariables false
set_option maxRecDepth 8000
set_option maxHeartbeats 4000000
namespace Go.Proofs.YtcgjlmopeblapaaGreat
open Go Go.Abs Go.Proofs Go.Fug
def rMark (l : List Mk) (o : Opn) : List Mk := if o.kind = 3 then (eU l o.mar).1 else l
def rMarks (P : List Opn) : List Mk := P.foldl rMark []
theorem rMark_len (l : List Mk) (o : Opn) : (rMark l o).length ≤ l.length + 1 := by
  unfold rMark eU
  repeat' split
  all_goals first | (simp; done) | skip
  have h1 : ∀ (p : Mk → Bool) (l : List Mk),(l.filter p).length + (l.filter fun x => !p x).length = l.length := by
    intro p l
    induction l with
    | nil => rfl
    | cons a l ih =>
      cases e : p a <;> simp [e] <;> omega
  have := h1 (fun x => newM o.mar x) l
  simp only [List.length_append,List.length_cons,List.length_nil]
  omega
theorem rMarks_len : ∀ (P : List Opn) (l : List Mk),(P.foldl rMark l).length ≤ l.length + P.length
  | [],l => by simp
  | o :: P,l => by
    rw [List.foldl_cons]
    have h1 := rMarks_len P (rMark l o)
    have h2 := rMark_len l o
    simp only [List.length_cons]
    omega
theorem opsC_load10 {l : List Opn} {i : Nat} (h : i < l.length) : ((dL l).drop (i * 19 + 9)).take 10 = mkC l[i].mar := by
  have h2 : (((dL l).drop (i * 19)).take 19) = opC l[i] := opsC_load h
  have h3 : ((((dL l).drop (i * 19)).take 19).drop 9).take 10 = mkC l[i].mar := by rw [h2]; rfl
  rw [List.drop_take,List.take_take,List.drop_drop] at h3
  exact h3
theorem rmarks_pure (P : List Opn) (hP : P.length ≤ 500) : APure Tryz.prog 37 [papR P] (eM (rMarks P)) := by
  have hol := cq P
  have hsm : ∀ m,(mkC m).map AV.strip0 = mkC m := fun m => rfl
  have hR : rMarks P = P.foldl rMark [] := rfl
  generalize rMarks P = R at *
  refine az (c := ⟨Tryz.prog,31,[(1000000,[1])],[],[]⟩) (rs := [ResultVar.tmp 2]) Tryz.mixed Tryz.func37 rfl rfl rfl (Nat.le_of_ble_eq_true rfl) (by kernel_rfl) fun H => ?_
  simp (disch := omega) only [↓aI,↓zP,aD,zD,aS,simprocAttr,Tryz.facts]
  intro b1 hb10 hb1
  try simp (disch := omega) only [↓aI,↓zP,aD,zD,aS,simprocAttr,Tryz.facts,aj hb1,ah]
  refine tok_t 3 (by simp (disch := omega) only [↓aI,↓zP,aD,zD,aS,simprocAttr,Tryz.facts]) fun k hk0 hk => ?_
  refine br (c := ⟨Tryz.prog,31,[(1000000,[1])],[],[]⟩) Tryz.mixed (by kernel_rfl) (fun mm σ H' => H' = H.set k .nilt ∧ ∃ (i kk : Nat) (l : List Mk),i + mm = P.length ∧ l = (P.take i).foldl rMark [] ∧ σ 1 = .ip [opsV P] 0 ∧ σ 3 = .imm kk (bE l) l.length ∧ σ 4 = .sc (.int .i64 (i : Nat))) P.length ?_ ?_
  · refine ⟨rfl,0,k,[],by omega,rfl,?_⟩
    simp (disch := omega) only [↓aI,↓zP,aD,zD,aS,simprocAttr,Tryz.facts]
    try rfl
  · rintro mm σ H' ⟨rfl,i,kk,l,him,hl,s1,s3,s4⟩
    have hll := rMarks_len (P.take i) []
    rw [← hl] at hll
    simp only [List.length_nil,Nat.zero_add,List.length_take] at hll
    by_cases hlt : i < P.length
    · have hkd := opsC_kind hlt
      have h10 := opsC_load10 hlt
      have hle : i * 19 + 9 + 10 ≤ P.length * 19 := by omega
      have hst : (P.take (i + 1)).foldl rMark [] = rMark l P[i] := by
        rw [List.take_succ_eq_append_getElem hlt,List.foldl_append,← hl]
        rfl
      unfold rMark at hst
      generalize P[i] = q at *
      by_cases k3 : q.kind = 3
      · simp only [if_pos k3] at hst
        have hra := rmadd_pure l q.mar (by omega)
        generalize eU l q.mar = AA at *
        obtain ⟨l3,e3⟩ := AA
        simp only at hst hra
        simp (disch := omega) only [↓aI,↓zP,aD,zD,aS,simprocAttr,Tryz.facts,s1,s3,s4,zA,hol,hkd,h10,hle,hsm]
        first | refine CallK.p (hra) ?_ | refine CallP.i (hra) ?_
        simp (disch := omega) only [↓aI,↓zP,aD,zD,aS,simprocAttr,Tryz.facts,s1,s3,s4,zA,hol,hsm]
        exact ⟨mm - 1,by omega,i + 1,0,l3,by omega,hst.symm,rfl,rfl⟩
      · simp only [if_neg k3] at hst
        simp (disch := omega) only [↓aI,↓zP,aD,zD,aS,simprocAttr,Tryz.facts,s1,s3,s4,zA,hol,hkd]
        exact ⟨mm - 1,by omega,i + 1,kk,l,by omega,hst.symm,rfl,rfl⟩
    · obtain rfl : i = P.length := by omega
      rw [List.take_length,← hR] at hl
      subst hl
      simp (disch := omega) only [↓aI,↓zP,aD,zD,aS,simprocAttr,Tryz.facts,s1,s3,s4,zA,hol]
      exact Sub.set_new hk
end Go.Proofs.YtcgjlmopeblapaaGreat
end
section
set_option linter.unusedSimpArgs false
set_option linter.unusedVariables false
namespace Go.Proofs.YtcgjlmopeblapaaGreat
open Go Go.Abs Go.Proofs Go.Fug
theorem good_nd {L : List Ins} (g : Fug.Good L) : L.Nodup := List.Pairwise.of_map (fun x => x.id) (fun a b h e => h (by rw [e])) g.nd
theorem sorted_eq : ∀ {l m : List EId},Sorted l → Sorted m → (∀ x,x ∈ l ↔ x ∈ m) → l = m
  | [],[],_,_,_ => rfl
  | [],y :: m,_,_,h => by have := (h y).2 (by simp); simp at this
  | x :: l,[],_,_,h => by have := (h x).1 (by simp); simp at this
  | x :: l,y :: m,hl,hm,h => by
    obtain ⟨a1,a2⟩ := List.pairwise_cons.1 hl
    obtain ⟨b1,b2⟩ := List.pairwise_cons.1 hm
    have exy : x = y := by
      rcases List.mem_cons.1 ((h x).1 (by simp)) with e | e
      · exact e
      · rcases List.mem_cons.1 ((h y).2 (by simp)) with e' | e'
        · exact e'.symm
        · have h1 := b1 x e
          have h2 := a1 y e'
          rw [less_asym h1] at h2
          cases h2
    subst exy
    have : l = m := sorted_eq a2 b2 fun z => by
      constructor
      · intro hz
        rcases List.mem_cons.1 ((h z).1 (by simp [hz])) with e | e
        · subst e
          have := a1 z hz
          rw [less_irr] at this
          cases this
        · exact e
      · intro hz
        rcases List.mem_cons.1 ((h z).2 (by simp [hz])) with e | e
        · subst e
          have := b1 z hz
          rw [less_irr] at this
          cases this
        · exact e
    rw [this]
theorem nodes_congr {L L' : List Ins} {G G' : List EId} (g : Fug.Good L) (g' : Fug.Good L') (h : ∀ i,i ∈ L ↔ i ∈ L') (hg : ∀ x,x ∈ G ↔ x ∈ G') : bF L G = bF L' G' := by
  have hlen : L.length = L'.length := Nat.le_antisymm (cO _ _ (good_nd g) fun i => (h i).1) (cO _ _ (good_nd g') fun i => (h i).2)
  have hk : ∀ p r,kids L p r = kids L' p r := fun p r => sorted_eq (kids_sorted g.nd p r) (kids_sorted g'.nd p r) fun x => by
    rw [mem_kids,mem_kids]
    constructor
    · rintro ⟨i,h1,h2⟩; exact ⟨i,(h i).1 h1,h2⟩
    · rintro ⟨i,h1,h2⟩; exact ⟨i,(h i).2 h1,h2⟩
  have hn : ∀ y,bl L G y = bl L' G' y := fun y => by
    have e1 : decide (y ∈ G) = decide (y ∈ G') := decide_eq_decide.2 (hg y)
    have e2 : (L.find? fun i => decide (i.id = y)) = L'.find? fun i => decide (i.id = y) := by
      cases e : L.find? fun i => decide (i.id = y) with
      | none =>
        symm
        rw [List.find?_eq_none] at e ⊢
        intro i hi
        exact e i ((h i).2 hi)
      | some i =>
        have hi := List.mem_of_find?_eq_some e
        have hp := List.find?_some e
        simp only [decide_eq_true_eq] at hp
        have := find_id g'.nd ((h i).1 hi)
        rw [hp] at this
        exact this.symm
    unfold bl
    rw [e1,e2]
  have hb : ∀ n x r,below L G n x r = below L' G' n x r := by
    intro n
    induction n with
    | zero => intro x r; rfl
    | succ n ih =>
      intro x r
      simp only [below]
      rw [hk]
      congr 1
      funext y
      rw [ih,ih,hn]
  show below L G (L.length + 1) bL true = below L' G' (L'.length + 1) bL true
  rw [hlen,hb]
end Go.Proofs.YtcgjlmopeblapaaGreat
end
section
set_option linter.unusedSimpArgs false
set_option linter.unusedVariables false
set_option maxRecDepth 8000
set_option maxHeartbeats 1000000
namespace Go.Proofs.YtcgjlmopeblapaaGreat
open Go Go.Abs Go.Proofs Go.Fug
def insR (P : List Opn) : List Ins := (P.filter fun o => decide (o.kind = 1)).map (·.ins)
def drpR (P : List Opn) : List EId := (P.filter fun o => decide (o.kind = 2)).map (·.drop)
structure Rel (P : List Opn) (s : PS) : Prop where
  ok : ∀ o ∈ P,opR o = true
  nd : (P.map cM).Nodup
  i : s.I = insR P
  d : s.D = drpR P
  m : s.l = rMarks P
  ml : s.l.length = dI P
  kn : ∀ o,opR o = true → (cf s o = true ↔ cM o ∈ P.map cM)
theorem Rel.nil : Rel [] ps0 := ⟨by simp,by simp,rfl,rfl,rfl,rfl,fun o _ => by
  unfold cf
  simp only [ps0,List.map_nil,List.not_mem_nil,hasM,List.any_nil]
  split
  · simp
  · split <;> simp⟩
theorem rMarks_snoc (P : List Opn) (o : Opn) : rMarks (P ++ [o]) = rMark (rMarks P) o := by simp [rMarks,List.foldl_append]
theorem marksIn_snoc (P : List Opn) (o : Opn) : dI (P ++ [o]) = dI P + if o.kind = 3 then 1 else 0 := by
  unfold dI
  rw [List.filter_append,List.length_append]
  congr 1
  by_cases e : o.kind = 3 <;> simp [e]
theorem marksIn_app (P F : List Opn) : dI (P ++ F) = dI P + dI F := by
  unfold dI
  rw [List.filter_append,List.length_append]
theorem size_all : ∀ P : List Opn,(∀ o ∈ P,opR o = true) → (insR P).length + (drpR P).length + dI P = P.length
  | [],_ => rfl
  | o :: P,h => by
    have ih := size_all P fun q hq => h q (by simp [hq])
    unfold insR drpR dI at ih ⊢
    rcases opR_kind (h o (by simp)) with k | k | k
    · simp [k] at ih ⊢; omega
    · simp [k] at ih ⊢; omega
    · simp [k] at ih ⊢; omega
theorem Rel.size {P : List Opn} {s : PS} (r : Rel P s) : sizP s = P.length := by
  unfold sizP
  rw [r.i,r.d,r.ml]
  exact size_all P r.ok
theorem one_name {a b : Opn} (ha : opR a = true) (hb : opR b = true) : oneO a b = decide (cM a = cM b) := by
  have k1 := opR_kind ha
  have k2 := opR_kind hb
  unfold oneO cM
  rw [Bool.eq_iff_iff]
  rcases k1 with k1 | k1 | k1 <;> rcases k2 with k2 | k2 | k2 <;> simp [k1,k2,Prod.ext_iff]
  all_goals omega
theorem knownR_iff {P : List Opn} (h : ∀ o ∈ P,opR o = true) {o : Opn} (ho : opR o = true) : knownR P o = true ↔ cM o ∈ P.map cM := by
  unfold knownR
  rw [ho,Bool.true_and,List.any_eq_true,List.mem_map]
  constructor
  · rintro ⟨x,h1,h2⟩
    rw [one_name (h x h1) ho,decide_eq_true_eq] at h2
    exact ⟨x,h1,h2⟩
  · rintro ⟨x,h1,h2⟩
    exact ⟨x,h1,by rw [one_name (h x h1) ho,decide_eq_true_eq]; exact h2⟩
theorem name_kind {a b : Opn} (h : cM a = cM b) : a.kind = b.kind := by
  have : ∀ o : Opn,(cM o).1 = o.kind := fun o => by
    unfold cM
    split
    · rfl
    · split <;> rfl
  rw [← this a,← this b,h]
theorem known_same {s : PS} {o q : Opn} (h : cM o = cM q) (hk : opR o = true) : cf s o = cf s q := by
  have k := name_kind h
  have k1 := opR_kind hk
  unfold cf cM at *
  rcases k1 with k1 | k1 | k1
  · rw [k1] at k
    simp only [k1,← k,if_true,Prod.mk.injEq,true_and] at h ⊢
    rw [show o.ins.id = q.ins.id from Prod.ext h.1 h.2]
  · rw [k1] at k
    simp only [k1,← k,if_true,Prod.mk.injEq,true_and,show ¬ (2 : Int) = 1 by decide,if_false] at h ⊢
    rw [show o.drop = q.drop from Prod.ext h.1 h.2]
  · rw [k1] at k
    simp only [k1,← k,if_true,Prod.mk.injEq,true_and,show ¬ (3 : Int) = 1 by decide,show ¬ (3 : Int) = 2 by decide,if_false] at h ⊢
    rw [h.1,h.2]
theorem addM_new {l : List Mk} {m : Mk} (hr : cQ m = true) (hh : hasM l m.clock m.author = false) (hf : l.length ≠ 512) : (eU l m).1.length = l.length + 1 ∧ hasM (eU l m).1 m.clock m.author = true := by
  unfold eU
  rw [if_neg (by rw [hr]; simp),if_neg (by rw [hh]; simp),if_neg hf]
  refine ⟨?_,?_⟩
  · have h1 : ∀ (p : Mk → Bool) (l : List Mk), (l.filter p).length + (l.filter fun x => !p x).length = l.length := by
      intro p l
      induction l with
      | nil => rfl
      | cons a l ih => cases e : p a <;> simp [e] <;> omega
    have := h1 (fun x => newM m x) l
    simp only [List.length_append,List.length_cons,List.length_nil]
    omega
  · unfold hasM
    rw [List.any_eq_true]
    exact ⟨m,by simp,by simp [atM]⟩
theorem Rel.take {P : List Opn} {s : PS} (r : Rel P s) {o : Opn} (ho : opR o = true) (hn : cf s o = false) (hm : s.l.length + (if o.kind = 3 then 1 else 0) ≤ 512) : Rel (P ++ [o]) (dK s o) := by
  have hnn : cM o ∉ P.map cM := fun h => by rw [(r.kn o ho).2 h] at hn; cases hn
  have hk := opR_kind ho
  have hown : cf (dK s o) o = true := by
    unfold cf dK
    rcases hk with k | k | k
    · simp [k]
    · simp [k]
    · simp only [k,if_true,show ¬ (3 : Int) = 1 by decide,show ¬ (3 : Int) = 2 by decide,if_false] at hm ⊢
      unfold cf at hn
      simp only [k,show ¬ (3 : Int) = 1 by decide,show ¬ (3 : Int) = 2 by decide,if_false] at hn
      have hr : cQ o.mar = true := by
        unfold opR at ho
        simp only [k,show ¬ (3 : Int) = 1 by decide,show ¬ (3 : Int) = 2 by decide,if_true,if_false,Bool.and_eq_true] at ho
        exact ho.1
      exact (addM_new hr hn (by omega)).2
  refine ⟨fun q hq => ?_,?_,?_,?_,?_,?_,fun q hq => ?_⟩
  · rcases List.mem_append.1 hq with h | h
    · exact r.ok q h
    · rw [List.mem_singleton.1 h]; exact ho
  · rw [List.map_append,List.nodup_append]
    refine ⟨r.nd,by simp,fun x hx y hy e => ?_⟩
    simp only [List.map_cons,List.map_nil,List.mem_singleton] at hy
    rw [e,hy] at hx
    exact hnn hx
  · unfold dK insR
    rw [List.filter_append,List.map_append]
    have := r.i
    unfold insR at this
    rcases hk with k | k | k <;> simp [k,this]
  · unfold dK drpR
    rw [List.filter_append,List.map_append]
    have := r.d
    unfold drpR at this
    rcases hk with k | k | k <;> simp [k,this]
  · rw [rMarks_snoc,← r.m]
    unfold dK rMark
    rcases hk with k | k | k <;> simp [k]
  · rw [marksIn_snoc,← r.ml]
    unfold dK
    rcases hk with k | k | k
    · simp [k]
    · simp [k]
    · simp only [k,if_true,show ¬ (3 : Int) = 1 by decide,show ¬ (3 : Int) = 2 by decide,if_false] at hm ⊢
      unfold cf at hn
      simp only [k,show ¬ (3 : Int) = 1 by decide,show ¬ (3 : Int) = 2 by decide,if_false] at hn
      have hr : cQ o.mar = true := by
        unfold opR at ho
        simp only [k,show ¬ (3 : Int) = 1 by decide,show ¬ (3 : Int) = 2 by decide,if_true,if_false,Bool.and_eq_true] at ho
        exact ho.1
      exact (addM_new hr hn (by omega)).1
  · by_cases e : cM q = cM o
    · rw [known_same e hq,hown,e]
      simp
    · rw [known_take hq ho e,r.kn q hq,List.map_append,List.mem_append]
      simp [e]
theorem Rel.takes : ∀ (F P : List Opn) {s : PS},Rel P s → (∀ o ∈ F,opR o = true ∧ cf s o = false) → (F.map cM).Nodup → s.l.length + dI F ≤ 512 → Rel (P ++ F) (F.foldl dK s)
  | [],P,s,r,_,_,_ => by rw [List.append_nil]; exact r
  | o :: F,P,s,r,h,hn,hm => by
    have hm2 : dI (o :: F) = (if o.kind = 3 then 1 else 0) + dI F := by
      have := marksIn_app [o] F
      rw [List.singleton_append] at this
      rw [this]
      congr 1
      unfold dI
      by_cases e : o.kind = 3 <;> simp [e]
    rw [List.map_cons,List.nodup_cons] at hn
    have h1 := h o (by simp)
    have r1 := r.take h1.1 h1.2 (by omega)
    have hl1 : (dK s o).l.length = s.l.length + if o.kind = 3 then 1 else 0 := by rw [r1.ml,marksIn_snoc,← r.ml]
    have := Rel.takes F (P ++ [o]) r1 (fun q hq => ⟨(h q (by simp [hq])).1,by
      rw [known_take (h q (by simp [hq])).1 h1.1 (fun e => hn.1 (by rw [← e]; exact List.mem_map_of_mem hq))]
      exact (h q (by simp [hq])).2⟩) hn.2 (by omega)
    rw [List.append_assoc] at this
    exact this
theorem Rel.settle {P : List Opn} {s : PS} (r : Rel P s) : Rel P (settleP s) := ⟨r.ok,r.nd,r.i,r.d,r.m,r.ml,r.kn⟩
theorem fresh_rel {P : List Opn} {s : PS} (r : Rel P s) : ∀ (l F : List Opn),(∀ o ∈ l,opR o = true) → (∀ o ∈ F,opR o = true) → l.foldl rFresh (P ++ F) = P ++ l.foldl (dZ s) F
  | [],F,_,_ => rfl
  | o :: l,F,h,hF => by
    have ho := h o (by simp)
    have h1 : rFresh (P ++ F) o = P ++ dZ s F o := by
      unfold rFresh dZ
      have hk := knownR_iff (P := P ++ F) (fun q hq => by
        rcases List.mem_append.1 hq with h2 | h2
        · exact r.ok q h2
        · exact hF q h2) ho
      have hs := r.kn o ho
      by_cases e : cM o ∈ F.map cM ∨ cf s o = true
      · rw [if_pos e,if_pos]
        rw [hk,List.map_append,List.mem_append]
        rcases e with e | e
        · exact .inr e
        · exact .inl (hs.1 e)
      · rw [if_neg e,if_neg,List.append_assoc]
        rw [hk,List.map_append,List.mem_append]
        rintro (e2 | e2)
        · exact e (.inr (hs.2 e2))
        · exact e (.inl e2)
    rw [List.foldl_cons,List.foldl_cons,h1]
    exact fresh_rel r l _ (fun q hq => h q (by simp [hq])) fun q hq => by
      unfold dZ at hq
      split at hq
      · exact hF q hq
      · rcases List.mem_append.1 hq with h2 | h2
        · exact hF q h2
        · rw [List.mem_singleton.1 h2]; exact ho
theorem fresh_ok (s : PS) : ∀ (l F : List Opn),(∀ o ∈ l,opR o = true) → Fresh s F → Fresh s (l.foldl (dZ s) F)
  | [],F,_,f => f
  | o :: l,F,h,f => fresh_ok s l _ (fun q hq => h q (by simp [hq])) (f.step (h o (by simp)))
theorem Rel.do_ {P : List Opn} {s : PS} (r : Rel P s) (l : List Opn) : (doP s l).1 = (rDo P l).1 ∧ Rel (rDo P l).2 (doP s l).2 := by
  unfold doP rDo
  by_cases h : l.all opR = false
  · rw [if_pos h,if_pos h]; exact ⟨rfl,r⟩
  · rw [if_neg h,if_neg h]
    have hall : ∀ o ∈ l,opR o = true := List.all_eq_true.1 (by simpa using h)
    have hf := fresh_rel r l [] hall (by simp)
    rw [List.append_nil] at hf
    have hF := fresh_ok s l [] hall ⟨by simp,by simp⟩
    have hsz := r.size
    rw [hf]
    unfold freshP
    generalize l.foldl (dZ s) [] = F at *
    have e1 : (4096 < s.I.length + s.D.length + s.l.length + F.length ∨ 512 < s.l.length + dI F) ↔ (4096 < (P ++ F).length ∨ 512 < dI (P ++ F)) := by
      rw [marksIn_app,← r.ml,List.length_append,← hsz]
      unfold sizP
      exact Iff.rfl
    by_cases h2 : 4096 < (P ++ F).length ∨ 512 < dI (P ++ F)
    · rw [if_pos h2,if_pos (e1.2 h2)]; exact ⟨rfl,r⟩
    · rw [if_neg h2,if_neg (fun h => h2 (e1.1 h))]
      refine ⟨rfl,(Rel.takes F P r hF.ok hF.nd ?_).settle⟩
      have := fun h => h2 (.inr h)
      rw [marksIn_app,← r.ml] at this
      omega
theorem both_rel (l : List (List Opn)) : Rel (bothR l) (bothS l) ∧ bothOk l = true := by
  have key : ∀ (l : List (List Opn)) (t : PS × List Opn × Bool), Rel t.2.1 t.1 → t.2.2 = true →
      Rel (l.foldl (fun (t : PS × List Opn × Bool) x => ((doP t.1 x).2,(rDo t.2.1 x).2,decide ((doP t.1 x).1 = (rDo t.2.1 x).1) && t.2.2)) t).2.1 (l.foldl (fun (t : PS × List Opn × Bool) x => ((doP t.1 x).2,(rDo t.2.1 x).2,decide ((doP t.1 x).1 = (rDo t.2.1 x).1) && t.2.2)) t).1 ∧
        (l.foldl (fun (t : PS × List Opn × Bool) x => ((doP t.1 x).2,(rDo t.2.1 x).2,decide ((doP t.1 x).1 = (rDo t.2.1 x).1) && t.2.2)) t).2.2 = true := by
    intro l
    induction l with
    | nil => intro t r h; exact ⟨r,h⟩
    | cons x l ih =>
      intro t r h
      obtain ⟨h1,h2⟩ := r.do_ x
      rw [List.foldl_cons]
      exact ih _ h2 (by simp only; rw [h,decide_eq_true h1]; rfl)
  have h := key l (ps0,[],true) Rel.nil rfl
  have e := both_eq l
  unfold bothT at e
  rw [e] at h
  exact h
theorem tree_sub {P : List Opn} {I L LT : List Ins} {W : List Ins} (hI : I = insR P) (ok : ∀ i ∈ I, okI i = true) (nd : (I.map (·.id)).Nodup) (hlen : I.length < 4096) (pm : (L ++ W).Perm I) (st : Stuck L W) (g : Fug.Good L)
    (t : InT P LT) (cl : ∀ o ∈ P,o.kind = 1 → (dR LT o.ins).2 ≠ 0) : ∀ i,i ∈ L ↔ i ∈ LT := by
  have hmem : ∀ i,i ∈ I ↔ ∃ o ∈ P,o.kind = 1 ∧ o.ins = i := fun i => by
    rw [hI]
    unfold insR
    simp only [List.mem_map,List.mem_filter,decide_eq_true_eq,and_assoc]
  have hLT : ∀ i ∈ LT,i ∈ I := fun i hi => (hmem i).2 (t.sub i hi)
  have hLI : ∀ i ∈ L,i ∈ I := fun i hi => pm.mem_iff.1 (by simp [hi])
  have hLTl : LT.length < 4096 := by
    have := cO LT I (good_nd t.g) hLT
    omega
  have a : ∀ n j (h : j < L.length),j < n → L[j] ∈ LT := by
    intro n
    induction n with
    | zero => intro j _ h; omega
    | succ n ih =>
      intro j h hj
      have hi : L[j] ∈ I := hLI _ (List.getElem_mem h)
      obtain ⟨o,ho,hk,e⟩ := (hmem _).1 hi
      have hc := cl o ho hk
      rw [e] at hc
      rcases add_cases LT L[j] (ok _ hi) hLTl with ⟨h1,-,-⟩ | ⟨-,h1 | ⟨h1,h2⟩⟩
      · rw [h1] at hc; exact absurd rfl hc
      · obtain ⟨i',hi',e'⟩ := List.mem_map.1 h1
        have := uniq_id nd (hLT _ hi') hi e'
        rw [← this]; exact hi'
      · rcases g.up j h with h3 | ⟨k,hk',h3⟩
        · exact absurd h3 h1
        · exact absurd (List.mem_map.2 ⟨_,ih k (by omega) (by omega),h3⟩) h2
  have b : ∀ n j (h : j < LT.length),j < n → LT[j] ∈ L := by
    intro n
    induction n with
    | zero => intro j _ h; omega
    | succ n ih =>
      intro j h hj
      have hi : LT[j] ∈ I := hLT _ (List.getElem_mem h)
      rcases List.mem_append.1 (pm.mem_iff.2 hi) with h1 | h1
      · exact h1
      · rcases st _ h1 with h2 | ⟨h2,h3⟩
        · obtain ⟨i',hi',e'⟩ := List.mem_map.1 h2
          have := uniq_id nd (hLI _ hi') hi e'
          rw [← this]; exact hi'
        · rcases t.g.up j h with h4 | ⟨k,hk',h4⟩
          · exact absurd h4 h2
          · exact absurd (List.mem_map.2 ⟨_,ih k (by omega) (by omega),h4⟩) h3
  intro i
  constructor
  · intro hi
    obtain ⟨j,hj,rfl⟩ := List.mem_iff_getElem.1 hi
    exact a (j + 1) j hj (by omega)
  · intro hi
    obtain ⟨j,hj,rfl⟩ := List.mem_iff_getElem.1 hi
    exact b (j + 1) j hj (by omega)
theorem rDrop_mem (L : List Ins) (x : EId) : ∀ (P : List Opn) (G : List EId),x ∈ P.foldl (rDrop L) G ↔ x ∈ G ∨ (x ∈ drpR P ∧ x ∈ L.map (·.id))
  | [],G => by simp [drpR]
  | o :: P,G => by
    rw [List.foldl_cons,rDrop_mem L x P]
    unfold rDrop drpR
    by_cases k : o.kind = 2
    · simp only [k,if_true,decide_true,List.filter_cons_of_pos,List.map_cons,List.mem_cons]
      unfold dropG
      by_cases h1 : o.drop ∉ L.map (·.id)
      · rw [if_pos h1]
        constructor
        · rintro (h | h)
          · exact .inl h
          · exact .inr ⟨.inr h.1,h.2⟩
        · rintro (h | ⟨rfl | h,h'⟩)
          · exact .inl h
          · exact absurd h' h1
          · exact .inr ⟨h,h'⟩
      · rw [if_neg h1]
        have h1' := Decidable.not_not.1 h1
        by_cases h2 : o.drop ∈ G
        · rw [if_pos h2]
          constructor
          · rintro (h | h)
            · exact .inl h
            · exact .inr ⟨.inr h.1,h.2⟩
          · rintro (h | ⟨rfl | h,h'⟩)
            · exact .inl h
            · exact .inl h2
            · exact .inr ⟨h,h'⟩
        · rw [if_neg h2]
          simp only [List.mem_append,List.mem_singleton]
          constructor
          · rintro ((h | rfl) | h)
            · exact .inl h
            · exact .inr ⟨.inl rfl,h1'⟩
            · exact .inr ⟨.inr h.1,h.2⟩
          · rintro (h | ⟨rfl | h,h'⟩)
            · exact .inl (.inl h)
            · exact .inl (.inr rfl)
            · exact .inr ⟨h,h'⟩
    · simp [k]
theorem tree_same {P : List Opn} {s : PS} (r : Rel P s) (t : InvP s) (g : Fug.Good s.L) (nd : (s.I.map (·.id)).Nodup) (hz : sizP s < 4096) : bF s.L s.G = bF (rTreeL P) (rTreeG P) := by
  obtain ⟨h1,h2⟩ := rTree_in P
  have hL := tree_sub r.i (fun i hi => insO_ok (t.ok i hi)) nd (by unfold sizP at hz; omega) t.mid.pm t.st g h1 h2
  refine nodes_congr g h1.g hL fun x => ?_
  have e : rTreeG P = P.foldl (rDrop (rTreeL P)) [] := rfl
  rw [t.mid.gd x,e,rDrop_mem,r.d]
  simp only [List.not_mem_nil,false_or]
  have hm : x ∈ s.L.map (·.id) ↔ x ∈ (rTreeL P).map (·.id) := by
    simp only [List.mem_map]
    constructor
    · rintro ⟨i,hi,e⟩; exact ⟨i,(hL i).1 hi,e⟩
    · rintro ⟨i,hi,e⟩; exact ⟨i,(hL i).2 hi,e⟩
  rw [hm]
end Go.Proofs.YtcgjlmopeblapaaGreat
end
