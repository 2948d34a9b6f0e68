/-
  Several texts in one: each says what it proves.
  Conditions: none. Lemmas only.
-/
import Derived.Test.YtcgjlmopeblapaaGreatFugG1
set_option linter.all false
section
set_option linter.unusedSimpArgs false
set_option linter.unusedVariables false
set_option maxRecDepth 8000
set_option maxHeartbeats 4000000
namespace Go.Proofs.YtcgjlmopeblapaaGreat
open Go Go.Abs Go.Proofs Go.Fug

def bp (l : List Ins) : List AV := l.flatMap cA
abbrev inssV (l : List Ins) : AV := .imm 0 (bp l) l.length
theorem bN (l : List Ins) : (bp l).length = l.length * 6 := by
  induction l with
  | nil => rfl
  | cons t r ih => simp only [bp,List.flatMap_cons,List.length_append,List.length_cons] at *; rw [ih]; simp [cA]; omega
theorem inssC_drop {l : List Ins} {i : Nat} (h : i < l.length) : (bp l).drop (i * 6) = cA l[i] ++ bp (l.drop (i + 1)) := by
  induction l generalizing i with
  | nil => simp at h
  | cons t r ih =>
    cases i with
    | zero => simp [bp]
    | succ i =>
      have e : (i + 1) * 6 = 6 + i * 6 := by omega
      have e1 : bp (t :: r) = cA t ++ bp r := rfl
      rw [e,← List.drop_drop,e1,List.drop_left' (by simp [cA]),ih (by simpa using h)]
      rfl
theorem ei {l : List Ins} {i : Nat} (h : i < l.length) : ((bp l).drop (i * 6)).take 6 = cA l[i] := by
  rw [inssC_drop h,List.take_left' (by simp [cA])]
theorem inssC_get {l : List Ins} {i j : Nat} (h : i < l.length) (hj : j < 6) : (bp l)[i * 6 + j]? = (cA l[i])[j]? := by
  rw [← List.getElem?_drop,inssC_drop h,List.getElem?_append_left (by simpa [cA] using hj)]
theorem dV {l : List Ins} {i j : Nat} (h : i < l.length) (hj : j + 2 ≤ 6) : ((bp l).drop (i * 6 + j)).take 2 = ((cA l[i]).drop j).take 2 := by
  rw [← List.drop_drop,inssC_drop h,List.drop_append_of_le_length (by simp [cA]; omega),List.take_append_of_le_length (by simp [cA]; omega)]
theorem dD (l : List Ins) (i : Ins) : bp l ++ cA i = bp (l ++ [i]) := by simp [bp]

abbrev treeC (L : List Ins) (G : List EId) : List AV := [.imm 0 (bp L) L.length,.imm 0 (cB G) G.length]
abbrev dJ (L : List Ins) (G : List EId) : AV := .agg (treeC L G)

theorem dropped_pure (L : List Ins) (G : List EId) (x : EId) (hG : G.length ≤ 1000000) : APure Tryz.prog 85 [dJ L G,idV x] (.sc (.bool (decide (x ∈ G)))) := by
  have hil := bU G
  have hB : ∀ b : Bool,(b = true ↔ x ∈ G) → decide (x ∈ G) = b := fun b h => by
    cases b with
    | true => simpa using h
    | false => simpa using h
  generalize decide (x ∈ G) = B at *
  obtain ⟨a,c⟩ := x
  refine az (c := ⟨Tryz.prog,20,[(4,[0,1,0,0,1,1,0]),(1000000,[3,2])],[],[]⟩) (rs := [ResultVar.tmp 4]) Tryz.mixed Tryz.func85 rfl rfl rfl (Nat.le_of_ble_eq_true rfl) (by kernel_rfl) fun H => ?_
  simp (disch := omega) only [↓aI,↓zP,aD,zD,aS,simprocAttr,Tryz.facts]
  intro k1 hk10 hk1 k2 hk20 hk2
  simp (disch := omega) only [↓aI,↓zP,aD,zD,aS,simprocAttr,Tryz.facts,aj hk2,aj hk1]
  refine br (c := ⟨Tryz.prog,20,[(4,[0,1,0,0,1,1,0]),(1000000,[3,2])],[],[]⟩) Tryz.mixed (by kernel_rfl) (fun mm σ H' => H' = H ∧ ∃ i,i + mm = G.length ∧ (∀ j (hj : j < G.length),j < i → G[j] ≠ (a,c)) ∧ σ 2 = .ip (treeC L G) 0 ∧ σ 3 = .ip [.sc (.int .i64 a),.sc (.int .i64 c)] 0 ∧ σ 5 = .sc (.int .i64 (i : Nat))) G.length ?_ ?_
  · refine ⟨rfl,0,by omega,by omega,?_⟩
    simp (disch := omega) only [↓aI,↓zP,aD,zD,aS,simprocAttr,Tryz.facts]
    try rfl
  · rintro mm σ H' ⟨rfl,i,him,hno,h2,h3,h5⟩
    by_cases hlt : i < G.length
    · have hld := eR hlt
      have hle' : i * 2 + 2 ≤ G.length * 2 := by omega
      have hnx : G[i] ≠ (a,c) → ∀ j (hj : j < G.length),j < i + 1 → G[j] ≠ (a,c) := fun h j hj hji => by
        by_cases e : j = i
        · subst e; exact h
        · exact hno j hj (by omega)
      have hyes : G[i] = (a,c) → (a,c) ∈ G := fun h => by rw [← h]; exact List.getElem_mem hlt
      generalize G[i] = y at *
      obtain ⟨y1,y2⟩ := y
      by_cases e1 : y1 = a
      · by_cases e2 : y2 = c
        · subst e1 e2
          obtain rfl := hB true (by simp [hyes rfl])
          simp (disch := omega) only [↓aI,↓zP,aD,zD,aS,simprocAttr,Tryz.facts,h2,h3,h5,zA,hld,hil,hle']
          exact Abs.Sub.refl _
        · simp (disch := omega) only [↓aI,↓zP,aD,zD,aS,simprocAttr,Tryz.facts,h2,h3,h5,zA,hld,hil,hle']
          exact ⟨mm - 1,by omega,i + 1,by omega,hnx (by simp [e2]),rfl⟩
      · simp (disch := omega) only [↓aI,↓zP,aD,zD,aS,simprocAttr,Tryz.facts,h2,h3,h5,zA,hld,hil,hle']
        exact ⟨mm - 1,by omega,i + 1,by omega,hnx (by simp [e1]),rfl⟩
    · obtain rfl := hB false (by
        simp only [Bool.false_eq_true,false_iff]
        intro hm
        obtain ⟨j,hj,e⟩ := List.mem_iff_getElem.1 hm
        exact hno j hj (by omega) e)
      simp (disch := omega) only [↓aI,↓zP,aD,zD,aS,simprocAttr,Tryz.facts,h2,h3,h5,zA,hil]
      exact Abs.Sub.refl _

theorem rhas_pure (L : List Ins) (G : List EId) (x : EId) (hL : L.length ≤ 1000000) : APure Tryz.prog 84 [dJ L G,idV x] (.sc (.bool (decide (x ∈ L.map (·.id))))) := by
  have hil := bN L
  have hB : ∀ b : Bool,(b = true ↔ x ∈ L.map (·.id)) → decide (x ∈ L.map (·.id)) = b := fun b h => by
    cases b with
    | true => simpa using h
    | false => simpa using h
  generalize decide (x ∈ L.map (·.id)) = B at *
  obtain ⟨a,c⟩ := x
  refine az (c := ⟨Tryz.prog,21,[(4,[0,1,0,0,0,1,1,0]),(1000000,[3,2])],[],[]⟩) (rs := [ResultVar.tmp 4]) Tryz.mixed Tryz.func84 rfl rfl rfl (Nat.le_of_ble_eq_true rfl) (by kernel_rfl) fun H => ?_
  simp (disch := omega) only [↓aI,↓zP,aD,zD,aS,simprocAttr,Tryz.facts]
  intro k1 hk10 hk1 k2 hk20 hk2
  simp (disch := omega) only [↓aI,↓zP,aD,zD,aS,simprocAttr,Tryz.facts,aj hk2,aj hk1]
  refine br (c := ⟨Tryz.prog,21,[(4,[0,1,0,0,0,1,1,0]),(1000000,[3,2])],[],[]⟩) Tryz.mixed (by kernel_rfl) (fun mm σ H' => H' = H ∧ ∃ i,i + mm = L.length ∧ (∀ j (hj : j < L.length),j < i → L[j].id ≠ (a,c)) ∧ σ 2 = .ip (treeC L G) 0 ∧ σ 3 = .ip [.sc (.int .i64 a),.sc (.int .i64 c)] 0 ∧ σ 5 = .sc (.int .i64 (i : Nat))) L.length ?_ ?_
  · refine ⟨rfl,0,by omega,by omega,?_⟩
    simp (disch := omega) only [↓aI,↓zP,aD,zD,aS,simprocAttr,Tryz.facts]
    try rfl
  · rintro mm σ H' ⟨rfl,i,him,hno,h2,h3,h5⟩
    by_cases hlt : i < L.length
    · have hld := dV hlt (show 0 + 2 ≤ 6 by omega)
      have hle' : i * 6 + 6 ≤ L.length * 6 := by omega
      have hle2 : i * 6 + 2 ≤ L.length * 6 := by omega
      have hnx : L[i].id ≠ (a,c) → ∀ j (hj : j < L.length),j < i + 1 → L[j].id ≠ (a,c) := fun h j hj hji => by
        by_cases e : j = i
        · subst e; exact h
        · exact hno j hj (by omega)
      have hyes : L[i].id = (a,c) → (a,c) ∈ L.map (·.id) := fun h => by rw [← h]; exact List.mem_map.2 ⟨_,List.getElem_mem hlt,rfl⟩
      generalize L[i] = y at *
      obtain ⟨⟨y1,y2⟩,yp,yr,yu⟩ := y
      simp only [cA,Nat.add_zero,List.drop_zero,List.take_succ_cons,List.take_zero] at hld hyes hnx
      by_cases e1 : y1 = a
      · by_cases e2 : y2 = c
        · subst e1 e2
          obtain rfl := hB true (by simp only [true_iff]; exact hyes rfl)
          simp (disch := omega) only [↓aI,↓zP,aD,zD,aS,simprocAttr,Tryz.facts,h2,h3,h5,zA,hld,hil,hle',hle2]
          exact Abs.Sub.refl _
        · simp (disch := omega) only [↓aI,↓zP,aD,zD,aS,simprocAttr,Tryz.facts,h2,h3,h5,zA,hld,hil,hle',hle2]
          exact ⟨mm - 1,by omega,i + 1,by omega,hnx (by simp [e2]),rfl⟩
      · simp (disch := omega) only [↓aI,↓zP,aD,zD,aS,simprocAttr,Tryz.facts,h2,h3,h5,zA,hld,hil,hle',hle2]
        exact ⟨mm - 1,by omega,i + 1,by omega,hnx (by simp [e1]),rfl⟩
    · obtain rfl := hB false (by
        simp only [Bool.false_eq_true,false_iff]
        intro hm
        obtain ⟨x,hx,e⟩ := List.mem_map.1 hm
        obtain ⟨j,hj,rfl⟩ := List.mem_iff_getElem.1 hx
        exact hno j hj (by omega) e)
      simp (disch := omega) only [↓aI,↓zP,aD,zD,aS,simprocAttr,Tryz.facts,h2,h3,h5,zA,hil]
      exact Abs.Sub.refl _
end Go.Proofs.YtcgjlmopeblapaaGreat
end
section
set_option linter.unusedSimpArgs false
set_option linter.unusedVariables false
set_option maxRecDepth 8000
set_option maxHeartbeats 4000000
namespace Go.Proofs.YtcgjlmopeblapaaGreat
open Go Go.Abs Go.Proofs Go.Fug

theorem kidsI_take {L : List Ins} {i : Nat} (h : i < L.length) (p : EId) (r : Bool) : cG (L.take (i + 1)) p r = if L[i].par = p ∧ L[i].right = r then insI (cG (L.take i) p r) L[i] else cG (L.take i) p r := by
  rw [List.take_succ_eq_append_getElem h,eg]
theorem filter_take {α : Type} {f : α → Bool} {M : List α} {j : Nat} (h : j < M.length) : (M.take (j + 1)).filter f = (M.take j).filter f ++ if f M[j] then [M[j]] else [] := by
  rw [List.take_succ_eq_append_getElem h,List.filter_append]
  simp [List.filter_cons]
theorem df {α : Type} (f : α → Bool) (M : List α) (j : Nat) : ((M.take j).filter f).length ≤ M.length := Nat.le_trans (List.length_filter_le _ _) (by rw [List.length_take]; omega)

theorem rkids_pure (L : List Ins) (G : List EId) (p : EId) (r : Bool) (hL : L.length ≤ 100000) : APure Tryz.prog 62 [dJ L G,idV p,.sc (.bool r)] (inssV (cG L p r)) := by
  have hil := bN L
  have hless := fun x y => rless_pure x y
  obtain ⟨a,c⟩ := p
  refine az (c := ⟨Tryz.prog,98,[(5,[0,1,0,0,0,1,1,0,0,0,1,0,0,0,1,0,0,0]),(10,[0,0,0,0,1,0,1,0,0,0,1,0]),(16,[0,0,0,0,1,0,1,0,0,0,1,0,0]),(1000000,[4,3]),(4000017,[2,3,4,7,8,9,11]),(4000016,[2,3,4,7,8,9,11,88]),(4000012,[2,3,4,7,8,9]),(4000011,[2,3,4,7,8,9,10]),(4000010,[2,3,4,7,8,9,10,54]),(4000005,[2,3,4,7,8,36]),(4000003,[2,3,4,7,8,16])],[],[]⟩) (rs := [ResultVar.tmp 6]) Tryz.mixed Tryz.func62 rfl rfl rfl (Nat.le_of_ble_eq_true rfl) (by kernel_rfl) fun H => ?_
  simp (disch := omega) only [↓aI,↓zP,aD,zD,aS,simprocAttr,Tryz.facts]
  intro k1 hk10 hk1 k2 hk20 hk2
  simp (disch := omega) only [↓aI,↓zP,aD,zD,aS,simprocAttr,Tryz.facts,aj hk2,aj hk1]
  refine tok_t 7 (by simp (disch := omega) only [↓aI,↓zP,aD,zD,aS,simprocAttr,Tryz.facts]) fun kt hkt0 hkt => ?_
  refine br (c := ⟨Tryz.prog,98,[(5,[0,1,0,0,0,1,1,0,0,0,1,0,0,0,1,0,0,0]),(10,[0,0,0,0,1,0,1,0,0,0,1,0]),(16,[0,0,0,0,1,0,1,0,0,0,1,0,0]),(1000000,[4,3]),(4000017,[2,3,4,7,8,9,11]),(4000016,[2,3,4,7,8,9,11,88]),(4000012,[2,3,4,7,8,9]),(4000011,[2,3,4,7,8,9,10]),(4000010,[2,3,4,7,8,9,10,54]),(4000005,[2,3,4,7,8,36]),(4000003,[2,3,4,7,8,16])],[],[]⟩) Tryz.mixed (by kernel_rfl) (fun mm σ H' => Abs.Sub H H' ∧ ∃ (i : Nat) (kA : Nat),i + mm = L.length ∧ σ 2 = .sc (.bool r) ∧ σ 3 = .ip (treeC L G) 0 ∧ σ 4 = .ip [.sc (.int .i64 a),.sc (.int .i64 c)] 0 ∧ σ 7 = .imm kA (bp (cG (L.take i) (a,c) r)) (cG (L.take i) (a,c) r).length ∧ σ 8 = .sc (.int .i64 (i : Nat))) L.length ?_ ?_
  · refine ⟨Abs.Sub.set_new hkt,0,kt,by omega,?_⟩
    simp (disch := omega) only [↓aI,↓zP,aD,zD,aS,simprocAttr,Tryz.facts]
    try rfl
  · rintro mm σ H' ⟨hsub,i,kA,him,h2,h3,h4,h7,h8⟩
    by_cases hlt : i < L.length
    · have hM := kidsI_length (L.take i) (a,c) r
      have hMl := List.length_take_le i L
      have hst := kidsI_take hlt (a,c) r
      have hld := ei hlt
      have hld1 := dV hlt (show 2 + 2 ≤ 6 by omega)
      have hld0 := dV hlt (show 0 + 2 ≤ 6 by omega)
      have hg4 := inssC_get hlt (show 4 < 6 by omega)
      have hle6 : i * 6 + 6 ≤ L.length * 6 := by omega
      have hle4 : i * 6 + 4 ≤ L.length * 6 := by omega
      have hle2 : i * 6 + 2 ≤ L.length * 6 := by omega
      have hle5 : i * 6 + 4 < L.length * 6 := by omega
      obtain ⟨M',hM'⟩ : ∃ M',M' = cG (L.take (i + 1)) (a,c) r := ⟨_,rfl⟩
      rw [← hM'] at hst
      generalize cG (L.take i) (a,c) r = M at *
      generalize L[i] = x at *
      have hMi := bN M
      obtain ⟨⟨x1,x2⟩,⟨q1,q2⟩,xr,xu⟩ := x
      simp only [cA,Nat.add_zero,List.drop_zero,List.drop_succ_cons,List.take_succ_cons,List.take_zero,List.getElem?_cons_succ,List.getElem?_cons_zero] at hld hld0 hld1 hg4 hst
      have F : True := trivial
      by_cases e1 : q1 = a ∧ q2 = c
      · by_cases e2 : xr = r
        · obtain ⟨rfl,rfl⟩ := e1
          subst e2
          rw [if_pos ⟨rfl,rfl⟩] at hst
          simp (disch := omega) only [↓aI,↓zP,aD,zD,aS,simprocAttr,Tryz.facts,h2,h3,h4,h7,h8,zA,hld1,hg4,hil,hle4,hle5,hle6,bne_self_eq_false]
          refine tok_t 9 (by simp (disch := omega) only [↓aI,↓zP,aD,zD,aS,simprocAttr,Tryz.facts]) fun k9 hk90 hk9 => ?_
          refine br (c := ⟨Tryz.prog,98,[(5,[0,1,0,0,0,1,1,0,0,0,1,0,0,0,1,0,0,0]),(10,[0,0,0,0,1,0,1,0,0,0,1,0]),(16,[0,0,0,0,1,0,1,0,0,0,1,0,0]),(1000000,[4,3]),(4000017,[2,3,4,7,8,9,11]),(4000016,[2,3,4,7,8,9,11,88]),(4000012,[2,3,4,7,8,9]),(4000011,[2,3,4,7,8,9,10]),(4000010,[2,3,4,7,8,9,10,54]),(4000005,[2,3,4,7,8,36]),(4000003,[2,3,4,7,8,16])],[],[]⟩) Tryz.mixed (by kernel_rfl) (fun mj σ H'' => Abs.Sub H H'' ∧ ∃ (j k9 : Nat) (o9 : AObj) (F : List Ins),j + mj = M.length ∧ F = (M.take j).filter (fun y => less y.id (x1,x2)) ∧ σ 2 = .sc (.bool xr) ∧ σ 3 = .ip (treeC L G) 0 ∧ σ 4 = .ip [.sc (.int .i64 q1),.sc (.int .i64 q2)] 0 ∧ σ 7 = .imm kA (bp M) M.length ∧ σ 8 = .sc (.int .i64 (i : Nat)) ∧ σ 10 = .sc (.int .i64 (j : Nat)) ∧
            k9 ≠ 0 ∧ H k9 = none ∧ H'' k9 = some o9 ∧ cy 52 6 o9 (F.length * 6) ∧ σ 9 = .imm k9 (bp F) F.length) M.length ?_ ?_
          · refine ⟨hsub.set_free (hsub.free hk9),0,k9,.nilt,[],by omega,rfl,?_⟩
            simp (disch := omega) only [↓aI,↓zP,aD,zD,aS,simprocAttr,Tryz.facts,h2,h3,h4,h7,h8]
            exact ⟨hk90,hsub.free hk9,rfl⟩
          · rintro mj σ H'' ⟨hsub',j,k9,o9,F,hj,hF,h2,h3,h4,h7,h8,h10,hk90,hk9,hkv,ho9,h9⟩
            have hFl : F.length ≤ M.length := by rw [hF]; exact df _ _ _
            have hFi := bN F
            by_cases hjt : j < M.length
            · have hft := filter_take (f := fun y : Ins => less y.id (x1,x2)) hjt
              have ld := ei hjt
              have ld0 := dV hjt (show 0 + 2 ≤ 6 by omega)
              have le6 : j * 6 + 6 ≤ M.length * 6 := by omega
              have le2 : j * 6 + 2 ≤ M.length * 6 := by omega
              have hl := hless M[j].id (x1,x2)
              have hsn := dD F M[j]
              generalize M[j] = y at *
              obtain ⟨⟨y1,y2⟩,⟨z1,z2⟩,yr,yu⟩ := y
              simp only [cA,Nat.add_zero,List.drop_zero,List.drop_succ_cons,List.take_succ_cons,List.take_zero] at ld ld0 hsn
              cases hb : less (y1,y2) (x1,x2) with
              | true =>
                simp only [hb,if_true,← hF] at hft hl
                simp (disch := omega) only [↓aI,↓zP,aD,zD,aS,simprocAttr,Tryz.facts,h2,h3,h4,h7,h8,h9,h10,zA,ld,ld0,le6,le2,hld0,hMi,hil,hle6,hle2]
                first | refine CallK.p (hl) ?_ | refine CallP.i (hl) ?_
                simp (disch := omega) only [↓aI,↓zP,aD,zD,aS,simprocAttr,Tryz.facts,h2,h3,h4,h7,h8,h9,h10,zA,ld,ld0,le6,le2,hld0,hMi,hil,hle6,hle2,hkv,ho9,hFi,hsn]
                intro k' o' hk0' hk' ho'
                rw [bN] at ho'
                exact ⟨mj - 1,by omega,(hsub'.kill_free hk9).set_free (hsub'.free hk'),j + 1,k',o',F ++ [⟨(y1,y2),(z1,z2),yr,yu⟩],by omega,hft.symm,rfl,hk0',hsub'.free hk',set_get,ho',by rw [List.length_append]; rfl⟩
              | false =>
                simp only [hb,Bool.false_eq_true,if_false,List.append_nil,← hF] at hft hl
                simp (disch := omega) only [↓aI,↓zP,aD,zD,aS,simprocAttr,Tryz.facts,h2,h3,h4,h7,h8,h9,h10,zA,ld,ld0,le6,le2,hld0,hMi,hil,hle6,hle2]
                first | refine CallK.p (hl) ?_ | refine CallP.i (hl) ?_
                simp (disch := omega) only [↓aI,↓zP,aD,zD,aS,simprocAttr,Tryz.facts,h2,h3,h4,h7,h8,h9,h10,zA,ld,ld0,le6,le2,hld0,hMi,hil,hle6,hle2]
                exact ⟨mj - 1,by omega,hsub',j + 1,k9,o9,F,by omega,hft.symm,rfl,hk90,hk9,hkv,ho9,rfl⟩
            · have hsn := dD F ⟨(x1,x2),(q1,q2),xr,xu⟩
              simp only [cA] at hsn
              simp (disch := omega) only [↓aI,↓zP,aD,zD,aS,simprocAttr,Tryz.facts,h2,h3,h4,h7,h8,h9,h10,zA,hMi,hil,hld,hle6,hkv,ho9,hFi,hsn]
              intro ka oa hka0 hka hoa
              rw [bN] at hoa
              obtain rfl : j = M.length := by omega
              rw [List.take_length] at hF
              have hst' : M' = F ++ [⟨(x1,x2),(q1,q2),xr,xu⟩] ++ M.filter (fun y => !less y.id (x1,x2)) := by rw [hst,hF]; rfl
              have hlen3 : M'.length = M.length + 1 := by rw [hst]; exact insI_length _ _
              have hF1 : (F ++ [(⟨(x1,x2),(q1,q2),xr,xu⟩ : Ins)]).length = F.length + 1 := by simp
              have hsubA := (hsub'.kill_free hk9).set_free (o := oa) (hsub'.free hka)
              generalize F ++ [(⟨(x1,x2),(q1,q2),xr,xu⟩ : Ins)] = F1 at *
              refine br (c := ⟨Tryz.prog,98,[(5,[0,1,0,0,0,1,1,0,0,0,1,0,0,0,1,0,0,0]),(10,[0,0,0,0,1,0,1,0,0,0,1,0]),(16,[0,0,0,0,1,0,1,0,0,0,1,0,0]),(1000000,[4,3]),(4000017,[2,3,4,7,8,9,11]),(4000016,[2,3,4,7,8,9,11,88]),(4000012,[2,3,4,7,8,9]),(4000011,[2,3,4,7,8,9,10]),(4000010,[2,3,4,7,8,9,10,54]),(4000005,[2,3,4,7,8,36]),(4000003,[2,3,4,7,8,16])],[],[]⟩) Tryz.mixed (by kernel_rfl) (fun mj σ H'' => Abs.Sub H H'' ∧ ∃ (j k9 : Nat) (o9 : AObj) (W : List Ins),j + mj = M.length ∧ W = F1 ++ (M.take j).filter (fun y => !less y.id (x1,x2)) ∧ σ 2 = .sc (.bool xr) ∧ σ 3 = .ip (treeC L G) 0 ∧ σ 4 = .ip [.sc (.int .i64 q1),.sc (.int .i64 q2)] 0 ∧ σ 7 = .imm kA (bp M) M.length ∧ σ 8 = .sc (.int .i64 (i : Nat)) ∧ σ 11 = .sc (.int .i64 (j : Nat)) ∧
                k9 ≠ 0 ∧ H k9 = none ∧ H'' k9 = some o9 ∧ cy 52 6 o9 (W.length * 6) ∧ σ 9 = .imm k9 (bp W) W.length) M.length ?_ ?_
              · refine ⟨hsubA,0,ka,oa,F1,by omega,by simp,?_⟩
                simp (disch := omega) only [↓aI,↓zP,aD,zD,aS,simprocAttr,Tryz.facts,h2,h3,h4,h7,h8]
                exact ⟨hka0,hsub'.free hka,hoa,by rw [hF1]⟩
              · clear hsub' hkv ho9 hk90 hk9 h2 h3 h4 h7 h8 h9 h10 hsn hj
                rintro mj σ H'' ⟨hsub',j,k9,o9,W,hj,hW,h2,h3,h4,h7,h8,h11,hk90,hk9,hkv,ho9,h9⟩
                have hWl : W.length ≤ 2 * M.length + 1 := by rw [hW,List.length_append]; have := df (fun y : Ins => !less y.id (x1,x2)) M j; omega
                have hFi := bN W
                by_cases hjt : j < M.length
                · have hft := filter_take (f := fun y : Ins => !less y.id (x1,x2)) hjt
                  have ld := ei hjt
                  have ld0 := dV hjt (show 0 + 2 ≤ 6 by omega)
                  have le6 : j * 6 + 6 ≤ M.length * 6 := by omega
                  have le2 : j * 6 + 2 ≤ M.length * 6 := by omega
                  have hl := hless M[j].id (x1,x2)
                  have hsn := dD W M[j]
                  generalize M[j] = y at *
                  obtain ⟨⟨y1,y2⟩,⟨z1,z2⟩,yr,yu⟩ := y
                  simp only [cA,Nat.add_zero,List.drop_zero,List.drop_succ_cons,List.take_succ_cons,List.take_zero] at ld ld0 hsn
                  cases hb : less (y1,y2) (x1,x2) with
                  | false =>
                    simp only [hb,Bool.not_false,if_true] at hft hl
                    simp (disch := omega) only [↓aI,↓zP,aD,zD,aS,simprocAttr,Tryz.facts,h2,h3,h4,h7,h8,h9,h11,zA,ld,ld0,le6,le2,hld0,hMi,hil,hle6,hle2]
                    first | refine CallK.p (hl) ?_ | refine CallP.i (hl) ?_
                    simp (disch := omega) only [↓aI,↓zP,aD,zD,aS,simprocAttr,Tryz.facts,h2,h3,h4,h7,h8,h9,h11,zA,ld,ld0,le6,le2,hld0,hMi,hil,hle6,hle2,hkv,ho9,hFi,hsn]
                    intro k' o' hk0' hk' ho'
                    rw [bN] at ho'
                    exact ⟨mj - 1,by omega,(hsub'.kill_free hk9).set_free (hsub'.free hk'),j + 1,k',o',W ++ [⟨(y1,y2),(z1,z2),yr,yu⟩],by omega,by rw [hft,hW,List.append_assoc],rfl,hk0',hsub'.free hk',set_get,ho',by rw [List.length_append]; rfl⟩
                  | true =>
                    simp only [hb,Bool.not_true,Bool.false_eq_true,if_false,List.append_nil] at hft hl
                    simp (disch := omega) only [↓aI,↓zP,aD,zD,aS,simprocAttr,Tryz.facts,h2,h3,h4,h7,h8,h9,h11,zA,ld,ld0,le6,le2,hld0,hMi,hil,hle6,hle2]
                    first | refine CallK.p (hl) ?_ | refine CallP.i (hl) ?_
                    simp (disch := omega) only [↓aI,↓zP,aD,zD,aS,simprocAttr,Tryz.facts,h2,h3,h4,h7,h8,h9,h11,zA,ld,ld0,le6,le2,hld0,hMi,hil,hle6,hle2]
                    exact ⟨mj - 1,by omega,hsub',j + 1,k9,o9,W,by omega,by rw [hft,hW],rfl,hk90,hk9,hkv,ho9,rfl⟩
                · obtain rfl : j = M.length := by omega
                  rw [List.take_length,← hst'] at hW
                  subst hW
                  simp (disch := omega) only [↓aI,↓zP,aD,zD,aS,simprocAttr,Tryz.facts,h2,h3,h4,h7,h8,h9,h11,zA,hMi]
                  exact ⟨mm - 1,by omega,hsub',i + 1,k9,by omega,by rw [← hM'],rfl⟩
        · have hne : (xr == r) = false := by simpa using e2
          obtain ⟨rfl,rfl⟩ := e1
          rw [if_neg (fun h => e2 h.2)] at hst
          subst hst
          simp (disch := omega) only [↓aI,↓zP,aD,zD,aS,simprocAttr,Tryz.facts,h2,h3,h4,h7,h8,zA,hld1,hg4,hil,hle4,hle5,hle6,hne,bne_self_eq_false]
          exact ⟨mm - 1,by omega,hsub,i + 1,kA,by omega,by rw [← hM'],rfl⟩
      · rw [if_neg (fun h => e1 (by simpa using h.1))] at hst
        subst hst
        have e3 : (q1 ≠ a) ∨ (q1 = a ∧ q2 ≠ c) := by omega
        rcases e3 with e3 | e3
        all_goals
          simp (disch := omega) only [↓aI,↓zP,aD,zD,aS,simprocAttr,Tryz.facts,h2,h3,h4,h7,h8,zA,hld1,hg4,hil,hle4,hle5,hle6]
          exact ⟨mm - 1,by omega,hsub,i + 1,kA,by omega,by rw [← hM'],rfl⟩
    · obtain rfl : i = L.length := by omega
      rw [List.take_length] at h7
      simp (disch := omega) only [↓aI,↓zP,aD,zD,aS,simprocAttr,Tryz.facts,h2,h3,h4,h7,h8,zA,hil]
      exact hsub
end Go.Proofs.YtcgjlmopeblapaaGreat
end
section
namespace Go.Fug

theorem cO {α : Type} [DecidableEq α] : ∀ (l m : List α),l.Nodup → (∀ x ∈ l,x ∈ m) → l.length ≤ m.length
  | [],_,_,_ => Nat.zero_le _
  | a :: l,m,h,hs => by
    obtain ⟨h1,h2⟩ := List.nodup_cons.1 h
    have ha := hs a (by simp)
    have := cO l (m.erase a) h2 fun x hx => (List.mem_erase_of_ne (fun e : x = a => h1 (by rw [← e]; exact hx))).2 (hs x (by simp [hx]))
    rw [List.length_erase_of_mem ha] at this
    have hm : 0 < m.length := List.length_pos_of_mem ha
    simp only [List.length_cons]
    omega
theorem uniq_id {L : List Ins} (h : (L.map (·.id)).Nodup) {i j : Ins} (hi : i ∈ L) (hj : j ∈ L) (e : i.id = j.id) : i = j := by
  have h1 := find_id h hi
  have h2 := find_id h hj
  rw [e] at h1
  rw [h1] at h2
  exact Option.some.inj h2
def next (L : List Ins) (S : List EId) : List EId := S.flatMap fun z => kids L z false ++ kids L z true
theorem kids_nodup {L : List Ins} (h : (L.map (·.id)).Nodup) (p : EId) (r : Bool) : (kids L p r).Nodup :=
  (kids_sorted h p r).imp fun hab e => by rw [e,less_irr] at hab; cases hab
theorem kids_apart {L : List Ins} (h : (L.map (·.id)).Nodup) {p q x : EId} {r s : Bool} (h1 : x ∈ kids L p r) (h2 : x ∈ kids L q s) : p = q ∧ r = s := by
  obtain ⟨i,hi,e1,e2,e3⟩ := mem_kids.1 h1
  obtain ⟨j,hj,f1,f2,f3⟩ := mem_kids.1 h2
  obtain rfl := uniq_id h hi hj (e1.trans f1.symm)
  exact ⟨e2.symm.trans f2,e3.symm.trans f3⟩
theorem next_nodup {L : List Ins} (h : (L.map (·.id)).Nodup) {S : List EId} (hS : S.Nodup) : (next L S).Nodup := by
  unfold next List.Nodup
  rw [List.pairwise_flatMap]
  refine ⟨fun z _ => ?_,hS.imp fun {z z'} hne x hx y hy e => ?_⟩
  · show (kids L z false ++ kids L z true).Nodup
    rw [List.nodup_append]
    exact ⟨kids_nodup h _ _,kids_nodup h _ _,fun a ha b hb e => by
      subst e
      have := (kids_apart h ha hb).2
      cases this⟩
  · subst e
    rcases List.mem_append.1 hx with h1 | h1 <;> rcases List.mem_append.1 hy with h2 | h2 <;> exact hne (kids_apart h h1 h2).1
theorem next_le {L : List Ins} (h : (L.map (·.id)).Nodup) {S : List EId} (hS : S.Nodup) : (next L S).length ≤ L.length := by
  have := cO (next L S) (L.map (·.id)) (next_nodup h hS) fun x hx => by
    obtain ⟨z,_,hz⟩ := List.mem_flatMap.1 hx
    rcases List.mem_append.1 hz with h1 | h1 <;> (obtain ⟨i,hi,e,-⟩ := mem_kids.1 h1; exact List.mem_map.2 ⟨i,hi,e⟩)
  rwa [List.length_map] at this
def cnt (L : List Ins) (G : List EId) (n : Nat) (x : EId) : Nat := (below L G n x false).length + (below L G n x true).length
theorem below_len (L : List Ins) (G : List EId) (n : Nat) (x : EId) (r : Bool) : (below L G (n + 1) x r).length = ((kids L x r).map fun y => 1 + cnt L G n y).sum := by
  simp only [below,List.length_flatMap]
  congr 1
  apply List.map_congr_left
  intro y _
  simp only [List.length_append,List.length_singleton,cnt]
  omega
theorem cnt_sum (L : List Ins) (G : List EId) (n : Nat) : ∀ S : List EId,(S.map (cnt L G (n + 1))).sum = ((next L S).map fun y => 1 + cnt L G n y).sum
  | [] => rfl
  | x :: S => by
    have ih := cnt_sum L G n S
    simp only [List.map_cons,List.sum_cons,next,List.flatMap_cons,List.map_append,List.sum_append] at *
    rw [ih]
    show cnt L G (n + 1) x + _ = _
    unfold cnt
    rw [below_len,below_len]
    rfl
theorem cnt_le {L : List Ins} (G : List EId) (h : (L.map (·.id)).Nodup) : ∀ (n : Nat) (S : List EId),S.Nodup → (S.map (cnt L G n)).sum ≤ n * L.length
  | 0,S,_ => by
    have : ∀ S : List EId,(S.map (cnt L G 0)).sum = 0 := fun S => by
      induction S with
      | nil => rfl
      | cons x S ih => rw [List.map_cons,List.sum_cons,ih]; rfl
    rw [this]; omega
  | n + 1,S,hS => by
    rw [cnt_sum]
    have ih := cnt_le G h n (next L S) (next_nodup h hS)
    have hl := next_le h hS
    have : ∀ M : List EId,(M.map fun y => 1 + cnt L G n y).sum = M.length + (M.map (cnt L G n)).sum := fun M => by
      induction M with
      | nil => rfl
      | cons x M ih => simp only [List.map_cons,List.sum_cons,List.length_cons,ih]; omega
    rw [this,Nat.succ_mul]
    omega
theorem below_le {L : List Ins} (G : List EId) (h : (L.map (·.id)).Nodup) (n : Nat) (x : EId) (r : Bool) : (below L G n x r).length ≤ n * L.length := by
  have := cnt_le G h n [x] (by simp)
  simp only [List.map_cons,List.map_nil,List.sum_cons,List.sum_nil,cnt] at this
  cases r <;> omega
end Go.Fug
end
section
set_option linter.unusedSimpArgs false
set_option linter.unusedVariables false
set_option maxRecDepth 8000
set_option maxHeartbeats 4000000
namespace Go.Proofs.YtcgjlmopeblapaaGreat
open Go Go.Abs Go.Proofs Go.Fug

def ndC (n : Nd) : List AV := [.sc (.int .i64 n.id.1),.sc (.int .i64 n.id.2),.sc (.int .i32 n.rune),.sc (.bool n.gone)]
def dr (l : List Nd) : List AV := l.flatMap ndC
abbrev ndsV (l : List Nd) : AV := .imm 0 (dr l) l.length
theorem c7 (l : List Nd) : (dr l).length = l.length * 4 := by
  induction l with
  | nil => rfl
  | cons t r ih => simp only [dr,List.flatMap_cons,List.length_append,List.length_cons] at *; rw [ih]; simp [ndC]; omega
theorem ndsC_drop {l : List Nd} {i : Nat} (h : i < l.length) : (dr l).drop (i * 4) = ndC l[i] ++ dr (l.drop (i + 1)) := by
  induction l generalizing i with
  | nil => simp at h
  | cons t r ih =>
    cases i with
    | zero => simp [dr]
    | succ i =>
      have e : (i + 1) * 4 = 4 + i * 4 := by omega
      have e1 : dr (t :: r) = ndC t ++ dr r := rfl
      rw [e,← List.drop_drop,e1,List.drop_left' (by simp [ndC]),ih (by simpa using h)]
      rfl
theorem ndsC_load {l : List Nd} {i : Nat} (h : i < l.length) : ((dr l).drop (i * 4)).take 4 = ndC l[i] := by
  rw [ndsC_drop h,List.take_left' (by simp [ndC])]
theorem ndsC_get {l : List Nd} {i j : Nat} (h : i < l.length) (hj : j < 4) : (dr l)[i * 4 + j]? = (ndC l[i])[j]? := by
  rw [← List.getElem?_drop,ndsC_drop h,List.getElem?_append_left (by simpa [ndC] using hj)]
theorem ndsC_two {l : List Nd} {i : Nat} (h : i < l.length) : ((dr l).drop (i * 4)).take 2 = [.sc (.int .i64 l[i].id.1),.sc (.int .i64 l[i].id.2)] := by
  rw [ndsC_drop h]; rfl
theorem ndsC_append (l r : List Nd) : dr l ++ dr r = dr (l ++ r) := by simp [dr]
theorem ndsC_snoc (l : List Nd) (n : Nd) : dr l ++ ndC n = dr (l ++ [n]) := by simp [dr]

theorem flatMap_le {α β : Type} (f : α → List β) (l : List α) (k : Nat) : ((l.take k).flatMap f).length ≤ (l.flatMap f).length := by
  have : (l.take k).flatMap f ++ (l.drop k).flatMap f = l.flatMap f := by rw [← List.flatMap_append,List.take_append_drop]
  rw [← this,List.length_append]; omega
theorem flatMap_take {α β : Type} (f : α → List β) {l : List α} {k : Nat} (h : k < l.length) : (l.take (k + 1)).flatMap f = (l.take k).flatMap f ++ f l[k] := by
  rw [List.take_succ_eq_append_getElem h,List.flatMap_append]; simp

theorem rbelow_step (L : List Ins) (G : List EId) (x : EId) (r : Bool) (hL : L.length ≤ 10000) (hG : G.length ≤ 10000) (B : EId → Bool → List Nd)
    (hB : ∀ i ∈ cG L x r,∀ b,APure Tryz.prog 83 [dJ L G,idV i.id,.sc (.bool b)] (ndsV (B i.id b)))
    (htot : ((cG L x r).flatMap fun i => B i.id false ++ [⟨i.id,i.rune,decide (i.id ∈ G)⟩] ++ B i.id true).length ≤ 1000000000) :
    APure Tryz.prog 83 [dJ L G,idV x,.sc (.bool r)] (ndsV ((cG L x r).flatMap fun i => B i.id false ++ [⟨i.id,i.rune,decide (i.id ∈ G)⟩] ++ B i.id true)) := by
  have hk := rkids_pure L G x r (by omega)
  have hkl := kidsI_length L x r
  have hdr := fun y => dropped_pure L G y (by omega)
  have hKi := bN (cG L x r)
  obtain ⟨f,hf⟩ : ∃ f : Ins → List Nd,f = fun i => B i.id false ++ [⟨i.id,i.rune,decide (i.id ∈ G)⟩] ++ B i.id true := ⟨_,rfl⟩
  have hfi := fun i => congrFun hf i
  rw [← hf] at htot ⊢
  clear hf
  generalize cG L x r = K at *
  have hle := flatMap_le f K
  have hst := fun (k : Nat) (h : k < K.length) => flatMap_take f h
  have hend : (K.take K.length).flatMap f = K.flatMap f := by rw [List.take_length]
  generalize K.flatMap f = R at *
  obtain ⟨a,c⟩ := x
  refine az (c := ⟨Tryz.prog,60,[(6,[0,1,0,0,0,0,1,0,2,0]),(7,[0,0,0,0,0,1,0,0,0,0,1,1,0,0,0,0,1,0,0,0,2,0]),(8,[0,1,0,0,0,0,1,0,2,0]),(1000000,[4,3]),(4000008,[3,7,8,9]),(4000007,[3,7,8,9]),(4000006,[3,7,8,9]),(4000002,[3,7,8])],[],[]⟩) (rs := [ResultVar.tmp 6]) Tryz.mixed Tryz.func83 rfl rfl rfl (Nat.le_of_ble_eq_true rfl) (by kernel_rfl) fun H => ?_
  simp (disch := omega) only [↓aI,↓zP,aD,zD,aS,simprocAttr,Tryz.facts]
  intro k1 hk10 hk1 k2 hk20 hk2
  simp (disch := omega) only [↓aI,↓zP,aD,zD,aS,simprocAttr,Tryz.facts,aj hk2,aj hk1]
  first | refine CallK.p (hk) ?_ | refine CallP.i (hk) ?_
  simp (disch := omega) only [↓aI,↓zP,aD,zD,aS,simprocAttr,Tryz.facts]
  refine tok_t 7 (by simp (disch := omega) only [↓aI,↓zP,aD,zD,aS,simprocAttr,Tryz.facts]) fun kt hkt0 hkt => ?_
  refine br (c := ⟨Tryz.prog,60,[(6,[0,1,0,0,0,0,1,0,2,0]),(7,[0,0,0,0,0,1,0,0,0,0,1,1,0,0,0,0,1,0,0,0,2,0]),(8,[0,1,0,0,0,0,1,0,2,0]),(1000000,[4,3]),(4000008,[3,7,8,9]),(4000007,[3,7,8,9]),(4000006,[3,7,8,9]),(4000002,[3,7,8])],[],[]⟩) Tryz.mixed (by kernel_rfl) (fun mm σ H' => Abs.Sub H H' ∧ ∃ (k k7 : Nat) (o7 : AObj) (W : List Nd),k + mm = K.length ∧ W = (K.take k).flatMap f ∧ σ 3 = .ip (treeC L G) 0 ∧ σ 8 = .imm 0 (bp K) K.length ∧ σ 9 = .sc (.int .i64 (k : Nat)) ∧ k7 ≠ 0 ∧ H k7 = none ∧ H' k7 = some o7 ∧ cy 82 4 o7 (W.length * 4) ∧ σ 7 = .imm k7 (dr W) W.length) K.length ?_ ?_
  · refine ⟨Abs.Sub.set_new hkt,0,kt,.nilt,[],by omega,rfl,?_⟩
    simp (disch := omega) only [↓aI,↓zP,aD,zD,aS,simprocAttr,Tryz.facts]
    exact ⟨hkt0,hkt,rfl⟩
  · rintro mm σ H' ⟨hsub,k,k7,o7,W,hkm,hW,h3,h8,h9,hk70,hk7,hkv,ho7,h7⟩
    by_cases hlt : k < K.length
    · have hWl := hle (k + 1)
      have hst1 := hst k hlt
      have hB1 := hB _ (List.getElem_mem hlt)
      have hf1 := hfi K[k]
      have hdr1 := hdr K[k].id
      have ld0 := dV hlt (show 0 + 2 ≤ 6 by omega)
      have ld5 := inssC_get hlt (show 5 < 6 by omega)
      have le6 : k * 6 + 6 ≤ K.length * 6 := by omega
      have le2 : k * 6 + 2 ≤ K.length * 6 := by omega
      have le5 : k * 6 + 5 < K.length * 6 := by omega
      generalize K[k] = y at *
      have hb1 := hB1 false
      have hb2 := hB1 true
      generalize B y.id false = B1 at *
      generalize B y.id true = B2 at *
      obtain ⟨⟨y1,y2⟩,⟨z1,z2⟩,yr,yu⟩ := y
      simp only [cA,Nat.add_zero,List.drop_zero,List.drop_succ_cons,List.take_succ_cons,List.take_zero,List.getElem?_cons_succ,List.getElem?_cons_zero] at ld0 ld5 hb1 hb2 hdr1 hf1
      rw [hst1,← hW,hf1,List.length_append,List.length_append,List.length_append] at hWl
      have hsA := ndsC_append W B1
      have hsB := ndsC_snoc (W ++ B1) ⟨(y1,y2),yu,decide ((y1,y2) ∈ G)⟩
      have hsC := ndsC_append (W ++ B1 ++ [⟨(y1,y2),yu,decide ((y1,y2) ∈ G)⟩]) B2
      have lA : (W ++ B1).length = W.length + B1.length := by simp
      have lB : (W ++ B1 ++ [(⟨(y1,y2),yu,decide ((y1,y2) ∈ G)⟩ : Nd)]).length = (W ++ B1).length + 1 := by simp only [List.length_append,List.length_singleton]
      have lC : (W ++ B1 ++ [(⟨(y1,y2),yu,decide ((y1,y2) ∈ G)⟩ : Nd)] ++ B2).length = (W ++ B1 ++ [(⟨(y1,y2),yu,decide ((y1,y2) ∈ G)⟩ : Nd)]).length + B2.length := by rw [List.length_append]
      have hfin : (K.take (k + 1)).flatMap f = W ++ B1 ++ [(⟨(y1,y2),yu,decide ((y1,y2) ∈ G)⟩ : Nd)] ++ B2 := by rw [hst1,← hW,hf1]; simp only [List.append_assoc]
      simp only [ndC] at hsB
      generalize decide ((y1,y2) ∈ G) = gn at *
      generalize W ++ B1 ++ [(⟨(y1,y2),yu,gn⟩ : Nd)] ++ B2 = W3 at *
      generalize W ++ B1 ++ [(⟨(y1,y2),yu,gn⟩ : Nd)] = W2 at *
      generalize W ++ B1 = W1 at *
      simp only [List.length_singleton] at hWl
      have i0 := c7 W
      have i1 := c7 B1
      have i2 := c7 B2
      have i3 := c7 W1
      have i4 := c7 W2
      have i5 := c7 W3
      simp (disch := omega) only [↓aI,↓zP,aD,zD,aS,simprocAttr,Tryz.facts,h3,h7,h8,h9,zA,ld0,ld5,le6,le2,le5,hKi]
      first | refine CallK.p (hb1) ?_ | refine CallP.i (hb1) ?_
      simp (disch := omega) only [↓aI,↓zP,aD,zD,aS,simprocAttr,Tryz.facts,h3,h7,h8,h9,zA,ld0,ld5,le6,le2,le5,hKi,hkv,ho7,i0,i1,hsA,← lA]
      intro ka oa hka0 hka hoa
      rw [i3] at hoa
      have hA := hsub.free hka
      have subA := (hsub.kill_free hk7).set_free (o := oa) hA
      first | refine CallK.p (hdr1) ?_ | refine CallP.i (hdr1) ?_
      simp (disch := omega) only [↓aI,↓zP,aD,zD,aS,simprocAttr,Tryz.facts,h3,h7,h8,h9,zA,ld0,ld5,le6,le2,le5,hKi,hoa,i3,hsB,← lB]
      intro kb ob hkb0 hkb hob
      rw [i4] at hob
      have hB' := subA.free hkb
      have subB := (subA.kill_free hA).set_free (o := ob) hB'
      first | refine CallK.p (hb2) ?_ | refine CallP.i (hb2) ?_
      simp (disch := omega) only [↓aI,↓zP,aD,zD,aS,simprocAttr,Tryz.facts,h3,h7,h8,h9,zA,ld0,ld5,le6,le2,le5,hKi,hob,i4,i2,hsC,← lC]
      intro kc oc hkc0 hkc hoc
      rw [i5] at hoc
      have hC' := subB.free hkc
      have subC := (subB.kill_free hB').set_free (o := oc) hC'
      exact ⟨mm - 1,by omega,subC,k + 1,kc,oc,W3,by omega,hfin.symm,rfl,hkc0,hC',set_get,hoc,rfl⟩
    · obtain rfl : k = K.length := by omega
      rw [hend] at hW
      subst hW
      simp (disch := omega) only [↓aI,↓zP,aD,zD,aS,simprocAttr,Tryz.facts,h3,h7,h8,h9,zA,hKi]
      exact hsub
theorem rbelow_pure (L : List Ins) (G : List EId) (hL : L.length ≤ 10000) (hG : G.length ≤ 10000) (hnd : (L.map (·.id)).Nodup) : ∀ (n : Nat) (x : EId) (r : Bool), n ≤ 10001 → Deep L n x →
    APure Tryz.prog 83 [dJ L G,idV x,.sc (.bool r)] (ndsV (below L G n x r)) := by
  intro n
  induction n with
  | zero =>
    intro x r _ hd
    have hk : cG L x r = [] := by
      cases e : cG L x r with
      | nil => rfl
      | cons i l =>
        have hm := mem_kidsI (L := L) (p := x) (r := r) (i := i) (by rw [e]; simp)
        cases hd with
        | mk _ _ h _ => exact absurd (h i hm.1 hm.2.1) (by omega)
    have := rbelow_step L G x r hL hG (fun _ _ => []) (by rw [hk]; simp) (by rw [hk]; simp)
    rw [hk] at this
    exact this
  | succ n ih =>
    intro x r hn hd
    have hres : below L G (n + 1) x r = (cG L x r).flatMap fun i => below L G n i.id false ++ [⟨i.id,i.rune,decide (i.id ∈ G)⟩] ++ below L G n i.id true := by
      rw [← belowI_eq hnd]
      simp only [belowI,belowI_eq hnd]
    rw [hres]
    refine rbelow_step L G x r hL hG (fun y b => below L G n y b) (fun i hi b => ?_) ?_
    · have hm := mem_kidsI hi
      cases hd with
      | mk _ _ h1 h2 => exact ih _ b (by omega) (h2 _ hm.1 hm.2.1)
    · rw [← hres]
      have := below_le G hnd (n + 1) x r
      have : (n + 1) * L.length ≤ 10001 * 10000 := Nat.mul_le_mul hn hL
      omega
end Go.Proofs.YtcgjlmopeblapaaGreat
end
