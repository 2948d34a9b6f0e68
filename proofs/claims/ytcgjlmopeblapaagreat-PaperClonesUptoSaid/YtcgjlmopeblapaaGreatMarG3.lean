/-
  Several texts in one: each says what it proves.
  Conditions: none. Lemmas only.
-/
import Derived.Test.YtcgjlmopeblapaaGreatMarG2
import Derived.Test.YtcgjlmopeblapaaGreatFugG2
set_option linter.all false
section
set_option linter.unusedSimpArgs false
set_option linter.unusedVariables false
set_option maxRecDepth 8000
set_option maxHeartbeats 4000000
namespace Go.Proofs.YtcgjlmopeblapaaGreat
open Go Go.Abs Go.Proofs Go.Fug
abbrev ancC (x : EId) (b : Bool) : List AV := [.sc (.int .i64 x.1),.sc (.int .i64 x.2),.sc (.bool b)]
def idsNd (ns : List Nd) : List EId := ns.map (·.id)
def posN (ns : List Nd) (x : EId) : Int := if x ∈ idsNd ns then ((idsNd ns).idxOf x : Nat) else -1
theorem posN_at {ns : List Nd} {x : EId} {i : Nat} (h : i < ns.length) (he : ns[i].id = x) (hno : ∀ j (hj : j < ns.length),j < i → ns[j].id ≠ x) : posN ns x = (i : Nat) := by
  have hm : x ∈ idsNd ns := List.mem_map.2 ⟨_,List.getElem_mem h,he⟩
  have hl : (idsNd ns).length = ns.length := List.length_map _
  unfold posN
  rw [if_pos hm]
  congr 1
  have h1 : (idsNd ns).idxOf x < (idsNd ns).length := List.idxOf_lt_length_of_mem hm
  have h2 : (idsNd ns)[(idsNd ns).idxOf x] = x := List.getElem_idxOf h1
  rcases Nat.lt_trichotomy ((idsNd ns).idxOf x) i with h3 | h3 | h3
  · have := hno _ (by omega) h3
    simp only [idsNd,List.getElem_map] at h2
    exact absurd h2 this
  · exact_mod_cast h3
  · have := List.not_of_lt_findIdx (p := fun y => y == x) (xs := idsNd ns) (i := i) h3
    simp [idsNd,he] at this
theorem posN_no {ns : List Nd} {x : EId} (hno : ∀ j (hj : j < ns.length),ns[j].id ≠ x) : posN ns x = -1 := by
  unfold posN
  rw [if_neg]
  intro hm
  obtain ⟨n,hn,e⟩ := List.mem_map.1 hm
  obtain ⟨j,hj,rfl⟩ := List.mem_iff_getElem.1 hn
  exact hno j hj e
theorem rplace_pure (ns : List Nd) (x : EId) (hL : ns.length ≤ 1000000) : APure Tryz.prog 119 [ndsV ns,idV x] (.sc (.int .i64 (posN ns x))) := by
  have hil := c7 ns
  have hat := fun (i : Nat) (h : i < ns.length) => posN_at (ns := ns) (x := x) h
  have hnone := posN_no (ns := ns) (x := x)
  generalize posN ns x = R at *
  obtain ⟨a,c⟩ := x
  refine az (c := ⟨Tryz.prog,20,[(4,[0,0,0,0,1,1,0]),(1000000,[3])],[],[]⟩) (rs := [ResultVar.tmp 4]) Tryz.mixed Tryz.func119 rfl rfl rfl (Nat.le_of_ble_eq_true rfl) (by kernel_rfl) fun H => ?_
  simp (disch := omega) only [↓aI,↓zP,aD,zD,aS,simprocAttr,Tryz.facts]
  intro k1 hk10 hk1
  simp (disch := omega) only [↓aI,↓zP,aD,zD,aS,simprocAttr,Tryz.facts,aj hk1]
  refine br (c := ⟨Tryz.prog,20,[(4,[0,0,0,0,1,1,0]),(1000000,[3])],[],[]⟩) Tryz.mixed (by kernel_rfl) (fun mm σ H' => H' = H ∧ ∃ i,i + mm = ns.length ∧ (∀ j (hj : j < ns.length),j < i → ns[j].id ≠ (a,c)) ∧ σ 0 = ndsV ns ∧ σ 3 = .ip [.sc (.int .i64 a),.sc (.int .i64 c)] 0 ∧ σ 5 = .sc (.int .i64 (i : Nat))) ns.length ?_ ?_
  · refine ⟨rfl,0,by omega,by omega,?_⟩
    simp (disch := omega) only [↓aI,↓zP,aD,zD,aS,simprocAttr,Tryz.facts]
    try rfl
  · rintro mm σ H' ⟨rfl,i,him,hno,h0,h3,h5⟩
    by_cases hlt : i < ns.length
    · have hld := ndsC_two hlt
      have hle' : i * 4 + 4 ≤ ns.length * 4 := by omega
      have hle2 : i * 4 + 2 ≤ ns.length * 4 := by omega
      have hnx : ns[i].id ≠ (a,c) → ∀ j (hj : j < ns.length),j < i + 1 → ns[j].id ≠ (a,c) := fun h j hj hji => by
        by_cases e : j = i
        · subst e; exact h
        · exact hno j hj (by omega)
      have hyes : ns[i].id = (a,c) → R = (i : Nat) := fun h => hat i hlt h hno
      generalize ns[i] = y at *
      obtain ⟨⟨y1,y2⟩,yu,yg⟩ := y
      simp only [] at hld hyes hnx
      by_cases e1 : y1 = a
      · by_cases e2 : y2 = c
        · subst e1 e2
          obtain rfl := hyes rfl
          simp (disch := omega) only [↓aI,↓zP,aD,zD,aS,simprocAttr,Tryz.facts,h0,h3,h5,zA,hld,hil,hle',hle2]
          exact Abs.Sub.refl _
        · simp (disch := omega) only [↓aI,↓zP,aD,zD,aS,simprocAttr,Tryz.facts,h0,h3,h5,zA,hld,hil,hle',hle2]
          exact ⟨mm - 1,by omega,i + 1,by omega,hnx (by simp [e2]),rfl⟩
      · simp (disch := omega) only [↓aI,↓zP,aD,zD,aS,simprocAttr,Tryz.facts,h0,h3,h5,zA,hld,hil,hle',hle2]
        exact ⟨mm - 1,by omega,i + 1,by omega,hnx (by simp [e1]),rfl⟩
    · obtain rfl := hnone (fun j hj => hno j hj (by omega))
      simp (disch := omega) only [↓aI,↓zP,aD,zD,aS,simprocAttr,Tryz.facts,h0,h3,h5,zA,hil]
      exact Abs.Sub.refl _
def thereN (ns : List Nd) (x : EId) : Bool := decide (x = bL) || decide (0 ≤ posN ns x)
def aheadN (ns : List Nd) (x : EId) (b : Bool) (i : Nat) : Bool := if x = bL then b else decide (posN ns x < i) || (decide (posN ns x = i) && !b)
theorem there_pure (ns : List Nd) (x : EId) (b : Bool) (hL : ns.length ≤ 1000000) : APure Tryz.prog 115 [ndsV ns,.agg (ancC x b)] (.sc (.bool (thereN ns x))) := by
  have hp := rplace_pure ns x hL
  have hB : thereN ns x = (decide (x = bL) || decide (0 ≤ posN ns x)) := rfl
  generalize thereN ns x = B at *
  generalize posN ns x = p at *
  obtain ⟨a,c⟩ := x
  have h3 : (a = 0 ∧ c = 0) ∨ (a ≠ 0) ∨ (a = 0 ∧ c ≠ 0) := by omega
  simp only [ancC]
  rcases h3 with h | h
  · have hb : B = true := by rw [hB,h.1,h.2]; first | done | rfl
    refine az (c := ⟨Tryz.prog,16,[(1000000,[3])],[],[]⟩) (rs := [ResultVar.tmp 4]) Tryz.mixed Tryz.func115 rfl rfl rfl (Nat.le_of_ble_eq_true rfl) (by kernel_rfl) fun H => ?_
    simp (disch := omega) only [↓aI,↓zP,aD,zD,aS,simprocAttr,Tryz.facts]
    intro k hk0 hk
    simp (disch := omega) only [↓aI,↓zP,aD,zD,aS,simprocAttr,Tryz.facts,zA,aj hk]
    exact ⟨by rw [hb],Abs.Sub.refl _⟩
  · have hb : B = decide (0 ≤ p) := by
      rw [hB,dF (by rintro e; rw [show bL = (0,0) from rfl,Prod.mk.injEq] at e; omega),Bool.false_or]
    subst hb
    rcases h with h | h
    all_goals
      refine az (c := ⟨Tryz.prog,16,[(1000000,[3])],[],[]⟩) (rs := [ResultVar.tmp 4]) Tryz.mixed Tryz.func115 rfl rfl rfl (Nat.le_of_ble_eq_true rfl) (by kernel_rfl) fun H => ?_
      simp (disch := omega) only [↓aI,↓zP,aD,zD,aS,simprocAttr,Tryz.facts]
      intro k hk0 hk
      simp (disch := omega) only [↓aI,↓zP,aD,zD,aS,simprocAttr,Tryz.facts,zA,aj hk]
      refine CallK.p hp ?_
      simp (disch := omega) only [↓aI,↓zP,aD,zD,aS,simprocAttr,Tryz.facts,zA,aj hk]
      first | exact Abs.Sub.refl _ | exact ⟨rfl,Abs.Sub.refl _⟩
theorem ahead_pure (ns : List Nd) (x : EId) (b : Bool) (i : Nat) (hL : ns.length ≤ 1000000) : APure Tryz.prog 116 [ndsV ns,.agg (ancC x b),.sc (.int .i64 (i : Nat))] (.sc (.bool (aheadN ns x b i))) := by
  have hp := rplace_pure ns x hL
  have hB : aheadN ns x b i = if x = bL then b else decide (posN ns x < i) || (decide (posN ns x = i) && !b) := rfl
  generalize aheadN ns x b i = B at *
  generalize posN ns x = p at *
  obtain ⟨a,c⟩ := x
  have h3 : (a = 0 ∧ c = 0) ∨ (a ≠ 0) ∨ (a = 0 ∧ c ≠ 0) := by omega
  simp only [ancC]
  rcases h3 with h | h
  · rw [if_pos (by rw [h.1,h.2])] at hB
    subst hB
    refine az (c := ⟨Tryz.prog,31,[(1000000,[4])],[],[]⟩) (rs := [ResultVar.tmp 6]) Tryz.mixed Tryz.func116 rfl rfl rfl (Nat.le_of_ble_eq_true rfl) (by kernel_rfl) fun H => ?_
    simp (disch := omega) only [↓aI,↓zP,aD,zD,aS,simprocAttr,Tryz.facts]
    intro k hk0 hk
    simp (disch := omega) only [↓aI,↓zP,aD,zD,aS,simprocAttr,Tryz.facts,zA,aj hk]
    exact Abs.Sub.refl _
  · rw [if_neg (by rintro e; rw [show bL = (0,0) from rfl,Prod.mk.injEq] at e; omega)] at hB
    subst hB
    have h4 : p < i ∨ p = i ∨ (i : Int) < p := by omega
    rcases h with h | h
    all_goals
      rcases h4 with h4 | h4 | h4
      all_goals
        refine az (c := ⟨Tryz.prog,31,[(1000000,[4])],[],[]⟩) (rs := [ResultVar.tmp 6]) Tryz.mixed Tryz.func116 rfl rfl rfl (Nat.le_of_ble_eq_true rfl) (by kernel_rfl) fun H => ?_
        simp (disch := omega) only [↓aI,↓zP,aD,zD,aS,simprocAttr,Tryz.facts]
        intro k hk0 hk
        simp (disch := omega) only [↓aI,↓zP,aD,zD,aS,simprocAttr,Tryz.facts,zA,aj hk]
        refine CallK.p hp ?_
        simp (disch := omega) only [↓aI,↓zP,aD,zD,aS,simprocAttr,Tryz.facts,zA,aj hk]
        first | exact Abs.Sub.refl _ | exact ⟨rfl,Abs.Sub.refl _⟩ | exact ⟨by simp,Abs.Sub.refl _⟩
def covN (ns : List Nd) (m : Mk) (i : Nat) : Bool := thereN ns m.fid && (thereN ns m.tid && (aheadN ns m.fid m.fb i && !aheadN ns m.tid m.tb i))
theorem covers_pure (ns : List Nd) (m : Mk) (i : Nat) (hL : ns.length ≤ 1000000) : APure Tryz.prog 104 [ndsV ns,.agg (mkC m),.sc (.int .i64 (i : Nat))] (.sc (.bool (covN ns m i))) := by
  have h1 := there_pure ns m.fid m.fb hL
  have h2 := there_pure ns m.tid m.tb hL
  have h3 := ahead_pure ns m.fid m.fb i hL
  have h4 := ahead_pure ns m.tid m.tb i hL
  have hB : covN ns m i = (thereN ns m.fid && (thereN ns m.tid && (aheadN ns m.fid m.fb i && !aheadN ns m.tid m.tb i))) := rfl
  generalize covN ns m i = B at *
  generalize thereN ns m.fid = b1 at *
  generalize thereN ns m.tid = b2 at *
  generalize aheadN ns m.fid m.fb i = b3 at *
  generalize aheadN ns m.tid m.tb i = b4 at *
  subst hB
  obtain ⟨mc,ma,⟨f1,f2⟩,fb,⟨t1,t2⟩,tb,nm,vl⟩ := m
  simp only [mkC,ancC] at h1 h2 h3 h4 ⊢
  cases b1 <;> cases b2 <;> cases b3
  all_goals
    refine az (c := ⟨Tryz.prog,32,[(1000000,[4])],[],[]⟩) (rs := [ResultVar.tmp 6]) Tryz.mixed Tryz.func104 rfl rfl rfl (Nat.le_of_ble_eq_true rfl) (by kernel_rfl) fun H => ?_
    simp (disch := omega) only [↓aI,↓zP,aD,zD,aS,simprocAttr,Tryz.facts]
    intro k hk0 hk
    simp (disch := omega) only [↓aI,↓zP,aD,zD,aS,simprocAttr,Tryz.facts,zA,aj hk]
    repeat' first
      | exact Abs.Sub.refl _
      | exact ⟨rfl,Abs.Sub.refl _⟩
      | exact ⟨by simp,Abs.Sub.refl _⟩
      | (refine CallK.p h1 ?_; simp (disch := omega) only [↓aI,↓zP,aD,zD,aS,simprocAttr,Tryz.facts,zA,aj hk])
      | (refine CallK.p h2 ?_; simp (disch := omega) only [↓aI,↓zP,aD,zD,aS,simprocAttr,Tryz.facts,zA,aj hk])
      | (refine CallK.p h3 ?_; simp (disch := omega) only [↓aI,↓zP,aD,zD,aS,simprocAttr,Tryz.facts,zA,aj hk])
      | (refine CallK.p h4 ?_; simp (disch := omega) only [↓aI,↓zP,aD,zD,aS,simprocAttr,Tryz.facts,zA,aj hk])
end Go.Proofs.YtcgjlmopeblapaaGreat
end
section
set_option linter.unusedSimpArgs false
set_option linter.unusedVariables false
set_option maxRecDepth 8000
set_option maxHeartbeats 4000000
namespace Go.Proofs.YtcgjlmopeblapaaGreat
open Go Go.Abs Go.Proofs Go.Fug
def zeroMk : Mk := ⟨0,0,(0,0),false,(0,0),false,0,0⟩
def bestF (ns : List Nd) (i : Nat) (n : Int) (b m : Mk) : Mk := if m.name = n ∧ covN ns m i = true ∧ newM m b = true then m else b
def bestN (ns : List Nd) (l : List Mk) (i : Nat) (n : Int) : Mk := l.foldl (bestF ns i n) zeroMk
abbrev styC (a b c d : Int) : List AV := [.sc (.int .i64 0),.sc (.int .i64 a),.sc (.int .i64 b),.sc (.int .i64 c),.sc (.int .i64 d)]
abbrev styD (ns : List Nd) (l : List Mk) (i : Nat) : List AV := styC (bestN ns l i 1).value (bestN ns l i 2).value (bestN ns l i 3).value (bestN ns l i 4).value
def upTo (f : Int → Int) (k j : Nat) : Int := if j < k then f j else 0
theorem style_pure (ns : List Nd) (l : List Mk) (i : Nat) (hL : ns.length ≤ 1000000) (hl : l.length ≤ 100000) : APure Tryz.prog 82 [ndsV ns,eM l,.sc (.int .i64 (i : Nat))] (.agg (styD ns l i)) := by
  have hll := bM l
  have hcov := fun m => covers_pure ns m i hL
  obtain ⟨B,hB⟩ : ∃ B : Int → Nat → Mk,B = fun n j => (l.take j).foldl (bestF ns i n) zeroMk := ⟨_,rfl⟩
  have hB0 : ∀ n,B n 0 = zeroMk := fun n => by rw [hB]; rfl
  have hBs : ∀ n j (h : j < l.length),B n (j + 1) = bestF ns i n (B n j) l[j] := fun n j h => by
    rw [hB]
    simp only []
    rw [List.take_succ_eq_append_getElem h,List.foldl_append]
    rfl
  have hBe : ∀ n,bestN ns l i n = B n l.length := fun n => by rw [hB]; simp only [List.take_length]; rfl
  unfold styD
  simp only [hBe]
  clear hB hBe
  obtain ⟨f,hf⟩ : ∃ f : Int → Int,f = fun n => (B n l.length).value := ⟨_,rfl⟩
  have hfe : ∀ n,(B n l.length).value = f n := fun n => by rw [hf]
  simp only [hfe]
  clear hf
  refine az (c := ⟨Tryz.prog,55,[(9,[0,0,0,0,1,0,0,0,0,0,0,0,1,0,0,0,0,0,0,0,1,1,0,0])],[],[]⟩) (rs := [ResultVar.cell 6 97]) Tryz.mixed Tryz.func82 rfl rfl rfl (Nat.le_of_ble_eq_true rfl) (by kernel_rfl) fun H => ?_
  simp (disch := omega) only [↓aI,↓zP,aD,zD,aS,simprocAttr,Tryz.facts]
  intro k6 hk60 hk6 k7 hk70 hk7
  try simp (disch := omega) only [↓aI,↓zP,aD,zD,aS,simprocAttr,Tryz.facts]
  have n67 := bK hk7
  have hk7H := am hk7
  refine br (c := ⟨Tryz.prog,55,[(9,[0,0,0,0,1,0,0,0,0,0,0,0,1,0,0,0,0,0,0,0,1,1,0,0])],[],[]⟩) Tryz.mixed (by kernel_rfl) (fun mm σ H' => Abs.Sub H H' ∧ ∃ k : Nat,k + mm = 5 ∧ 1 ≤ k ∧ H' k6 = some (.cells (styC 0 0 0 0) 97 5) ∧ H' k7 = some (.cells (styC (upTo f k 1) (upTo f k 2) (upTo f k 3) (upTo f k 4)) 97 5) ∧
    σ 0 = ndsV ns ∧ σ 1 = eM l ∧ σ 2 = .sc (.int .i64 (i : Nat)) ∧ σ 6 = .ptr k6 0 ∧ σ 7 = .ptr k7 0 ∧ σ 8 = .sc (.int .i64 (k : Nat))) 4 ?_ ?_
  · refine ⟨(Sub.set_new hk6).trans (Sub.set_new hk7),1,by omega,by omega,?_,set_get,?_⟩
    · rw [aP n67,set_get]
    · simp (disch := omega) only [↓aI,↓zP,aD,zD,aS,simprocAttr,Tryz.facts]
      try rfl
  · rintro mm σ H' ⟨hsub,k,hkm,hk1,v6,v7,s0,s1,s2,s6,s7,s8⟩
    by_cases hk5 : k < 5
    · simp (disch := omega) only [↓aI,↓zP,aD,zD,aS,simprocAttr,Tryz.facts,s0,s1,s2,s6,s7,s8,zA]
      intro kb hkb0 hkb
      simp (disch := omega) only [↓aI,↓zP,aD,zD,aS,simprocAttr,Tryz.facts,s0,s1,s2,s6,s7,s8,zA,ah]
      have n6b := bA v6 hkb
      have n7b := bA v7 hkb
      have hkbH := hsub.free hkb
      refine br (c := ⟨Tryz.prog,55,[(9,[0,0,0,0,1,0,0,0,0,0,0,0,1,0,0,0,0,0,0,0,1,1,0,0])],[],[]⟩) Tryz.mixed (by kernel_rfl) (fun mq σ H2 => Abs.Sub H H2 ∧ ∃ j : Nat,j + mq = l.length ∧ H2 k6 = some (.cells (styC 0 0 0 0) 97 5) ∧ H2 k7 = some (.cells (styC (upTo f k 1) (upTo f k 2) (upTo f k 3) (upTo f k 4)) 97 5) ∧ H2 kb = some (.cells (mkC (B (k : Nat) j)) 56 10) ∧
        σ 0 = ndsV ns ∧ σ 1 = eM l ∧ σ 2 = .sc (.int .i64 (i : Nat)) ∧ σ 6 = .ptr k6 0 ∧ σ 7 = .ptr k7 0 ∧ σ 8 = .sc (.int .i64 (k : Nat)) ∧ σ 9 = .ptr kb 0 ∧ σ 10 = .sc (.int .i64 (j : Nat))) l.length ?_ ?_
      · refine ⟨hsub.set_free hkbH,0,by omega,by rw [aP n6b]; exact v6,by rw [aP n7b]; exact v7,by rw [hB0]; exact set_get,?_⟩
        simp (disch := omega) only [↓aI,↓zP,aD,zD,aS,simprocAttr,Tryz.facts,s0,s1,s2,s6,s7,s8]
        try rfl
      · clear hsub v6 v7 s0 s1 s2 s6 s7 s8 hkb
        rintro mq σ H2 ⟨hsub,j,hjm,v6,v7,vb,s0,s1,s2,s6,s7,s8,s9,s10⟩
        by_cases hlt : j < l.length
        · have hld := mksC_load hlt
          have hg8 := mksC_get hlt (show 8 < 10 by omega)
          have hle' : j * 10 + 10 ≤ l.length * 10 := by omega
          have hle8 : j * 10 + 8 < l.length * 10 := by omega
          have hst := hBs (k : Nat) j hlt
          have hcv := hcov l[j]
          have hnw := newer_pure l[j] (B (k : Nat) j)
          unfold bestF at hst
          generalize hb2 : B (k : Nat) (j + 1) = b2 at *
          generalize B (k : Nat) j = b at *
          generalize l[j] = x at *
          generalize hcx : covN ns x i = cv at *
          generalize hnx : newM x b = nv at *
          have hfin : (x.name = (k : Nat) → cv = true → nv = true → b2 = x) ∧ (x.name = (k : Nat) → cv = true → nv = false → b2 = b) ∧ (x.name = (k : Nat) → cv = false → b2 = b) ∧ (x.name ≠ (k : Nat) → b2 = b) := by
            rw [hst]
            refine ⟨fun a c d => by rw [if_pos ⟨a,c,d⟩],fun a c d => by rw [if_neg (by rw [d]; simp)],fun a c => by rw [if_neg (by rw [c]; simp)],fun a => by rw [if_neg (by simp [a])]⟩
          clear hst hcx hnx
          obtain ⟨q1,q2,q3,q4⟩ := hfin
          obtain ⟨xc,xa,⟨x1,x2⟩,xb,⟨x3,x4⟩,xd,xn,xv⟩ := x
          obtain ⟨bc,ba,⟨b1,b2'⟩,bb,⟨b3,b4⟩,bd,bn,bv⟩ := b
          simp only [mkC,List.getElem?_cons_succ,List.getElem?_cons_zero] at hld hg8 hcv hnw vb
          simp only [] at q1 q2 q3 q4
          by_cases e1 : xn = (k : Nat)
          · cases cv with
            | true =>
              cases nv with
              | true =>
                obtain rfl := q1 e1 rfl rfl
                simp (disch := omega) only [↓aI,↓zP,aD,zD,aS,simprocAttr,Tryz.facts,s0,s1,s2,s6,s7,s8,s9,s10,zA,hld,hg8,hle',hle8,hll,vb]
                first | refine CallK.p (hcv) ?_ | refine CallP.i (hcv) ?_
                simp (disch := omega) only [↓aI,↓zP,aD,zD,aS,simprocAttr,Tryz.facts,s0,s1,s2,s6,s7,s8,s9,s10,zA,hld,hg8,hle',hle8,hll,vb]
                first | refine CallK.p (hnw) ?_ | refine CallP.i (hnw) ?_
                simp (disch := omega) only [↓aI,↓zP,aD,zD,aS,simprocAttr,Tryz.facts,s0,s1,s2,s6,s7,s8,s9,s10,zA,hld,hg8,hle',hle8,hll,vb,ah]
                exact ⟨mq - 1,by omega,hsub.set_free hkbH,j + 1,by omega,by rw [aP n6b]; exact v6,by rw [aP n7b]; exact v7,by rw [hb2]; first | rfl | exact set_get,rfl⟩
              | false =>
                obtain rfl := q2 e1 rfl rfl
                simp (disch := omega) only [↓aI,↓zP,aD,zD,aS,simprocAttr,Tryz.facts,s0,s1,s2,s6,s7,s8,s9,s10,zA,hld,hg8,hle',hle8,hll,vb]
                first | refine CallK.p (hcv) ?_ | refine CallP.i (hcv) ?_
                simp (disch := omega) only [↓aI,↓zP,aD,zD,aS,simprocAttr,Tryz.facts,s0,s1,s2,s6,s7,s8,s9,s10,zA,hld,hg8,hle',hle8,hll,vb]
                first | refine CallK.p (hnw) ?_ | refine CallP.i (hnw) ?_
                simp (disch := omega) only [↓aI,↓zP,aD,zD,aS,simprocAttr,Tryz.facts,s0,s1,s2,s6,s7,s8,s9,s10,zA,hld,hg8,hle',hle8,hll,vb,ah]
                exact ⟨mq - 1,by omega,hsub,j + 1,by omega,v6,v7,by rw [hb2]; rfl,rfl⟩
            | false =>
              obtain rfl := q3 e1 rfl
              simp (disch := omega) only [↓aI,↓zP,aD,zD,aS,simprocAttr,Tryz.facts,s0,s1,s2,s6,s7,s8,s9,s10,zA,hld,hg8,hle',hle8,hll,vb]
              first | refine CallK.p (hcv) ?_ | refine CallP.i (hcv) ?_
              simp (disch := omega) only [↓aI,↓zP,aD,zD,aS,simprocAttr,Tryz.facts,s0,s1,s2,s6,s7,s8,s9,s10,zA,hld,hg8,hle',hle8,hll,vb]
              exact ⟨mq - 1,by omega,hsub,j + 1,by omega,v6,v7,by rw [hb2]; rfl,rfl⟩
          · obtain rfl := q4 e1
            simp (disch := omega) only [↓aI,↓zP,aD,zD,aS,simprocAttr,Tryz.facts,s0,s1,s2,s6,s7,s8,s9,s10,zA,hld,hg8,hle',hle8,hll,vb]
            exact ⟨mq - 1,by omega,hsub,j + 1,by omega,v6,v7,by rw [hb2]; rfl,rfl⟩
        · obtain rfl : j = l.length := by omega
          have hv := hfe (k : Nat)
          generalize B (k : Nat) l.length = b at *
          obtain ⟨bc,ba,⟨b1,b2'⟩,bb,⟨b3,b4⟩,bd,bn,bv⟩ := b
          simp only [] at hv
          simp only [mkC] at vb
          have hk4 : k = 1 ∨ k = 2 ∨ k = 3 ∨ k = 4 := by omega
          rcases hk4 with rfl | rfl | rfl | rfl
          all_goals
            simp (disch := omega) only [↓aI,↓zP,aD,zD,aS,simprocAttr,Tryz.facts,s0,s1,s2,s6,s7,s8,s9,s10,zA,hll,vb,v6,v7,ah]
            first
              | exact ⟨mm - 1,by omega,hsub.set_free hk7H,2,by omega,by omega,by rw [aP n67]; exact v6,by simp [upTo] at hv ⊢; exact hv,rfl⟩
              | exact ⟨mm - 1,by omega,hsub.set_free hk7H,3,by omega,by omega,by rw [aP n67]; exact v6,by simp [upTo] at hv ⊢; exact hv,rfl⟩
              | exact ⟨mm - 1,by omega,hsub.set_free hk7H,4,by omega,by omega,by rw [aP n67]; exact v6,by simp [upTo] at hv ⊢; exact hv,rfl⟩
              | exact ⟨mm - 1,by omega,hsub.set_free hk7H,5,by omega,by omega,by rw [aP n67]; exact v6,by simp [upTo] at hv ⊢; exact hv,rfl⟩
    · obtain rfl : k = 5 := by omega
      simp (disch := omega) only [↓aI,↓zP,aD,zD,aS,simprocAttr,Tryz.facts,s0,s1,s2,s6,s7,s8,zA,v6,v7,ah]
      exact ⟨by simp [upTo],hsub.set_free hk6⟩
end Go.Proofs.YtcgjlmopeblapaaGreat
end
