/-
  Several texts in one: each says what it proves.
  Conditions: none. Lemmas only.
-/
import Derived.Test.YtcgjlmopeblapaaGreatMarG1
import Derived.Test.YtcgjlmopeblapaaGreatAbsG6
set_option linter.all false
section
set_option linter.unusedSimpArgs false
set_option linter.unusedVariables false
set_option maxRecDepth 8000
set_option maxHeartbeats 4000000
namespace Go.Proofs.YtcgjlmopeblapaaGreat
open Go Go.Abs Go.Proofs Go.Fug
def okA (x : EId) : Bool := decide (x.1 = 0 ∧ x.2 = 0) || (decide (0 ≤ x.1) && decide (x.1 < 5) && decide (1 ≤ x.2) && decide (x.2 ≤ 1099511627776))
def cQ (m : Mk) : Bool := decide (1 ≤ m.clock) && decide (m.clock ≤ 1099511627776) && decide (0 ≤ m.author) && decide (m.author < 5) && decide (1 ≤ m.name) && decide (m.name ≤ 4) && decide (0 ≤ m.value) && decide (m.value ≤ 1099511627776) && okA m.fid && okA m.tid
theorem rightM_ok {m : Mk} (h : cQ m = true) : okM m := by
  unfold cQ at h
  simp only [Bool.and_eq_true,decide_eq_true_eq] at h
  unfold okM
  omega
theorem anch_pure (x : EId) : APure Tryz.prog 64 [idV x] (.sc (.bool (okA x))) := by
  obtain ⟨a,c⟩ := x
  have hB : okA (a,c) = (decide (a = 0 ∧ c = 0) || (decide (0 ≤ a) && decide (a < 5) && decide (1 ≤ c) && decide (c ≤ 1099511627776))) := rfl
  have h1 : (a = 0 ∧ c = 0) ∨ a < 0 ∨ (5 ≤ a) ∨ (0 < a ∧ a < 5 ∧ c < 1) ∨ (0 < a ∧ a < 5 ∧ 1099511627776 < c) ∨ (0 < a ∧ a < 5 ∧ 1 ≤ c ∧ c ≤ 1099511627776) ∨ (a = 0 ∧ c < 0) ∨ (a = 0 ∧ 1099511627776 < c) ∨ (a = 0 ∧ 1 ≤ c ∧ c ≤ 1099511627776) := by omega
  generalize okA _ = B at *
  refine az (c := ⟨Tryz.prog,26,[(1000000,[1])],[],[]⟩) (rs := [ResultVar.tmp 2]) Tryz.mixed Tryz.func64 rfl rfl rfl (Nat.le_of_ble_eq_true rfl) (by kernel_rfl) fun H => ?_
  simp (disch := omega) only [↓aI,↓zP,aD,zD,aS,simprocAttr,Tryz.facts]
  intro k0 hk00 hk0
  rcases h1 with h | h | h | h | h | h | h | h | h <;> simp (disch := omega) only [↓aI,↓zP,aD,zD,aS,simprocAttr,Tryz.facts,dT,dF,qT,qF,nT,nF,aj hk0,Bool.false_and]
  all_goals first
    | (have hb : B = false := by (rw [hB]; simp; omega)
       exact ⟨by simp [hb],Abs.Sub.refl _⟩)
    | (have hb : B = true := by (rw [hB]; simp; omega)
       exact ⟨by simp [hb],Abs.Sub.refl _⟩)
theorem elem_pure (x : EId) : APure Tryz.prog 66 [idV x] (.sc (.bool (okA x))) := by
  obtain ⟨a,c⟩ := x
  have hB : okA (a,c) = (decide (a = 0 ∧ c = 0) || (decide (0 ≤ a) && decide (a < 5) && decide (1 ≤ c) && decide (c ≤ 1099511627776))) := rfl
  have h1 : (a = 0 ∧ c = 0) ∨ a < 0 ∨ (5 ≤ a) ∨ (0 < a ∧ a < 5 ∧ c < 1) ∨ (0 < a ∧ a < 5 ∧ 1099511627776 < c) ∨ (0 < a ∧ a < 5 ∧ 1 ≤ c ∧ c ≤ 1099511627776) ∨ (a = 0 ∧ c < 0) ∨ (a = 0 ∧ 1099511627776 < c) ∨ (a = 0 ∧ 1 ≤ c ∧ c ≤ 1099511627776) := by omega
  generalize okA _ = B at *
  refine az (c := ⟨Tryz.prog,26,[(1000000,[1])],[],[]⟩) (rs := [ResultVar.tmp 2]) Tryz.mixed Tryz.func66 rfl rfl rfl (Nat.le_of_ble_eq_true rfl) (by kernel_rfl) fun H => ?_
  simp (disch := omega) only [↓aI,↓zP,aD,zD,aS,simprocAttr,Tryz.facts]
  intro k0 hk00 hk0
  rcases h1 with h | h | h | h | h | h | h | h | h <;> simp (disch := omega) only [↓aI,↓zP,aD,zD,aS,simprocAttr,Tryz.facts,dT,dF,qT,qF,nT,nF,aj hk0,Bool.false_and]
  all_goals first
    | (have hb : B = false := by (rw [hB]; simp; omega)
       exact ⟨by simp [hb],Abs.Sub.refl _⟩)
    | (have hb : B = true := by (rw [hB]; simp; omega)
       exact ⟨by simp [hb],Abs.Sub.refl _⟩)
theorem mright_pure (m : Mk) : APure Tryz.prog 36 [.agg (mkC m)] (.sc (.bool (cQ m))) := by
  obtain ⟨mc,ma,⟨f1,f2⟩,fb,⟨t1,t2⟩,tb,nm,vl⟩ := m
  simp only [mkC]
  have hB : cQ ⟨mc,ma,(f1,f2),fb,(t1,t2),tb,nm,vl⟩ = (decide (1 ≤ mc) && decide (mc ≤ 1099511627776) && decide (0 ≤ ma) && decide (ma < 5) && decide (1 ≤ nm) && decide (nm ≤ 4) && decide (0 ≤ vl) && decide (vl ≤ 1099511627776) && okA (f1,f2) && okA (t1,t2)) := rfl
  have h1 : (1 ≤ mc ∧ mc ≤ 1099511627776 ∧ 0 ≤ ma ∧ ma < 5) ∨ mc < 1 ∨ (1 ≤ mc ∧ 1099511627776 < mc) ∨ (1 ≤ mc ∧ mc ≤ 1099511627776 ∧ ma < 0) ∨ (1 ≤ mc ∧ mc ≤ 1099511627776 ∧ 0 ≤ ma ∧ 5 ≤ ma) := by omega
  have h2 : (1 ≤ nm ∧ nm ≤ 4 ∧ 0 ≤ vl ∧ vl ≤ 1099511627776) ∨ nm < 1 ∨ (1 ≤ nm ∧ 4 < nm) ∨ (1 ≤ nm ∧ nm ≤ 4 ∧ vl < 0) ∨ (1 ≤ nm ∧ nm ≤ 4 ∧ 0 ≤ vl ∧ 1099511627776 < vl) := by omega
  have c1 := anch_pure (f1,f2)
  have c2 := anch_pure (t1,t2)
  generalize okA (f1,f2) = F at *
  generalize okA (t1,t2) = T at *
  generalize cQ _ = B at *
  refine az (c := ⟨Tryz.prog,57,[(1000000,[1])],[],[]⟩) (rs := [ResultVar.tmp 2]) Tryz.mixed Tryz.func36 rfl rfl rfl (Nat.le_of_ble_eq_true rfl) (by kernel_rfl) fun H => ?_
  simp (disch := omega) only [↓aI,↓zP,aD,zD,aS,simprocAttr,Tryz.facts]
  intro k0 hk00 hk0
  rcases h1 with h | h | h | h | h <;> rcases h2 with g | g | g | g | g <;> simp (disch := omega) only [↓aI,↓zP,aD,zD,aS,simprocAttr,Tryz.facts,dT,dF,qT,qF,nT,nF,aj hk0]
  all_goals first
    | (have hb : B = false := by (rw [hB]; simp; omega)
       exact ⟨by simp [hb],Abs.Sub.refl _⟩)
    | skip
  have hb : B = (F && T) := by
    rw [hB]
    have e1 : (decide (1 ≤ mc) && decide (mc ≤ 1099511627776) && decide (0 ≤ ma) && decide (ma < 5) && decide (1 ≤ nm) && decide (nm ≤ 4) && decide (0 ≤ vl) && decide (vl ≤ 1099511627776)) = true := by simp; omega
    rw [e1]; simp
  subst hb
  refine CallK.p c1 ?_
  cases F with
  | false =>
    simp (disch := omega) only [↓aI,↓zP,aD,zD,aS,simprocAttr,Tryz.facts,dT,dF,aj hk0]
    exact ⟨rfl,Abs.Sub.refl _⟩
  | true =>
    simp (disch := omega) only [↓aI,↓zP,aD,zD,aS,simprocAttr,Tryz.facts,dT,dF,aj hk0]
    refine CallK.p c2 ?_
    simp (disch := omega) only [↓aI,↓zP,aD,zD,aS,simprocAttr,Tryz.facts,dT,dF,aj hk0]
    exact Abs.Sub.refl _
theorem rmright_pure (m : Mk) : APure Tryz.prog 38 [.agg (mkC m)] (.sc (.bool (cQ m))) := by
  obtain ⟨mc,ma,⟨f1,f2⟩,fb,⟨t1,t2⟩,tb,nm,vl⟩ := m
  simp only [mkC]
  have hB : cQ ⟨mc,ma,(f1,f2),fb,(t1,t2),tb,nm,vl⟩ = (decide (1 ≤ mc) && decide (mc ≤ 1099511627776) && decide (0 ≤ ma) && decide (ma < 5) && decide (1 ≤ nm) && decide (nm ≤ 4) && decide (0 ≤ vl) && decide (vl ≤ 1099511627776) && okA (f1,f2) && okA (t1,t2)) := rfl
  have h1 : (1 ≤ mc ∧ mc ≤ 1099511627776 ∧ 0 ≤ ma ∧ ma < 5) ∨ mc < 1 ∨ (1 ≤ mc ∧ 1099511627776 < mc) ∨ (1 ≤ mc ∧ mc ≤ 1099511627776 ∧ ma < 0) ∨ (1 ≤ mc ∧ mc ≤ 1099511627776 ∧ 0 ≤ ma ∧ 5 ≤ ma) := by omega
  have h2 : (1 ≤ nm ∧ nm ≤ 4 ∧ 0 ≤ vl ∧ vl ≤ 1099511627776) ∨ nm < 1 ∨ (1 ≤ nm ∧ 4 < nm) ∨ (1 ≤ nm ∧ nm ≤ 4 ∧ vl < 0) ∨ (1 ≤ nm ∧ nm ≤ 4 ∧ 0 ≤ vl ∧ 1099511627776 < vl) := by omega
  have c1 := elem_pure (f1,f2)
  have c2 := elem_pure (t1,t2)
  generalize okA (f1,f2) = F at *
  generalize okA (t1,t2) = T at *
  generalize cQ _ = B at *
  refine az (c := ⟨Tryz.prog,51,[(1000000,[1])],[],[]⟩) (rs := [ResultVar.tmp 2]) Tryz.mixed Tryz.func38 rfl rfl rfl (Nat.le_of_ble_eq_true rfl) (by kernel_rfl) fun H => ?_
  simp (disch := omega) only [↓aI,↓zP,aD,zD,aS,simprocAttr,Tryz.facts]
  intro k0 hk00 hk0
  rcases h1 with h | h | h | h | h <;> rcases h2 with g | g | g | g | g <;> simp (disch := omega) only [↓aI,↓zP,aD,zD,aS,simprocAttr,Tryz.facts,dT,dF,qT,qF,nT,nF,aj hk0]
  all_goals first
    | (have hb : B = false := by (rw [hB]; simp; omega)
       exact ⟨by simp [hb],Abs.Sub.refl _⟩)
    | skip
  have hb : B = (F && T) := by
    rw [hB]
    have e1 : (decide (1 ≤ mc) && decide (mc ≤ 1099511627776) && decide (0 ≤ ma) && decide (ma < 5) && decide (1 ≤ nm) && decide (nm ≤ 4) && decide (0 ≤ vl) && decide (vl ≤ 1099511627776)) = true := by simp; omega
    rw [e1]; simp
  subst hb
  refine CallK.p c1 ?_
  cases F with
  | false =>
    simp (disch := omega) only [↓aI,↓zP,aD,zD,aS,simprocAttr,Tryz.facts,dT,dF,aj hk0]
    exact ⟨rfl,Abs.Sub.refl _⟩
  | true =>
    simp (disch := omega) only [↓aI,↓zP,aD,zD,aS,simprocAttr,Tryz.facts,dT,dF,aj hk0]
    refine CallK.p c2 ?_
    simp (disch := omega) only [↓aI,↓zP,aD,zD,aS,simprocAttr,Tryz.facts,dT,dF,aj hk0]
    exact Abs.Sub.refl _
def newM (a b : Mk) : Bool := if a.clock ≠ b.clock then decide (b.clock < a.clock) else decide (b.author < a.author)
theorem newer_pure (a b : Mk) : APure Tryz.prog 71 [.agg (mkC a),.agg (mkC b)] (.sc (.bool (newM a b))) := by
  obtain ⟨ac,aa,⟨af1,af2⟩,afb,⟨at1,at2⟩,atb,an,av⟩ := a
  obtain ⟨bc,ba,⟨bf1,bf2⟩,bfb,⟨bt1,bt2⟩,btb,bn,bv⟩ := b
  simp only [mkC]
  unfold newM
  simp only []
  have h1 : ac < bc ∨ (bc < ac) ∨ (ac = bc ∧ ba < aa) ∨ (ac = bc ∧ ¬ ba < aa) := by omega
  refine az (c := ⟨Tryz.prog,20,[(1000000,[3,2])],[],[]⟩) (rs := [ResultVar.tmp 4]) Tryz.mixed Tryz.func71 rfl rfl rfl (Nat.le_of_ble_eq_true rfl) (by kernel_rfl) fun H => ?_
  simp (disch := omega) only [↓aI,↓zP,aD,zD,aS,simprocAttr,Tryz.facts]
  intro k0 hk00 hk0 k1 hk10 hk1
  rcases h1 with h | h | h | h
  · rw [if_pos (by omega)]
    simp (disch := omega) only [↓aI,↓zP,aD,zD,aS,simprocAttr,Tryz.facts,dT,dF,qT,qF,nT,nF,aj hk1,aj hk0]
    exact Abs.Sub.refl _
  · rw [if_pos (by omega)]
    simp (disch := omega) only [↓aI,↓zP,aD,zD,aS,simprocAttr,Tryz.facts,dT,dF,qT,qF,nT,nF,aj hk1,aj hk0]
    exact Abs.Sub.refl _
  · rw [if_neg (by omega)]
    simp (disch := omega) only [↓aI,↓zP,aD,zD,aS,simprocAttr,Tryz.facts,dT,dF,qT,qF,nT,nF,aj hk1,aj hk0]
    exact Abs.Sub.refl _
  · rw [if_neg (by omega)]
    simp (disch := omega) only [↓aI,↓zP,aD,zD,aS,simprocAttr,Tryz.facts,dT,dF,qT,qF,nT,nF,aj hk1,aj hk0]
    exact Abs.Sub.refl _
end Go.Proofs.YtcgjlmopeblapaaGreat
end
section
set_option linter.unusedSimpArgs false
set_option linter.unusedVariables false
set_option maxRecDepth 8000
set_option maxHeartbeats 4000000
namespace Go.Proofs.YtcgjlmopeblapaaGreat
open Go Go.Abs Go.Proofs Go.Fug
theorem mksC_drop {l : List Mk} {i : Nat} (h : i < l.length) : (bE l).drop (i * 10) = mkC l[i] ++ bE (l.drop (i + 1)) := by
  rw [(mksC_cut l i (by omega)).2,List.drop_eq_getElem_cons h]
  rfl
theorem mksC_get {l : List Mk} {i j : Nat} (h : i < l.length) (hj : j < 10) : (bE l)[i * 10 + j]? = (mkC l[i])[j]? := by
  rw [← List.getElem?_drop,mksC_drop h,List.getElem?_append_left (by simpa [mkC] using hj)]
def atM (c a : Int) (m : Mk) : Prop := m.clock = c ∧ m.author = a
instance (c a : Int) (m : Mk) : Decidable (atM c a m) := inferInstanceAs (Decidable (_ ∧ _))
def hasM (l : List Mk) (c a : Int) : Bool := l.any fun m => decide (atM c a m)
theorem rmhas_pure (l : List Mk) (c a : Int) (hL : l.length ≤ 100000) : APure Tryz.prog 87 [eM l,.sc (.int .i64 c),.sc (.int .i64 a)] (.sc (.bool (hasM l c a))) := by
  have hil := bM l
  have hB : ∀ b : Bool,(b = true ↔ ∃ m ∈ l,atM c a m) → hasM l c a = b := fun b h => by
    cases b with
    | true => exact List.any_eq_true.2 (by simpa using h)
    | false =>
      rw [← Bool.not_eq_true]
      intro h2
      obtain ⟨m,h3,h4⟩ := List.any_eq_true.1 h2
      have := h.2 ⟨m,h3,by simpa using h4⟩
      cases this
  generalize hasM l c a = B at *
  refine az (c := ⟨Tryz.prog,30,[],[],[]⟩) (rs := [ResultVar.tmp 6]) Tryz.mixed Tryz.func87 rfl rfl rfl (Nat.le_of_ble_eq_true rfl) (by kernel_rfl) fun H => ?_
  simp (disch := omega) only [↓aI,↓zP,aD,zD,aS,simprocAttr,Tryz.facts]
  refine br (c := ⟨Tryz.prog,30,[],[],[]⟩) Tryz.mixed (by kernel_rfl) (fun mm σ H' => H' = H ∧ ∃ i,i + mm = l.length ∧ (∀ j (hj : j < l.length),j < i → ¬ atM c a l[j]) ∧ σ 0 = eM l ∧ σ 1 = .sc (.int .i64 c) ∧ σ 2 = .sc (.int .i64 a) ∧ σ 7 = .sc (.int .i64 (i : Nat))) l.length ?_ ?_
  · refine ⟨rfl,0,by omega,by omega,?_⟩
    simp (disch := omega) only [↓aI,↓zP,aD,zD,aS,simprocAttr,Tryz.facts]
    try rfl
  · rintro mm σ H' ⟨rfl,i,him,hno,h0,h1,h2,h7⟩
    by_cases hlt : i < l.length
    · have hg0 := mksC_get hlt (show 0 < 10 by omega)
      have hg1 := mksC_get hlt (show 1 < 10 by omega)
      have hle' : i * 10 + 10 ≤ l.length * 10 := by omega
      have hle0 : i * 10 < l.length * 10 := by omega
      have hle1 : i * 10 + 1 < l.length * 10 := by omega
      have hnx : ¬ atM c a l[i] → ∀ j (hj : j < l.length),j < i + 1 → ¬ atM c a l[j] := fun h j hj hji => by
        by_cases e : j = i
        · subst e; exact h
        · exact hno j hj (by omega)
      have hyes : atM c a l[i] → ∃ m ∈ l,atM c a m := fun h => ⟨_,List.getElem_mem hlt,h⟩
      generalize l[i] = y at *
      obtain ⟨yc,ya,yf,yfb,yt,ytb,yn,yv⟩ := y
      simp only [mkC,Nat.add_zero,List.getElem?_cons_zero,List.getElem?_cons_succ] at hg0 hg1
      unfold atM at hyes hnx
      simp only [] at hyes hnx
      by_cases e1 : yc = c
      · by_cases e2 : ya = a
        · subst e1 e2
          obtain rfl := hB true (by simp only [true_iff]; exact hyes ⟨rfl,rfl⟩)
          simp (disch := omega) only [↓aI,↓zP,aD,zD,aS,simprocAttr,Tryz.facts,h0,h1,h2,h7,zA,hg0,hg1,hil,hle',hle0,hle1]
          exact Abs.Sub.refl _
        · simp (disch := omega) only [↓aI,↓zP,aD,zD,aS,simprocAttr,Tryz.facts,h0,h1,h2,h7,zA,hg0,hg1,hil,hle',hle0,hle1]
          exact ⟨mm - 1,by omega,i + 1,by omega,hnx (by omega),rfl⟩
      · simp (disch := omega) only [↓aI,↓zP,aD,zD,aS,simprocAttr,Tryz.facts,h0,h1,h2,h7,zA,hg0,hg1,hil,hle',hle0,hle1]
        exact ⟨mm - 1,by omega,i + 1,by omega,hnx (by omega),rfl⟩
    · obtain rfl := hB false (by
        simp only [Bool.false_eq_true,false_iff]
        rintro ⟨m,hm,e⟩
        obtain ⟨j,hj,rfl⟩ := List.mem_iff_getElem.1 hm
        exact hno j hj (by omega) e)
      simp (disch := omega) only [↓aI,↓zP,aD,zD,aS,simprocAttr,Tryz.facts,h0,h1,h2,h7,zA,hil]
      exact Abs.Sub.refl _
end Go.Proofs.YtcgjlmopeblapaaGreat
end
section
set_option linter.unusedSimpArgs false
set_option linter.unusedVariables false
set_option maxRecDepth 8000
set_option maxHeartbeats 4000000
namespace Go.Proofs.YtcgjlmopeblapaaGreat
open Go Go.Abs Go.Proofs Go.Fug
def eU (l : List Mk) (m : Mk) : List Mk × Int :=
  if cQ m = false then (l,1) else if hasM l m.clock m.author = true then (l,12) else if l.length = 512 then (l,14) else (l.filter (fun x => newM m x) ++ [m] ++ l.filter (fun x => !newM m x),0)
theorem filt_take {α : Type} (p : α → Bool) {l : List α} {i : Nat} (h : i < l.length) : (l.take (i + 1)).filter p = (l.take i).filter p ++ if p l[i] then [l[i]] else [] := by
  rw [List.take_succ_eq_append_getElem h,List.filter_append]
  cases e : p l[i] <;> simp [e]
theorem filt_le {α : Type} (p : α → Bool) (l : List α) (i : Nat) : ((l.take i).filter p).length ≤ l.length := by
  have h1 := List.length_filter_le p (l.take i)
  have h2 := List.length_take_le i l
  have h3 : (l.take i).length ≤ l.length := by rw [List.length_take]; omega
  omega
theorem rmadd_pure (l : List Mk) (m : Mk) (hl : l.length ≤ 512) :
    APure Tryz.prog 65 [eM l,.agg (mkC m)] (.tup [eM (eU l m).1,.sc (.int .i64 (eU l m).2)]) := by
  have h0 := rmright_pure m
  have h1 := rmhas_pure l m.clock m.author (by omega)
  have hnw := fun x => newer_pure m x
  have hil := bM l
  obtain ⟨R,hR⟩ : ∃ R,R = eU l m := ⟨_,rfl⟩
  rw [← hR]
  unfold eU at hR
  cases ok : cQ m with
  | false =>
    rw [ok] at h0
    rw [if_pos ok] at hR
    subst hR
    obtain ⟨mc,ma,⟨f1,f2⟩,fb,⟨t1,t2⟩,tb,nm,vl⟩ := m
    simp only [mkC] at h0 ⊢
    refine az (c := ⟨Tryz.prog,68,[(11,[1,0,0,0,1,0]),(17,[1,0,0,0,1,0,0]),(1000000,[3]),(4000018,[0,3,6,8]),(4000017,[0,3,6,8,59]),(4000013,[0,3,6]),(4000012,[0,3,6,7]),(4000011,[0,3,6,7,35]),(4000003,[0,3,18])],[],[]⟩) (rs := [ResultVar.tmp 4,ResultVar.tmp 5]) Tryz.mixed Tryz.func65 rfl rfl rfl (Nat.le_of_ble_eq_true rfl) (by kernel_rfl) fun H => ?_
    simp (disch := omega) only [↓aI,↓zP,aD,zD,aS,simprocAttr,Tryz.facts]
    intro k1 hk10 hk1
    simp (disch := omega) only [↓aI,↓zP,aD,zD,aS,simprocAttr,Tryz.facts,aj hk1]
    first | refine CallK.p (h0) ?_ | refine CallP.i (h0) ?_
    simp (disch := omega) only [↓aI,↓zP,aD,zD,aS,simprocAttr,Tryz.facts]
    exact Abs.Sub.refl _
  | true =>
    rw [ok] at h0
    rw [if_neg (by rw [ok]; simp)] at hR
    cases hh : hasM l m.clock m.author with
    | true =>
      rw [hh] at h1
      rw [if_pos hh] at hR
      subst hR
      obtain ⟨mc,ma,⟨f1,f2⟩,fb,⟨t1,t2⟩,tb,nm,vl⟩ := m
      simp only [mkC] at h0 h1 ⊢
      refine az (c := ⟨Tryz.prog,68,[(11,[1,0,0,0,1,0]),(17,[1,0,0,0,1,0,0]),(1000000,[3]),(4000018,[0,3,6,8]),(4000017,[0,3,6,8,59]),(4000013,[0,3,6]),(4000012,[0,3,6,7]),(4000011,[0,3,6,7,35]),(4000003,[0,3,18])],[],[]⟩) (rs := [ResultVar.tmp 4,ResultVar.tmp 5]) Tryz.mixed Tryz.func65 rfl rfl rfl (Nat.le_of_ble_eq_true rfl) (by kernel_rfl) fun H => ?_
      simp (disch := omega) only [↓aI,↓zP,aD,zD,aS,simprocAttr,Tryz.facts]
      intro k1 hk10 hk1
      simp (disch := omega) only [↓aI,↓zP,aD,zD,aS,simprocAttr,Tryz.facts,aj hk1]
      first | refine CallK.p (h0) ?_ | refine CallP.i (h0) ?_
      simp (disch := omega) only [↓aI,↓zP,aD,zD,aS,simprocAttr,Tryz.facts]
      first | refine CallK.p (h1) ?_ | refine CallP.i (h1) ?_
      simp (disch := omega) only [↓aI,↓zP,aD,zD,aS,simprocAttr,Tryz.facts]
      exact Abs.Sub.refl _
    | false =>
      rw [hh] at h1
      rw [if_neg (by rw [hh]; simp)] at hR
      by_cases hf : l.length = 512
      · rw [if_pos hf] at hR
        subst hR
        obtain ⟨mc,ma,⟨f1,f2⟩,fb,⟨t1,t2⟩,tb,nm,vl⟩ := m
        simp only [mkC] at h0 h1 ⊢
        refine az (c := ⟨Tryz.prog,68,[(11,[1,0,0,0,1,0]),(17,[1,0,0,0,1,0,0]),(1000000,[3]),(4000018,[0,3,6,8]),(4000017,[0,3,6,8,59]),(4000013,[0,3,6]),(4000012,[0,3,6,7]),(4000011,[0,3,6,7,35]),(4000003,[0,3,18])],[],[]⟩) (rs := [ResultVar.tmp 4,ResultVar.tmp 5]) Tryz.mixed Tryz.func65 rfl rfl rfl (Nat.le_of_ble_eq_true rfl) (by kernel_rfl) fun H => ?_
        simp (disch := omega) only [↓aI,↓zP,aD,zD,aS,simprocAttr,Tryz.facts]
        intro k1 hk10 hk1
        simp (disch := omega) only [↓aI,↓zP,aD,zD,aS,simprocAttr,Tryz.facts,aj hk1]
        first | refine CallK.p (h0) ?_ | refine CallP.i (h0) ?_
        simp (disch := omega) only [↓aI,↓zP,aD,zD,aS,simprocAttr,Tryz.facts]
        first | refine CallK.p (h1) ?_ | refine CallP.i (h1) ?_
        simp (disch := omega) only [↓aI,↓zP,aD,zD,aS,simprocAttr,Tryz.facts,zA]
        exact Abs.Sub.refl _
      · rw [if_neg hf] at hR
        subst hR
        obtain ⟨q1,hq1⟩ : ∃ q : Mk → Bool,q = fun x => newM m x := ⟨_,rfl⟩
        obtain ⟨q2,hq2⟩ : ∃ q : Mk → Bool,q = fun x => !newM m x := ⟨_,rfl⟩
        rw [← hq1,← hq2]
        have e1 : ∀ x,newM m x = q1 x := fun x => by rw [hq1]
        have e2 : ∀ x,q2 x = !q1 x := fun x => by rw [hq2,hq1]
        simp only [e1] at hnw
        clear hq1 hq2 e1
        have ft1 := fun (i : Nat) (h : i < l.length) => filt_take q1 h
        have ft2 := fun (i : Nat) (h : i < l.length) => filt_take q2 h
        have fl1 := filt_le q1 l
        have fl2 := filt_le q2 l
        have hend1 : (l.take l.length).filter q1 = l.filter q1 := by rw [List.take_length]
        have hend2 : (l.take l.length).filter q2 = l.filter q2 := by rw [List.take_length]
        have hsn := fun W => mksC_snoc W m
        obtain ⟨mc,ma,⟨f1,f2⟩,fb,⟨t1,t2⟩,tb,nm,vl⟩ := m
        simp only [mkC] at h0 h1 hsn ⊢
        have hnw2 : ∀ x,APure Tryz.prog 71 [.agg [.sc (.int .i64 mc),.sc (.int .i64 ma),.sc (.int .i64 f1),.sc (.int .i64 f2),.sc (.bool fb),.sc (.int .i64 t1),.sc (.int .i64 t2),.sc (.bool tb),.sc (.int .i64 nm),.sc (.int .i64 vl)],.agg (mkC x)] (.sc (.bool (q1 x))) := hnw
        clear hnw
        refine az (c := ⟨Tryz.prog,68,[(11,[1,0,0,0,1,0]),(17,[1,0,0,0,1,0,0]),(1000000,[3]),(4000018,[0,3,6,8]),(4000017,[0,3,6,8,59]),(4000013,[0,3,6]),(4000012,[0,3,6,7]),(4000011,[0,3,6,7,35]),(4000003,[0,3,18])],[],[]⟩) (rs := [ResultVar.tmp 4,ResultVar.tmp 5]) Tryz.mixed Tryz.func65 rfl rfl rfl (Nat.le_of_ble_eq_true rfl) (by kernel_rfl) fun H => ?_
        simp (disch := omega) only [↓aI,↓zP,aD,zD,aS,simprocAttr,Tryz.facts]
        intro k1 hk10 hk1
        simp (disch := omega) only [↓aI,↓zP,aD,zD,aS,simprocAttr,Tryz.facts,aj hk1]
        first | refine CallK.p (h0) ?_ | refine CallP.i (h0) ?_
        simp (disch := omega) only [↓aI,↓zP,aD,zD,aS,simprocAttr,Tryz.facts]
        first | refine CallK.p (h1) ?_ | refine CallP.i (h1) ?_
        simp (disch := omega) only [↓aI,↓zP,aD,zD,aS,simprocAttr,Tryz.facts,zA]
        refine tok_t 6 (by simp (disch := omega) only [↓aI,↓zP,aD,zD,aS,simprocAttr,Tryz.facts]) fun kt hkt0 hkt => ?_
        refine br (c := ⟨Tryz.prog,68,[(11,[1,0,0,0,1,0]),(17,[1,0,0,0,1,0,0]),(1000000,[3]),(4000018,[0,3,6,8]),(4000017,[0,3,6,8,59]),(4000013,[0,3,6]),(4000012,[0,3,6,7]),(4000011,[0,3,6,7,35]),(4000003,[0,3,18])],[],[]⟩) Tryz.mixed (by kernel_rfl) (fun mm σ H' => Abs.Sub H H' ∧ ∃ (i k6 : Nat) (o6 : AObj) (W : List Mk),i + mm = l.length ∧ W = (l.take i).filter q1 ∧ σ 0 = eM l ∧ σ 3 = .ip [.sc (.int .i64 mc),.sc (.int .i64 ma),.sc (.int .i64 f1),.sc (.int .i64 f2),.sc (.bool fb),.sc (.int .i64 t1),.sc (.int .i64 t2),.sc (.bool tb),.sc (.int .i64 nm),.sc (.int .i64 vl)] 0 ∧ σ 7 = .sc (.int .i64 (i : Nat)) ∧ k6 ≠ 0 ∧ H k6 = none ∧ H' k6 = some o6 ∧ cy 56 10 o6 (W.length * 10) ∧ σ 6 = .imm k6 (bE W) W.length) l.length ?_ ?_
        · refine ⟨Abs.Sub.set_new hkt,0,kt,.nilt,[],by omega,rfl,?_⟩
          simp (disch := omega) only [↓aI,↓zP,aD,zD,aS,simprocAttr,Tryz.facts]
          exact ⟨hkt0,hkt,rfl⟩
        · rintro mm σ H' ⟨hsub,i,k6,o6,W,him,hW,h0s,h3,h7,hk60,hk6,hkv,ho6,h6⟩
          have hWl := fl1 i
          rw [← hW] at hWl
          have i0 := bM W
          by_cases hlt : i < l.length
          · have hld := mksC_load hlt
            have hle' : i * 10 + 10 ≤ l.length * 10 := by omega
            have hf1 := ft1 i hlt
            have hn1 := hnw2 l[i]
            have hs1 := mksC_snoc W l[i]
            rw [← hW] at hf1
            generalize l[i] = x at *
            cases hx : q1 x with
            | true =>
              rw [hx] at hf1 hn1
              simp only [if_true] at hf1
              have i1 := bM (W ++ [x])
              have lA : (W ++ [x]).length = W.length + 1 := by simp
              generalize hW2 : W ++ [x] = W2 at *
              obtain ⟨xc,xa,⟨x1,x2⟩,xb,⟨x3,x4⟩,xd,xn,xv⟩ := x
              simp only [mkC] at hld hs1 hn1
              simp (disch := omega) only [↓aI,↓zP,aD,zD,aS,simprocAttr,Tryz.facts,h0s,h3,h6,h7,zA,hld,hle',hil]
              first | refine CallK.p (hn1) ?_ | refine CallP.i (hn1) ?_
              simp (disch := omega) only [↓aI,↓zP,aD,zD,aS,simprocAttr,Tryz.facts,h0s,h3,h6,h7,zA,hld,hle',hil,hkv,ho6,i0,hs1,← lA]
              intro ka oa hka0 hka hoa
              rw [i1] at hoa
              exact ⟨mm - 1,by omega,(hsub.kill_free hk6).set_free (hsub.free hka),i + 1,ka,oa,W2,by omega,hf1.symm,rfl,hka0,hsub.free hka,set_get,hoa,rfl⟩
            | false =>
              rw [hx] at hf1 hn1
              simp only [Bool.false_eq_true,if_false,List.append_nil] at hf1
              obtain ⟨xc,xa,⟨x1,x2⟩,xb,⟨x3,x4⟩,xd,xn,xv⟩ := x
              simp only [mkC] at hld hn1
              simp (disch := omega) only [↓aI,↓zP,aD,zD,aS,simprocAttr,Tryz.facts,h0s,h3,h6,h7,zA,hld,hle',hil]
              first | refine CallK.p (hn1) ?_ | refine CallP.i (hn1) ?_
              simp (disch := omega) only [↓aI,↓zP,aD,zD,aS,simprocAttr,Tryz.facts,h0s,h3,h6,h7,zA,hld,hle',hil]
              exact ⟨mm - 1,by omega,hsub,i + 1,k6,o6,W,by omega,hf1.symm,rfl,hk60,hk6,hkv,ho6,rfl⟩
          · obtain rfl : i = l.length := by omega
            rw [hend1] at hW
            have hs1 := hsn W
            have i1 := bM (W ++ [⟨mc,ma,(f1,f2),fb,(t1,t2),tb,nm,vl⟩])
            have lA : (W ++ [(⟨mc,ma,(f1,f2),fb,(t1,t2),tb,nm,vl⟩ : Mk)]).length = W.length + 1 := by simp
            rw [← hW]
            generalize W ++ [(⟨mc,ma,(f1,f2),fb,(t1,t2),tb,nm,vl⟩ : Mk)] = W2 at *
            simp (disch := omega) only [↓aI,↓zP,aD,zD,aS,simprocAttr,Tryz.facts,h0s,h3,h6,h7,zA,hil,hkv,ho6,i0,hs1,← lA]
            intro ka oa hka0 hka hoa
            rw [i1] at hoa
            have hka' := hsub.free hka
            have hsub2 := (hsub.kill_free hk6).set_free (o := oa) hka'
            clear hsub
            refine br (c := ⟨Tryz.prog,68,[(11,[1,0,0,0,1,0]),(17,[1,0,0,0,1,0,0]),(1000000,[3]),(4000018,[0,3,6,8]),(4000017,[0,3,6,8,59]),(4000013,[0,3,6]),(4000012,[0,3,6,7]),(4000011,[0,3,6,7,35]),(4000003,[0,3,18])],[],[]⟩) Tryz.mixed (by kernel_rfl) (fun mm σ H' => Abs.Sub H H' ∧ ∃ (i k6 : Nat) (o6 : AObj) (V : List Mk),i + mm = l.length ∧ V = W2 ++ (l.take i).filter q2 ∧ σ 0 = eM l ∧ σ 3 = .ip [.sc (.int .i64 mc),.sc (.int .i64 ma),.sc (.int .i64 f1),.sc (.int .i64 f2),.sc (.bool fb),.sc (.int .i64 t1),.sc (.int .i64 t2),.sc (.bool tb),.sc (.int .i64 nm),.sc (.int .i64 vl)] 0 ∧ σ 8 = .sc (.int .i64 (i : Nat)) ∧ k6 ≠ 0 ∧ H k6 = none ∧ H' k6 = some o6 ∧ cy 56 10 o6 (V.length * 10) ∧ σ 6 = .imm k6 (bE V) V.length) l.length ?_ ?_
            · refine ⟨hsub2,0,ka,oa,W2,by omega,by simp,?_⟩
              simp (disch := omega) only [↓aI,↓zP,aD,zD,aS,simprocAttr,Tryz.facts,h0s,h3,h6,h7]
              exact ⟨hka0,hka',hoa⟩
            · clear hsub2 hkv ho6 h6 h7 h3 h0s
              rintro mm σ H' ⟨hsub,i,k6,o6,V,him,hV,h0s,h3,h8,hk60,hk6,hkv,ho6,h6⟩
              have hVl := fl2 i
              have hVl2 : V.length ≤ l.length + 1 + l.length := by rw [hV,List.length_append]; omega
              have i0 := bM V
              by_cases hlt : i < l.length
              · have hld := mksC_load hlt
                have hle' : i * 10 + 10 ≤ l.length * 10 := by omega
                have hf1 := ft2 i hlt
                have hn1 := hnw2 l[i]
                have hs1 := mksC_snoc V l[i]
                have e2x := e2 l[i]
                generalize l[i] = x at *
                cases hx : q1 x with
                | false =>
                  rw [hx] at hn1 e2x
                  simp only [Bool.not_false] at e2x
                  rw [e2x] at hf1
                  simp only [if_true] at hf1
                  have hfin : V ++ [x] = W2 ++ (l.take (i + 1)).filter q2 := by rw [hf1,hV,List.append_assoc]
                  have i1 := bM (V ++ [x])
                  have lB : (V ++ [x]).length = V.length + 1 := by simp
                  generalize V ++ [x] = V2 at *
                  obtain ⟨xc,xa,⟨x1,x2⟩,xb,⟨x3,x4⟩,xd,xn,xv⟩ := x
                  simp only [mkC] at hld hs1 hn1
                  simp (disch := omega) only [↓aI,↓zP,aD,zD,aS,simprocAttr,Tryz.facts,h0s,h3,h6,h8,zA,hld,hle',hil]
                  first | refine CallK.p (hn1) ?_ | refine CallP.i (hn1) ?_
                  simp (disch := omega) only [↓aI,↓zP,aD,zD,aS,simprocAttr,Tryz.facts,h0s,h3,h6,h8,zA,hld,hle',hil,hkv,ho6,i0,hs1,← lB]
                  intro kb ob hkb0 hkb hob
                  rw [i1] at hob
                  exact ⟨mm - 1,by omega,(hsub.kill_free hk6).set_free (hsub.free hkb),i + 1,kb,ob,V2,by omega,hfin,rfl,hkb0,hsub.free hkb,set_get,hob,rfl⟩
                | true =>
                  rw [hx] at hn1 e2x
                  simp only [Bool.not_true] at e2x
                  rw [e2x] at hf1
                  simp only [Bool.false_eq_true,if_false,List.append_nil] at hf1
                  obtain ⟨xc,xa,⟨x1,x2⟩,xb,⟨x3,x4⟩,xd,xn,xv⟩ := x
                  simp only [mkC] at hld hn1
                  simp (disch := omega) only [↓aI,↓zP,aD,zD,aS,simprocAttr,Tryz.facts,h0s,h3,h6,h8,zA,hld,hle',hil]
                  first | refine CallK.p (hn1) ?_ | refine CallP.i (hn1) ?_
                  simp (disch := omega) only [↓aI,↓zP,aD,zD,aS,simprocAttr,Tryz.facts,h0s,h3,h6,h8,zA,hld,hle',hil]
                  exact ⟨mm - 1,by omega,hsub,i + 1,k6,o6,V,by omega,by rw [hf1]; exact hV,rfl,hk60,hk6,hkv,ho6,rfl⟩
              · obtain rfl : i = l.length := by omega
                rw [hend2] at hV
                rw [← hV]
                simp (disch := omega) only [↓aI,↓zP,aD,zD,aS,simprocAttr,Tryz.facts,h0s,h3,h6,h8,zA,hil]
                exact hsub
end Go.Proofs.YtcgjlmopeblapaaGreat
end
section
set_option linter.unusedSimpArgs false
set_option linter.unusedVariables false
set_option maxRecDepth 8000
set_option maxHeartbeats 4000000
namespace Go.Proofs.YtcgjlmopeblapaaGreat
open Go Go.Abs Go.Proofs Go.Fug
def mksN (l : List Mk) : AV := if l = [] then .sc (.slice none 0 0) else eM l
theorem mksN_nil : mksN [] = .sc (.slice none 0 0) := rfl
theorem dH {l : List Mk} (h : 0 < l.length) : mksN l = eM l := if_neg (fun e => by rw [e] at h; simp at h)
structure GoodM (l : List Mk) : Prop where
  sort : SortM l
  ok : ∀ m ∈ l,cQ m = true
  small : l.length ≤ 512
theorem GoodM.nil : GoodM [] := ⟨List.Pairwise.nil,by simp,by simp⟩
abbrev ce (l : List Mk) : AObj := .cells [mksN l] 119 1
theorem search_good (l : List Mk) (c a : Int) (g : GoodM l) (hc : 0 ≤ c ∧ c ≤ 1099511627776) (ha : 0 ≤ a ∧ a < 5) : APure Tryz.prog 110 [eM l,.sc (.int .i64 c),.fn (.func 111) [] [.ip [.sc (.int .i64 a)] 0]] (.tup [.sc (.int .i64 (cC l c a : Nat)),.sc (.bool (foundM l c a))]) :=
  search_pure l c a (by have := g.small; omega) g.sort (fun m hm => rightM_ok (g.ok m hm)) hc ha
theorem cloneN (H : AH) (l : List Mk) (hl : l.length ≤ 512) : ACalls Tryz.prog 69 [mksN l] H fun v H' => (l = [] ∧ v = .sc (.slice none 0 0) ∧ H' = H) ∨ (0 < l.length ∧ ∃ k',v = .own k' 0 l.length ∧ k' ≠ 0 ∧ H k' = none ∧ H' k' = some (.cells (bE l) 56 10) ∧ Abs.Sub H H') := by
  rcases Nat.eq_zero_or_pos l.length with h0 | h0
  · obtain rfl : l = [] := List.length_eq_zero_iff.1 h0
    have hb := fun K => bin_nil (P := Tryz.prog) (K := K) Tryz.underlying84 mk_eqOk
    rw [mksN_nil]
    refine acalls_raw (c := ⟨Tryz.prog,8,[],[5],[]⟩) (t := 2) Tryz.mixed Tryz.func69 rfl rfl rfl (Nat.le_of_ble_eq_true rfl) (by kernel_rfl) ?_
    simp (disch := omega) only [↓aI,↓zP,aD,zD,aS,simprocAttr,Tryz.facts,hb,PostR_ret]
    exact ⟨_,Abs.Sub.refl _,.inl rfl⟩
  · rw [dH h0]
    exact (clone_own H l (by omega) h0).mono fun v H' h => .inr ⟨h0,h⟩
theorem cloneT (H : AH) (l : List Mk) (hl : l.length ≤ 512) : ACalls Tryz.prog 69 [mksN l] H fun v H' => v = mksN l ∧ H' = H := by
  rcases Nat.eq_zero_or_pos l.length with h0 | h0
  · obtain rfl : l = [] := List.length_eq_zero_iff.1 h0
    refine (cloneN H [] hl).mono ?_
    rintro v H' (⟨-,rfl,rfl⟩ | ⟨h,-⟩)
    · exact ⟨mksN_nil.symm,rfl⟩
    · simp at h
  · rw [dH h0]
    exact clone_pure l (by omega) h0 H
theorem place_live (H : AH) (hb : Nat) (l : List Mk) (c a : Int) (hi : H hb = some (ce l)) (g : GoodM l) (hc : 0 ≤ c ∧ c ≤ 1099511627776) (ha : 0 ≤ a ∧ a < 5) :
    ACalls Tryz.prog 98 [.ptr hb 0,.sc (.int .i64 c),.sc (.int .i64 a)] H fun v H' => v = .tup [.sc (.int .i64 (cC l c a : Nat)),.sc (.bool (foundM l c a))] ∧ H' = H := by
  have hs := search_good l c a g hc ha
  unfold ce at hi
  generalize hp : cC l c a = p at *
  generalize hf : foundM l c a = f at *
  rcases Nat.eq_zero_or_pos l.length with h0 | h0
  · obtain rfl : l = [] := List.length_eq_zero_iff.1 h0
    rw [mksN_nil] at hi
    refine ao (c := ⟨Tryz.prog,17,[(1000000,[5])],[],[]⟩) (rs := [ResultVar.tmp 6,ResultVar.tmp 7]) Tryz.mixed Tryz.func98 rfl rfl rfl (Nat.le_of_ble_eq_true rfl) (by kernel_rfl) ?_
    simp (disch := omega) only [↓aI,↓zP,aD,zD,aS,simprocAttr,Tryz.facts]
    intro k hk0 hk
    have n1 := bA hi hk
    simp (disch := omega) only [↓aI,↓zP,aD,zD,aS,simprocAttr,Tryz.facts,aj hk,hi,aP,n1]
    refine CallK.p hs ?_
    simp (disch := omega) only [↓aI,↓zP,aD,zD,aS,simprocAttr,Tryz.facts,aj hk,hi,aP,n1]
    exact ⟨_,rfl,_,Abs.Sub.refl _,rfl,rfl⟩
  · rw [dH h0] at hi
    refine ao (c := ⟨Tryz.prog,17,[(1000000,[5])],[],[]⟩) (rs := [ResultVar.tmp 6,ResultVar.tmp 7]) Tryz.mixed Tryz.func98 rfl rfl rfl (Nat.le_of_ble_eq_true rfl) (by kernel_rfl) ?_
    simp (disch := omega) only [↓aI,↓zP,aD,zD,aS,simprocAttr,Tryz.facts]
    intro k hk0 hk
    have n1 := bA hi hk
    simp (disch := omega) only [↓aI,↓zP,aD,zD,aS,simprocAttr,Tryz.facts,aj hk,hi,aP,n1]
    refine CallK.p hs ?_
    simp (disch := omega) only [↓aI,↓zP,aD,zD,aS,simprocAttr,Tryz.facts,aj hk,hi,aP,n1]
    exact ⟨_,rfl,_,Abs.Sub.refl _,rfl,rfl⟩
theorem mnew_live (H : AH) : ACalls Tryz.prog 56 [] H fun v H' => ∃ hb,v = .ptr hb 0 ∧ hb ≠ 0 ∧ H hb = none ∧ H' = H.set hb (ce []) := by
  refine ao (c := ⟨Tryz.prog,3,[],[],[]⟩) (rs := [ResultVar.tmp 0]) Tryz.mixed Tryz.func56 rfl rfl rfl (Nat.le_of_ble_eq_true rfl) (by kernel_rfl) ?_
  simp (disch := omega) only [↓aI,↓zP,aD,zD,aS,simprocAttr,Tryz.facts]
  intro hb hb0 hbf
  exact ⟨_,rfl,_,Abs.Sub.refl _,hb,rfl,hb0,hbf,rfl⟩
theorem list_live (H : AH) (hb : Nat) (l : List Mk) (hi : H hb = some (ce l)) (g : l.length ≤ 512) :
    ACalls Tryz.prog 43 [.ptr hb 0] H fun v H' => v = eM l ∧ H' = H := by
  have hs := fun H => cloneT H l g
  unfold ce at hi
  rcases Nat.eq_zero_or_pos l.length with h0 | h0
  · obtain rfl : l = [] := List.length_eq_zero_iff.1 h0
    rw [mksN_nil] at hs hi
    refine ao (c := ⟨Tryz.prog,10,[],[4000009],[]⟩) (rs := [ResultVar.tmp 2]) Tryz.mixed Tryz.func43 rfl rfl rfl (Nat.le_of_ble_eq_true rfl) (by kernel_rfl) ?_
    simp (disch := omega) only [↓aI,↓zP,aD,zD,aS,simprocAttr,Tryz.facts,hi]
    refine CallK.i (hs _) ?_
    rintro v E ⟨rfl,rfl⟩
    simp (disch := omega) only [↓aI,↓zP,aD,zD,aS,simprocAttr,Tryz.facts,hi]
    exact ⟨_,rfl,_,Abs.Sub.refl _,rfl,rfl⟩
  · rw [dH h0] at hs hi
    refine ao (c := ⟨Tryz.prog,10,[],[4000009],[]⟩) (rs := [ResultVar.tmp 2]) Tryz.mixed Tryz.func43 rfl rfl rfl (Nat.le_of_ble_eq_true rfl) (by kernel_rfl) ?_
    simp (disch := omega) only [↓aI,↓zP,aD,zD,aS,simprocAttr,Tryz.facts,hi]
    refine CallK.i (hs _) ?_
    rintro v E ⟨rfl,rfl⟩
    simp (disch := omega) only [↓aI,↓zP,aD,zD,aS,simprocAttr,Tryz.facts,hi]
    exact ⟨_,rfl,_,Abs.Sub.refl _,rfl,rfl⟩
def lastM (l : List Mk) : Int := match l.getLast? with | some m => m.clock | none => 0
theorem last_live (H : AH) (hb : Nat) (l : List Mk) (hi : H hb = some (ce l)) (g : l.length ≤ 512) :
    ACalls Tryz.prog 35 [.ptr hb 0] H fun v H' => v = .sc (.int .i64 (lastM l)) ∧ H' = H := by
  have hll := bM l
  rcases Nat.eq_zero_or_pos l.length with h0 | h0
  · obtain rfl : l = [] := List.length_eq_zero_iff.1 h0
    unfold ce at hi
    rw [mksN_nil] at hi
    have : lastM [] = 0 := rfl
    rw [this]
    refine ao (c := ⟨Tryz.prog,26,[(3,[0,0,0,1,0,0,0,1,1,0,0,0,1,0])],[],[]⟩) (rs := [ResultVar.tmp 2]) Tryz.mixed Tryz.func35 rfl rfl rfl (Nat.le_of_ble_eq_true rfl) (by kernel_rfl) ?_
    simp (disch := omega) only [↓aI,↓zP,aD,zD,aS,simprocAttr,Tryz.facts,hi]
    exact ⟨_,rfl,_,Abs.Sub.refl _,rfl,rfl⟩
  · unfold ce at hi
    rw [dH h0] at hi
    have hlt : l.length - 1 < l.length := by omega
    have hg0 := mksC_get hlt (show 0 < 10 by omega)
    have hL : lastM l = l[l.length - 1].clock := by
      unfold lastM
      rw [List.getLast?_eq_getElem?,List.getElem?_eq_getElem hlt]
    rw [hL]
    generalize l[l.length - 1] = x at *
    obtain ⟨xc,xa,⟨x1,x2⟩,xb,⟨x3,x4⟩,xd,xn,xv⟩ := x
    simp only [mkC,Nat.add_zero,List.getElem?_cons_zero] at hg0
    have hz : ((l.length : Int) - 1).toNat = l.length - 1 := by omega
    have hz2 : (l.length : Int) - 1 = ((l.length - 1 : Nat) : Int) := by omega
    have hle : (l.length - 1) * 10 < l.length * 10 := by omega
    have hle2 : (l.length - 1) * 10 + 10 ≤ l.length * 10 := by omega
    refine ao (c := ⟨Tryz.prog,26,[(3,[0,0,0,1,0,0,0,1,1,0,0,0,1,0])],[],[]⟩) (rs := [ResultVar.tmp 2]) Tryz.mixed Tryz.func35 rfl rfl rfl (Nat.le_of_ble_eq_true rfl) (by kernel_rfl) ?_
    simp (disch := omega) only [↓aI,↓zP,aD,zD,aS,simprocAttr,Tryz.facts,hi,zA,hz,hz2,hg0,hll,hle,hle2]
    exact ⟨_,rfl,_,Abs.Sub.refl _,rfl,rfl⟩
theorem cmp_zero {m : Mk} {c a : Int} : di m c a = 0 ↔ atM c a m := by
  unfold di atM
  split <;> omega
theorem dM (m x : Mk) : newM m x = decide (di x m.clock m.author < 0) := by
  unfold newM di
  by_cases h : m.clock = x.clock
  · rw [if_neg (by omega),if_neg (by omega)]
    congr 1
    apply propext
    omega
  · rw [if_pos h,if_pos (by omega)]
    congr 1
    apply propext
    omega
theorem later {m : Mk} {l : List Mk} {c a : Int} (s : ∀ n ∈ l,ltM m n) (h : ¬ di m c a < 0) : ∀ n ∈ l,0 < di n c a := fun n hn => by
  have := s n hn
  unfold di ltM at *
  split at h <;> split <;> omega
theorem found_has {l : List Mk} (s : SortM l) (c a : Int) : foundM l c a = hasM l c a := by
  induction l with
  | nil => rfl
  | cons m l ih =>
    obtain ⟨s1,s2⟩ := List.pairwise_cons.1 s
    have ih := ih s2
    unfold foundM hasM at *
    simp only [cC,List.any_cons]
    by_cases h : di m c a < 0
    · rw [if_pos h]
      have hn : decide (atM c a m) = false := dF (fun e => by have := cmp_zero.2 e; omega)
      rw [hn]
      simpa using ih
    · rw [if_neg h]
      by_cases h0 : di m c a = 0
      · rw [dT (cmp_zero.1 h0)]
        simpa using h0
      · rw [dF (fun e => h0 (cmp_zero.2 e))]
        have hl := later s1 h
        have : (l.any fun m => decide (atM c a m)) = false := by
          rw [← Bool.not_eq_true]
          intro e
          obtain ⟨n,hn,e2⟩ := List.any_eq_true.1 e
          have h3 := hl n hn
          have := cmp_zero.2 (by simpa using e2 : atM c a n)
          omega
        rw [this]
        simpa using h0
theorem filt_place {l : List Mk} (s : SortM l) (m : Mk) : l.filter (fun x => newM m x) = l.take (cC l m.clock m.author) ∧ l.filter (fun x => !newM m x) = l.drop (cC l m.clock m.author) := by
  induction l with
  | nil => exact ⟨rfl,rfl⟩
  | cons x l ih =>
    obtain ⟨s1,s2⟩ := List.pairwise_cons.1 s
    obtain ⟨ih1,ih2⟩ := ih s2
    simp only [cC]
    by_cases h : di x m.clock m.author < 0
    · rw [if_pos h,List.filter_cons_of_pos (by rw [dM]; simpa using h),List.filter_cons_of_neg (by rw [dM]; simpa using h),ih1,ih2]
      exact ⟨rfl,rfl⟩
    · rw [if_neg h,List.filter_cons_of_neg (by rw [dM]; simpa using h),List.filter_cons_of_pos (by rw [dM]; simpa using h)]
      have hl := later s1 h
      refine ⟨?_,?_⟩
      · rw [List.take_zero,List.filter_eq_nil_iff]
        intro n hn
        have := hl n hn
        rw [dM]
        simp
        omega
      · rw [List.drop_zero]
        congr 1
        rw [List.filter_eq_self]
        intro n hn
        have := hl n hn
        rw [dM]
        simp
        omega
theorem addM_ins {l : List Mk} (s : SortM l) {m : Mk} (hr : cQ m = true) (hh : hasM l m.clock m.author = false) (hf : l.length ≠ 512) : eU l m = (du l (cC l m.clock m.author) m,0) := by
  obtain ⟨h1,h2⟩ := filt_place s m
  unfold eU du
  rw [if_neg (by rw [hr]; simp),if_neg (by rw [hh]; simp),if_neg hf,h1,h2]
  simp
theorem newM_lt {m x : Mk} (h : newM m x = true) : ltM x m := by
  rw [dM] at h
  simp at h
  unfold di at h
  unfold ltM
  split at h <;> omega
theorem newM_gt {m x : Mk} (h : newM m x = false) (hn : ¬ atM m.clock m.author x) : ltM m x := by
  rw [dM] at h
  simp at h
  unfold di at h
  unfold ltM
  unfold atM at hn
  split at h <;> omega
theorem GoodM.add {l : List Mk} (g : GoodM l) (m : Mk) : GoodM (eU l m).1 := by
  unfold eU
  split
  · exact g
  · rename_i hr
    split
    · exact g
    · rename_i hh
      split
      · exact g
      · rename_i hf
        have hno : ∀ x ∈ l,¬ atM m.clock m.author x := fun x hx e => hh (List.any_eq_true.2 ⟨x,hx,by simpa using e⟩)
        have hlen : (l.filter (fun x => newM m x) ++ [m] ++ l.filter (fun x => !newM m x)).length = l.length + 1 := by
          obtain ⟨h1,h2⟩ := filt_place g.sort m
          have := placeM_le l m.clock m.author
          rw [h1,h2]
          simp
          omega
        refine ⟨?_,fun x hx => ?_,?_⟩
        · unfold SortM
          rw [List.append_assoc,List.pairwise_append]
          refine ⟨g.sort.sublist List.filter_sublist,?_,?_⟩
          · rw [List.singleton_append,List.pairwise_cons]
            refine ⟨fun x hx => ?_,g.sort.sublist List.filter_sublist⟩
            obtain ⟨h1,h2⟩ := List.mem_filter.1 hx
            exact newM_gt (by simpa using h2) (hno x h1)
          · intro x hx y hy
            obtain ⟨h1,h2⟩ := List.mem_filter.1 hx
            have h3 := newM_lt h2
            rcases List.mem_append.1 hy with hy | hy
            · rw [List.mem_singleton.1 hy]; exact h3
            · obtain ⟨h4,h5⟩ := List.mem_filter.1 hy
              have h6 := newM_gt (by simpa using h5) (hno y h4)
              unfold ltM at *
              omega
        · simp only [List.mem_append,List.mem_singleton,List.mem_filter] at hx
          rcases hx with (⟨h,-⟩ | rfl) | ⟨h,-⟩
          · exact g.ok x h
          · simpa using hr
          · exact g.ok x h
        · simp only [] at hlen ⊢
          have := g.small
          rw [hlen]
          omega
theorem bhas_live (H : AH) (hb : Nat) (l : List Mk) (c a : Int) (hi : H hb = some (ce l)) (g : GoodM l) :
    ACalls Tryz.prog 74 [.ptr hb 0,.sc (.int .i64 c),.sc (.int .i64 a)] H fun v H' => v = .sc (.bool (hasM l c a)) ∧ H' = H := by
  have hno : ∀ m ∈ l,1 ≤ m.clock ∧ m.clock ≤ 1099511627776 ∧ 0 ≤ m.author ∧ m.author < 5 := fun m hm => rightM_ok (g.ok m hm)
  have h1 : (1 ≤ c ∧ c ≤ 1099511627776 ∧ 0 ≤ a ∧ a < 5) ∨ c < 1 ∨ (1 ≤ c ∧ 1099511627776 < c) ∨ (1 ≤ c ∧ c ≤ 1099511627776 ∧ a < 0) ∨ (1 ≤ c ∧ c ≤ 1099511627776 ∧ 0 ≤ a ∧ 5 ≤ a) := by omega
  have hF : ¬ (1 ≤ c ∧ c ≤ 1099511627776 ∧ 0 ≤ a ∧ a < 5) → hasM l c a = false := fun hn => by
    rw [← Bool.not_eq_true]
    intro e
    obtain ⟨m,hm,e2⟩ := List.any_eq_true.1 e
    have e3 : atM c a m := by simpa using e2
    have := hno m hm
    unfold atM at e3
    omega
  have hp := fun hc ha => place_live H hb l c a hi g hc ha
  rw [found_has g.sort] at hp
  generalize hasM l c a = B at *
  unfold ce at hi
  refine ao (c := ⟨Tryz.prog,35,[],[],[]⟩) (rs := [ResultVar.tmp 6]) Tryz.mixed Tryz.func74 rfl rfl rfl (Nat.le_of_ble_eq_true rfl) (by kernel_rfl) ?_
  rcases h1 with h | h | h | h | h
  · have hp := hp ⟨by omega,by omega⟩ ⟨by omega,by omega⟩
    simp (disch := omega) only [↓aI,↓zP,aD,zD,aS,simprocAttr,Tryz.facts,zA]
    refine CallK.i hp ?_
    rintro v E ⟨rfl,rfl⟩
    simp (disch := omega) only [↓aI,↓zP,aD,zD,aS,simprocAttr,Tryz.facts]
    exact ⟨_,rfl,_,Abs.Sub.refl _,rfl,rfl⟩
  all_goals
    rw [hF (by omega)]
    simp (disch := omega) only [↓aI,↓zP,aD,zD,aS,simprocAttr,Tryz.facts,zA]
    exact ⟨_,rfl,_,Abs.Sub.refl _,rfl,rfl⟩
theorem insert_nil (H : AH) (kv : Nat) (m : Mk) (hv : H kv = some (.cells (mkC m) 56 10)) :
    ACalls Tryz.prog 99 [.sc (.slice none 0 0),.sc (.int .i64 0),.own kv 0 1] H fun v H' => v = .imm 0 (bE [m]) 1 ∧ ∀ y o,H y = some o → H' y = some o := by
  have hml := mkC_len m
  have htk : (mkC m).take 10 = mkC m := rfl
  have hown : ACalls Tryz.prog 99 [.sc (.slice none 0 0),.sc (.int .i64 0),.own kv 0 1] H fun v H' => ∃ k',v = .own k' 0 1 ∧ H k' = none ∧ H' = H.set k' (.cells (mkC m) 56 10) := by
    refine ao (c := ⟨Tryz.prog,95,[(11,[0,0,0,0,0,0,0,0,2]),(15,[0,0,0,0,0,0,0,0,2]),(4000019,[0]),(4000018,[0,1,7]),(4000016,[0]),(4000015,[0,1,2]),(4000014,[0,1,2,7,8,68]),(4000013,[0,1,2,7,8]),(4000011,[9]),(4000010,[0,1,7,9]),(4000009,[0,1,2,7,9]),(4000008,[0,1,2,7,8,31])],[1000025,2000060,3000040],[]⟩) (rs := [ResultVar.tmp 6]) Tryz.mixed Tryz.func99 rfl rfl rfl (Nat.le_of_ble_eq_true rfl) (by kernel_rfl) ?_
    simp (disch := omega) only [↓aI,↓zP,aD,zD,aS,simprocAttr,Tryz.facts,zA,hml,hv,Int.reduceToNat,htk,Nat.le_refl]
    intro k' hk'0 hk'
    exact ⟨_,rfl,_,Abs.Sub.refl _,k',rfl,hk',rfl⟩
  refine hown.freeze ?_
  rintro v H' ⟨k',rfl,hk',rfl⟩
  refine ⟨_,(H.set k' (.cells (mkC m) 56 10)).kill k',Sub.killed,Frz.own set_get kill_same (by rw [hml]; omega),?_,fun y o ho => ?_⟩
  · rw [List.take_of_length_le (by rw [hml]; omega)]
    simp [bE]
  · rw [bZ (bA ho hk'),aP (bA ho hk')]
    exact ho
theorem badd_live (H : AH) (hb : Nat) (l : List Mk) (m : Mk) (hi : H hb = some (ce l)) (g : GoodM l) :
    ACalls Tryz.prog 76 [.ptr hb 0,.agg (mkC m)] H fun v H' => v = .sc (.int .i64 (eU l m).2) ∧ H' hb = some (ce (eU l m).1) ∧ ∀ y o,y ≠ hb → H y = some o → H' y = some o := by
  have h0 := mright_pure m
  have hll := bM l
  obtain ⟨R,hR⟩ : ∃ R,R = eU l m := ⟨_,rfl⟩
  rw [← hR]
  cases hr : cQ m with
  | false =>
    rw [hr] at h0
    unfold eU at hR
    rw [if_pos hr] at hR
    subst hR
    obtain ⟨mc,ma,⟨f1,f2⟩,fb,⟨t1,t2⟩,tb,nm,vl⟩ := m
    simp only [mkC] at h0 ⊢
    refine ao (c := ⟨Tryz.prog,40,[(10,[0,0,0,0,0,2,0,0,2,2,0,0,2]),(1000000,[3])],[1000036,4000033,4000037],[(10,(.op 0 0 (.op 1 0 (.op 2 0 (.op 3 0 (.op 6 0 (.op 7 0 (.or (.op 4 2 (.or (.op 5 2 (.op 8 2 (.op 9 2 (.op 10 0 (.op 11 0 (.op 12 2 .nil)))))) (.op 8 2 (.op 5 2 (.op 9 2 (.op 10 0 (.op 11 0 (.op 12 2 .nil)))))))) (.op 8 2 (.op 4 2 (.op 5 2 (.op 9 2 (.op 10 0 (.op 11 0 (.op 12 2 .nil)))))))))))))))]⟩) (rs := [ResultVar.tmp 4]) Tryz.mixed Tryz.func76 rfl rfl rfl (Nat.le_of_ble_eq_true rfl) (by kernel_rfl) ?_
    simp (disch := omega) only [↓aI,↓zP,aD,zD,aS,simprocAttr,Tryz.facts]
    intro k hk0 hk
    simp (disch := omega) only [↓aI,↓zP,aD,zD,aS,simprocAttr,Tryz.facts,aj hk]
    refine CallK.p h0 ?_
    simp (disch := omega) only [↓aI,↓zP,aD,zD,aS,simprocAttr,Tryz.facts,aj hk]
    exact ⟨_,rfl,_,Abs.Sub.refl _,rfl,hi,fun _ _ _ h => h⟩
  | true =>
    rw [hr] at h0
    have hk := rightM_ok hr
    unfold okM at hk
    have hp := place_live H hb l m.clock m.author hi g ⟨by omega,by omega⟩ ⟨by omega,by omega⟩
    rw [found_has g.sort] at hp
    cases hh : hasM l m.clock m.author with
    | true =>
      rw [hh] at hp
      unfold eU at hR
      rw [if_neg (by rw [hr]; simp),if_pos hh] at hR
      subst hR
      obtain ⟨mc,ma,⟨f1,f2⟩,fb,⟨t1,t2⟩,tb,nm,vl⟩ := m
      simp only [mkC] at h0 hp ⊢
      refine ao (c := ⟨Tryz.prog,40,[(10,[0,0,0,0,0,2,0,0,2,2,0,0,2]),(1000000,[3])],[1000036,4000033,4000037],[(10,(.op 0 0 (.op 1 0 (.op 2 0 (.op 3 0 (.op 6 0 (.op 7 0 (.or (.op 4 2 (.or (.op 5 2 (.op 8 2 (.op 9 2 (.op 10 0 (.op 11 0 (.op 12 2 .nil)))))) (.op 8 2 (.op 5 2 (.op 9 2 (.op 10 0 (.op 11 0 (.op 12 2 .nil)))))))) (.op 8 2 (.op 4 2 (.op 5 2 (.op 9 2 (.op 10 0 (.op 11 0 (.op 12 2 .nil)))))))))))))))]⟩) (rs := [ResultVar.tmp 4]) Tryz.mixed Tryz.func76 rfl rfl rfl (Nat.le_of_ble_eq_true rfl) (by kernel_rfl) ?_
      simp (disch := omega) only [↓aI,↓zP,aD,zD,aS,simprocAttr,Tryz.facts]
      intro k hk0 hk
      simp (disch := omega) only [↓aI,↓zP,aD,zD,aS,simprocAttr,Tryz.facts,aj hk]
      refine CallK.p h0 ?_
      simp (disch := omega) only [↓aI,↓zP,aD,zD,aS,simprocAttr,Tryz.facts,aj hk]
      refine CallK.i hp ?_
      rintro v E ⟨rfl,rfl⟩
      simp (disch := omega) only [↓aI,↓zP,aD,zD,aS,simprocAttr,Tryz.facts]
      exact ⟨_,rfl,_,Abs.Sub.refl _,rfl,hi,fun _ _ _ h => h⟩
    | false =>
      rw [hh] at hp
      by_cases hf : l.length = 512
      · unfold eU at hR
        rw [if_neg (by rw [hr]; simp),if_neg (by rw [hh]; simp),if_pos hf] at hR
        subst hR
        have hi' := hi
        unfold ce at hi'
        rw [dH (by omega)] at hi'
        obtain ⟨mc,ma,⟨f1,f2⟩,fb,⟨t1,t2⟩,tb,nm,vl⟩ := m
        simp only [mkC] at h0 hp ⊢
        refine ao (c := ⟨Tryz.prog,40,[(10,[0,0,0,0,0,2,0,0,2,2,0,0,2]),(1000000,[3])],[1000036,4000033,4000037],[(10,(.op 0 0 (.op 1 0 (.op 2 0 (.op 3 0 (.op 6 0 (.op 7 0 (.or (.op 4 2 (.or (.op 5 2 (.op 8 2 (.op 9 2 (.op 10 0 (.op 11 0 (.op 12 2 .nil)))))) (.op 8 2 (.op 5 2 (.op 9 2 (.op 10 0 (.op 11 0 (.op 12 2 .nil)))))))) (.op 8 2 (.op 4 2 (.op 5 2 (.op 9 2 (.op 10 0 (.op 11 0 (.op 12 2 .nil)))))))))))))))]⟩) (rs := [ResultVar.tmp 4]) Tryz.mixed Tryz.func76 rfl rfl rfl (Nat.le_of_ble_eq_true rfl) (by kernel_rfl) ?_
        simp (disch := omega) only [↓aI,↓zP,aD,zD,aS,simprocAttr,Tryz.facts]
        intro k hk0 hk
        simp (disch := omega) only [↓aI,↓zP,aD,zD,aS,simprocAttr,Tryz.facts,aj hk]
        refine CallK.p h0 ?_
        simp (disch := omega) only [↓aI,↓zP,aD,zD,aS,simprocAttr,Tryz.facts,aj hk]
        refine CallK.i hp ?_
        rintro v E ⟨rfl,rfl⟩
        simp (disch := omega) only [↓aI,↓zP,aD,zD,aS,simprocAttr,Tryz.facts,hi',zA]
        exact ⟨_,rfl,_,Abs.Sub.refl _,rfl,hi,fun _ _ _ h => h⟩
      · rw [addM_ins g.sort hr hh hf] at hR
        subst hR
        have hpl := placeM_le l m.clock m.author
        generalize cC l m.clock m.author = p at *
        have hcl := fun H => cloneN H l g.small
        have hi' := hi
        unfold ce at hi'
        obtain ⟨mc,ma,⟨f1,f2⟩,fb,⟨t1,t2⟩,tb,nm,vl⟩ := m
        simp only [mkC] at h0 hp ⊢
        rcases Nat.eq_zero_or_pos l.length with hl0 | hl0
        · obtain rfl : l = [] := List.length_eq_zero_iff.1 hl0
          rw [mksN_nil] at hi' hcl
          refine ao (c := ⟨Tryz.prog,40,[(10,[0,0,0,0,0,2,0,0,2,2,0,0,2]),(1000000,[3])],[1000036,4000033,4000037],[(10,(.op 0 0 (.op 1 0 (.op 2 0 (.op 3 0 (.op 6 0 (.op 7 0 (.or (.op 4 2 (.or (.op 5 2 (.op 8 2 (.op 9 2 (.op 10 0 (.op 11 0 (.op 12 2 .nil)))))) (.op 8 2 (.op 5 2 (.op 9 2 (.op 10 0 (.op 11 0 (.op 12 2 .nil)))))))) (.op 8 2 (.op 4 2 (.op 5 2 (.op 9 2 (.op 10 0 (.op 11 0 (.op 12 2 .nil)))))))))))))))]⟩) (rs := [ResultVar.tmp 4]) Tryz.mixed Tryz.func76 rfl rfl rfl (Nat.le_of_ble_eq_true rfl) (by kernel_rfl) ?_
          simp (disch := omega) only [↓aI,↓zP,aD,zD,aS,simprocAttr,Tryz.facts]
          intro k hk0 hk
          simp (disch := omega) only [↓aI,↓zP,aD,zD,aS,simprocAttr,Tryz.facts,aj hk]
          refine CallK.p h0 ?_
          simp (disch := omega) only [↓aI,↓zP,aD,zD,aS,simprocAttr,Tryz.facts,aj hk]
          refine CallK.i hp ?_
          rintro v E ⟨rfl,rfl⟩
          obtain rfl : p = 0 := by simpa using hpl
          have hfin : eM (du [] 0 (⟨mc,ma,(f1,f2),fb,(t1,t2),tb,nm,vl⟩ : Mk)) = mksN (du [] 0 (⟨mc,ma,(f1,f2),fb,(t1,t2),tb,nm,vl⟩ : Mk)) := (dH (by simp [du])).symm
          simp (disch := omega) only [↓aI,↓zP,aD,zD,aS,simprocAttr,Tryz.facts,hi',zA]
          refine eI (fun σ F => F hb = some (ce (du [] 0 (⟨mc,ma,(f1,f2),fb,(t1,t2),tb,nm,vl⟩ : Mk))) ∧ ∀ y o,y ≠ hb → E y = some o → F y = some o) ?_ ?_
          · simp (disch := omega) only [↓aI,↓zP,aD,zD,aS,simprocAttr,Tryz.facts,hi',zA]
            have hfin : ∀ (kv : Nat) (E3 : AH),E kv = none → (∀ y o,(E.set kv (.cells (mkC ⟨mc,ma,(f1,f2),fb,(t1,t2),tb,nm,vl⟩) 56 10)) y = some o → E3 y = some o) → E3 hb = some (.cells [.sc (.slice none 0 0)] 119 1) ∧ (E3.set hb (.cells [eM [⟨mc,ma,(f1,f2),fb,(t1,t2),tb,nm,vl⟩]] 119 1)) hb = some (ce (du [] 0 ⟨mc,ma,(f1,f2),fb,(t1,t2),tb,nm,vl⟩)) ∧ ∀ y o,y ≠ hb → E y = some o → (E3.set hb (.cells [eM [⟨mc,ma,(f1,f2),fb,(t1,t2),tb,nm,vl⟩]] 119 1)) y = some o := fun kv E3 h1 fr => by
              refine ⟨fr _ _ (by rw [aP (bA hi' h1)]; exact hi'),by rw [set_get,ce,dH (by simp [du])]; rfl,fun y o hy ho => ?_⟩
              rw [aP hy]
              exact fr _ _ (by rw [aP (bA ho h1)]; exact ho)
            refine ⟨⟨?_,?_⟩,?_⟩
            · refine CallK.i (hcl _) ?_
              rintro v E2 (⟨-,rfl,rfl⟩ | ⟨h,-⟩)
              · simp (disch := omega) only [↓aI,↓zP,aD,zD,aS,simprocAttr,Tryz.facts,hi',zA]
                intro kv hkv0 hkv
                try simp (disch := omega) only [↓aI,↓zP,aD,zD,aS,simprocAttr,Tryz.facts,hi',zA]
                refine CallK.i (insert_nil _ kv ⟨mc,ma,(f1,f2),fb,(t1,t2),tb,nm,vl⟩ set_get) ?_
                rintro v E3 ⟨rfl,fr⟩
                obtain ⟨g1,g2,g3⟩ := hfin kv E3 hkv fr
                simp (disch := omega) only [↓aI,↓zP,aD,zD,aS,simprocAttr,Tryz.facts,g1,ah]
                exact ⟨set_get.symm.trans g2,g3⟩
              · simp at h
            all_goals
              intro kv hkv0 hkv
              have n1 := bA hi' hkv
              try simp (disch := omega) only [↓aI,↓zP,aD,zD,aS,simprocAttr,Tryz.facts,hi',zA,aP,n1]
              refine CallK.i (hcl _) ?_
              rintro v E2 (⟨-,rfl,rfl⟩ | ⟨h,-⟩)
              · simp (disch := omega) only [↓aI,↓zP,aD,zD,aS,simprocAttr,Tryz.facts,hi',zA]
                refine CallK.i (insert_nil _ kv ⟨mc,ma,(f1,f2),fb,(t1,t2),tb,nm,vl⟩ set_get) ?_
                rintro v E3 ⟨rfl,fr⟩
                obtain ⟨g1,g2,g3⟩ := hfin kv E3 hkv fr
                simp (disch := omega) only [↓aI,↓zP,aD,zD,aS,simprocAttr,Tryz.facts,g1,ah]
                exact ⟨set_get.symm.trans g2,g3⟩
              · simp at h
          · rintro σ F ⟨h1,h2⟩
            simp (disch := omega) only [↓aI,↓zP,aD,zD,aS,simprocAttr,Tryz.facts]
            exact ⟨_,rfl,_,Abs.Sub.refl _,rfl,h1,h2⟩
        · rw [dH hl0] at hi' hcl
          refine ao (c := ⟨Tryz.prog,40,[(10,[0,0,0,0,0,2,0,0,2,2,0,0,2]),(1000000,[3])],[1000036,4000033,4000037],[(10,(.op 0 0 (.op 1 0 (.op 2 0 (.op 3 0 (.op 6 0 (.op 7 0 (.or (.op 4 2 (.or (.op 5 2 (.op 8 2 (.op 9 2 (.op 10 0 (.op 11 0 (.op 12 2 .nil)))))) (.op 8 2 (.op 5 2 (.op 9 2 (.op 10 0 (.op 11 0 (.op 12 2 .nil)))))))) (.op 8 2 (.op 4 2 (.op 5 2 (.op 9 2 (.op 10 0 (.op 11 0 (.op 12 2 .nil)))))))))))))))]⟩) (rs := [ResultVar.tmp 4]) Tryz.mixed Tryz.func76 rfl rfl rfl (Nat.le_of_ble_eq_true rfl) (by kernel_rfl) ?_
          simp (disch := omega) only [↓aI,↓zP,aD,zD,aS,simprocAttr,Tryz.facts]
          intro k hk0 hk
          simp (disch := omega) only [↓aI,↓zP,aD,zD,aS,simprocAttr,Tryz.facts,aj hk]
          refine CallK.p h0 ?_
          simp (disch := omega) only [↓aI,↓zP,aD,zD,aS,simprocAttr,Tryz.facts,aj hk]
          refine CallK.i hp ?_
          rintro v E ⟨rfl,rfl⟩
          simp (disch := omega) only [↓aI,↓zP,aD,zD,aS,simprocAttr,Tryz.facts,hi',zA]
          refine eI (fun σ F => F hb = some (ce (du l p (⟨mc,ma,(f1,f2),fb,(t1,t2),tb,nm,vl⟩ : Mk))) ∧ ∀ y o,y ≠ hb → E y = some o → F y = some o) ?_ ?_
          · simp (disch := omega) only [↓aI,↓zP,aD,zD,aS,simprocAttr,Tryz.facts,hi',zA]
            have hfin : ∀ (k' : Nat) (E2 E3 : AH),E k' = none → Abs.Sub E E2 → (∀ y o,y ≠ k' → E2 y = some o → E3 y = some o) → E3 hb = some (.cells [eM l] 119 1) ∧ (E3.set hb (.cells [.imm 0 (bE (du l p ⟨mc,ma,(f1,f2),fb,(t1,t2),tb,nm,vl⟩)) (l.length + 1)] 119 1)) hb = some (ce (du l p ⟨mc,ma,(f1,f2),fb,(t1,t2),tb,nm,vl⟩)) ∧ ∀ y o,y ≠ hb → E y = some o → (E3.set hb (.cells [.imm 0 (bE (du l p ⟨mc,ma,(f1,f2),fb,(t1,t2),tb,nm,vl⟩)) (l.length + 1)] 119 1)) y = some o := fun k' E2 E3 h1 hs fr => by
              refine ⟨fr _ _ (bA hi' h1) (hs _ _ hi'),?_,fun y o hy ho => ?_⟩
              · have hln := insM_length l p ⟨mc,ma,(f1,f2),fb,(t1,t2),tb,nm,vl⟩ hpl
                rw [set_get,ce,dH (by omega),eM,hln]
              · rw [aP hy]
                exact fr _ _ (bA ho h1) (hs _ _ ho)
            refine ⟨⟨?_,?_⟩,?_⟩
            · refine CallK.i (hcl _) ?_
              rintro v E2 (⟨h,-⟩ | ⟨-,k',rfl,hk'0,hk',hc',hs⟩)
              · rw [h] at hl0; simp at hl0
              · simp (disch := omega) only [↓aI,↓zP,aD,zD,aS,simprocAttr,Tryz.facts,hi',zA]
                intro kv hkv0 hkv
                have n2 := bA hc' hkv
                try simp (disch := omega) only [↓aI,↓zP,aD,zD,aS,simprocAttr,Tryz.facts,hi',zA]
                refine CallK.i (insert_imm _ k' kv l p ⟨mc,ma,(f1,f2),fb,(t1,t2),tb,nm,vl⟩ (Nat.le_trans g.small (by omega)) hpl (by rw [aP n2]; exact hc') set_get (fun e => n2 e.symm) hk'0) ?_
                rintro v E3 ⟨rfl,fr⟩
                obtain ⟨g1,g2,g3⟩ := hfin k' _ E3 hk' (hs.trans (Sub.set_new hkv)) fr
                simp (disch := omega) only [↓aI,↓zP,aD,zD,aS,simprocAttr,Tryz.facts,g1,ah]
                exact ⟨set_get.symm.trans g2,g3⟩
            all_goals
              intro kv hkv0 hkv
              have n1 := bA hi' hkv
              try simp (disch := omega) only [↓aI,↓zP,aD,zD,aS,simprocAttr,Tryz.facts,hi',zA,aP,n1]
              refine CallK.i (hcl _) ?_
              rintro v E2 (⟨h,-⟩ | ⟨-,k',rfl,hk'0,hk',hc',hs⟩)
              · rw [h] at hl0; simp at hl0
              · have hkv2 := hs kv _ set_get
                have n2 := bK hk'
                simp (disch := omega) only [↓aI,↓zP,aD,zD,aS,simprocAttr,Tryz.facts,hi',zA]
                refine CallK.i (insert_imm _ k' kv l p ⟨mc,ma,(f1,f2),fb,(t1,t2),tb,nm,vl⟩ (Nat.le_trans g.small (by omega)) hpl hc' hkv2 n2 hk'0) ?_
                rintro v E3 ⟨rfl,fr⟩
                obtain ⟨g1,g2,g3⟩ := hfin k' _ E3 (am hk') ((Sub.set_new hkv).trans hs) fr
                simp (disch := omega) only [↓aI,↓zP,aD,zD,aS,simprocAttr,Tryz.facts,g1,ah]
                exact ⟨set_get.symm.trans g2,g3⟩
          · rintro σ F ⟨h1,h2⟩
            simp (disch := omega) only [↓aI,↓zP,aD,zD,aS,simprocAttr,Tryz.facts]
            exact ⟨_,rfl,_,Abs.Sub.refl _,rfl,h1,h2⟩
end Go.Proofs.YtcgjlmopeblapaaGreat
end
