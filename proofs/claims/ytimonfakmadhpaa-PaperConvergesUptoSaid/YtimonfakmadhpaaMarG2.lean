/-
  Several texts in one: each says what it proves.
  Conditions: none. Lemmas only.
-/
import Derived.Test.YtimonfakmadhpaaMarG1
import Derived.Test.YtimonfakmadhpaaAbsG6
set_option linter.all false
section
set_option linter.unusedSimpArgs false
set_option linter.unusedVariables false
set_option maxRecDepth 8000
set_option maxHeartbeats 4000000
namespace Go.Proofs.Ytimonfakmadhpaa
open Go Go.Abs Go.Proofs Go.Fug
def okA (x : EId) : Bool := decide (x.1 = 0 ∧ x.2 = 0) || (decide (0 ≤ x.1) && decide (x.1 < 5) && decide (1 ≤ x.2) && decide (x.2 ≤ 1099511627776))
def cQ (m : Mk) : Bool := decide (1 ≤ m.clock) && decide (m.clock ≤ 1099511627776) && decide (0 ≤ m.author) && decide (m.author < 5) && decide (1 ≤ m.name) && decide (m.name ≤ 4) && decide (0 ≤ m.value) && decide (m.value ≤ 1099511627776) && okA m.fid && okA m.tid
theorem rightM_ok {m : Mk} (h : cQ m = true) : okM m := by
  unfold cQ at h
  simp only [Bool.and_eq_true,decide_eq_true_eq] at h
  unfold okM
  omega
theorem anch_pure (x : EId) : APure Try.prog 108 [idV x] (.sc (.bool (okA x))) := by
  obtain ⟨a,c⟩ := x
  have hB : okA (a,c) = (decide (a = 0 ∧ c = 0) || (decide (0 ≤ a) && decide (a < 5) && decide (1 ≤ c) && decide (c ≤ 1099511627776))) := rfl
  have h1 : (a = 0 ∧ c = 0) ∨ a < 0 ∨ (5 ≤ a) ∨ (0 < a ∧ a < 5 ∧ c < 1) ∨ (0 < a ∧ a < 5 ∧ 1099511627776 < c) ∨ (0 < a ∧ a < 5 ∧ 1 ≤ c ∧ c ≤ 1099511627776) ∨ (a = 0 ∧ c < 0) ∨ (a = 0 ∧ 1099511627776 < c) ∨ (a = 0 ∧ 1 ≤ c ∧ c ≤ 1099511627776) := by omega
  generalize okA _ = B at *
  refine az (c := ⟨Try.prog,26,[(1000000,[1])],[],[]⟩) (rs := [ResultVar.tmp 2]) Try.mixed Try.func108 rfl rfl rfl (Nat.le_of_ble_eq_true rfl) (by kernel_rfl) fun H => ?_
  simp (disch := omega) only [↓aI,aD,aG,ixA,aX,aV,ag,aT,ae,mkA,ab,bnd,aS,aH,aK,cvO,aJ,aY,↓aO,aW,aE,aF,aM,aA,aC,aB,aN,ad,frz,aR,aL,AV.cellsOf,AV.fine,AV.one,aQ,indexK.aggOf,simprocAttr,aZ,aU,Try.facts]
  intro k0 hk00 hk0
  rcases h1 with h | h | h | h | h | h | h | h | h <;> simp (disch := omega) only [↓aI,aD,aG,ixA,aX,aV,ag,aT,ae,mkA,ab,bnd,aS,aH,aK,cvO,aJ,aY,↓aO,aW,aE,aF,aM,aA,aC,aB,aN,ad,frz,aR,aL,AV.cellsOf,AV.fine,AV.one,aQ,indexK.aggOf,simprocAttr,aZ,aU,Try.facts,dT,dF,qT,qF,nT,nF,aj hk0,Bool.false_and]
  all_goals first
    | (have hb : B = false := by (rw [hB]; simp; omega)
       exact ⟨by simp [hb],Abs.Sub.refl _⟩)
    | (have hb : B = true := by (rw [hB]; simp; omega)
       exact ⟨by simp [hb],Abs.Sub.refl _⟩)
theorem elem_pure (x : EId) : APure Try.prog 121 [idV x] (.sc (.bool (okA x))) := by
  obtain ⟨a,c⟩ := x
  have hB : okA (a,c) = (decide (a = 0 ∧ c = 0) || (decide (0 ≤ a) && decide (a < 5) && decide (1 ≤ c) && decide (c ≤ 1099511627776))) := rfl
  have h1 : (a = 0 ∧ c = 0) ∨ a < 0 ∨ (5 ≤ a) ∨ (0 < a ∧ a < 5 ∧ c < 1) ∨ (0 < a ∧ a < 5 ∧ 1099511627776 < c) ∨ (0 < a ∧ a < 5 ∧ 1 ≤ c ∧ c ≤ 1099511627776) ∨ (a = 0 ∧ c < 0) ∨ (a = 0 ∧ 1099511627776 < c) ∨ (a = 0 ∧ 1 ≤ c ∧ c ≤ 1099511627776) := by omega
  generalize okA _ = B at *
  refine az (c := ⟨Try.prog,26,[(1000000,[1])],[],[]⟩) (rs := [ResultVar.tmp 2]) Try.mixed Try.func121 rfl rfl rfl (Nat.le_of_ble_eq_true rfl) (by kernel_rfl) fun H => ?_
  simp (disch := omega) only [↓aI,aD,aG,ixA,aX,aV,ag,aT,ae,mkA,ab,bnd,aS,aH,aK,cvO,aJ,aY,↓aO,aW,aE,aF,aM,aA,aC,aB,aN,ad,frz,aR,aL,AV.cellsOf,AV.fine,AV.one,aQ,indexK.aggOf,simprocAttr,aZ,aU,Try.facts]
  intro k0 hk00 hk0
  rcases h1 with h | h | h | h | h | h | h | h | h <;> simp (disch := omega) only [↓aI,aD,aG,ixA,aX,aV,ag,aT,ae,mkA,ab,bnd,aS,aH,aK,cvO,aJ,aY,↓aO,aW,aE,aF,aM,aA,aC,aB,aN,ad,frz,aR,aL,AV.cellsOf,AV.fine,AV.one,aQ,indexK.aggOf,simprocAttr,aZ,aU,Try.facts,dT,dF,qT,qF,nT,nF,aj hk0,Bool.false_and]
  all_goals first
    | (have hb : B = false := by (rw [hB]; simp; omega)
       exact ⟨by simp [hb],Abs.Sub.refl _⟩)
    | (have hb : B = true := by (rw [hB]; simp; omega)
       exact ⟨by simp [hb],Abs.Sub.refl _⟩)
theorem mright_pure (m : Mk) : APure Try.prog 72 [.agg (mkC m)] (.sc (.bool (cQ m))) := by
  obtain ⟨mc,ma,⟨f1,f2⟩,fb,⟨t1,t2⟩,tb,nm,vl⟩ := m
  simp only [mkC]
  have hB : cQ ⟨mc,ma,(f1,f2),fb,(t1,t2),tb,nm,vl⟩ = (decide (1 ≤ mc) && decide (mc ≤ 1099511627776) && decide (0 ≤ ma) && decide (ma < 5) && decide (1 ≤ nm) && decide (nm ≤ 4) && decide (0 ≤ vl) && decide (vl ≤ 1099511627776) && okA (f1,f2) && okA (t1,t2)) := rfl
  have h1 : (1 ≤ mc ∧ mc ≤ 1099511627776 ∧ 0 ≤ ma ∧ ma < 5) ∨ mc < 1 ∨ (1 ≤ mc ∧ 1099511627776 < mc) ∨ (1 ≤ mc ∧ mc ≤ 1099511627776 ∧ ma < 0) ∨ (1 ≤ mc ∧ mc ≤ 1099511627776 ∧ 0 ≤ ma ∧ 5 ≤ ma) := by omega
  have h2 : (1 ≤ nm ∧ nm ≤ 4 ∧ 0 ≤ vl ∧ vl ≤ 1099511627776) ∨ nm < 1 ∨ (1 ≤ nm ∧ 4 < nm) ∨ (1 ≤ nm ∧ nm ≤ 4 ∧ vl < 0) ∨ (1 ≤ nm ∧ nm ≤ 4 ∧ 0 ≤ vl ∧ 1099511627776 < vl) := by omega
  have c1 := anch_pure (f1,f2)
  have c2 := anch_pure (t1,t2)
  generalize okA (f1,f2) = F at *
  generalize okA (t1,t2) = T at *
  generalize cQ _ = B at *
  refine az (c := ⟨Try.prog,57,[(1000000,[1])],[],[]⟩) (rs := [ResultVar.tmp 2]) Try.mixed Try.func72 rfl rfl rfl (Nat.le_of_ble_eq_true rfl) (by kernel_rfl) fun H => ?_
  simp (disch := omega) only [↓aI,aD,aG,ixA,aX,aV,ag,aT,ae,mkA,ab,bnd,aS,aH,aK,cvO,aJ,aY,↓aO,aW,aE,aF,aM,aA,aC,aB,aN,ad,frz,aR,aL,AV.cellsOf,AV.fine,AV.one,aQ,indexK.aggOf,simprocAttr,aZ,aU,Try.facts]
  intro k0 hk00 hk0
  rcases h1 with h | h | h | h | h <;> rcases h2 with g | g | g | g | g <;> simp (disch := omega) only [↓aI,aD,aG,ixA,aX,aV,ag,aT,ae,mkA,ab,bnd,aS,aH,aK,cvO,aJ,aY,↓aO,aW,aE,aF,aM,aA,aC,aB,aN,ad,frz,aR,aL,AV.cellsOf,AV.fine,AV.one,aQ,indexK.aggOf,simprocAttr,aZ,aU,Try.facts,dT,dF,qT,qF,nT,nF,aj hk0]
  all_goals first
    | (have hb : B = false := by (rw [hB]; simp; omega)
       exact ⟨by simp [hb],Abs.Sub.refl _⟩)
    | skip
  have hb : B = (F && T) := by
    rw [hB]
    have e1 : (decide (1 ≤ mc) && decide (mc ≤ 1099511627776) && decide (0 ≤ ma) && decide (ma < 5) && decide (1 ≤ nm) && decide (nm ≤ 4) && decide (0 ≤ vl) && decide (vl ≤ 1099511627776)) = true := by simp; omega
    rw [e1]; simp
  subst hb
  refine CallK.p c1 ?_
  cases F with
  | false =>
    simp (disch := omega) only [↓aI,aD,aG,ixA,aX,aV,ag,aT,ae,mkA,ab,bnd,aS,aH,aK,cvO,aJ,aY,↓aO,aW,aE,aF,aM,aA,aC,aB,aN,ad,frz,aR,aL,AV.cellsOf,AV.fine,AV.one,aQ,indexK.aggOf,simprocAttr,aZ,aU,Try.facts,dT,dF,aj hk0]
    exact ⟨rfl,Abs.Sub.refl _⟩
  | true =>
    simp (disch := omega) only [↓aI,aD,aG,ixA,aX,aV,ag,aT,ae,mkA,ab,bnd,aS,aH,aK,cvO,aJ,aY,↓aO,aW,aE,aF,aM,aA,aC,aB,aN,ad,frz,aR,aL,AV.cellsOf,AV.fine,AV.one,aQ,indexK.aggOf,simprocAttr,aZ,aU,Try.facts,dT,dF,aj hk0]
    refine CallK.p c2 ?_
    simp (disch := omega) only [↓aI,aD,aG,ixA,aX,aV,ag,aT,ae,mkA,ab,bnd,aS,aH,aK,cvO,aJ,aY,↓aO,aW,aE,aF,aM,aA,aC,aB,aN,ad,frz,aR,aL,AV.cellsOf,AV.fine,AV.one,aQ,indexK.aggOf,simprocAttr,aZ,aU,Try.facts,dT,dF,aj hk0]
    exact Abs.Sub.refl _
theorem rmright_pure (m : Mk) : APure Try.prog 88 [.agg (mkC m)] (.sc (.bool (cQ m))) := by
  obtain ⟨mc,ma,⟨f1,f2⟩,fb,⟨t1,t2⟩,tb,nm,vl⟩ := m
  simp only [mkC]
  have hB : cQ ⟨mc,ma,(f1,f2),fb,(t1,t2),tb,nm,vl⟩ = (decide (1 ≤ mc) && decide (mc ≤ 1099511627776) && decide (0 ≤ ma) && decide (ma < 5) && decide (1 ≤ nm) && decide (nm ≤ 4) && decide (0 ≤ vl) && decide (vl ≤ 1099511627776) && okA (f1,f2) && okA (t1,t2)) := rfl
  have h1 : (1 ≤ mc ∧ mc ≤ 1099511627776 ∧ 0 ≤ ma ∧ ma < 5) ∨ mc < 1 ∨ (1 ≤ mc ∧ 1099511627776 < mc) ∨ (1 ≤ mc ∧ mc ≤ 1099511627776 ∧ ma < 0) ∨ (1 ≤ mc ∧ mc ≤ 1099511627776 ∧ 0 ≤ ma ∧ 5 ≤ ma) := by omega
  have h2 : (1 ≤ nm ∧ nm ≤ 4 ∧ 0 ≤ vl ∧ vl ≤ 1099511627776) ∨ nm < 1 ∨ (1 ≤ nm ∧ 4 < nm) ∨ (1 ≤ nm ∧ nm ≤ 4 ∧ vl < 0) ∨ (1 ≤ nm ∧ nm ≤ 4 ∧ 0 ≤ vl ∧ 1099511627776 < vl) := by omega
  have c1 := elem_pure (f1,f2)
  have c2 := elem_pure (t1,t2)
  generalize okA (f1,f2) = F at *
  generalize okA (t1,t2) = T at *
  generalize cQ _ = B at *
  refine az (c := ⟨Try.prog,51,[(1000000,[1])],[],[]⟩) (rs := [ResultVar.tmp 2]) Try.mixed Try.func88 rfl rfl rfl (Nat.le_of_ble_eq_true rfl) (by kernel_rfl) fun H => ?_
  simp (disch := omega) only [↓aI,aD,aG,ixA,aX,aV,ag,aT,ae,mkA,ab,bnd,aS,aH,aK,cvO,aJ,aY,↓aO,aW,aE,aF,aM,aA,aC,aB,aN,ad,frz,aR,aL,AV.cellsOf,AV.fine,AV.one,aQ,indexK.aggOf,simprocAttr,aZ,aU,Try.facts]
  intro k0 hk00 hk0
  rcases h1 with h | h | h | h | h <;> rcases h2 with g | g | g | g | g <;> simp (disch := omega) only [↓aI,aD,aG,ixA,aX,aV,ag,aT,ae,mkA,ab,bnd,aS,aH,aK,cvO,aJ,aY,↓aO,aW,aE,aF,aM,aA,aC,aB,aN,ad,frz,aR,aL,AV.cellsOf,AV.fine,AV.one,aQ,indexK.aggOf,simprocAttr,aZ,aU,Try.facts,dT,dF,qT,qF,nT,nF,aj hk0]
  all_goals first
    | (have hb : B = false := by (rw [hB]; simp; omega)
       exact ⟨by simp [hb],Abs.Sub.refl _⟩)
    | skip
  have hb : B = (F && T) := by
    rw [hB]
    have e1 : (decide (1 ≤ mc) && decide (mc ≤ 1099511627776) && decide (0 ≤ ma) && decide (ma < 5) && decide (1 ≤ nm) && decide (nm ≤ 4) && decide (0 ≤ vl) && decide (vl ≤ 1099511627776)) = true := by simp; omega
    rw [e1]; simp
  subst hb
  refine CallK.p c1 ?_
  cases F with
  | false =>
    simp (disch := omega) only [↓aI,aD,aG,ixA,aX,aV,ag,aT,ae,mkA,ab,bnd,aS,aH,aK,cvO,aJ,aY,↓aO,aW,aE,aF,aM,aA,aC,aB,aN,ad,frz,aR,aL,AV.cellsOf,AV.fine,AV.one,aQ,indexK.aggOf,simprocAttr,aZ,aU,Try.facts,dT,dF,aj hk0]
    exact ⟨rfl,Abs.Sub.refl _⟩
  | true =>
    simp (disch := omega) only [↓aI,aD,aG,ixA,aX,aV,ag,aT,ae,mkA,ab,bnd,aS,aH,aK,cvO,aJ,aY,↓aO,aW,aE,aF,aM,aA,aC,aB,aN,ad,frz,aR,aL,AV.cellsOf,AV.fine,AV.one,aQ,indexK.aggOf,simprocAttr,aZ,aU,Try.facts,dT,dF,aj hk0]
    refine CallK.p c2 ?_
    simp (disch := omega) only [↓aI,aD,aG,ixA,aX,aV,ag,aT,ae,mkA,ab,bnd,aS,aH,aK,cvO,aJ,aY,↓aO,aW,aE,aF,aM,aA,aC,aB,aN,ad,frz,aR,aL,AV.cellsOf,AV.fine,AV.one,aQ,indexK.aggOf,simprocAttr,aZ,aU,Try.facts,dT,dF,aj hk0]
    exact Abs.Sub.refl _
def newM (a b : Mk) : Bool := if a.clock ≠ b.clock then decide (b.clock < a.clock) else decide (b.author < a.author)
end Go.Proofs.Ytimonfakmadhpaa
end
section
set_option linter.unusedSimpArgs false
set_option linter.unusedVariables false
set_option maxRecDepth 8000
set_option maxHeartbeats 4000000
namespace Go.Proofs.Ytimonfakmadhpaa
open Go Go.Abs Go.Proofs Go.Fug
def atM (c a : Int) (m : Mk) : Prop := m.clock = c ∧ m.author = a
instance (c a : Int) (m : Mk) : Decidable (atM c a m) := inferInstanceAs (Decidable (_ ∧ _))
def hasM (l : List Mk) (c a : Int) : Bool := l.any fun m => decide (atM c a m)
end Go.Proofs.Ytimonfakmadhpaa
end
section
set_option linter.unusedSimpArgs false
set_option linter.unusedVariables false
set_option maxRecDepth 8000
set_option maxHeartbeats 4000000
namespace Go.Proofs.Ytimonfakmadhpaa
open Go Go.Abs Go.Proofs Go.Fug
def eU (l : List Mk) (m : Mk) : List Mk × Int :=
  if cQ m = false then (l,1) else if hasM l m.clock m.author = true then (l,12) else if l.length = 512 then (l,14) else (l.filter (fun x => newM m x) ++ [m] ++ l.filter (fun x => !newM m x),0)
end Go.Proofs.Ytimonfakmadhpaa
end
section
set_option linter.unusedSimpArgs false
set_option linter.unusedVariables false
set_option maxRecDepth 8000
set_option maxHeartbeats 4000000
namespace Go.Proofs.Ytimonfakmadhpaa
open Go Go.Abs Go.Proofs Go.Fug
def mksN (l : List Mk) : AV := if l = [] then .sc (.slice none 0 0) else eM l
theorem mksN_nil : mksN [] = .sc (.slice none 0 0) := rfl
theorem dH {l : List Mk} (h : 0 < l.length) : mksN l = eM l := if_neg (fun e => by rw [e] at h; simp at h)
structure GoodM (l : List Mk) : Prop where
  sort : SortM l
  ok : ∀ m ∈ l,cQ m = true
  small : l.length ≤ 512
theorem GoodM.nil : GoodM [] := ⟨List.Pairwise.nil,by simp,by simp⟩
abbrev ce (l : List Mk) : AObj := .cells [mksN l] 158 1
theorem search_good (l : List Mk) (c a : Int) (g : GoodM l) (hc : 0 ≤ c ∧ c ≤ 1099511627776) (ha : 0 ≤ a ∧ a < 5) : APure Try.prog 147 [eM l,.sc (.int .i64 c),.fn (.func 148) [] [.ip [.sc (.int .i64 a)] 0]] (.tup [.sc (.int .i64 (cC l c a : Nat)),.sc (.bool (foundM l c a))]) :=
  search_pure l c a (by have := g.small; omega) g.sort (fun m hm => rightM_ok (g.ok m hm)) hc ha
theorem cloneN (H : AH) (l : List Mk) (hl : l.length ≤ 512) : ACalls Try.prog 99 [mksN l] H fun v H' => (l = [] ∧ v = .sc (.slice none 0 0) ∧ H' = H) ∨ (0 < l.length ∧ ∃ k',v = .own k' 0 l.length ∧ k' ≠ 0 ∧ H k' = none ∧ H' k' = some (.cells (bE l) 82 10) ∧ Abs.Sub H H') := by
  rcases Nat.eq_zero_or_pos l.length with h0 | h0
  · obtain rfl : l = [] := List.length_eq_zero_iff.1 h0
    have hb := fun K => bin_nil (P := Try.prog) (K := K) Try.underlying105 mk_eqOk
    rw [mksN_nil]
    refine acalls_raw (c := ⟨Try.prog,8,[],[5],[]⟩) (t := 2) Try.mixed Try.func99 rfl rfl rfl (Nat.le_of_ble_eq_true rfl) (by kernel_rfl) ?_
    simp (disch := omega) only [↓aI,aD,aG,ixA,aX,aV,ag,aT,ae,mkA,ab,bnd,aS,aH,aK,cvO,aJ,aY,↓aO,aW,aE,aF,aM,aA,aC,aB,aN,ad,frz,aR,aL,AV.cellsOf,AV.fine,AV.one,aQ,indexK.aggOf,simprocAttr,aZ,aU,Try.facts,hb,PostR_ret]
    exact ⟨_,Abs.Sub.refl _,.inl rfl⟩
  · rw [dH h0]
    exact (clone_own H l (by omega) h0).mono fun v H' h => .inr ⟨h0,h⟩
theorem cloneT (H : AH) (l : List Mk) (hl : l.length ≤ 512) : ACalls Try.prog 99 [mksN l] H fun v H' => v = mksN l ∧ H' = H := by
  rcases Nat.eq_zero_or_pos l.length with h0 | h0
  · obtain rfl : l = [] := List.length_eq_zero_iff.1 h0
    refine (cloneN H [] hl).mono ?_
    rintro v H' (⟨-,rfl,rfl⟩ | ⟨h,-⟩)
    · exact ⟨mksN_nil.symm,rfl⟩
    · simp at h
  · rw [dH h0]
    exact clone_pure l (by omega) h0 H
theorem place_live (H : AH) (hb : Nat) (l : List Mk) (c a : Int) (hi : H hb = some (ce l)) (g : GoodM l) (hc : 0 ≤ c ∧ c ≤ 1099511627776) (ha : 0 ≤ a ∧ a < 5) :
    ACalls Try.prog 126 [.ptr hb 0,.sc (.int .i64 c),.sc (.int .i64 a)] H fun v H' => v = .tup [.sc (.int .i64 (cC l c a : Nat)),.sc (.bool (foundM l c a))] ∧ H' = H := by
  have hs := search_good l c a g hc ha
  unfold ce at hi
  generalize hp : cC l c a = p at *
  generalize hf : foundM l c a = f at *
  rcases Nat.eq_zero_or_pos l.length with h0 | h0
  · obtain rfl : l = [] := List.length_eq_zero_iff.1 h0
    rw [mksN_nil] at hi
    refine ao (c := ⟨Try.prog,17,[(1000000,[5])],[],[]⟩) (rs := [ResultVar.tmp 6,ResultVar.tmp 7]) Try.mixed Try.func126 rfl rfl rfl (Nat.le_of_ble_eq_true rfl) (by kernel_rfl) ?_
    simp (disch := omega) only [↓aI,aD,aG,ixA,aX,aV,ag,aT,ae,mkA,ab,bnd,aS,aH,aK,cvO,aJ,aY,↓aO,aW,aE,aF,aM,aA,aC,aB,aN,ad,frz,aR,aL,AV.cellsOf,AV.fine,AV.one,aQ,indexK.aggOf,simprocAttr,aZ,aU,Try.facts]
    intro k hk0 hk
    have n1 := bA hi hk
    simp (disch := omega) only [↓aI,aD,aG,ixA,aX,aV,ag,aT,ae,mkA,ab,bnd,aS,aH,aK,cvO,aJ,aY,↓aO,aW,aE,aF,aM,aA,aC,aB,aN,ad,frz,aR,aL,AV.cellsOf,AV.fine,AV.one,aQ,indexK.aggOf,simprocAttr,aZ,aU,Try.facts,aj hk,hi,aP,n1]
    refine CallK.p hs ?_
    simp (disch := omega) only [↓aI,aD,aG,ixA,aX,aV,ag,aT,ae,mkA,ab,bnd,aS,aH,aK,cvO,aJ,aY,↓aO,aW,aE,aF,aM,aA,aC,aB,aN,ad,frz,aR,aL,AV.cellsOf,AV.fine,AV.one,aQ,indexK.aggOf,simprocAttr,aZ,aU,Try.facts,aj hk,hi,aP,n1]
    exact ⟨_,rfl,_,Abs.Sub.refl _,rfl,rfl⟩
  · rw [dH h0] at hi
    refine ao (c := ⟨Try.prog,17,[(1000000,[5])],[],[]⟩) (rs := [ResultVar.tmp 6,ResultVar.tmp 7]) Try.mixed Try.func126 rfl rfl rfl (Nat.le_of_ble_eq_true rfl) (by kernel_rfl) ?_
    simp (disch := omega) only [↓aI,aD,aG,ixA,aX,aV,ag,aT,ae,mkA,ab,bnd,aS,aH,aK,cvO,aJ,aY,↓aO,aW,aE,aF,aM,aA,aC,aB,aN,ad,frz,aR,aL,AV.cellsOf,AV.fine,AV.one,aQ,indexK.aggOf,simprocAttr,aZ,aU,Try.facts]
    intro k hk0 hk
    have n1 := bA hi hk
    simp (disch := omega) only [↓aI,aD,aG,ixA,aX,aV,ag,aT,ae,mkA,ab,bnd,aS,aH,aK,cvO,aJ,aY,↓aO,aW,aE,aF,aM,aA,aC,aB,aN,ad,frz,aR,aL,AV.cellsOf,AV.fine,AV.one,aQ,indexK.aggOf,simprocAttr,aZ,aU,Try.facts,aj hk,hi,aP,n1]
    refine CallK.p hs ?_
    simp (disch := omega) only [↓aI,aD,aG,ixA,aX,aV,ag,aT,ae,mkA,ab,bnd,aS,aH,aK,cvO,aJ,aY,↓aO,aW,aE,aF,aM,aA,aC,aB,aN,ad,frz,aR,aL,AV.cellsOf,AV.fine,AV.one,aQ,indexK.aggOf,simprocAttr,aZ,aU,Try.facts,aj hk,hi,aP,n1]
    exact ⟨_,rfl,_,Abs.Sub.refl _,rfl,rfl⟩
theorem mnew_live (H : AH) : ACalls Try.prog 64 [] H fun v H' => ∃ hb,v = .ptr hb 0 ∧ hb ≠ 0 ∧ H hb = none ∧ H' = H.set hb (ce []) := by
  refine ao (c := ⟨Try.prog,3,[],[],[]⟩) (rs := [ResultVar.tmp 0]) Try.mixed Try.func64 rfl rfl rfl (Nat.le_of_ble_eq_true rfl) (by kernel_rfl) ?_
  simp (disch := omega) only [↓aI,aD,aG,ixA,aX,aV,ag,aT,ae,mkA,ab,bnd,aS,aH,aK,cvO,aJ,aY,↓aO,aW,aE,aF,aM,aA,aC,aB,aN,ad,frz,aR,aL,AV.cellsOf,AV.fine,AV.one,aQ,indexK.aggOf,simprocAttr,aZ,aU,Try.facts]
  intro hb hb0 hbf
  exact ⟨_,rfl,_,Abs.Sub.refl _,hb,rfl,hb0,hbf,rfl⟩
theorem list_live (H : AH) (hb : Nat) (l : List Mk) (hi : H hb = some (ce l)) (g : l.length ≤ 512) :
    ACalls Try.prog 56 [.ptr hb 0] H fun v H' => v = eM l ∧ H' = H := by
  have hs := fun H => cloneT H l g
  unfold ce at hi
  rcases Nat.eq_zero_or_pos l.length with h0 | h0
  · obtain rfl : l = [] := List.length_eq_zero_iff.1 h0
    rw [mksN_nil] at hs hi
    refine ao (c := ⟨Try.prog,10,[],[4000009],[]⟩) (rs := [ResultVar.tmp 2]) Try.mixed Try.func56 rfl rfl rfl (Nat.le_of_ble_eq_true rfl) (by kernel_rfl) ?_
    simp (disch := omega) only [↓aI,aD,aG,ixA,aX,aV,ag,aT,ae,mkA,ab,bnd,aS,aH,aK,cvO,aJ,aY,↓aO,aW,aE,aF,aM,aA,aC,aB,aN,ad,frz,aR,aL,AV.cellsOf,AV.fine,AV.one,aQ,indexK.aggOf,simprocAttr,aZ,aU,Try.facts,hi]
    refine CallK.i (hs _) ?_
    rintro v E ⟨rfl,rfl⟩
    simp (disch := omega) only [↓aI,aD,aG,ixA,aX,aV,ag,aT,ae,mkA,ab,bnd,aS,aH,aK,cvO,aJ,aY,↓aO,aW,aE,aF,aM,aA,aC,aB,aN,ad,frz,aR,aL,AV.cellsOf,AV.fine,AV.one,aQ,indexK.aggOf,simprocAttr,aZ,aU,Try.facts,hi]
    exact ⟨_,rfl,_,Abs.Sub.refl _,rfl,rfl⟩
  · rw [dH h0] at hs hi
    refine ao (c := ⟨Try.prog,10,[],[4000009],[]⟩) (rs := [ResultVar.tmp 2]) Try.mixed Try.func56 rfl rfl rfl (Nat.le_of_ble_eq_true rfl) (by kernel_rfl) ?_
    simp (disch := omega) only [↓aI,aD,aG,ixA,aX,aV,ag,aT,ae,mkA,ab,bnd,aS,aH,aK,cvO,aJ,aY,↓aO,aW,aE,aF,aM,aA,aC,aB,aN,ad,frz,aR,aL,AV.cellsOf,AV.fine,AV.one,aQ,indexK.aggOf,simprocAttr,aZ,aU,Try.facts,hi]
    refine CallK.i (hs _) ?_
    rintro v E ⟨rfl,rfl⟩
    simp (disch := omega) only [↓aI,aD,aG,ixA,aX,aV,ag,aT,ae,mkA,ab,bnd,aS,aH,aK,cvO,aJ,aY,↓aO,aW,aE,aF,aM,aA,aC,aB,aN,ad,frz,aR,aL,AV.cellsOf,AV.fine,AV.one,aQ,indexK.aggOf,simprocAttr,aZ,aU,Try.facts,hi]
    exact ⟨_,rfl,_,Abs.Sub.refl _,rfl,rfl⟩
theorem cmp_zero {m : Mk} {c a : Int} : di m c a = 0 ↔ atM c a m := by
  unfold di atM
  split <;> omega
theorem dM (m x : Mk) : newM m x = decide (di x m.clock m.author < 0) := by
  unfold newM di
  by_cases h : m.clock = x.clock
  · rw [if_neg (by omega),if_neg (by omega)]
    congr 1
    apply propext
    omega
  · rw [if_pos h,if_pos (by omega)]
    congr 1
    apply propext
    omega
theorem later {m : Mk} {l : List Mk} {c a : Int} (s : ∀ n ∈ l,ltM m n) (h : ¬ di m c a < 0) : ∀ n ∈ l,0 < di n c a := fun n hn => by
  have := s n hn
  unfold di ltM at *
  split at h <;> split <;> omega
theorem found_has {l : List Mk} (s : SortM l) (c a : Int) : foundM l c a = hasM l c a := by
  induction l with
  | nil => rfl
  | cons m l ih =>
    obtain ⟨s1,s2⟩ := List.pairwise_cons.1 s
    have ih := ih s2
    unfold foundM hasM at *
    simp only [cC,List.any_cons]
    by_cases h : di m c a < 0
    · rw [if_pos h]
      have hn : decide (atM c a m) = false := dF (fun e => by have := cmp_zero.2 e; omega)
      rw [hn]
      simpa using ih
    · rw [if_neg h]
      by_cases h0 : di m c a = 0
      · rw [dT (cmp_zero.1 h0)]
        simpa using h0
      · rw [dF (fun e => h0 (cmp_zero.2 e))]
        have hl := later s1 h
        have : (l.any fun m => decide (atM c a m)) = false := by
          rw [← Bool.not_eq_true]
          intro e
          obtain ⟨n,hn,e2⟩ := List.any_eq_true.1 e
          have h3 := hl n hn
          have := cmp_zero.2 (by simpa using e2 : atM c a n)
          omega
        rw [this]
        simpa using h0
theorem filt_place {l : List Mk} (s : SortM l) (m : Mk) : l.filter (fun x => newM m x) = l.take (cC l m.clock m.author) ∧ l.filter (fun x => !newM m x) = l.drop (cC l m.clock m.author) := by
  induction l with
  | nil => exact ⟨rfl,rfl⟩
  | cons x l ih =>
    obtain ⟨s1,s2⟩ := List.pairwise_cons.1 s
    obtain ⟨ih1,ih2⟩ := ih s2
    simp only [cC]
    by_cases h : di x m.clock m.author < 0
    · rw [if_pos h,List.filter_cons_of_pos (by rw [dM]; simpa using h),List.filter_cons_of_neg (by rw [dM]; simpa using h),ih1,ih2]
      exact ⟨rfl,rfl⟩
    · rw [if_neg h,List.filter_cons_of_neg (by rw [dM]; simpa using h),List.filter_cons_of_pos (by rw [dM]; simpa using h)]
      have hl := later s1 h
      refine ⟨?_,?_⟩
      · rw [List.take_zero,List.filter_eq_nil_iff]
        intro n hn
        have := hl n hn
        rw [dM]
        simp
        omega
      · rw [List.drop_zero]
        congr 1
        rw [List.filter_eq_self]
        intro n hn
        have := hl n hn
        rw [dM]
        simp
        omega
theorem addM_ins {l : List Mk} (s : SortM l) {m : Mk} (hr : cQ m = true) (hh : hasM l m.clock m.author = false) (hf : l.length ≠ 512) : eU l m = (du l (cC l m.clock m.author) m,0) := by
  obtain ⟨h1,h2⟩ := filt_place s m
  unfold eU du
  rw [if_neg (by rw [hr]; simp),if_neg (by rw [hh]; simp),if_neg hf,h1,h2]
  simp
theorem newM_lt {m x : Mk} (h : newM m x = true) : ltM x m := by
  rw [dM] at h
  simp at h
  unfold di at h
  unfold ltM
  split at h <;> omega
theorem newM_gt {m x : Mk} (h : newM m x = false) (hn : ¬ atM m.clock m.author x) : ltM m x := by
  rw [dM] at h
  simp at h
  unfold di at h
  unfold ltM
  unfold atM at hn
  split at h <;> omega
theorem GoodM.add {l : List Mk} (g : GoodM l) (m : Mk) : GoodM (eU l m).1 := by
  unfold eU
  split
  · exact g
  · rename_i hr
    split
    · exact g
    · rename_i hh
      split
      · exact g
      · rename_i hf
        have hno : ∀ x ∈ l,¬ atM m.clock m.author x := fun x hx e => hh (List.any_eq_true.2 ⟨x,hx,by simpa using e⟩)
        have hlen : (l.filter (fun x => newM m x) ++ [m] ++ l.filter (fun x => !newM m x)).length = l.length + 1 := by
          obtain ⟨h1,h2⟩ := filt_place g.sort m
          have := placeM_le l m.clock m.author
          rw [h1,h2]
          simp
          omega
        refine ⟨?_,fun x hx => ?_,?_⟩
        · unfold SortM
          rw [List.append_assoc,List.pairwise_append]
          refine ⟨g.sort.sublist List.filter_sublist,?_,?_⟩
          · rw [List.singleton_append,List.pairwise_cons]
            refine ⟨fun x hx => ?_,g.sort.sublist List.filter_sublist⟩
            obtain ⟨h1,h2⟩ := List.mem_filter.1 hx
            exact newM_gt (by simpa using h2) (hno x h1)
          · intro x hx y hy
            obtain ⟨h1,h2⟩ := List.mem_filter.1 hx
            have h3 := newM_lt h2
            rcases List.mem_append.1 hy with hy | hy
            · rw [List.mem_singleton.1 hy]; exact h3
            · obtain ⟨h4,h5⟩ := List.mem_filter.1 hy
              have h6 := newM_gt (by simpa using h5) (hno y h4)
              unfold ltM at *
              omega
        · simp only [List.mem_append,List.mem_singleton,List.mem_filter] at hx
          rcases hx with (⟨h,-⟩ | rfl) | ⟨h,-⟩
          · exact g.ok x h
          · simpa using hr
          · exact g.ok x h
        · simp only [] at hlen ⊢
          have := g.small
          rw [hlen]
          omega
theorem bhas_live (H : AH) (hb : Nat) (l : List Mk) (c a : Int) (hi : H hb = some (ce l)) (g : GoodM l) :
    ACalls Try.prog 95 [.ptr hb 0,.sc (.int .i64 c),.sc (.int .i64 a)] H fun v H' => v = .sc (.bool (hasM l c a)) ∧ H' = H := by
  have hno : ∀ m ∈ l,1 ≤ m.clock ∧ m.clock ≤ 1099511627776 ∧ 0 ≤ m.author ∧ m.author < 5 := fun m hm => rightM_ok (g.ok m hm)
  have h1 : (1 ≤ c ∧ c ≤ 1099511627776 ∧ 0 ≤ a ∧ a < 5) ∨ c < 1 ∨ (1 ≤ c ∧ 1099511627776 < c) ∨ (1 ≤ c ∧ c ≤ 1099511627776 ∧ a < 0) ∨ (1 ≤ c ∧ c ≤ 1099511627776 ∧ 0 ≤ a ∧ 5 ≤ a) := by omega
  have hF : ¬ (1 ≤ c ∧ c ≤ 1099511627776 ∧ 0 ≤ a ∧ a < 5) → hasM l c a = false := fun hn => by
    rw [← Bool.not_eq_true]
    intro e
    obtain ⟨m,hm,e2⟩ := List.any_eq_true.1 e
    have e3 : atM c a m := by simpa using e2
    have := hno m hm
    unfold atM at e3
    omega
  have hp := fun hc ha => place_live H hb l c a hi g hc ha
  rw [found_has g.sort] at hp
  generalize hasM l c a = B at *
  unfold ce at hi
  refine ao (c := ⟨Try.prog,35,[],[],[]⟩) (rs := [ResultVar.tmp 6]) Try.mixed Try.func95 rfl rfl rfl (Nat.le_of_ble_eq_true rfl) (by kernel_rfl) ?_
  rcases h1 with h | h | h | h | h
  · have hp := hp ⟨by omega,by omega⟩ ⟨by omega,by omega⟩
    simp (disch := omega) only [↓aI,aD,aG,ixA,aX,aV,ag,aT,ae,mkA,ab,bnd,aS,aH,aK,cvO,aJ,aY,↓aO,aW,aE,aF,aM,aA,aC,aB,aN,ad,frz,aR,aL,AV.cellsOf,AV.fine,AV.one,aQ,indexK.aggOf,simprocAttr,aZ,aU,Try.facts,dT,dF,qT,qF,nT,nF,Bool.false_and,Bool.and_false]
    refine CallK.i hp ?_
    rintro v E ⟨rfl,rfl⟩
    simp (disch := omega) only [↓aI,aD,aG,ixA,aX,aV,ag,aT,ae,mkA,ab,bnd,aS,aH,aK,cvO,aJ,aY,↓aO,aW,aE,aF,aM,aA,aC,aB,aN,ad,frz,aR,aL,AV.cellsOf,AV.fine,AV.one,aQ,indexK.aggOf,simprocAttr,aZ,aU,Try.facts]
    exact ⟨_,rfl,_,Abs.Sub.refl _,rfl,rfl⟩
  all_goals
    rw [hF (by omega)]
    simp (disch := omega) only [↓aI,aD,aG,ixA,aX,aV,ag,aT,ae,mkA,ab,bnd,aS,aH,aK,cvO,aJ,aY,↓aO,aW,aE,aF,aM,aA,aC,aB,aN,ad,frz,aR,aL,AV.cellsOf,AV.fine,AV.one,aQ,indexK.aggOf,simprocAttr,aZ,aU,Try.facts,dT,dF,qT,qF,nT,nF,Bool.false_and,Bool.and_false]
    exact ⟨_,rfl,_,Abs.Sub.refl _,rfl,rfl⟩
theorem insert_nil (H : AH) (kv : Nat) (m : Mk) (hv : H kv = some (.cells (mkC m) 82 10)) :
    ACalls Try.prog 128 [.sc (.slice none 0 0),.sc (.int .i64 0),.own kv 0 1] H fun v H' => v = .imm 0 (bE [m]) 1 ∧ ∀ y o,H y = some o → H' y = some o := by
  have hml := mkC_len m
  have htk : (mkC m).take 10 = mkC m := rfl
  have hown : ACalls Try.prog 128 [.sc (.slice none 0 0),.sc (.int .i64 0),.own kv 0 1] H fun v H' => ∃ k',v = .own k' 0 1 ∧ H k' = none ∧ H' = H.set k' (.cells (mkC m) 82 10) := by
    refine ao (c := ⟨Try.prog,95,[(11,[0,0,0,0,0,0,0,0,2]),(15,[0,0,0,0,0,0,0,0,2]),(4000019,[0]),(4000018,[0,1,7]),(4000016,[0]),(4000015,[0,1,2]),(4000014,[0,1,2,7,8,68]),(4000013,[0,1,2,7,8]),(4000011,[9]),(4000010,[0,1,7,9]),(4000009,[0,1,2,7,9]),(4000008,[0,1,2,7,8,31])],[1000025,2000060,3000040],[]⟩) (rs := [ResultVar.tmp 6]) Try.mixed Try.func128 rfl rfl rfl (Nat.le_of_ble_eq_true rfl) (by kernel_rfl) ?_
    simp (disch := omega) only [↓aI,aD,aG,ixA,aX,aV,ag,aT,ae,mkA,ab,bnd,aS,aH,aK,cvO,aJ,aY,↓aO,aW,aE,aF,aM,aA,aC,aB,aN,ad,frz,aR,aL,AV.cellsOf,AV.fine,AV.one,aQ,indexK.aggOf,simprocAttr,aZ,aU,Try.facts,dT,dF,qT,qF,nT,nF,Bool.false_and,Bool.and_false,hml,hv,Int.reduceToNat,htk,Nat.le_refl]
    intro k' hk'0 hk'
    exact ⟨_,rfl,_,Abs.Sub.refl _,k',rfl,hk',rfl⟩
  refine hown.freeze ?_
  rintro v H' ⟨k',rfl,hk',rfl⟩
  refine ⟨_,(H.set k' (.cells (mkC m) 82 10)).kill k',Sub.killed,Frz.own set_get kill_same (by rw [hml]; omega),?_,fun y o ho => ?_⟩
  · rw [List.take_of_length_le (by rw [hml]; omega)]
    simp [bE]
  · rw [bZ (bA ho hk'),aP (bA ho hk')]
    exact ho
theorem badd_live (H : AH) (hb : Nat) (l : List Mk) (m : Mk) (hi : H hb = some (ce l)) (g : GoodM l) :
    ACalls Try.prog 101 [.ptr hb 0,.agg (mkC m)] H fun v H' => v = .sc (.int .i64 (eU l m).2) ∧ H' hb = some (ce (eU l m).1) ∧ ∀ y o,y ≠ hb → H y = some o → H' y = some o := by
  have h0 := mright_pure m
  have hll := bM l
  obtain ⟨R,hR⟩ : ∃ R,R = eU l m := ⟨_,rfl⟩
  rw [← hR]
  cases hr : cQ m with
  | false =>
    rw [hr] at h0
    unfold eU at hR
    rw [if_pos hr] at hR
    subst hR
    obtain ⟨mc,ma,⟨f1,f2⟩,fb,⟨t1,t2⟩,tb,nm,vl⟩ := m
    simp only [mkC] at h0 ⊢
    refine ao (c := ⟨Try.prog,40,[(10,[0,0,0,0,0,2,0,0,2,2,0,0,2]),(1000000,[3])],[1000036,4000033,4000037],[(10,(.op 0 0 (.op 1 0 (.op 2 0 (.op 3 0 (.op 6 0 (.op 7 0 (.or (.op 4 2 (.or (.op 5 2 (.op 8 2 (.op 9 2 (.op 10 0 (.op 11 0 (.op 12 2 .nil)))))) (.op 8 2 (.op 5 2 (.op 9 2 (.op 10 0 (.op 11 0 (.op 12 2 .nil)))))))) (.op 8 2 (.op 4 2 (.op 5 2 (.op 9 2 (.op 10 0 (.op 11 0 (.op 12 2 .nil)))))))))))))))]⟩) (rs := [ResultVar.tmp 4]) Try.mixed Try.func101 rfl rfl rfl (Nat.le_of_ble_eq_true rfl) (by kernel_rfl) ?_
    simp (disch := omega) only [↓aI,aD,aG,ixA,aX,aV,ag,aT,ae,mkA,ab,bnd,aS,aH,aK,cvO,aJ,aY,↓aO,aW,aE,aF,aM,aA,aC,aB,aN,ad,frz,aR,aL,AV.cellsOf,AV.fine,AV.one,aQ,indexK.aggOf,simprocAttr,aZ,aU,Try.facts]
    intro k hk0 hk
    simp (disch := omega) only [↓aI,aD,aG,ixA,aX,aV,ag,aT,ae,mkA,ab,bnd,aS,aH,aK,cvO,aJ,aY,↓aO,aW,aE,aF,aM,aA,aC,aB,aN,ad,frz,aR,aL,AV.cellsOf,AV.fine,AV.one,aQ,indexK.aggOf,simprocAttr,aZ,aU,Try.facts,aj hk]
    refine CallK.p h0 ?_
    simp (disch := omega) only [↓aI,aD,aG,ixA,aX,aV,ag,aT,ae,mkA,ab,bnd,aS,aH,aK,cvO,aJ,aY,↓aO,aW,aE,aF,aM,aA,aC,aB,aN,ad,frz,aR,aL,AV.cellsOf,AV.fine,AV.one,aQ,indexK.aggOf,simprocAttr,aZ,aU,Try.facts,aj hk]
    exact ⟨_,rfl,_,Abs.Sub.refl _,rfl,hi,fun _ _ _ h => h⟩
  | true =>
    rw [hr] at h0
    have hk := rightM_ok hr
    unfold okM at hk
    have hp := place_live H hb l m.clock m.author hi g ⟨by omega,by omega⟩ ⟨by omega,by omega⟩
    rw [found_has g.sort] at hp
    cases hh : hasM l m.clock m.author with
    | true =>
      rw [hh] at hp
      unfold eU at hR
      rw [if_neg (by rw [hr]; simp),if_pos hh] at hR
      subst hR
      obtain ⟨mc,ma,⟨f1,f2⟩,fb,⟨t1,t2⟩,tb,nm,vl⟩ := m
      simp only [mkC] at h0 hp ⊢
      refine ao (c := ⟨Try.prog,40,[(10,[0,0,0,0,0,2,0,0,2,2,0,0,2]),(1000000,[3])],[1000036,4000033,4000037],[(10,(.op 0 0 (.op 1 0 (.op 2 0 (.op 3 0 (.op 6 0 (.op 7 0 (.or (.op 4 2 (.or (.op 5 2 (.op 8 2 (.op 9 2 (.op 10 0 (.op 11 0 (.op 12 2 .nil)))))) (.op 8 2 (.op 5 2 (.op 9 2 (.op 10 0 (.op 11 0 (.op 12 2 .nil)))))))) (.op 8 2 (.op 4 2 (.op 5 2 (.op 9 2 (.op 10 0 (.op 11 0 (.op 12 2 .nil)))))))))))))))]⟩) (rs := [ResultVar.tmp 4]) Try.mixed Try.func101 rfl rfl rfl (Nat.le_of_ble_eq_true rfl) (by kernel_rfl) ?_
      simp (disch := omega) only [↓aI,aD,aG,ixA,aX,aV,ag,aT,ae,mkA,ab,bnd,aS,aH,aK,cvO,aJ,aY,↓aO,aW,aE,aF,aM,aA,aC,aB,aN,ad,frz,aR,aL,AV.cellsOf,AV.fine,AV.one,aQ,indexK.aggOf,simprocAttr,aZ,aU,Try.facts]
      intro k hk0 hk
      simp (disch := omega) only [↓aI,aD,aG,ixA,aX,aV,ag,aT,ae,mkA,ab,bnd,aS,aH,aK,cvO,aJ,aY,↓aO,aW,aE,aF,aM,aA,aC,aB,aN,ad,frz,aR,aL,AV.cellsOf,AV.fine,AV.one,aQ,indexK.aggOf,simprocAttr,aZ,aU,Try.facts,aj hk]
      refine CallK.p h0 ?_
      simp (disch := omega) only [↓aI,aD,aG,ixA,aX,aV,ag,aT,ae,mkA,ab,bnd,aS,aH,aK,cvO,aJ,aY,↓aO,aW,aE,aF,aM,aA,aC,aB,aN,ad,frz,aR,aL,AV.cellsOf,AV.fine,AV.one,aQ,indexK.aggOf,simprocAttr,aZ,aU,Try.facts,aj hk]
      refine CallK.i hp ?_
      rintro v E ⟨rfl,rfl⟩
      simp (disch := omega) only [↓aI,aD,aG,ixA,aX,aV,ag,aT,ae,mkA,ab,bnd,aS,aH,aK,cvO,aJ,aY,↓aO,aW,aE,aF,aM,aA,aC,aB,aN,ad,frz,aR,aL,AV.cellsOf,AV.fine,AV.one,aQ,indexK.aggOf,simprocAttr,aZ,aU,Try.facts]
      exact ⟨_,rfl,_,Abs.Sub.refl _,rfl,hi,fun _ _ _ h => h⟩
    | false =>
      rw [hh] at hp
      by_cases hf : l.length = 512
      · unfold eU at hR
        rw [if_neg (by rw [hr]; simp),if_neg (by rw [hh]; simp),if_pos hf] at hR
        subst hR
        have hi' := hi
        unfold ce at hi'
        rw [dH (by omega)] at hi'
        obtain ⟨mc,ma,⟨f1,f2⟩,fb,⟨t1,t2⟩,tb,nm,vl⟩ := m
        simp only [mkC] at h0 hp ⊢
        refine ao (c := ⟨Try.prog,40,[(10,[0,0,0,0,0,2,0,0,2,2,0,0,2]),(1000000,[3])],[1000036,4000033,4000037],[(10,(.op 0 0 (.op 1 0 (.op 2 0 (.op 3 0 (.op 6 0 (.op 7 0 (.or (.op 4 2 (.or (.op 5 2 (.op 8 2 (.op 9 2 (.op 10 0 (.op 11 0 (.op 12 2 .nil)))))) (.op 8 2 (.op 5 2 (.op 9 2 (.op 10 0 (.op 11 0 (.op 12 2 .nil)))))))) (.op 8 2 (.op 4 2 (.op 5 2 (.op 9 2 (.op 10 0 (.op 11 0 (.op 12 2 .nil)))))))))))))))]⟩) (rs := [ResultVar.tmp 4]) Try.mixed Try.func101 rfl rfl rfl (Nat.le_of_ble_eq_true rfl) (by kernel_rfl) ?_
        simp (disch := omega) only [↓aI,aD,aG,ixA,aX,aV,ag,aT,ae,mkA,ab,bnd,aS,aH,aK,cvO,aJ,aY,↓aO,aW,aE,aF,aM,aA,aC,aB,aN,ad,frz,aR,aL,AV.cellsOf,AV.fine,AV.one,aQ,indexK.aggOf,simprocAttr,aZ,aU,Try.facts]
        intro k hk0 hk
        simp (disch := omega) only [↓aI,aD,aG,ixA,aX,aV,ag,aT,ae,mkA,ab,bnd,aS,aH,aK,cvO,aJ,aY,↓aO,aW,aE,aF,aM,aA,aC,aB,aN,ad,frz,aR,aL,AV.cellsOf,AV.fine,AV.one,aQ,indexK.aggOf,simprocAttr,aZ,aU,Try.facts,aj hk]
        refine CallK.p h0 ?_
        simp (disch := omega) only [↓aI,aD,aG,ixA,aX,aV,ag,aT,ae,mkA,ab,bnd,aS,aH,aK,cvO,aJ,aY,↓aO,aW,aE,aF,aM,aA,aC,aB,aN,ad,frz,aR,aL,AV.cellsOf,AV.fine,AV.one,aQ,indexK.aggOf,simprocAttr,aZ,aU,Try.facts,aj hk]
        refine CallK.i hp ?_
        rintro v E ⟨rfl,rfl⟩
        simp (disch := omega) only [↓aI,aD,aG,ixA,aX,aV,ag,aT,ae,mkA,ab,bnd,aS,aH,aK,cvO,aJ,aY,↓aO,aW,aE,aF,aM,aA,aC,aB,aN,ad,frz,aR,aL,AV.cellsOf,AV.fine,AV.one,aQ,indexK.aggOf,simprocAttr,aZ,aU,Try.facts,hi',dT,dF,qT,qF,nT,nF,Bool.false_and,Bool.and_false]
        exact ⟨_,rfl,_,Abs.Sub.refl _,rfl,hi,fun _ _ _ h => h⟩
      · rw [addM_ins g.sort hr hh hf] at hR
        subst hR
        have hpl := placeM_le l m.clock m.author
        generalize cC l m.clock m.author = p at *
        have hcl := fun H => cloneN H l g.small
        have hi' := hi
        unfold ce at hi'
        obtain ⟨mc,ma,⟨f1,f2⟩,fb,⟨t1,t2⟩,tb,nm,vl⟩ := m
        simp only [mkC] at h0 hp ⊢
        rcases Nat.eq_zero_or_pos l.length with hl0 | hl0
        · obtain rfl : l = [] := List.length_eq_zero_iff.1 hl0
          rw [mksN_nil] at hi' hcl
          refine ao (c := ⟨Try.prog,40,[(10,[0,0,0,0,0,2,0,0,2,2,0,0,2]),(1000000,[3])],[1000036,4000033,4000037],[(10,(.op 0 0 (.op 1 0 (.op 2 0 (.op 3 0 (.op 6 0 (.op 7 0 (.or (.op 4 2 (.or (.op 5 2 (.op 8 2 (.op 9 2 (.op 10 0 (.op 11 0 (.op 12 2 .nil)))))) (.op 8 2 (.op 5 2 (.op 9 2 (.op 10 0 (.op 11 0 (.op 12 2 .nil)))))))) (.op 8 2 (.op 4 2 (.op 5 2 (.op 9 2 (.op 10 0 (.op 11 0 (.op 12 2 .nil)))))))))))))))]⟩) (rs := [ResultVar.tmp 4]) Try.mixed Try.func101 rfl rfl rfl (Nat.le_of_ble_eq_true rfl) (by kernel_rfl) ?_
          simp (disch := omega) only [↓aI,aD,aG,ixA,aX,aV,ag,aT,ae,mkA,ab,bnd,aS,aH,aK,cvO,aJ,aY,↓aO,aW,aE,aF,aM,aA,aC,aB,aN,ad,frz,aR,aL,AV.cellsOf,AV.fine,AV.one,aQ,indexK.aggOf,simprocAttr,aZ,aU,Try.facts]
          intro k hk0 hk
          simp (disch := omega) only [↓aI,aD,aG,ixA,aX,aV,ag,aT,ae,mkA,ab,bnd,aS,aH,aK,cvO,aJ,aY,↓aO,aW,aE,aF,aM,aA,aC,aB,aN,ad,frz,aR,aL,AV.cellsOf,AV.fine,AV.one,aQ,indexK.aggOf,simprocAttr,aZ,aU,Try.facts,aj hk]
          refine CallK.p h0 ?_
          simp (disch := omega) only [↓aI,aD,aG,ixA,aX,aV,ag,aT,ae,mkA,ab,bnd,aS,aH,aK,cvO,aJ,aY,↓aO,aW,aE,aF,aM,aA,aC,aB,aN,ad,frz,aR,aL,AV.cellsOf,AV.fine,AV.one,aQ,indexK.aggOf,simprocAttr,aZ,aU,Try.facts,aj hk]
          refine CallK.i hp ?_
          rintro v E ⟨rfl,rfl⟩
          obtain rfl : p = 0 := by simpa using hpl
          have hfin : eM (du [] 0 (⟨mc,ma,(f1,f2),fb,(t1,t2),tb,nm,vl⟩ : Mk)) = mksN (du [] 0 (⟨mc,ma,(f1,f2),fb,(t1,t2),tb,nm,vl⟩ : Mk)) := (dH (by simp [du])).symm
          simp (disch := omega) only [↓aI,aD,aG,ixA,aX,aV,ag,aT,ae,mkA,ab,bnd,aS,aH,aK,cvO,aJ,aY,↓aO,aW,aE,aF,aM,aA,aC,aB,aN,ad,frz,aR,aL,AV.cellsOf,AV.fine,AV.one,aQ,indexK.aggOf,simprocAttr,aZ,aU,Try.facts,hi',dT,dF,qT,qF,nT,nF,Bool.false_and,Bool.and_false]
          refine eI (fun σ F => F hb = some (ce (du [] 0 (⟨mc,ma,(f1,f2),fb,(t1,t2),tb,nm,vl⟩ : Mk))) ∧ ∀ y o,y ≠ hb → E y = some o → F y = some o) ?_ ?_
          · simp (disch := omega) only [↓aI,aD,aG,ixA,aX,aV,ag,aT,ae,mkA,ab,bnd,aS,aH,aK,cvO,aJ,aY,↓aO,aW,aE,aF,aM,aA,aC,aB,aN,ad,frz,aR,aL,AV.cellsOf,AV.fine,AV.one,aQ,indexK.aggOf,simprocAttr,aZ,aU,Try.facts,hi',dT,dF,qT,qF,nT,nF,Bool.false_and,Bool.and_false]
            have hfin : ∀ (kv : Nat) (E3 : AH),E kv = none → (∀ y o,(E.set kv (.cells (mkC ⟨mc,ma,(f1,f2),fb,(t1,t2),tb,nm,vl⟩) 82 10)) y = some o → E3 y = some o) → E3 hb = some (.cells [.sc (.slice none 0 0)] 158 1) ∧ (E3.set hb (.cells [eM [⟨mc,ma,(f1,f2),fb,(t1,t2),tb,nm,vl⟩]] 158 1)) hb = some (ce (du [] 0 ⟨mc,ma,(f1,f2),fb,(t1,t2),tb,nm,vl⟩)) ∧ ∀ y o,y ≠ hb → E y = some o → (E3.set hb (.cells [eM [⟨mc,ma,(f1,f2),fb,(t1,t2),tb,nm,vl⟩]] 158 1)) y = some o := fun kv E3 h1 fr => by
              refine ⟨fr _ _ (by rw [aP (bA hi' h1)]; exact hi'),by rw [set_get,ce,dH (by simp [du])]; rfl,fun y o hy ho => ?_⟩
              rw [aP hy]
              exact fr _ _ (by rw [aP (bA ho h1)]; exact ho)
            refine ⟨⟨?_,?_⟩,?_⟩
            · refine CallK.i (hcl _) ?_
              rintro v E2 (⟨-,rfl,rfl⟩ | ⟨h,-⟩)
              · simp (disch := omega) only [↓aI,aD,aG,ixA,aX,aV,ag,aT,ae,mkA,ab,bnd,aS,aH,aK,cvO,aJ,aY,↓aO,aW,aE,aF,aM,aA,aC,aB,aN,ad,frz,aR,aL,AV.cellsOf,AV.fine,AV.one,aQ,indexK.aggOf,simprocAttr,aZ,aU,Try.facts,hi',dT,dF,qT,qF,nT,nF,Bool.false_and,Bool.and_false]
                intro kv hkv0 hkv
                try simp (disch := omega) only [↓aI,aD,aG,ixA,aX,aV,ag,aT,ae,mkA,ab,bnd,aS,aH,aK,cvO,aJ,aY,↓aO,aW,aE,aF,aM,aA,aC,aB,aN,ad,frz,aR,aL,AV.cellsOf,AV.fine,AV.one,aQ,indexK.aggOf,simprocAttr,aZ,aU,Try.facts,hi',dT,dF,qT,qF,nT,nF,Bool.false_and,Bool.and_false]
                refine CallK.i (insert_nil _ kv ⟨mc,ma,(f1,f2),fb,(t1,t2),tb,nm,vl⟩ set_get) ?_
                rintro v E3 ⟨rfl,fr⟩
                obtain ⟨g1,g2,g3⟩ := hfin kv E3 hkv fr
                simp (disch := omega) only [↓aI,aD,aG,ixA,aX,aV,ag,aT,ae,mkA,ab,bnd,aS,aH,aK,cvO,aJ,aY,↓aO,aW,aE,aF,aM,aA,aC,aB,aN,ad,frz,aR,aL,AV.cellsOf,AV.fine,AV.one,aQ,indexK.aggOf,simprocAttr,aZ,aU,Try.facts,g1,ah]
                exact ⟨set_get.symm.trans g2,g3⟩
              · simp at h
            all_goals
              intro kv hkv0 hkv
              have n1 := bA hi' hkv
              try simp (disch := omega) only [↓aI,aD,aG,ixA,aX,aV,ag,aT,ae,mkA,ab,bnd,aS,aH,aK,cvO,aJ,aY,↓aO,aW,aE,aF,aM,aA,aC,aB,aN,ad,frz,aR,aL,AV.cellsOf,AV.fine,AV.one,aQ,indexK.aggOf,simprocAttr,aZ,aU,Try.facts,hi',dT,dF,qT,qF,nT,nF,Bool.false_and,Bool.and_false,aP,n1]
              refine CallK.i (hcl _) ?_
              rintro v E2 (⟨-,rfl,rfl⟩ | ⟨h,-⟩)
              · simp (disch := omega) only [↓aI,aD,aG,ixA,aX,aV,ag,aT,ae,mkA,ab,bnd,aS,aH,aK,cvO,aJ,aY,↓aO,aW,aE,aF,aM,aA,aC,aB,aN,ad,frz,aR,aL,AV.cellsOf,AV.fine,AV.one,aQ,indexK.aggOf,simprocAttr,aZ,aU,Try.facts,hi',dT,dF,qT,qF,nT,nF,Bool.false_and,Bool.and_false]
                refine CallK.i (insert_nil _ kv ⟨mc,ma,(f1,f2),fb,(t1,t2),tb,nm,vl⟩ set_get) ?_
                rintro v E3 ⟨rfl,fr⟩
                obtain ⟨g1,g2,g3⟩ := hfin kv E3 hkv fr
                simp (disch := omega) only [↓aI,aD,aG,ixA,aX,aV,ag,aT,ae,mkA,ab,bnd,aS,aH,aK,cvO,aJ,aY,↓aO,aW,aE,aF,aM,aA,aC,aB,aN,ad,frz,aR,aL,AV.cellsOf,AV.fine,AV.one,aQ,indexK.aggOf,simprocAttr,aZ,aU,Try.facts,g1,ah]
                exact ⟨set_get.symm.trans g2,g3⟩
              · simp at h
          · rintro σ F ⟨h1,h2⟩
            simp (disch := omega) only [↓aI,aD,aG,ixA,aX,aV,ag,aT,ae,mkA,ab,bnd,aS,aH,aK,cvO,aJ,aY,↓aO,aW,aE,aF,aM,aA,aC,aB,aN,ad,frz,aR,aL,AV.cellsOf,AV.fine,AV.one,aQ,indexK.aggOf,simprocAttr,aZ,aU,Try.facts]
            exact ⟨_,rfl,_,Abs.Sub.refl _,rfl,h1,h2⟩
        · rw [dH hl0] at hi' hcl
          refine ao (c := ⟨Try.prog,40,[(10,[0,0,0,0,0,2,0,0,2,2,0,0,2]),(1000000,[3])],[1000036,4000033,4000037],[(10,(.op 0 0 (.op 1 0 (.op 2 0 (.op 3 0 (.op 6 0 (.op 7 0 (.or (.op 4 2 (.or (.op 5 2 (.op 8 2 (.op 9 2 (.op 10 0 (.op 11 0 (.op 12 2 .nil)))))) (.op 8 2 (.op 5 2 (.op 9 2 (.op 10 0 (.op 11 0 (.op 12 2 .nil)))))))) (.op 8 2 (.op 4 2 (.op 5 2 (.op 9 2 (.op 10 0 (.op 11 0 (.op 12 2 .nil)))))))))))))))]⟩) (rs := [ResultVar.tmp 4]) Try.mixed Try.func101 rfl rfl rfl (Nat.le_of_ble_eq_true rfl) (by kernel_rfl) ?_
          simp (disch := omega) only [↓aI,aD,aG,ixA,aX,aV,ag,aT,ae,mkA,ab,bnd,aS,aH,aK,cvO,aJ,aY,↓aO,aW,aE,aF,aM,aA,aC,aB,aN,ad,frz,aR,aL,AV.cellsOf,AV.fine,AV.one,aQ,indexK.aggOf,simprocAttr,aZ,aU,Try.facts]
          intro k hk0 hk
          simp (disch := omega) only [↓aI,aD,aG,ixA,aX,aV,ag,aT,ae,mkA,ab,bnd,aS,aH,aK,cvO,aJ,aY,↓aO,aW,aE,aF,aM,aA,aC,aB,aN,ad,frz,aR,aL,AV.cellsOf,AV.fine,AV.one,aQ,indexK.aggOf,simprocAttr,aZ,aU,Try.facts,aj hk]
          refine CallK.p h0 ?_
          simp (disch := omega) only [↓aI,aD,aG,ixA,aX,aV,ag,aT,ae,mkA,ab,bnd,aS,aH,aK,cvO,aJ,aY,↓aO,aW,aE,aF,aM,aA,aC,aB,aN,ad,frz,aR,aL,AV.cellsOf,AV.fine,AV.one,aQ,indexK.aggOf,simprocAttr,aZ,aU,Try.facts,aj hk]
          refine CallK.i hp ?_
          rintro v E ⟨rfl,rfl⟩
          simp (disch := omega) only [↓aI,aD,aG,ixA,aX,aV,ag,aT,ae,mkA,ab,bnd,aS,aH,aK,cvO,aJ,aY,↓aO,aW,aE,aF,aM,aA,aC,aB,aN,ad,frz,aR,aL,AV.cellsOf,AV.fine,AV.one,aQ,indexK.aggOf,simprocAttr,aZ,aU,Try.facts,hi',dT,dF,qT,qF,nT,nF,Bool.false_and,Bool.and_false]
          refine eI (fun σ F => F hb = some (ce (du l p (⟨mc,ma,(f1,f2),fb,(t1,t2),tb,nm,vl⟩ : Mk))) ∧ ∀ y o,y ≠ hb → E y = some o → F y = some o) ?_ ?_
          · simp (disch := omega) only [↓aI,aD,aG,ixA,aX,aV,ag,aT,ae,mkA,ab,bnd,aS,aH,aK,cvO,aJ,aY,↓aO,aW,aE,aF,aM,aA,aC,aB,aN,ad,frz,aR,aL,AV.cellsOf,AV.fine,AV.one,aQ,indexK.aggOf,simprocAttr,aZ,aU,Try.facts,hi',dT,dF,qT,qF,nT,nF,Bool.false_and,Bool.and_false]
            have hfin : ∀ (k' : Nat) (E2 E3 : AH),E k' = none → Abs.Sub E E2 → (∀ y o,y ≠ k' → E2 y = some o → E3 y = some o) → E3 hb = some (.cells [eM l] 158 1) ∧ (E3.set hb (.cells [.imm 0 (bE (du l p ⟨mc,ma,(f1,f2),fb,(t1,t2),tb,nm,vl⟩)) (l.length + 1)] 158 1)) hb = some (ce (du l p ⟨mc,ma,(f1,f2),fb,(t1,t2),tb,nm,vl⟩)) ∧ ∀ y o,y ≠ hb → E y = some o → (E3.set hb (.cells [.imm 0 (bE (du l p ⟨mc,ma,(f1,f2),fb,(t1,t2),tb,nm,vl⟩)) (l.length + 1)] 158 1)) y = some o := fun k' E2 E3 h1 hs fr => by
              refine ⟨fr _ _ (bA hi' h1) (hs _ _ hi'),?_,fun y o hy ho => ?_⟩
              · have hln := insM_length l p ⟨mc,ma,(f1,f2),fb,(t1,t2),tb,nm,vl⟩ hpl
                rw [set_get,ce,dH (by omega),eM,hln]
              · rw [aP hy]
                exact fr _ _ (bA ho h1) (hs _ _ ho)
            refine ⟨⟨?_,?_⟩,?_⟩
            · refine CallK.i (hcl _) ?_
              rintro v E2 (⟨h,-⟩ | ⟨-,k',rfl,hk'0,hk',hc',hs⟩)
              · rw [h] at hl0; simp at hl0
              · simp (disch := omega) only [↓aI,aD,aG,ixA,aX,aV,ag,aT,ae,mkA,ab,bnd,aS,aH,aK,cvO,aJ,aY,↓aO,aW,aE,aF,aM,aA,aC,aB,aN,ad,frz,aR,aL,AV.cellsOf,AV.fine,AV.one,aQ,indexK.aggOf,simprocAttr,aZ,aU,Try.facts,hi',dT,dF,qT,qF,nT,nF,Bool.false_and,Bool.and_false]
                intro kv hkv0 hkv
                have n2 := bA hc' hkv
                try simp (disch := omega) only [↓aI,aD,aG,ixA,aX,aV,ag,aT,ae,mkA,ab,bnd,aS,aH,aK,cvO,aJ,aY,↓aO,aW,aE,aF,aM,aA,aC,aB,aN,ad,frz,aR,aL,AV.cellsOf,AV.fine,AV.one,aQ,indexK.aggOf,simprocAttr,aZ,aU,Try.facts,hi',dT,dF,qT,qF,nT,nF,Bool.false_and,Bool.and_false]
                refine CallK.i (insert_imm _ k' kv l p ⟨mc,ma,(f1,f2),fb,(t1,t2),tb,nm,vl⟩ (Nat.le_trans g.small (by omega)) hpl (by rw [aP n2]; exact hc') set_get (fun e => n2 e.symm) hk'0) ?_
                rintro v E3 ⟨rfl,fr⟩
                obtain ⟨g1,g2,g3⟩ := hfin k' _ E3 hk' (hs.trans (Sub.set_new hkv)) fr
                simp (disch := omega) only [↓aI,aD,aG,ixA,aX,aV,ag,aT,ae,mkA,ab,bnd,aS,aH,aK,cvO,aJ,aY,↓aO,aW,aE,aF,aM,aA,aC,aB,aN,ad,frz,aR,aL,AV.cellsOf,AV.fine,AV.one,aQ,indexK.aggOf,simprocAttr,aZ,aU,Try.facts,g1,ah]
                exact ⟨set_get.symm.trans g2,g3⟩
            all_goals
              intro kv hkv0 hkv
              have n1 := bA hi' hkv
              try simp (disch := omega) only [↓aI,aD,aG,ixA,aX,aV,ag,aT,ae,mkA,ab,bnd,aS,aH,aK,cvO,aJ,aY,↓aO,aW,aE,aF,aM,aA,aC,aB,aN,ad,frz,aR,aL,AV.cellsOf,AV.fine,AV.one,aQ,indexK.aggOf,simprocAttr,aZ,aU,Try.facts,hi',dT,dF,qT,qF,nT,nF,Bool.false_and,Bool.and_false,aP,n1]
              refine CallK.i (hcl _) ?_
              rintro v E2 (⟨h,-⟩ | ⟨-,k',rfl,hk'0,hk',hc',hs⟩)
              · rw [h] at hl0; simp at hl0
              · have hkv2 := hs kv _ set_get
                have n2 := bK hk'
                simp (disch := omega) only [↓aI,aD,aG,ixA,aX,aV,ag,aT,ae,mkA,ab,bnd,aS,aH,aK,cvO,aJ,aY,↓aO,aW,aE,aF,aM,aA,aC,aB,aN,ad,frz,aR,aL,AV.cellsOf,AV.fine,AV.one,aQ,indexK.aggOf,simprocAttr,aZ,aU,Try.facts,hi',dT,dF,qT,qF,nT,nF,Bool.false_and,Bool.and_false]
                refine CallK.i (insert_imm _ k' kv l p ⟨mc,ma,(f1,f2),fb,(t1,t2),tb,nm,vl⟩ (Nat.le_trans g.small (by omega)) hpl hc' hkv2 n2 hk'0) ?_
                rintro v E3 ⟨rfl,fr⟩
                obtain ⟨g1,g2,g3⟩ := hfin k' _ E3 (am hk') ((Sub.set_new hkv).trans hs) fr
                simp (disch := omega) only [↓aI,aD,aG,ixA,aX,aV,ag,aT,ae,mkA,ab,bnd,aS,aH,aK,cvO,aJ,aY,↓aO,aW,aE,aF,aM,aA,aC,aB,aN,ad,frz,aR,aL,AV.cellsOf,AV.fine,AV.one,aQ,indexK.aggOf,simprocAttr,aZ,aU,Try.facts,g1,ah]
                exact ⟨set_get.symm.trans g2,g3⟩
          · rintro σ F ⟨h1,h2⟩
            simp (disch := omega) only [↓aI,aD,aG,ixA,aX,aV,ag,aT,ae,mkA,ab,bnd,aS,aH,aK,cvO,aJ,aY,↓aO,aW,aE,aF,aM,aA,aC,aB,aN,ad,frz,aR,aL,AV.cellsOf,AV.fine,AV.one,aQ,indexK.aggOf,simprocAttr,aZ,aU,Try.facts]
            exact ⟨_,rfl,_,Abs.Sub.refl _,rfl,h1,h2⟩
end Go.Proofs.Ytimonfakmadhpaa
end
