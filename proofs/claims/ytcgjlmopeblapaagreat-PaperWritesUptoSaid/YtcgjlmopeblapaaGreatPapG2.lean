/-
  Several texts in one: each says what it proves.
  Conditions: none. Lemmas only.
-/
import Derived.Test.YtcgjlmopeblapaaGreatPapG1
import Derived.Test.YtcgjlmopeblapaaGreatMarG2
import Derived.Test.YtcgjlmopeblapaaGreatFugG5
set_option linter.all false
section
set_option linter.unusedSimpArgs false
set_option linter.unusedVariables false
set_option maxRecDepth 8000
set_option maxHeartbeats 4000000
namespace Go.Proofs.YtcgjlmopeblapaaGreat
open Go Go.Abs Go.Proofs Go.Fug
structure PS where
  I : List Ins
  D : List EId
  W : List Ins
  L : List Ins
  G : List EId
  l : List Mk
def ps0 : PS := ⟨[],[],[],[],[],[]⟩
def eQ (I : List Ins) : List (AV × AV) := I.map fun i => (idV i.id,.agg (cA i))
def oneE (D : List EId) : List (AV × AV) := bP D fun _ => .sc (.int .i64 1)
def WaitV (B H : AH) (W : List Ins) (v : AV) : Prop :=
  (W = [] ∧ v = .sc (.slice none 0 0)) ∨ ∃ k o,v = .imm k (bp W) W.length ∧ k ≠ 0 ∧ B k = none ∧ H k = some o ∧ cy 52 6 o (W.length * 6)
structure PH where
  p : Nat
  mi : Nat
  md : Nat
  t : Nat
  mt : Nat
  b : Nat
abbrev papO (h : PH) (v : AV) : AObj := .cells [.mp h.mi,.mp h.md,v,.ptr h.t 0,.ptr h.b 0] 70 5
structure IsP (B H : AH) (h : PH) (s : PS) : Prop where
  sub : Abs.Sub B H
  f : B h.p = none ∧ B h.mi = none ∧ B h.md = none ∧ B h.t = none ∧ B h.mt = none ∧ B h.b = none
  ne : ¬ h.mi = h.md ∧ ¬ h.mi = h.mt ∧ ¬ h.md = h.mt
  pw : ∃ v,H h.p = some (papO h v) ∧ WaitV B H s.W v
  mi : H h.mi = some (.map (eQ s.I))
  md : H h.md = some (.map (oneE s.D))
  t : IsT H h.t h.mt s.L s.G
  b : H h.b = some (ce s.l)
  g : GoodM s.l
  nd : (s.I.map (·.id)).Nodup
  dd : s.D.Nodup
  big : s.I.length ≤ 8192 ∧ s.D.length ≤ 8192 ∧ s.W.length ≤ s.I.length
theorem insE_length (I : List Ins) : (eQ I).length = I.length := List.length_map _
theorem oneE_length (D : List EId) : (oneE D).length = D.length := by rw [oneE,bP,List.length_map]
theorem find_ins (x : EId) : ∀ (I : List Ins) (i : Nat),(cY Tryz.prog 50 (idV x) (eQ I) i = some none ∧ x ∉ I.map (·.id)) ∨ ∃ j v,cY Tryz.prog 50 (idV x) (eQ I) i = some (some (j,v)) ∧ x ∈ I.map (·.id)
  | [],i => .inl ⟨rfl,by simp⟩
  | y :: I,i => by
    have ih := find_ins x I (i + 1)
    unfold eQ at ih ⊢
    simp only [List.map_cons,cY]
    rw [Tryz.eq50]
    by_cases hxy : x = y.id
    · subst hxy
      exact .inr ⟨i,.agg (cA y),by simp,by simp⟩
    · have h1 : ((x.1 == y.id.1) && ((x.2 == y.id.2) && true)) = false := by
        rw [Bool.eq_false_iff]
        intro h
        simp only [Bool.and_eq_true,beq_iff_eq,and_true] at h
        exact hxy (Prod.ext h.1 h.2)
      rw [h1]
      simp only [List.mem_cons,hxy,false_or]
      exact ih
def cf (s : PS) (o : Opn) : Bool := if o.kind = 1 then decide (o.ins.id ∈ s.I.map (·.id)) else if o.kind = 2 then decide (o.drop ∈ s.D) else hasM s.l o.mar.clock o.mar.author
theorem knows_live (B H : AH) (h : PH) (s : PS) (o : Opn) (p : IsP B H h s) : ACalls Tryz.prog 47 [.ptr h.p 0,.agg (opC o)] H fun v H' => v = .sc (.bool (opR o && cf s o)) ∧ H' = H := by
  have hr := pright_pure o
  obtain ⟨v,vp,hw⟩ := p.pw
  have vmi := p.mi
  have vmd := p.md
  have hbh := bhas_live H h.b s.l o.mar.clock o.mar.author p.b p.g
  have f1 := find_ins o.ins.id s.I 0
  have f2 := cE (fun _ => .sc (.int .i64 1)) o.drop s.D 0
  have hB : cf s o = if o.kind = 1 then decide (o.ins.id ∈ s.I.map (·.id)) else if o.kind = 2 then decide (o.drop ∈ s.D) else hasM s.l o.mar.clock o.mar.author := rfl
  have hk : opR o = true → o.kind = 1 ∨ o.kind = 2 ∨ o.kind = 3 := fun h => by
    unfold opR at h
    by_cases k1 : o.kind = 1
    · exact .inl k1
    · by_cases k2 : o.kind = 2
      · exact .inr (.inl k2)
      · by_cases k3 : o.kind = 3
        · exact .inr (.inr k3)
        · rw [if_neg k1,if_neg k2,if_neg k3] at h; cases h
  generalize cf s o = B0 at *
  generalize opR o = r at *
  change H h.md = some (.map (bP s.D _)) at vmd
  generalize eQ s.I = EI at *
  generalize bP s.D _ = ED at *
  obtain ⟨kd,⟨⟨a,c⟩,⟨pa,pc⟩,ri,ru⟩,⟨x,y⟩,⟨mc,ma,⟨g1,g2⟩,fb,⟨t1,t2⟩,tb,nm,vl⟩⟩ := o
  simp only [] at hbh f1 f2 hB hk
  simp only [opC] at hr ⊢
  refine ao (c := ⟨Tryz.prog,52,[(7,[0,0,0,1,0,0,1,1,0,0,0,0]),(9,[0,0,0,1,0,1,1,0,0,0,0]),(5,[0,0,0,1,0,0,1,0,0,1,2,0]),(1000000,[3])],[],[]⟩) (rs := [ResultVar.tmp 4]) Tryz.mixed Tryz.func47 rfl rfl rfl (Nat.le_of_ble_eq_true rfl) (by kernel_rfl) ?_
  simp (disch := omega) only [↓aI,↓zP,aD,zD,aS,simprocAttr,Tryz.facts]
  intro k hk0 hkf
  cases r
  · simp (disch := omega) only [↓aI,↓zP,aD,zD,aS,simprocAttr,Tryz.facts,aj hkf,ah]
    refine CallK.p hr ?_
    simp (disch := omega) only [↓aI,↓zP,aD,zD,aS,simprocAttr,Tryz.facts]
    exact ⟨_,rfl,_,Abs.Sub.refl _,rfl,rfl⟩
  · simp (disch := omega) only [↓aI,↓zP,aD,zD,aS,simprocAttr,Tryz.facts,aj hkf,ah]
    refine CallK.p hr ?_
    rcases hk rfl with rfl | rfl | rfl
    · rw [if_pos rfl] at hB
      rcases f1 with ⟨f1,hin⟩ | ⟨j,w,f1,hin⟩
      · rw [decide_eq_false hin] at hB
        subst hB
        simp (disch := omega) only [↓aI,↓zP,aD,zD,aS,simprocAttr,Tryz.facts,vp,vmi,f1]
        exact ⟨_,rfl,_,Abs.Sub.refl _,rfl,rfl⟩
      · rw [decide_eq_true hin] at hB
        subst hB
        simp (disch := omega) only [↓aI,↓zP,aD,zD,aS,simprocAttr,Tryz.facts,vp,vmi,f1]
        exact ⟨_,rfl,_,Abs.Sub.refl _,rfl,rfl⟩
    · rw [if_neg (by decide),if_pos rfl] at hB
      by_cases hin : ((x,y) : EId) ∈ s.D
      · rw [if_pos hin] at f2
        rw [decide_eq_true hin] at hB
        subst hB
        simp (disch := omega) only [↓aI,↓zP,aD,zD,aS,simprocAttr,Tryz.facts,vp,vmd,f2]
        exact ⟨_,rfl,_,Abs.Sub.refl _,rfl,rfl⟩
      · rw [if_neg hin] at f2
        rw [decide_eq_false hin] at hB
        subst hB
        simp (disch := omega) only [↓aI,↓zP,aD,zD,aS,simprocAttr,Tryz.facts,vp,vmd,f2]
        exact ⟨_,rfl,_,Abs.Sub.refl _,rfl,rfl⟩
    · rw [if_neg (by decide),if_neg (by decide)] at hB
      subst hB
      simp (disch := omega) only [↓aI,↓zP,aD,zD,aS,simprocAttr,Tryz.facts,vp]
      refine CallK.i hbh ?_
      rintro v E ⟨rfl,rfl⟩
      simp (disch := omega) only [↓aI,↓zP,aD,zD,aS,simprocAttr,Tryz.facts]
      exact ⟨_,rfl,_,Abs.Sub.refl _,rfl,rfl⟩
end Go.Proofs.YtcgjlmopeblapaaGreat
end
section
set_option linter.unusedSimpArgs false
set_option linter.unusedVariables false
set_option maxRecDepth 8000
set_option maxHeartbeats 4000000
namespace Go.Proofs.YtcgjlmopeblapaaGreat
open Go Go.Abs Go.Proofs Go.Fug
def dK (s : PS) (o : Opn) : PS :=
  if o.kind = 1 then { s with I := s.I ++ [o.ins],W := s.W ++ [o.ins] }
  else if o.kind = 2 then { s with D := s.D ++ [o.drop],G := (dropG s.L s.G o.drop).1 }
  else { s with l := (eU s.l o.mar).1 }
theorem IsP.apart {B H : AH} {h : PH} {s : PS} (p : IsP B H h s) : (¬ h.p = h.mi ∧ ¬ h.p = h.md ∧ ¬ h.p = h.t ∧ ¬ h.p = h.mt ∧ ¬ h.p = h.b) ∧ (¬ h.t = h.mi ∧ ¬ h.t = h.md ∧ ¬ h.t = h.mt ∧ ¬ h.t = h.b) ∧ (¬ h.b = h.mi ∧ ¬ h.b = h.md ∧ ¬ h.b = h.mt) := by
  obtain ⟨v,vp,-⟩ := p.pw
  have v1 := p.mi
  have v2 := p.md
  have v3 := p.t.hi
  have v4 := p.t.hm
  have v5 := p.b
  refine ⟨⟨?_,?_,?_,?_,?_⟩,⟨?_,?_,?_,?_⟩,?_,?_,?_⟩
  all_goals
    intro e
    simp only [e] at *
    simp_all
theorem IsP.wk {B H : AH} {h : PH} {s : PS} (p : IsP B H h s) {k : Nat} {o : AObj} {n : Nat} (hk : H k = some o) (ho : cy 52 6 o n) : ¬ k = h.p ∧ ¬ k = h.mi ∧ ¬ k = h.md ∧ ¬ k = h.t ∧ ¬ k = h.mt ∧ ¬ k = h.b := by
  obtain ⟨v,vp,-⟩ := p.pw
  have v1 := p.mi
  have v2 := p.md
  have v3 := p.t.hi
  have v4 := p.t.hm
  have v5 := p.b
  have ho' : (∀ cs e z,o ≠ .cells cs e z) ∧ ∀ es,o ≠ .map es := by
    unfold cy at ho
    refine ⟨fun cs e z he => ?_,fun es he => ?_⟩
    all_goals
      rcases ho with h1 | ⟨-,h1⟩
      all_goals
        rw [h1] at he
        cases he
  refine ⟨?_,?_,?_,?_,?_,?_⟩
  all_goals
    intro e
    subst e
  · rw [vp] at hk; exact ho'.1 _ _ _ (Option.some.inj hk).symm
  · rw [v1] at hk; exact ho'.2 _ (Option.some.inj hk).symm
  · rw [v2] at hk; exact ho'.2 _ (Option.some.inj hk).symm
  · rw [v3] at hk; exact ho'.1 _ _ _ (Option.some.inj hk).symm
  · rw [v4] at hk; exact ho'.2 _ (Option.some.inj hk).symm
  · rw [v5] at hk; exact ho'.1 _ _ _ (Option.some.inj hk).symm
theorem IsP.wait' {B H H' : AH} {h : PH} {s : PS} (p : IsP B H h s) {W : List Ins} {v : AV} {kk : Nat} (hp : H' h.p = some (papO h v)) (hw : WaitV B H' W v) (hW : W.length ≤ s.I.length)
    (hkk : B kk = none) (he : ∀ y,¬ y = h.p → B y ≠ none ∨ y = h.mi ∨ y = h.md ∨ y = h.t ∨ y = h.mt ∨ y = h.b → H' y = H y) : IsP B H' h { s with W := W } := by
  obtain ⟨⟨a1,a2,a3,a4,a5⟩,⟨b1,b2,b3,b4⟩,c1,c2,c3⟩ := p.apart
  have hb := p.f
  refine ⟨fun y o hy => ?_,p.f,p.ne,⟨v,hp,hw⟩,?_,?_,?_,?_,p.g,p.nd,p.dd,p.big.1,p.big.2.1,hW⟩
  · rw [he y (fun e => by rw [e,hb.1] at hy; cases hy) (.inl (by rw [hy]; simp))]
    exact p.sub y o hy
  · rw [he _ (fun e => a1 e.symm) (by simp)]; exact p.mi
  · rw [he _ (fun e => a2 e.symm) (by simp)]; exact p.md
  · refine ⟨?_,⟨p.t.ord,p.t.perm,?_⟩,p.t.g,p.t.gs,p.t.gn,p.t.small⟩
    · rw [he _ (fun e => a3 e.symm) (by simp)]; exact p.t.hi
    · rw [he _ (fun e => a4 e.symm) (by simp)]; exact p.t.hm
  · rw [he _ (fun e => a5 e.symm) (by simp)]; exact p.b
theorem IsP.mono {B H H' : AH} {h : PH} {s : PS} (p : IsP B H h s) (hs : Abs.Sub H H') : IsP B H' h s := by
  obtain ⟨v,vp,hw⟩ := p.pw
  refine ⟨p.sub.trans hs,p.f,p.ne,⟨v,hs _ _ vp,?_⟩,hs _ _ p.mi,hs _ _ p.md,p.t.mono hs,hs _ _ p.b,p.g,p.nd,p.dd,p.big⟩
  rcases hw with h1 | ⟨k,o,h1,h2,h3,h4,h5⟩
  · exact .inl h1
  · exact .inr ⟨k,o,h1,h2,h3,hs _ _ h4,h5⟩
theorem insE_snoc (I : List Ins) (i : Ins) : eQ I ++ [(idV i.id,.agg (cA i))] = eQ (I ++ [i]) := by simp [eQ]
theorem oneE_snoc (D : List EId) (x : EId) : oneE D ++ [(idV x,.sc (.int .i64 1))] = oneE (D ++ [x]) := by simp [oneE,bP]
theorem IsP.ins {B H : AH} {h : PH} {s : PS} (p : IsP B H h s) {i : Ins} (hn : i.id ∉ s.I.map (·.id)) (hI : s.I.length < 8192) : IsP B (H.set h.mi (.map (eQ (s.I ++ [i])))) h { s with I := s.I ++ [i] } := by
  obtain ⟨⟨a1,a2,a3,a4,a5⟩,⟨b1,b2,b3,b4⟩,c1,c2,c3⟩ := p.apart
  obtain ⟨n1,n2,n3⟩ := p.ne
  obtain ⟨v,vp,hw⟩ := p.pw
  refine ⟨p.sub.set_free p.f.2.1,p.f,p.ne,⟨v,by rw [aP a1]; exact vp,?_⟩,set_get,by rw [aP (fun e => n1 e.symm)]; exact p.md,p.t.put b1 (fun e => n2 e.symm),by rw [aP c1]; exact p.b,p.g,?_,p.dd,by simp; omega,p.big.2.1,by have := p.big.2.2; simp; omega⟩
  · rcases hw with h1 | ⟨k,o,h1,h2,h3,h4,h5⟩
    · exact .inl h1
    · exact .inr ⟨k,o,h1,h2,h3,by rw [aP (p.wk h4 h5).2.1]; exact h4,h5⟩
  · rw [List.map_append,List.map_cons,List.map_nil,List.nodup_append]
    exact ⟨p.nd,by simp,by intro a ha b hb; simp only [List.mem_singleton] at hb; subst hb; exact fun e => hn (e ▸ ha)⟩
theorem IsP.drp {B H : AH} {h : PH} {s : PS} (p : IsP B H h s) {x : EId} (hn : x ∉ s.D) (hD : s.D.length < 8192) : IsP B (H.set h.md (.map (oneE (s.D ++ [x])))) h { s with D := s.D ++ [x] } := by
  obtain ⟨⟨a1,a2,a3,a4,a5⟩,⟨b1,b2,b3,b4⟩,c1,c2,c3⟩ := p.apart
  obtain ⟨n1,n2,n3⟩ := p.ne
  obtain ⟨v,vp,hw⟩ := p.pw
  refine ⟨p.sub.set_free p.f.2.2.1,p.f,p.ne,⟨v,by rw [aP a2]; exact vp,?_⟩,by rw [aP n1]; exact p.mi,set_get,p.t.put b2 (fun e => n3 e.symm),by rw [aP c2]; exact p.b,p.g,p.nd,?_,p.big.1,by simp; omega,p.big.2.2⟩
  · rcases hw with h1 | ⟨k,o,h1,h2,h3,h4,h5⟩
    · exact .inl h1
    · exact .inr ⟨k,o,h1,h2,h3,by rw [aP (p.wk h4 h5).2.2.1]; exact h4,h5⟩
  · rw [List.nodup_append]
    exact ⟨p.dd,by simp,by intro a ha b hb; simp only [List.mem_singleton] at hb; subst hb; exact fun e => hn (e ▸ ha)⟩
theorem IsP.txt {B H H' : AH} {h : PH} {s : PS} (p : IsP B H h s) {L : List Ins} {G : List EId} (t : IsT H' h.t h.mt L G) (fr : ∀ y,y ≠ h.t → y ≠ h.mt → H' y = H y) : IsP B H' h { s with L := L,G := G } := by
  obtain ⟨⟨a1,a2,a3,a4,a5⟩,⟨b1,b2,b3,b4⟩,c1,c2,c3⟩ := p.apart
  obtain ⟨n1,n2,n3⟩ := p.ne
  obtain ⟨v,vp,hw⟩ := p.pw
  have hb := p.f
  refine ⟨fun y o hy => ?_,p.f,p.ne,⟨v,by rw [fr _ a3 a4]; exact vp,?_⟩,by rw [fr _ (fun e => b1 e.symm) n2]; exact p.mi,by rw [fr _ (fun e => b2 e.symm) n3]; exact p.md,t,by rw [fr _ (fun e => b4 e.symm) c3]; exact p.b,p.g,p.nd,p.dd,p.big⟩
  · rw [fr y (bA hy hb.2.2.2.1) (bA hy hb.2.2.2.2.1)]
    exact p.sub y o hy
  · rcases hw with h1 | ⟨k,o,h1,h2,h3,h4,h5⟩
    · exact .inl h1
    · have := p.wk h4 h5
      exact .inr ⟨k,o,h1,h2,h3,by rw [fr _ this.2.2.2.1 this.2.2.2.2.1]; exact h4,h5⟩
theorem IsP.bok {B H H' : AH} {h : PH} {s : PS} (p : IsP B H h s) {l : List Mk} (g : GoodM l) (b : H' h.b = some (ce l)) (fr : ∀ y o,y ≠ h.b → H y = some o → H' y = some o) : IsP B H' h { s with l := l } := by
  obtain ⟨⟨a1,a2,a3,a4,a5⟩,⟨b1,b2,b3,b4⟩,c1,c2,c3⟩ := p.apart
  obtain ⟨v,vp,hw⟩ := p.pw
  have hb := p.f
  refine ⟨fun y o hy => fr y o (bA hy hb.2.2.2.2.2) (p.sub y o hy),p.f,p.ne,⟨v,fr _ _ a5 vp,?_⟩,fr _ _ (fun e => c1 e.symm) p.mi,fr _ _ (fun e => c2 e.symm) p.md,⟨fr _ _ b4 p.t.hi,⟨p.t.ord,p.t.perm,fr _ _ (fun e => c3 e.symm) p.t.hm⟩,p.t.g,p.t.gs,p.t.gn,p.t.small⟩,b,g,p.nd,p.dd,p.big⟩
  rcases hw with h1 | ⟨k,o,h1,h2,h3,h4,h5⟩
  · exact .inl h1
  · exact .inr ⟨k,o,h1,h2,h3,fr _ _ (p.wk h4 h5).2.2.2.2.2 h4,h5⟩
theorem IsP.fresh {B H : AH} {h : PH} {s : PS} (p : IsP B H h s) {k : Nat} (hk : H k = none) : ∀ y,(B y ≠ none ∨ y = h.mi ∨ y = h.md ∨ y = h.t ∨ y = h.mt ∨ y = h.b) → ¬ y = k := fun y hy e => by
  subst e
  rcases hy with h1 | rfl | rfl | rfl | rfl | rfl
  · exact h1 (p.sub.free hk)
  · rw [p.mi] at hk; cases hk
  · rw [p.md] at hk; cases hk
  · rw [p.t.hi] at hk; cases hk
  · rw [p.t.hm] at hk; cases hk
  · rw [p.b] at hk; cases hk
theorem IsP.wfresh {B H : AH} {h : PH} {s : PS} (p : IsP B H h s) {k : Nat} {o : AObj} {n : Nat} (hB : B k = none) (hk : H k = some o) (ho : cy 52 6 o n) : ∀ y,(B y ≠ none ∨ y = h.mi ∨ y = h.md ∨ y = h.t ∨ y = h.mt ∨ y = h.b) → ¬ y = k := fun y hy e => by
  have hw := p.wk hk ho
  subst e
  rcases hy with h1 | h1 | h1 | h1 | h1 | h1
  · exact h1 hB
  · exact hw.2.1 h1
  · exact hw.2.2.1 h1
  · exact hw.2.2.2.1 h1
  · exact hw.2.2.2.2.1 h1
  · exact hw.2.2.2.2.2 h1
theorem take_live (B H : AH) (h : PH) (s : PS) (o : Opn) (p : IsP B H h s) (hf : opR o = true) (hn : cf s o = false) (hI : s.I.length < 8192 ∧ s.D.length < 8192) :
    ACalls Tryz.prog 48 [.ptr h.p 0,.agg (opC o)] H fun v H' => IsP B H' h (dK s o) := by
  obtain ⟨⟨a1,a2,a3,a4,a5⟩,⟨b1,b2,b3,b4⟩,c1,c2,c3⟩ := p.apart
  have hk : o.kind = 1 ∨ o.kind = 2 ∨ o.kind = 3 := by
    unfold opR at hf
    by_cases k1 : o.kind = 1
    · exact .inl k1
    · by_cases k2 : o.kind = 2
      · exact .inr (.inl k2)
      · by_cases k3 : o.kind = 3
        · exact .inr (.inr k3)
        · rw [if_neg k1,if_neg k2,if_neg k3] at hf; cases hf
  obtain ⟨v,vp,hw⟩ := p.pw
  have vmi := p.mi
  have vmd := p.md
  have hil := insE_length s.I
  have hWl := bN s.W
  have hB : dK s o = if o.kind = 1 then { s with I := s.I ++ [o.ins],W := s.W ++ [o.ins] } else if o.kind = 2 then { s with D := s.D ++ [o.drop],G := (dropG s.L s.G o.drop).1 } else { s with l := (eU s.l o.mar).1 } := rfl
  generalize dK s o = S2 at *
  unfold cf at hn
  rcases hk with k1 | k2 | k3
  · rw [if_pos k1] at hB hn
    have hnin := of_decide_eq_false hn
    have f1 : cY Tryz.prog 50 (idV o.ins.id) (eQ s.I) 0 = some none := by
      rcases find_ins o.ins.id s.I 0 with ⟨h1,-⟩ | ⟨j,w,-,h2⟩
      · exact h1
      · exact absurd h2 hnin
    have p1 := p.ins hnin hI.1
    rw [← insE_snoc] at p1
    generalize eQ s.I = EI at *
    have hsn := dD s.W o.ins
    have hsl := bN (s.W ++ [o.ins])
    have hl1 : (s.W ++ [o.ins]).length = s.W.length + 1 := by simp
    obtain ⟨kd,⟨⟨a,c⟩,⟨pa,pc⟩,ri,ru⟩,⟨x,y⟩,⟨mc,ma,⟨g1,g2⟩,fb,⟨t1,t2⟩,tb,nm,vl⟩⟩ := o
    simp only [] at k1 f1 hsn hsl hl1 hB p1
    subst k1
    simp only [cA] at hsn p1
    simp only [opC]
    have hfp := p.f
    have hWI := p.big.2.2
    rcases hw with ⟨hW0,rfl⟩ | ⟨kw,ow,rfl,hkw0,hkwB,hkw,how⟩
    · rw [hW0] at hsn hl1 hsl
      simp only [List.length_nil] at hl1
      refine ao (c := ⟨Tryz.prog,50,[(4,[0,0,0,1,0,0,1,0,1,2]),(5,[0,0,0,0,1,0,1,0,2,0,0,2]),(7,[0,0,0,1,0,1,2]),(8,[0,0,0,1,0,1,2]),(2,[0,0,0,1,0,1,2]),(1000000,[3])],[],[]⟩) (rs := []) Tryz.mixed Tryz.func48 rfl rfl rfl (Nat.le_of_ble_eq_true rfl) (by kernel_rfl) ?_
      simp (disch := omega) only [↓aI,↓zP,aD,zD,aS,simprocAttr,Tryz.facts]
      intro k hk0 hkf
      simp (disch := omega) only [↓aI,↓zP,aD,zD,aS,simprocAttr,Tryz.facts,aj hkf,ah,zA,vp,vmi,f1,aP,a1]
      have v1p : (H.set h.mi (.map (EI ++ [(.agg [.sc (.int .i64 a),.sc (.int .i64 c)],.agg [.sc (.int .i64 a),.sc (.int .i64 c),.sc (.int .i64 pa),.sc (.int .i64 pc),.sc (.bool ri),.sc (.int .i32 ru)])]))) h.p = some (papO h (.sc (.slice none 0 0))) := by rw [aP a1]; exact vp
      generalize H.set h.mi _ = H1 at *
      intro k2 o2 hk20 hk2 ho2
      have n1 := bA v1p hk2
      simp (disch := omega) only [↓aI,↓zP,aD,zD,aS,simprocAttr,Tryz.facts,v1p,aP,n1,ah]
      have n2 : ¬ k2 = h.p := fun e => n1 e.symm
      refine ⟨_,rfl,_,Abs.Sub.refl _,?_⟩
      rw [hB]
      refine p1.wait' (W := s.W ++ [_]) (kk := k2) set_get (.inr ⟨k2,o2,?_,hk20,p1.sub.free hk2,by rw [aP n2,set_get],?_⟩) (by have := p.big.2.2; simp only [List.length_append,List.length_cons,List.length_nil]; omega) (p1.sub.free hk2) (fun y h1 h2 => by rw [aP h1,aP (p1.fresh hk2 y h2)])
      · rw [hW0]; rfl
      · rw [hW0]; exact ho2
    · have hw1 := p.wk hkw how
      have w1 : ¬ h.p = kw := fun e => hw1.1 e.symm
      refine ao (c := ⟨Tryz.prog,50,[(4,[0,0,0,1,0,0,1,0,1,2]),(5,[0,0,0,0,1,0,1,0,2,0,0,2]),(7,[0,0,0,1,0,1,2]),(8,[0,0,0,1,0,1,2]),(2,[0,0,0,1,0,1,2]),(1000000,[3])],[],[]⟩) (rs := []) Tryz.mixed Tryz.func48 rfl rfl rfl (Nat.le_of_ble_eq_true rfl) (by kernel_rfl) ?_
      simp (disch := omega) only [↓aI,↓zP,aD,zD,aS,simprocAttr,Tryz.facts]
      intro k hk0 hkf
      simp (disch := omega) only [↓aI,↓zP,aD,zD,aS,simprocAttr,Tryz.facts,aj hkf,ah,zA,vp,vmi,f1,aP,a1,hw1.2.1,hkw,how,hWl,hsn]
      have v1p : (H.set h.mi (.map (EI ++ [(.agg [.sc (.int .i64 a),.sc (.int .i64 c)],.agg [.sc (.int .i64 a),.sc (.int .i64 c),.sc (.int .i64 pa),.sc (.int .i64 pc),.sc (.bool ri),.sc (.int .i32 ru)])]))) h.p = some (papO h (.imm kw (bp s.W) s.W.length)) := by rw [aP a1]; exact vp
      have v1w : (H.set h.mi (.map (EI ++ [(.agg [.sc (.int .i64 a),.sc (.int .i64 c)],.agg [.sc (.int .i64 a),.sc (.int .i64 c),.sc (.int .i64 pa),.sc (.int .i64 pc),.sc (.bool ri),.sc (.int .i32 ru)])]))) kw = some ow := by rw [aP hw1.2.1]; exact hkw
      generalize H.set h.mi _ = H1 at *
      intro k2 o2 hk20 hk2 ho2
      have n1 := bA v1p hk2
      simp (disch := omega) only [↓aI,↓zP,aD,zD,aS,simprocAttr,Tryz.facts,v1p,aP,n1,bZ,w1,ah]
      have n2 : ¬ k2 = h.p := fun e => n1 e.symm
      refine ⟨_,rfl,_,Abs.Sub.refl _,?_⟩
      rw [hB]
      rw [hsl,hl1] at ho2
      refine p1.wait' (W := s.W ++ [_]) (kk := k2) set_get (.inr ⟨k2,o2,by rw [hl1],hk20,p1.sub.free hk2,by rw [aP n2,set_get],by rw [hl1]; exact ho2⟩) (by have := p.big.2.2; simp only [List.length_append,List.length_cons,List.length_nil]; omega) (p1.sub.free hk2) (fun y h1 h2 => by rw [aP h1,aP (p1.fresh hk2 y h2),bZ (p1.wfresh hkwB v1w how y h2)])
  · rw [if_neg (by rw [k2]; decide),if_pos k2] at hB hn
    have hnin := of_decide_eq_false hn
    have f2 := cE (fun _ => .sc (.int .i64 1)) o.drop s.D 0
    rw [if_neg hnin] at f2
    have p1 := p.drp hnin hI.2
    rw [← oneE_snoc] at p1
    change cY _ _ _ (oneE s.D) 0 = _ at f2
    have hdr := fun H (t : IsT H h.t h.mt s.L s.G) => drop_live H h.t h.mt s.L s.G o.drop t
    unfold DropR at hdr
    generalize oneE s.D = ED at *
    obtain ⟨kd,⟨⟨a,c⟩,⟨pa,pc⟩,ri,ru⟩,⟨x,y⟩,⟨mc,ma,⟨g1,g2⟩,fb,⟨t1,t2⟩,tb,nm,vl⟩⟩ := o
    simp only [] at k2 f2 hB p1 hdr
    subst k2
    simp only [opC]
    refine ao (c := ⟨Tryz.prog,50,[(4,[0,0,0,1,0,0,1,0,1,2]),(5,[0,0,0,0,1,0,1,0,2,0,0,2]),(7,[0,0,0,1,0,1,2]),(8,[0,0,0,1,0,1,2]),(2,[0,0,0,1,0,1,2]),(1000000,[3])],[],[]⟩) (rs := []) Tryz.mixed Tryz.func48 rfl rfl rfl (Nat.le_of_ble_eq_true rfl) (by kernel_rfl) ?_
    simp (disch := omega) only [↓aI,↓zP,aD,zD,aS,simprocAttr,Tryz.facts]
    intro k hk0 hkf
    simp (disch := omega) only [↓aI,↓zP,aD,zD,aS,simprocAttr,Tryz.facts,aj hkf,ah,zA,vp,vmd,f2,aP,a2]
    refine CallK.i (hdr _ p1.t) ?_
    rintro v H2 ⟨rfl,t2',fr⟩
    simp (disch := omega) only [↓aI,↓zP,aD,zD,aS,simprocAttr,Tryz.facts]
    refine ⟨_,rfl,_,Abs.Sub.refl _,?_⟩
    rw [hB]
    exact p1.txt t2' fr
  · rw [if_neg (by rw [k3]; decide),if_neg (by rw [k3]; decide)] at hB
    have had := badd_live H h.b s.l o.mar p.b p.g
    have hg2 := p.g.add o.mar
    obtain ⟨kd,⟨⟨a,c⟩,⟨pa,pc⟩,ri,ru⟩,⟨x,y⟩,⟨mc,ma,⟨g1,g2⟩,fb,⟨t1,t2⟩,tb,nm,vl⟩⟩ := o
    simp only [] at k3 hB had hg2
    simp only [mkC] at had
    subst k3
    simp only [opC]
    refine ao (c := ⟨Tryz.prog,50,[(4,[0,0,0,1,0,0,1,0,1,2]),(5,[0,0,0,0,1,0,1,0,2,0,0,2]),(7,[0,0,0,1,0,1,2]),(8,[0,0,0,1,0,1,2]),(2,[0,0,0,1,0,1,2]),(1000000,[3])],[],[]⟩) (rs := []) Tryz.mixed Tryz.func48 rfl rfl rfl (Nat.le_of_ble_eq_true rfl) (by kernel_rfl) ?_
    simp (disch := omega) only [↓aI,↓zP,aD,zD,aS,simprocAttr,Tryz.facts]
    intro k hk0 hkf
    simp (disch := omega) only [↓aI,↓zP,aD,zD,aS,simprocAttr,Tryz.facts,aj hkf,ah,zA,vp]
    refine CallK.i had ?_
    rintro v H2 ⟨rfl,vb,fr⟩
    simp (disch := omega) only [↓aI,↓zP,aD,zD,aS,simprocAttr,Tryz.facts]
    refine ⟨_,rfl,_,Abs.Sub.refl _,?_⟩
    rw [hB]
    exact p.bok hg2 vb fr
end Go.Proofs.YtcgjlmopeblapaaGreat
end
section
set_option linter.unusedSimpArgs false
set_option linter.unusedVariables false
set_option maxRecDepth 8000
set_option maxHeartbeats 4000000
namespace Go.Proofs.YtcgjlmopeblapaaGreat
open Go Go.Abs Go.Proofs Go.Fug
def addD (D : List EId) (r : List Ins × List EId × List Ins) (i : Ins) : List Ins × List EId × List Ins :=
  if (dR r.1 i).2 = 0 then ((dR r.1 i).1,if i.id ∈ D then (dropG (dR r.1 i).1 r.2.1 i.id).1 else r.2.1,r.2.2) else (r.1,r.2.1,r.2.2 ++ [i])
def rndP (D : List EId) (W L : List Ins) (G : List EId) : List Ins × List EId × List Ins := W.foldl (addD D) (L,G,[])
def dG (D : List EId) : Nat → List Ins → List Ins → List EId → List Ins × List EId × List Ins
  | 0,W,L,G => (L,G,W)
  | n + 1,W,L,G => if (rndP D W L G).2.2.length = W.length then rndP D W L G else dG D n (rndP D W L G).2.2 (rndP D W L G).1 (rndP D W L G).2.1
def settleP (s : PS) : PS := { s with L := (dG s.D (s.W.length + 1) s.W s.L s.G).1,G := (dG s.D (s.W.length + 1) s.W s.L s.G).2.1,W := (dG s.D (s.W.length + 1) s.W s.L s.G).2.2 }
theorem addD_len (D : List EId) (r : List Ins × List EId × List Ins) (i : Ins) : (addD D r i).2.2.length ≤ r.2.2.length + 1 := by
  unfold addD
  split
  · simp
  · simp
theorem rndP_len (D : List EId) (W L : List Ins) (G : List EId) : (rndP D W L G).2.2.length ≤ W.length := by
  have key : ∀ (W : List Ins) (r : List Ins × List EId × List Ins),(W.foldl (addD D) r).2.2.length ≤ r.2.2.length + W.length := by
    intro W
    induction W with
    | nil => intro r; simp
    | cons i W ih =>
      intro r
      rw [List.foldl_cons]
      have := ih (addD D r i)
      have := addD_len D r i
      simp only [List.length_cons]
      omega
  have := key W (L,G,[])
  simpa [rndP] using this
theorem addL_fail {L : List Ins} {i : Ins} (h : (dR L i).2 ≠ 0) : (dR L i).1 = L := by
  unfold dR at h ⊢
  split
  · rfl
  · split
    · rfl
    · split
      · rfl
      · split
        · rfl
        · rename_i h1 h2 h3 h4
          rw [if_neg h1,if_neg h2,if_neg h3,if_neg h4] at h
          exact absurd rfl h
theorem settle_live (B H : AH) (h : PH) (s : PS) (p : IsP B H h s) : ACalls Tryz.prog 49 [.ptr h.p 0] H fun v H' => IsP B H' h (settleP s) := by
  have hfin : ∀ s' : PS,s'.I = s.I → s'.D = s.D → s'.l = s.l → (s'.L,s'.G,s'.W) = dG s.D (s.W.length + 1) s.W s.L s.G → s' = settleP s := fun s' h1 h2 h3 h4 => by
    unfold settleP
    rw [← h4,← h1,← h2,← h3]
  generalize settleP s = fin at *
  refine ao (c := ⟨Tryz.prog,60,[(4,[0,0,0,1,1,2,0]),(6,[0,0,0,1,0,1,1,0,0,0,0,0]),(8,[0,0,0,1,0,1,2]),(1000003,[4]),(4000011,[0,7]),(4000010,[0,2,7]),(4000008,[0,2,11,12,13]),(4000006,[0,2,4,6,11,12,13]),(4000005,[0,2,11,12,13]),(4000004,[0,2,4,11,12,13,23]),(4000001,[0,2,11,12,13])],[],[]⟩) (rs := []) Tryz.mixed Tryz.func49 rfl rfl rfl (Nat.le_of_ble_eq_true rfl) (by kernel_rfl) ?_
  simp (disch := omega) only [↓aI,↓zP,aD,zD,aS,simprocAttr,Tryz.facts]
  refine br (c := ⟨Tryz.prog,60,[(4,[0,0,0,1,1,2,0]),(6,[0,0,0,1,0,1,1,0,0,0,0,0]),(8,[0,0,0,1,0,1,2]),(1000003,[4]),(4000011,[0,7]),(4000010,[0,2,7]),(4000008,[0,2,11,12,13]),(4000006,[0,2,4,6,11,12,13]),(4000005,[0,2,11,12,13]),(4000004,[0,2,4,11,12,13,23]),(4000001,[0,2,11,12,13])],[],[]⟩) Tryz.mixed (by kernel_rfl) (fun mm σ H' => ∃ (s1 : PS) (n : Nat),mm = s1.W.length ∧ IsP B H' h s1 ∧ s1.I = s.I ∧ s1.D = s.D ∧ s1.l = s.l ∧ s1.W.length < n ∧ dG s.D n s1.W s1.L s1.G = dG s.D (s.W.length + 1) s.W s.L s.G ∧ σ 0 = .ptr h.p 0) s.W.length ?_ ?_
  · refine ⟨s,s.W.length + 1,rfl,p,rfl,rfl,rfl,by omega,rfl,?_⟩
    try simp (disch := omega) only [↓aI,↓zP,aD,zD,aS,simprocAttr,Tryz.facts]
    try rfl
  · clear p
    rintro mm σ H' ⟨s1,n,rfl,p,e1,e2,e3,hn,hset,s0⟩
    obtain ⟨n,rfl⟩ : ∃ n',n = n' + 1 := ⟨n - 1,by omega⟩
    obtain ⟨wv,vp,hw⟩ := p.pw
    have hWl := bN s1.W
    have hlen : ∀ K : Prop → Prop,True := fun _ => trivial
    have hcase : (s1.W = [] ∧ wv = .sc (.slice none 0 0)) ∨ ∃ kw,wv = .imm kw (bp s1.W) s1.W.length := by
      rcases hw with h1 | ⟨k,o,h1,-⟩
      · exact .inl h1
      · exact .inr ⟨k,h1⟩
    rcases hcase with ⟨hW0,rfl⟩ | ⟨kw,rfl⟩
    · have hrn : rndP s.D s1.W s1.L s1.G = (s1.L,s1.G,[]) := by rw [hW0]; rfl
      have hdone : (s1.L,s1.G,([] : List Ins)) = dG s.D (s.W.length + 1) s.W s.L s.G := by
        rw [← hset]
        unfold dG
        rw [hrn,if_pos (by rw [hW0])]
      simp (disch := omega) only [↓aI,↓zP,aD,zD,aS,simprocAttr,Tryz.facts,s0,vp]
      refine tok_t 2 (by simp (disch := omega) only [↓aI,↓zP,aD,zD,aS,simprocAttr,Tryz.facts]) fun kr hkr0 hkr => ?_
      have nr := bA vp hkr
      have nr2 : ¬ kr = h.p := fun e => nr e.symm
      refine br (c := ⟨Tryz.prog,60,[(4,[0,0,0,1,1,2,0]),(6,[0,0,0,1,0,1,1,0,0,0,0,0]),(8,[0,0,0,1,0,1,2]),(1000003,[4]),(4000011,[0,7]),(4000010,[0,2,7]),(4000008,[0,2,11,12,13]),(4000006,[0,2,4,6,11,12,13]),(4000005,[0,2,11,12,13]),(4000004,[0,2,4,11,12,13,23]),(4000001,[0,2,11,12,13])],[],[]⟩) Tryz.mixed (by kernel_rfl) (fun mm σ H2 => H2 = H'.set kr .nilt ∧ σ 0 = .ptr h.p 0 ∧ σ 2 = .imm kr [] 0 ∧ σ 11 = .sc (.slice none 0 0) ∧ σ 12 = .sc (.int .i64 0) ∧ σ 13 = .sc (.int .i64 0)) 0 ?_ ?_
      · refine ⟨rfl,?_⟩
        simp (disch := omega) only [↓aI,↓zP,aD,zD,aS,simprocAttr,Tryz.facts,s0]
        try rfl
      · rintro mq σ2 H2 ⟨rfl,z0,z2,z11,z12,z13⟩
        have vp2 : (H'.set kr .nilt) h.p = some (papO h (.sc (.slice none 0 0))) := by rw [aP nr]; exact vp
        simp (disch := omega) only [↓aI,↓zP,aD,zD,aS,simprocAttr,Tryz.facts,z0,z2,z11,z12,z13,zA,vp2,ah]
        refine ⟨_,rfl,_,Abs.Sub.refl _,?_⟩
        rw [← hfin { s1 with W := [] } e1 e2 e3 hdone]
        refine p.wait' (W := []) (kk := kr) set_get (.inr ⟨kr,.nilt,rfl,hkr0,p.sub.free hkr,by rw [aP nr2,set_get],.inr ⟨rfl,rfl⟩⟩) (by simp) (p.sub.free hkr) (fun y h1 h2 => by rw [aP h1,aP (p.fresh hkr y h2)])
    · obtain ⟨kw', ow, hkw0, hkwB, hkw, how, hkwe⟩ : ∃ kw' ow, kw' ≠ 0 ∧ B kw' = none ∧ H' kw' = some ow ∧ cy 52 6 ow (s1.W.length * 6) ∧ kw = kw' := by
        rcases hw with ⟨-,h1⟩ | ⟨k,o,h1,h2,h3,h4,h5⟩
        · cases h1
        · cases h1; exact ⟨_,o,h2,h3,h4,h5,rfl⟩
      subst hkwe
      have hwk := p.wk hkw how
      have w1 : ¬ h.p = kw := fun e => hwk.1 e.symm
      have hW8 : s1.W.length ≤ 8192 := Nat.le_trans p.big.2.2 p.big.1
      simp (disch := omega) only [↓aI,↓zP,aD,zD,aS,simprocAttr,Tryz.facts,s0,vp]
      refine tok_t 2 (by simp (disch := omega) only [↓aI,↓zP,aD,zD,aS,simprocAttr,Tryz.facts]) fun kr hkr0 hkr => ?_
      have nr := bA vp hkr
      refine br (c := ⟨Tryz.prog,60,[(4,[0,0,0,1,1,2,0]),(6,[0,0,0,1,0,1,1,0,0,0,0,0]),(8,[0,0,0,1,0,1,2]),(1000003,[4]),(4000011,[0,7]),(4000010,[0,2,7]),(4000008,[0,2,11,12,13]),(4000006,[0,2,4,6,11,12,13]),(4000005,[0,2,11,12,13]),(4000004,[0,2,4,11,12,13,23]),(4000001,[0,2,11,12,13])],[],[]⟩) Tryz.mixed (by kernel_rfl) (fun mq σ2 H2 => ∃ (j : Nat) (L1 : List Ins) (G1 : List EId) (R1 : List Ins) (kr : Nat) (o : AObj),j + mq = s1.W.length ∧ (L1,G1,R1) = (s1.W.take j).foldl (addD s.D) (s1.L,s1.G,[]) ∧ R1.length ≤ j ∧ IsP B H2 h { s1 with L := L1,G := G1 } ∧ H2 h.p = some (papO h (.imm kw (bp s1.W) s1.W.length)) ∧ H2 kw = some ow ∧ kr ≠ 0 ∧ B kr = none ∧ ¬ kr = kw ∧ H2 kr = some o ∧ cy 52 6 o (R1.length * 6) ∧
        σ2 0 = .ptr h.p 0 ∧ σ2 2 = .imm kr (bp R1) R1.length ∧ σ2 11 = .imm kw (bp s1.W) s1.W.length ∧ σ2 12 = .sc (.int .i64 s1.W.length) ∧ σ2 13 = .sc (.int .i64 (j : Nat))) s1.W.length ?_ ?_
      · refine ⟨0,s1.L,s1.G,[],kr,.nilt,by omega,rfl,by simp,?_,by rw [aP nr]; exact vp,by rw [aP (bA hkw hkr)]; exact hkw,hkr0,p.sub.free hkr,fun e => bA hkw hkr e.symm,set_get,.inr ⟨rfl,rfl⟩,?_⟩
        · exact p.mono (Sub.set_new hkr)
        · simp (disch := omega) only [↓aI,↓zP,aD,zD,aS,simprocAttr,Tryz.facts,s0]
          try rfl
      · clear hkr0 hkr nr kr
        rintro mq σ2 H2 ⟨j,L1,G1,R1,kr,o,hjm,hfold,hRj,p2,vp2,vw2,hkr0,hkrB,hkrw,hkr,ho,z0,z2,z11,z12,z13⟩
        have hRl := bN R1
        have hwr := p2.wk hkr ho
        have hbg := p2.big
        by_cases hlt : j < s1.W.length
        · have hld := ei hlt
          have hle : j * 6 + 6 ≤ s1.W.length * 6 := by omega
          have ha := add_live H2 h.t h.mt L1 G1 s1.W[j] p2.t
          unfold AddR at ha
          have hdr := fun H L2 (t : IsT H h.t h.mt L2 G1) => drop_live H h.t h.mt L2 G1 s1.W[j].id t
          unfold DropR at hdr
          have hst : (s1.W.take (j + 1)).foldl (addD s.D) (s1.L,s1.G,[]) = if (dR L1 s1.W[j]).2 = 0 then ((dR L1 s1.W[j]).1,if s1.W[j].id ∈ s1.D then (dropG (dR L1 s1.W[j]).1 G1 s1.W[j].id).1 else G1,R1) else (L1,G1,R1 ++ [s1.W[j]]) := by
            rw [List.take_succ_eq_append_getElem hlt,List.foldl_append,← hfold,e2]
            rfl
          have hfail := @addL_fail L1 s1.W[j]
          have f2 := cE (fun _ => .sc (.int .i64 1)) s1.W[j].id s1.D 0
          change cY _ _ _ (oneE s1.D) 0 = _ at f2
          have vmd := p2.md
          simp only [] at vmd
          have hsn := dD R1 s1.W[j]
          have hR1l : (R1 ++ [s1.W[j]]).length = R1.length + 1 := by simp
          have hsl := bN (R1 ++ [s1.W[j]])
          generalize hR2 : R1 ++ [s1.W[j]] = R2 at *
          generalize s1.W[j] = i at *
          obtain ⟨⟨a,c⟩,⟨pa,pc⟩,ri,ru⟩ := i
          simp only [cA] at hld ha hsn
          simp only [] at f2 hdr
          generalize hA : dR L1 ⟨(a,c),(pa,pc),ri,ru⟩ = A at *
          obtain ⟨L2,er⟩ := A
          simp only [] at ha hst hfail
          simp (disch := omega) only [↓aI,↓zP,aD,zD,aS,simprocAttr,Tryz.facts,z0,z2,z11,z12,z13,zA,hld,hle,hWl]
          intro b4 hb40 hb4
          simp (disch := omega) only [↓aI,↓zP,aD,zD,aS,simprocAttr,Tryz.facts,z0,z2,z11,z12,z13,zA,aj hb4,ah,vp2]
          refine CallK.i ha ?_
          rintro v H3 ⟨rfl,t3,fr⟩
          have p3 := p2.txt t3 (fun y _ h2 => fr y h2)
          have vp3 : H3 h.p = some (papO h (.imm kw (bp s1.W) s1.W.length)) := by rw [fr _ p2.apart.1.2.2.2.1]; exact vp2
          have vw3 : H3 kw = some ow := by rw [fr _ hwk.2.2.2.2.1]; exact vw2
          have vr3 : H3 kr = some o := by rw [fr _ hwr.2.2.2.2.1]; exact hkr
          have vmd3 : H3 h.md = some (.map (oneE s1.D)) := p3.md
          by_cases her : er = 0
          · subst her
            rw [if_pos rfl] at hst
            by_cases hin : ((a,c) : EId) ∈ s1.D
            · rw [if_pos hin] at f2 hst
              generalize oneE s1.D = ED at *
              simp (disch := omega) only [↓aI,↓zP,aD,zD,aS,simprocAttr,Tryz.facts,z0,z2,z11,z12,z13,zA,vp3,vmd3,f2,ah]
              refine CallK.i (hdr _ _ t3) ?_
              rintro v H4 ⟨rfl,t4,fr4⟩
              have p4 := p3.txt t4 fr4
              have vp4 : H4 h.p = some (papO h (.imm kw (bp s1.W) s1.W.length)) := by rw [fr4 _ p2.apart.1.2.2.1 p2.apart.1.2.2.2.1]; exact vp3
              have vw4 : H4 kw = some ow := by rw [fr4 _ hwk.2.2.2.1 hwk.2.2.2.2.1]; exact vw3
              have vr4 : H4 kr = some o := by rw [fr4 _ hwr.2.2.2.1 hwr.2.2.2.2.1]; exact vr3
              simp (disch := omega) only [↓aI,↓zP,aD,zD,aS,simprocAttr,Tryz.facts,z0,z2,z11,z12,z13,zA]
              exact ⟨mq - 1,by omega,j + 1,_,_,R1,kr,o,by omega,hst.symm,by omega,p4,vp4,vw4,hkr0,hkrB,hkrw,vr4,ho,rfl,rfl⟩
            · rw [if_neg hin] at f2 hst
              generalize oneE s1.D = ED at *
              simp (disch := omega) only [↓aI,↓zP,aD,zD,aS,simprocAttr,Tryz.facts,z0,z2,z11,z12,z13,zA,vp3,vmd3,f2,ah]
              exact ⟨mq - 1,by omega,j + 1,_,_,R1,kr,o,by omega,hst.symm,by omega,p3,vw3,hkr0,hkrB,hkrw,vr3,ho,rfl,rfl⟩
          · rw [if_neg her] at hst
            obtain rfl := hfail her
            simp (disch := omega) only [↓aI,↓zP,aD,zD,aS,simprocAttr,Tryz.facts,z0,z2,z11,z12,z13,zA,vp3,vr3,ho,hRl,hsn,ah]
            intro k2 o2 hk20 hk2 ho2
            rw [hsl,hR1l] at ho2
            have n1 := bA vp3 hk2
            have n2 := bA vw3 hk2
            have w2 : ¬ h.p = kr := fun e => hwr.1 e.symm
            refine ⟨mq - 1,by omega,j + 1,_,G1,R2,k2,o2,by omega,hst.symm,by omega,?_,by rw [aP n1,bZ w2]; exact vp3,by rw [aP n2,bZ (fun e => hkrw e.symm)]; exact vw3,hk20,p3.sub.free hk2,fun e => n2 e.symm,set_get,by rw [hR1l]; exact ho2,by rw [hR1l],rfl⟩
            refine p3.wait' (W := s1.W) (kk := kr) (by rw [aP n1,bZ w2]; exact vp3) (.inr ⟨kw,ow,rfl,hkw0,hkwB,by rw [aP n2,bZ (fun e => hkrw e.symm)]; exact vw3,how⟩) p3.big.2.2 hkrB (fun y h1 h2 => ?_)
            rw [aP (p3.fresh hk2 y h2),bZ (p3.wfresh hkrB vr3 ho y h2)]
        · obtain rfl : j = s1.W.length := by omega
          rw [List.take_length] at hfold
          have hrn : rndP s.D s1.W s1.L s1.G = (L1,G1,R1) := hfold.symm
          have hrl := rndP_len s.D s1.W s1.L s1.G
          rw [hrn] at hrl
          simp only [] at hrl
          have w2 : ¬ h.p = kr := fun e => hwr.1 e.symm
          have w3 : ¬ kr = h.p := hwr.1
          have pN : IsP B (H2.set h.p (papO h (.imm kr (bp R1) R1.length))) h { s1 with L := L1,G := G1,W := R1 } := p2.wait' (W := R1) (kk := kr) set_get (.inr ⟨kr,o,rfl,hkr0,hkrB,by rw [aP w3]; exact hkr,ho⟩) (Nat.le_trans hrl p.big.2.2) hkrB (fun y h1 h2 => by rw [aP h1])
          unfold dG at hset
          rw [hrn] at hset
          simp only [] at hset
          by_cases hst : R1.length = s1.W.length
          · rw [if_pos hst] at hset
            have hq : ((R1.length : Int) == (s1.W.length : Int)) = true := by rw [hst]; exact beq_self_eq_true _
            simp (disch := omega) only [↓aI,↓zP,aD,zD,aS,simprocAttr,Tryz.facts,z0,z2,z11,z12,z13,zA,vp2,ah,hq]
            refine ⟨_,rfl,_,Abs.Sub.refl _,?_⟩
            rw [← hfin { s1 with L := L1,G := G1,W := R1 } e1 e2 e3 hset]
            exact pN
          · rw [if_neg hst] at hset
            have hq : ((R1.length : Int) == (s1.W.length : Int)) = false := by
              rw [Bool.eq_false_iff]
              intro h
              exact hst (by have := eq_of_beq h; omega)
            simp (disch := omega) only [↓aI,↓zP,aD,zD,aS,simprocAttr,Tryz.facts,z0,z2,z11,z12,z13,zA,vp2,ah,hq]
            exact ⟨R1.length,by omega,{ s1 with L := L1,G := G1,W := R1 },n,rfl,pN,e1,e2,e3,by simp only []; omega,hset⟩
end Go.Proofs.YtcgjlmopeblapaaGreat
end
