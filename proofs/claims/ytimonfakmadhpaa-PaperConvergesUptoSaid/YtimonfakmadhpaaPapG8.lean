/-
  Several texts in one: each says what it proves.
  Conditions: none. Lemmas only.
-/
import Derived.Test.YtimonfakmadhpaaPapG3
set_option linter.all false
section
set_option linter.unusedSimpArgs false
set_option linter.unusedVariables false
set_option maxRecDepth 8000
set_option maxHeartbeats 4000000
namespace Go.Proofs.Ytimonfakmadhpaa
open Go Go.Abs Go.Proofs Go.Fug
def knownR (P : List Opn) (o : Opn) : Bool := opR o && P.any fun x => oneO x o
structure RD (H Hx : AH) (b4 b6 k : Nat) (Q : List Opn) : Prop where
  sub : Abs.Sub H Hx
  f4 : H b4 = none
  f6 : H b6 = none
  fk : H k = none
  n46 : ¬ b4 = b6
  v4 : Hx b4 = some (.cells [.sc (.slice none 0 0)] 30 1)
  v6 : Hx b6 = some (.cells [.imm k (dL Q) Q.length] 30 1)
  k0 : ¬ k = 0
  tok : ∃ o,Hx k = some o ∧ cy 84 19 o (Q.length * 19)
def rFresh (P : List Opn) (o : Opn) : List Opn := if knownR P o = true then P else P ++ [o]
def rDo (P l : List Opn) : Int × List Opn :=
  if l.all opR = false then (1,P)
  else if 4096 < (l.foldl rFresh P).length ∨ 512 < dI (l.foldl rFresh P) then (14,P)
  else (0,l.foldl rFresh P)
end Go.Proofs.Ytimonfakmadhpaa
end
section
set_option linter.unusedSimpArgs false
set_option linter.unusedVariables false
set_option maxRecDepth 8000
set_option maxHeartbeats 4000000
namespace Go.Proofs.Ytimonfakmadhpaa
open Go Go.Abs Go.Proofs Go.Fug
theorem IsP.box {B H : AH} {h : PH} {s : PS} (p : IsP B H h s) {b : Nat} (o : AObj) (hb : H b = none ∨ B b ≠ none) : IsP (B.set b o) (H.set b o) h s := by
  have key : ∀ y,B y = none → H y ≠ none → ¬ y = b := fun y h1 h2 e => by
    subst e
    rcases hb with h3 | h3
    · exact h2 h3
    · exact h3 h1
  obtain ⟨v,vp,hw⟩ := p.pw
  obtain ⟨f1,f2,f3,f4,f5,f6⟩ := p.f
  have n1 := key _ f1 (by rw [vp]; simp)
  have n2 := key _ f2 (by rw [p.mi]; simp)
  have n3 := key _ f3 (by rw [p.md]; simp)
  have n4 := key _ f4 (by rw [p.t.hi]; simp)
  have n5 := key _ f5 (by rw [p.t.hm]; simp)
  have n6 := key _ f6 (by rw [p.b]; simp)
  refine ⟨fun y x hy => ?_,⟨by rw [aP n1]; exact f1,by rw [aP n2]; exact f2,by rw [aP n3]; exact f3,by rw [aP n4]; exact f4,by rw [aP n5]; exact f5,by rw [aP n6]; exact f6⟩,p.ne,⟨v,by rw [aP n1]; exact vp,?_⟩,by rw [aP n2]; exact p.mi,by rw [aP n3]; exact p.md,⟨by rw [aP n4]; exact p.t.hi,⟨p.t.ord,p.t.perm,by rw [aP n5]; exact p.t.hm⟩,p.t.g,p.t.gs,p.t.gn,p.t.small⟩,by rw [aP n6]; exact p.b,p.g,p.nd,p.dd,p.big⟩
  · by_cases e : y = b
    · subst e; rw [set_get] at hy ⊢; exact hy
    · rw [aP e] at hy ⊢; exact p.sub y x hy
  · rcases hw with h1 | ⟨k,ok,h1,h2,h3,h4,h5⟩
    · exact .inl h1
    · have nk := key k h3 (by rw [h4]; simp)
      exact .inr ⟨k,ok,h1,h2,by rw [aP nk]; exact h3,by rw [aP nk]; exact h4,h5⟩
theorem IsP.base {B B' H : AH} {h : PH} {s : PS} (p : IsP B' H h s) (hs : Abs.Sub B B') : IsP B H h s := by
  obtain ⟨v,vp,hw⟩ := p.pw
  obtain ⟨f1,f2,f3,f4,f5,f6⟩ := p.f
  refine ⟨hs.trans p.sub,⟨hs.free f1,hs.free f2,hs.free f3,hs.free f4,hs.free f5,hs.free f6⟩,p.ne,⟨v,vp,?_⟩,p.mi,p.md,p.t,p.b,p.g,p.nd,p.dd,p.big⟩
  rcases hw with h1 | ⟨k,ok,h1,h2,h3,h4,h5⟩
  · exact .inl h1
  · exact .inr ⟨k,ok,h1,h2,hs.free h3,h4,h5⟩
end Go.Proofs.Ytimonfakmadhpaa
end
section
set_option linter.unusedSimpArgs false
set_option linter.unusedVariables false
set_option maxRecDepth 8000
set_option maxHeartbeats 1000000
namespace Go.Proofs.Ytimonfakmadhpaa
open Go Go.Abs Go.Proofs Go.Fug
theorem insO_ok {i : Ins} (h : insO i = true) : okI i = true := by
  rw [insO_okI,Bool.and_eq_true] at h
  exact h.1
theorem add_cases (L : List Ins) (i : Ins) (hk : okI i = true) (hL : L.length < 4096) :
    (dR L i = (L ++ [i],0) ∧ i.id ∉ L.map (·.id) ∧ (i.par = bL ∨ i.par ∈ L.map (·.id))) ∨ ((dR L i).2 ≠ 0 ∧ (i.id ∈ L.map (·.id) ∨ (i.par ≠ bL ∧ i.par ∉ L.map (·.id)))) := by
  unfold dR
  rw [if_neg (by rw [hk]; simp)]
  by_cases h2 : i.id ∈ L.map (·.id)
  · rw [if_pos h2]; exact .inr ⟨by simp,.inl h2⟩
  · rw [if_neg h2]
    by_cases h3 : i.par ≠ bL ∧ i.par ∉ L.map (·.id)
    · rw [if_pos h3]; exact .inr ⟨by simp,.inr h3⟩
    · rw [if_neg h3,if_neg (by omega)]
      refine .inl ⟨rfl,h2,?_⟩
      by_cases h5 : i.par = bL
      · exact .inl h5
      · exact .inr (Decidable.not_not.1 fun h => h3 ⟨h5,h⟩)
structure Mid (I : List Ins) (D : List EId) (L : List Ins) (G : List EId) (W : List Ins) : Prop where
  pm : (L ++ W).Perm I
  gd : ∀ x,x ∈ G ↔ x ∈ D ∧ x ∈ L.map (·.id)
theorem Mid.step {I : List Ins} {D : List EId} (ok : ∀ i ∈ I, okI i = true) (hI : I.length < 4096) {L R W : List Ins} {G : List EId} {i : Ins} (m : Mid I D L G (R ++ i :: W)) :
    Mid I D (addD D (L,G,R) i).1 (addD D (L,G,R) i).2.1 ((addD D (L,G,R) i).2.2 ++ W) ∧
      ((addD D (L,G,R) i).2.2.length = R.length + 1 → addD D (L,G,R) i = (L,G,R ++ [i]) ∧ (i.id ∈ L.map (·.id) ∨ (i.par ≠ bL ∧ i.par ∉ L.map (·.id)))) := by
  have hmem : i ∈ I := m.pm.mem_iff.1 (by simp)
  have hlen : L.length < 4096 := by
    have := m.pm.length_eq
    simp at this
    omega
  unfold addD
  rcases add_cases L i (ok i hmem) hlen with ⟨e,h1,h2⟩ | ⟨e,h1⟩
  · simp only [e,if_true]
    refine ⟨⟨?_,fun x => ?_⟩,fun h => by simp at h⟩
    · refine List.Perm.trans ?_ m.pm
      rw [List.append_assoc]
      refine List.Perm.append_left L ?_
      exact (List.perm_middle (a := i) (l₁ := R) (l₂ := W)).symm
    · have hg := m.gd x
      by_cases hd : i.id ∈ D
      · simp only [if_pos hd]
        have h3 : i.id ∉ G := fun h => h1 ((m.gd _).1 h).2
        unfold dropG
        rw [if_neg (by simp),if_neg h3]
        simp only [List.mem_append,List.mem_singleton,List.map_append,List.map_cons,List.map_nil,hg]
        constructor
        · rintro (h | rfl)
          · exact ⟨h.1,.inl h.2⟩
          · exact ⟨hd,.inr rfl⟩
        · rintro ⟨h,h' | h'⟩
          · exact .inl ⟨h,h'⟩
          · exact .inr h'
      · simp only [if_neg hd]
        simp only [List.mem_append,List.mem_singleton,List.map_append,List.map_cons,List.map_nil,hg]
        constructor
        · rintro h; exact ⟨h.1,.inl h.2⟩
        · rintro ⟨h,h' | rfl⟩
          · exact ⟨h,h'⟩
          · exact absurd h hd
  · simp only [if_neg e]
    refine ⟨⟨?_,m.gd⟩,fun _ => ⟨by trivial,h1⟩⟩
    rw [List.append_assoc]
    exact m.pm
theorem Mid.round {I : List Ins} {D : List EId} (ok : ∀ i ∈ I, okI i = true) (hI : I.length < 4096) : ∀ (W L R : List Ins) (G : List EId), Mid I D L G (R ++ W) →
    Mid I D (W.foldl (addD D) (L,G,R)).1 (W.foldl (addD D) (L,G,R)).2.1 (W.foldl (addD D) (L,G,R)).2.2 ∧ (W.foldl (addD D) (L,G,R)).2.2.length ≤ R.length + W.length ∧
      ((W.foldl (addD D) (L,G,R)).2.2.length = R.length + W.length → W.foldl (addD D) (L,G,R) = (L,G,R ++ W) ∧ ∀ i ∈ W,i.id ∈ L.map (·.id) ∨ (i.par ≠ bL ∧ i.par ∉ L.map (·.id)))
  | [],L,R,G,m => by
    rw [List.append_nil] at m
    exact ⟨m,by simp,fun _ => ⟨by simp,by simp⟩⟩
  | i :: W,L,R,G,m => by
    obtain ⟨m1,h1⟩ := m.step ok hI
    have hl := addD_len D (L,G,R) i
    rw [List.foldl_cons]
    generalize addD D (L,G,R) i = t at *
    obtain ⟨L1,G1,R1⟩ := t
    simp only at m1 h1 hl
    obtain ⟨m2,h2,h3⟩ := Mid.round ok hI W L1 R1 G1 m1
    refine ⟨m2,by simp only [List.length_cons]; omega,fun e => ?_⟩
    simp only [List.length_cons] at e
    obtain ⟨h4,h5⟩ := h1 (by omega)
    obtain ⟨rfl,rfl,rfl⟩ : L1 = L ∧ G1 = G ∧ R1 = R ++ [i] := by
      simp only [Prod.mk.injEq] at h4; exact h4
    obtain ⟨h6,h7⟩ := h3 (by omega)
    refine ⟨by rw [h6,List.append_assoc]; rfl,fun j hj => ?_⟩
    rcases List.mem_cons.1 hj with rfl | hj
    · exact h5
    · exact h7 j hj
def Stuck (L W : List Ins) : Prop := ∀ i ∈ W,i.id ∈ L.map (·.id) ∨ (i.par ≠ bL ∧ i.par ∉ L.map (·.id))
theorem Mid.settle {I : List Ins} {D : List EId} (ok : ∀ i ∈ I, okI i = true) (hI : I.length < 4096) : ∀ (n : Nat) (W L : List Ins) (G : List EId), W.length < n → Mid I D L G W →
    Mid I D (dG D n W L G).1 (dG D n W L G).2.1 (dG D n W L G).2.2 ∧ Stuck (dG D n W L G).1 (dG D n W L G).2.2
  | 0,W,L,G,h,_ => by omega
  | n + 1,W,L,G,h,m => by
    have hr := Mid.round ok hI W L [] G (by rw [List.nil_append]; exact m)
    rw [dG]
    unfold rndP
    generalize W.foldl (addD D) (L,G,[]) = t at *
    obtain ⟨L1,G1,R1⟩ := t
    simp only [List.length_nil,Nat.zero_add,List.nil_append] at hr ⊢
    obtain ⟨m1,h1,h2⟩ := hr
    by_cases e : R1.length = W.length
    · rw [if_pos e]
      obtain ⟨h3,h4⟩ := h2 e
      obtain ⟨rfl,rfl,rfl⟩ : L1 = L ∧ G1 = G ∧ R1 = W := by simp only [Prod.mk.injEq] at h3; exact h3
      exact ⟨m,h4⟩
    · rw [if_neg e]
      exact Mid.settle ok hI n R1 L1 G1 (by omega) m1
structure InvP (s : PS) : Prop where
  mid : Mid s.I s.D s.L s.G s.W
  ok : ∀ i ∈ s.I,insO i = true
  dok : ∀ x ∈ s.D,elO x = true
  st : Stuck s.L s.W
theorem InvP.nil : InvP ps0 := ⟨⟨List.Perm.refl _,by simp [ps0]⟩,by simp [ps0],by simp [ps0],by simp [ps0,Stuck]⟩
structure InvT (s : PS) : Prop where
  mid : Mid s.I s.D s.L s.G s.W
  ok : ∀ i ∈ s.I,insO i = true
  dok : ∀ x ∈ s.D,elO x = true
theorem InvT.take {s : PS} (t : InvT s) {o : Opn} (ho : opR o = true) : InvT (dK s o) := by
  unfold opR at ho
  unfold dK
  split at ho
  · rename_i h1
    rw [if_pos h1]
    simp only [Bool.and_eq_true] at ho
    refine ⟨⟨?_,t.mid.gd⟩,fun i hi => ?_,t.dok⟩
    · rw [← List.append_assoc]
      exact t.mid.pm.append_right _
    · rcases List.mem_append.1 hi with h | h
      · exact t.ok i h
      · rw [List.mem_singleton.1 h]; exact ho.1
  · rename_i h1
    rw [if_neg h1]
    split at ho
    · rename_i h2
      rw [if_pos h2]
      simp only [Bool.and_eq_true] at ho
      refine ⟨⟨t.mid.pm,fun x => ?_⟩,t.ok,fun x hx => ?_⟩
      · have hg := t.mid.gd x
        have hg2 := t.mid.gd o.drop
        show x ∈ (dropG s.L s.G o.drop).1 ↔ x ∈ s.D ++ [o.drop] ∧ x ∈ s.L.map (·.id)
        unfold dropG
        by_cases e1 : o.drop ∉ s.L.map (·.id)
        · rw [if_pos e1]
          rw [hg,List.mem_append,List.mem_singleton]
          constructor
          · rintro ⟨h,h'⟩; exact ⟨.inl h,h'⟩
          · rintro ⟨h | rfl,h'⟩
            · exact ⟨h,h'⟩
            · exact absurd h' e1
        · rw [if_neg e1]
          have e1' := Decidable.not_not.1 e1
          by_cases e2 : o.drop ∈ s.G
          · rw [if_pos e2]
            rw [hg,List.mem_append,List.mem_singleton]
            constructor
            · rintro ⟨h,h'⟩; exact ⟨.inl h,h'⟩
            · rintro ⟨h | rfl,h'⟩
              · exact ⟨h,h'⟩
              · exact hg2.1 e2
          · rw [if_neg e2]
            simp only [List.mem_append,List.mem_singleton]
            rw [hg]
            constructor
            · rintro (h | rfl)
              · exact ⟨.inl h.1,h.2⟩
              · exact ⟨.inr rfl,e1'⟩
            · rintro ⟨h | rfl,h'⟩
              · exact .inl ⟨h,h'⟩
              · exact .inr rfl
      · rcases List.mem_append.1 hx with h | h
        · exact t.dok x h
        · rw [List.mem_singleton.1 h]; exact ho.1
    · rename_i h2
      rw [if_neg h2]
      exact ⟨t.mid,t.ok,t.dok⟩
theorem InvT.takes : ∀ (F : List Opn) {s : PS},InvT s → (∀ o ∈ F,opR o = true) → InvT (F.foldl dK s)
  | [],s,t,_ => t
  | o :: F,s,t,h => InvT.takes F (t.take (h o (by simp))) fun q hq => h q (by simp [hq])
theorem InvT.settle {s : PS} (t : InvT s) (hI : s.I.length < 4096) : InvP (settleP s) := by
  obtain ⟨m,h⟩ := Mid.settle (fun i hi => insO_ok (t.ok i hi)) hI (s.W.length + 1) s.W s.L s.G (by omega) t.mid
  exact ⟨m,t.ok,t.dok,h⟩
theorem fresh_sub (s : PS) : ∀ (l F : List Opn) (o : Opn),o ∈ l.foldl (dZ s) F → o ∈ F ∨ o ∈ l
  | [],F,o,h => .inl h
  | q :: l,F,o,h => by
    rw [List.foldl_cons] at h
    rcases fresh_sub s l _ o h with h1 | h1
    · unfold dZ at h1
      split at h1
      · exact .inl h1
      · rcases List.mem_append.1 h1 with h2 | h2
        · exact .inl h2
        · exact .inr (by rw [List.mem_singleton.1 h2]; simp)
    · exact .inr (by simp [h1])
theorem InvP.do_ {s : PS} (t : InvP s) (l : List Opn) (hz : sizP s + l.length < 4096) : InvP (doP s l).2 := by
  unfold doP
  split
  · exact t
  · rename_i h1
    split
    · exact t
    · have hall : ∀ o ∈ l,opR o = true := List.all_eq_true.1 (by simpa using h1)
      have hF : ∀ o ∈ freshP s l,opR o = true := fun o ho => by
        rcases fresh_sub s l [] o ho with h | h
        · simp at h
        · exact hall o h
      refine InvT.settle (InvT.takes _ ⟨t.mid,t.ok,t.dok⟩ hF) ?_
      have h2 := takes_siz (freshP s l) s
      have h3 := fresh_len s l []
      simp only [List.length_nil,Nat.zero_add] at h3
      unfold freshP at h2 ⊢
      unfold sizP at h2 hz
      omega
end Go.Proofs.Ytimonfakmadhpaa
end
