/-
  Several texts in one: each says what it proves.
  Conditions: none. Lemmas only.
-/
import Derived.Test.YtimonfakmadhpaaPapG8
import Derived.Test.YtimonfakmadhpaaFugG3
import Derived.Test.YtimonfakmadhpaaFugG2
import Derived.Test.YtimonfakmadhpaaPapG3
import Derived.Test.YtimonfakmadhpaaMarG6
set_option linter.all false
section
set_option linter.unusedSimpArgs false
set_option linter.unusedVariables false
set_option maxRecDepth 8000
set_option maxHeartbeats 4000000
namespace Go.Proofs.Ytimonfakmadhpaa
open Go Go.Abs Go.Proofs Go.Fug
def rStep (t : List Ins × Bool) (o : Opn) : List Ins × Bool := if o.kind = 1 then ((dR t.1 o.ins).1,t.2 || decide ((dR t.1 o.ins).2 = 0)) else t
def rRound (P : List Opn) (L : List Ins) : List Ins × Bool := P.foldl rStep (L,false)
def rLoop (P : List Opn) : Nat → List Ins → List Ins
  | 0,L => L
  | n + 1,L => if (rRound P L).2 = true then rLoop P n (rRound P L).1 else (rRound P L).1
theorem add_two (L : List Ins) (i : Ins) : (dR L i = (L ++ [i],0) ∧ okI i = true ∧ i.id ∉ L.map (·.id) ∧ (i.par = bL ∨ i.par ∈ L.map (·.id))) ∨ ((dR L i).1 = L ∧ (dR L i).2 ≠ 0) := by
  unfold dR
  by_cases h1 : okI i = false
  · rw [if_pos h1]; exact .inr ⟨rfl,by simp⟩
  · rw [if_neg h1]
    by_cases h2 : i.id ∈ L.map (·.id)
    · rw [if_pos h2]; exact .inr ⟨rfl,by simp⟩
    · rw [if_neg h2]
      by_cases h3 : i.par ≠ bL ∧ i.par ∉ L.map (·.id)
      · rw [if_pos h3]; exact .inr ⟨rfl,by simp⟩
      · rw [if_neg h3]
        by_cases h4 : L.length = 4096
        · rw [if_pos h4]; exact .inr ⟨rfl,by simp⟩
        · rw [if_neg h4]
          refine .inl ⟨rfl,by simpa using h1,h2,?_⟩
          by_cases h5 : i.par = bL
          · exact .inl h5
          · exact .inr (Decidable.not_not.1 fun h => h3 ⟨h5,h⟩)
structure InT (P : List Opn) (L : List Ins) : Prop where
  g : Fug.Good L
  sub : ∀ i ∈ L,∃ o ∈ P,o.kind = 1 ∧ o.ins = i
theorem InT.le {P : List Opn} {L : List Ins} (t : InT P L) : L.length ≤ P.length := by
  have h := cO (L.map (·.id)) (P.map fun o => o.ins.id) t.g.nd fun x hx => by
    obtain ⟨i,hi,rfl⟩ := List.mem_map.1 hx
    obtain ⟨o,ho,-,rfl⟩ := t.sub i hi
    exact List.mem_map.2 ⟨o,ho,rfl⟩
  simpa using h
theorem InT.round {P : List Opn} : ∀ (Q : List Opn) (L : List Ins) (b : Bool), (∀ o ∈ Q, o ∈ P) → InT P L →
    InT P (Q.foldl rStep (L,b)).1 ∧ L.length ≤ (Q.foldl rStep (L,b)).1.length ∧ ((Q.foldl rStep (L,b)).2 = true → b = true ∨ L.length < (Q.foldl rStep (L,b)).1.length) ∧
      ((Q.foldl rStep (L,b)).2 = false → b = false ∧ (Q.foldl rStep (L,b)).1 = L ∧ ∀ o ∈ Q,o.kind = 1 → (dR L o.ins).2 ≠ 0)
  | [],L,b,_,t => ⟨t,Nat.le_refl _,fun h => .inl h,fun h => ⟨h,rfl,by simp⟩⟩
  | o :: Q,L,b,h,t => by
    have hq : ∀ q ∈ Q,q ∈ P := fun q hq => h q (by simp [hq])
    rw [List.foldl_cons]
    unfold rStep
    by_cases k : o.kind = 1
    · simp only [if_pos k]
      rcases add_two L o.ins with ⟨e,h1,h2,h3⟩ | ⟨e1,e2⟩
      · rw [e]
        simp only [decide_true,Bool.or_true]
        have t' : InT P (L ++ [o.ins]) := ⟨t.g.snoc h1 h2 h3,fun i hi => by
          rcases List.mem_append.1 hi with h4 | h4
          · exact t.sub i h4
          · exact ⟨o,h o (by simp),k,(List.mem_singleton.1 h4).symm⟩⟩
        obtain ⟨r1,r2,r3,r4⟩ := InT.round Q (L ++ [o.ins]) true hq t'
        have hl : (L ++ [o.ins]).length = L.length + 1 := by simp
        refine ⟨r1,by unfold rStep at r2; omega,fun _ => .inr (by unfold rStep at r2; omega),fun e => ?_⟩
        have := (r4 e).1
        cases this
      · rw [e1]
        simp only [decide_eq_false e2,Bool.or_false]
        obtain ⟨r1,r2,r3,r4⟩ := InT.round Q L b hq t
        refine ⟨r1,r2,r3,fun e => ?_⟩
        obtain ⟨h5,h6,h7⟩ := r4 e
        refine ⟨h5,h6,fun q hq hk => ?_⟩
        rcases List.mem_cons.1 hq with rfl | hq
        · exact e2
        · exact h7 q hq hk
    · simp only [if_neg k]
      obtain ⟨r1,r2,r3,r4⟩ := InT.round Q L b hq t
      refine ⟨r1,r2,r3,fun e => ?_⟩
      obtain ⟨h5,h6,h7⟩ := r4 e
      refine ⟨h5,h6,fun q hq hk => ?_⟩
      rcases List.mem_cons.1 hq with rfl | hq
      · exact absurd hk k
      · exact h7 q hq hk
theorem InT.nil (P : List Opn) : InT P [] := ⟨Fug.Good.nil,by simp⟩
theorem InT.loop {P : List Opn} : ∀ (n : Nat) (L : List Ins),InT P L → P.length + 1 ≤ n + L.length → InT P (rLoop P n L) ∧ ∀ o ∈ P,o.kind = 1 → (dR (rLoop P n L) o.ins).2 ≠ 0
  | 0,L,t,h => by have := t.le; omega
  | n + 1,L,t,h => by
    obtain ⟨r1,r2,r3,r4⟩ := InT.round P L false (fun o ho => ho) t
    rw [rLoop]
    unfold rRound
    by_cases e : (P.foldl rStep (L,false)).2 = true
    · rw [if_pos e]
      rcases r3 e with h1 | h1
      · cases h1
      · exact InT.loop n _ r1 (by omega)
    · rw [if_neg e]
      obtain ⟨h5,h6,h7⟩ := r4 (by simpa using e)
      rw [h6]
      exact ⟨t,h7⟩
end Go.Proofs.Ytimonfakmadhpaa
end
section
set_option linter.unusedSimpArgs false
set_option linter.unusedVariables false
set_option maxRecDepth 8000
set_option maxHeartbeats 4000000
namespace Go.Proofs.Ytimonfakmadhpaa
open Go Go.Abs Go.Proofs Go.Fug
theorem pruns_live (B H : AH) (h : PH) (s : PS) (p : IsP B H h s) (hh : h.p ≠ 0) : ACalls Try.prog 28 [.ptr h.p 0] H fun v H' => v = rnsV (runsN (bF s.L s.G) s.l) ∧ H' = H := by
  obtain ⟨v,vp,-⟩ := p.pw
  have hr := runs_own H h.b s.l p.b p.g h.t h.mt s.L s.G p.t
  generalize runsN (bF s.L s.G) s.l = RR at *
  refine ao (c := ⟨Try.prog,14,[(3,[0,0,0,1,0,0,0,1,2,0])],[],[]⟩) (rs := [ResultVar.tmp 2]) Try.mixed Try.func28 rfl rfl rfl (Nat.le_of_ble_eq_true rfl) (by kernel_rfl) ?_
  simp (disch := omega) only [↓aI,aD,aG,ixA,aX,aV,ag,aT,ae,mkA,ab,bnd,aS,aH,aK,cvO,aJ,aY,↓aO,aW,aE,aF,aM,aA,aC,aB,aN,ad,frz,aR,aL,AV.cellsOf,AV.fine,AV.one,aQ,indexK.aggOf,simprocAttr,aZ,aU,Try.facts,hh,vp]
  refine CallK.i hr ?_
  rintro v E ⟨rfl,rfl⟩
  simp (disch := omega) only [↓aI,aD,aG,ixA,aX,aV,ag,aT,ae,mkA,ab,bnd,aS,aH,aK,cvO,aJ,aY,↓aO,aW,aE,aF,aM,aA,aC,aB,aN,ad,frz,aR,aL,AV.cellsOf,AV.fine,AV.one,aQ,indexK.aggOf,simprocAttr,aZ,aU,Try.facts]
  exact ⟨_,rfl,_,Abs.Sub.refl _,rfl,rfl⟩
end Go.Proofs.Ytimonfakmadhpaa
end
