/-
  Several texts in one: each says what it proves.
  Conditions: none. Lemmas only.
-/
import Derived.Test.YtimonfakmadhpaaPapG3
import Derived.Test.YtimonfakmadhpaaFugG6
import Derived.Test.YtimonfakmadhpaaPapG8
import Derived.Test.YtimonfakmadhpaaPapG9
import Derived.Test.YtimonfakmadhpaaFugAe
import Derived.Test.YtimonfakmadhpaaPapG7
set_option linter.all false
section
set_option linter.unusedSimpArgs false
set_option linter.unusedVariables false
set_option maxRecDepth 8000
set_option maxHeartbeats 4000000
namespace Go.Proofs.Ytimonfakmadhpaa
open Go Go.Abs Go.Proofs Go.Fug
def withinP (s : PS) (a n : Int) : Bool := decide (0 ≤ a ∧ 0 ≤ n ∧ a ≤ ((s.L.length - s.G.length : Nat) : Int) ∧ n ≤ ((s.L.length - s.G.length : Nat) : Int) - a)
theorem within_live (B H : AH) (h : PH) (s : PS) (a n : Int) (p : IsP B H h s) (hh : h.p ≠ 0) : ACalls Try.prog 61 [.ptr h.p 0,.sc (.int .i64 a),.sc (.int .i64 n)] H fun v H' => v = .sc (.bool (withinP s a n)) ∧ H' = H := by
  have hlen := plen_live B H h s p
  have hls := p.t.small
  have hB : withinP s a n = decide (0 ≤ a ∧ 0 ≤ n ∧ a ≤ ((s.L.length - s.G.length : Nat) : Int) ∧ n ≤ ((s.L.length - s.G.length : Nat) : Int) - a) := rfl
  generalize hm : s.L.length - s.G.length = m at *
  have hm9 : m ≤ 10000 := by omega
  by_cases c1 : 0 ≤ a
  · by_cases c2 : 0 ≤ n
    · by_cases c3 : a ≤ (m : Int)
      · by_cases c4 : n ≤ (m : Int) - a
        · rw [hB,decide_eq_true ⟨c1,c2,c3,c4⟩]
          refine ao (c := ⟨Try.prog,31,[],[],[]⟩) (rs := [ResultVar.tmp 6]) Try.mixed Try.func61 rfl rfl rfl (Nat.le_of_ble_eq_true rfl) (by kernel_rfl) ?_
          simp (disch := omega) only [↓aI,aD,aG,ixA,aX,aV,ag,aT,ae,mkA,ab,bnd,aS,aH,aK,cvO,aJ,aY,↓aO,aW,aE,aF,aM,aA,aC,aB,aN,ad,frz,aR,aL,AV.cellsOf,AV.fine,AV.one,aQ,indexK.aggOf,simprocAttr,aZ,aU,Try.facts,dT,dF,qT,qF,nT,nF,Bool.false_and,Bool.and_false,hh]
          refine CallK.i hlen ?_
          rintro v E ⟨rfl,rfl⟩
          simp (disch := omega) only [↓aI,aD,aG,ixA,aX,aV,ag,aT,ae,mkA,ab,bnd,aS,aH,aK,cvO,aJ,aY,↓aO,aW,aE,aF,aM,aA,aC,aB,aN,ad,frz,aR,aL,AV.cellsOf,AV.fine,AV.one,aQ,indexK.aggOf,simprocAttr,aZ,aU,Try.facts,dT,dF,qT,qF,nT,nF,Bool.false_and,Bool.and_false]
          refine CallK.i hlen ?_
          rintro v E ⟨rfl,rfl⟩
          simp (disch := omega) only [↓aI,aD,aG,ixA,aX,aV,ag,aT,ae,mkA,ab,bnd,aS,aH,aK,cvO,aJ,aY,↓aO,aW,aE,aF,aM,aA,aC,aB,aN,ad,frz,aR,aL,AV.cellsOf,AV.fine,AV.one,aQ,indexK.aggOf,simprocAttr,aZ,aU,Try.facts,dT,dF,qT,qF,nT,nF,Bool.false_and,Bool.and_false]
          exact ⟨_,rfl,_,Abs.Sub.refl _,rfl,rfl⟩
        · rw [hB,decide_eq_false (fun h => c4 h.2.2.2)]
          refine ao (c := ⟨Try.prog,31,[],[],[]⟩) (rs := [ResultVar.tmp 6]) Try.mixed Try.func61 rfl rfl rfl (Nat.le_of_ble_eq_true rfl) (by kernel_rfl) ?_
          simp (disch := omega) only [↓aI,aD,aG,ixA,aX,aV,ag,aT,ae,mkA,ab,bnd,aS,aH,aK,cvO,aJ,aY,↓aO,aW,aE,aF,aM,aA,aC,aB,aN,ad,frz,aR,aL,AV.cellsOf,AV.fine,AV.one,aQ,indexK.aggOf,simprocAttr,aZ,aU,Try.facts,dT,dF,qT,qF,nT,nF,Bool.false_and,Bool.and_false,hh]
          refine CallK.i hlen ?_
          rintro v E ⟨rfl,rfl⟩
          simp (disch := omega) only [↓aI,aD,aG,ixA,aX,aV,ag,aT,ae,mkA,ab,bnd,aS,aH,aK,cvO,aJ,aY,↓aO,aW,aE,aF,aM,aA,aC,aB,aN,ad,frz,aR,aL,AV.cellsOf,AV.fine,AV.one,aQ,indexK.aggOf,simprocAttr,aZ,aU,Try.facts,dT,dF,qT,qF,nT,nF,Bool.false_and,Bool.and_false]
          refine CallK.i hlen ?_
          rintro v E ⟨rfl,rfl⟩
          simp (disch := omega) only [↓aI,aD,aG,ixA,aX,aV,ag,aT,ae,mkA,ab,bnd,aS,aH,aK,cvO,aJ,aY,↓aO,aW,aE,aF,aM,aA,aC,aB,aN,ad,frz,aR,aL,AV.cellsOf,AV.fine,AV.one,aQ,indexK.aggOf,simprocAttr,aZ,aU,Try.facts,dT,dF,qT,qF,nT,nF,Bool.false_and,Bool.and_false]
          exact ⟨_,rfl,_,Abs.Sub.refl _,rfl,rfl⟩
      · rw [hB,decide_eq_false (fun h => c3 h.2.2.1)]
        refine ao (c := ⟨Try.prog,31,[],[],[]⟩) (rs := [ResultVar.tmp 6]) Try.mixed Try.func61 rfl rfl rfl (Nat.le_of_ble_eq_true rfl) (by kernel_rfl) ?_
        simp (disch := omega) only [↓aI,aD,aG,ixA,aX,aV,ag,aT,ae,mkA,ab,bnd,aS,aH,aK,cvO,aJ,aY,↓aO,aW,aE,aF,aM,aA,aC,aB,aN,ad,frz,aR,aL,AV.cellsOf,AV.fine,AV.one,aQ,indexK.aggOf,simprocAttr,aZ,aU,Try.facts,dT,dF,qT,qF,nT,nF,Bool.false_and,Bool.and_false,hh]
        refine CallK.i hlen ?_
        rintro v E ⟨rfl,rfl⟩
        simp (disch := omega) only [↓aI,aD,aG,ixA,aX,aV,ag,aT,ae,mkA,ab,bnd,aS,aH,aK,cvO,aJ,aY,↓aO,aW,aE,aF,aM,aA,aC,aB,aN,ad,frz,aR,aL,AV.cellsOf,AV.fine,AV.one,aQ,indexK.aggOf,simprocAttr,aZ,aU,Try.facts,dT,dF,qT,qF,nT,nF,Bool.false_and,Bool.and_false]
        exact ⟨_,rfl,_,Abs.Sub.refl _,rfl,rfl⟩
    · rw [hB,decide_eq_false (fun h => c2 h.2.1)]
      refine ao (c := ⟨Try.prog,31,[],[],[]⟩) (rs := [ResultVar.tmp 6]) Try.mixed Try.func61 rfl rfl rfl (Nat.le_of_ble_eq_true rfl) (by kernel_rfl) ?_
      simp (disch := omega) only [↓aI,aD,aG,ixA,aX,aV,ag,aT,ae,mkA,ab,bnd,aS,aH,aK,cvO,aJ,aY,↓aO,aW,aE,aF,aM,aA,aC,aB,aN,ad,frz,aR,aL,AV.cellsOf,AV.fine,AV.one,aQ,indexK.aggOf,simprocAttr,aZ,aU,Try.facts,dT,dF,qT,qF,nT,nF,Bool.false_and,Bool.and_false,hh]
      exact ⟨_,rfl,_,Abs.Sub.refl _,rfl,rfl⟩
  · rw [hB,decide_eq_false (fun h => c1 h.1)]
    refine ao (c := ⟨Try.prog,31,[],[],[]⟩) (rs := [ResultVar.tmp 6]) Try.mixed Try.func61 rfl rfl rfl (Nat.le_of_ble_eq_true rfl) (by kernel_rfl) ?_
    simp (disch := omega) only [↓aI,aD,aG,ixA,aX,aV,ag,aT,ae,mkA,ab,bnd,aS,aH,aK,cvO,aJ,aY,↓aO,aW,aE,aF,aM,aA,aC,aB,aN,ad,frz,aR,aL,AV.cellsOf,AV.fine,AV.one,aQ,indexK.aggOf,simprocAttr,aZ,aU,Try.facts,dT,dF,qT,qF,nT,nF,Bool.false_and,Bool.and_false,hh]
    exact ⟨_,rfl,_,Abs.Sub.refl _,rfl,rfl⟩
end Go.Proofs.Ytimonfakmadhpaa
end
section
set_option linter.unusedSimpArgs false
set_option linter.unusedVariables false
set_option maxRecDepth 8000
set_option maxHeartbeats 1000000
namespace Go.Proofs.Ytimonfakmadhpaa
open Go Go.Abs Go.Proofs Go.Fug
theorem settle_stuck {s : PS} (ok : ∀ i ∈ s.W,okI i = true) (hL : s.L.length < 4096) (st : Stuck s.L s.W) : settleP s = s := by
  have key : ∀ (W R : List Ins),(∀ i ∈ W,okI i = true) → Stuck s.L W → W.foldl (addD s.D) (s.L,s.G,R) = (s.L,s.G,R ++ W) := by
    intro W
    induction W with
    | nil => intro R _ _; simp
    | cons i W ih =>
      intro R hok hst
      have h1 : addD s.D (s.L,s.G,R) i = (s.L,s.G,R ++ [i]) := by
        unfold addD
        simp only
        rw [if_neg]
        rcases add_cases s.L i (hok i (by simp)) hL with ⟨-,h2,h3⟩ | ⟨h2,-⟩
        · rcases hst i (by simp) with h4 | ⟨h4,h5⟩
          · exact absurd h4 h2
          · rcases h3 with h6 | h6
            · exact absurd h6 h4
            · exact absurd h6 h5
        · exact h2
      rw [List.foldl_cons,h1,ih (R ++ [i]) (fun j hj => hok j (by simp [hj])) (fun j hj => hst j (by simp [hj]))]
      simp
  have h := key s.W [] ok st
  rw [List.nil_append] at h
  unfold settleP
  rw [dG]
  unfold rndP
  rw [h,if_pos rfl]
end Go.Proofs.Ytimonfakmadhpaa
end
section
set_option maxRecDepth 20000
namespace Go.Proofs.Ytimonfakmadhpaa
open Go Go.Abs Go.Proofs Go.Fug
abbrev WishX := Int × Int × Int × Int × Int × (List UInt8) × Unit
abbrev wishOf (x : WishX) : Wsh := ⟨x.1,x.2.1,x.2.2.1,x.2.2.2.1,x.2.2.2.2.1,x.2.2.2.2.2.1⟩
theorem wish_enc (x : WishX) : Try.ty24.enc x = wishC (wishOf x) := by
  obtain ⟨a,n,m,v,o,t,⟨⟩⟩ := x
  rfl
abbrev opssOf (x : List (List OpX)) : List (List Opn) := x.map fun l => l.map opOf
theorem opss_enc (x : List (List OpX)) : (Try.ty22.enc x).getD 0 .any = opssV (opssOf x) := by
  show AV.imm 0 (x.flatMap fun l => [AV.imm 0 (l.flatMap Try.ty84.enc) l.length]) x.length = .imm 0 ((opssOf x).map opsV) (opssOf x).length
  rw [flat_one,List.length_map]
  congr 1
  rw [List.map_map]
  refine List.map_congr_left fun l _ => ?_
  show AV.imm 0 (l.flatMap Try.ty84.enc) l.length = opsV (l.map opOf)
  rw [ops_enc,opsV,List.length_map]
theorem opss_len (x : List (List OpX)) : (opssOf x).length ≤ Try.ty22.size x := by
  show (opssOf x).length ≤ sumMap Try.ty28.size x + 1
  rw [List.length_map]
  have : ∀ l : List (List OpX),l.length ≤ sumMap Try.ty28.size l := by
    intro l
    induction l with
    | nil => exact Nat.zero_le _
    | cons a l ih =>
      show l.length + 1 ≤ _
      have h2 : 1 ≤ Try.ty28.size a := by
        show 1 ≤ sumMap _ a + 1
        omega
      simp only [sumMap,List.map_cons,List.sum_cons] at ih ⊢
      omega
  have := this x
  omega
theorem wish_len (x : WishX) : (wishOf x).txt.length ≤ Try.ty24.size x := by
  obtain ⟨a,n,m,v,o,t,⟨⟩⟩ := x
  show t.length ≤ 1 + (1 + (1 + (1 + (1 + ((t.length + 1) + 0))))) + 1
  omega
theorem both_len (x0 : List (List OpX)) (x1 : WishX) (hb : Try.ty22.size x0 + Try.ty24.size x1 ≤ 1048576) : (opssOf x0).length ≤ 1100000 ∧ (wishOf x1).txt.length ≤ 1100000 := by
  have h1 := opss_len x0
  have h2 := wish_len x1
  omega
end Go.Proofs.Ytimonfakmadhpaa
end
