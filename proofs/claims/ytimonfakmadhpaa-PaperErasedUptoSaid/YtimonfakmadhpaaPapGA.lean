/-
  Several texts in one: each says what it proves.
  Conditions: none. Lemmas only.
-/
import Derived.Test.YtimonfakmadhpaaPapG3
import Derived.Test.YtimonfakmadhpaaFugG6
import Derived.Test.YtimonfakmadhpaaPapG8
import Derived.Test.YtimonfakmadhpaaPapG9
import Derived.Test.YtimonfakmadhpaaFugAe
import Derived.Test.YtimonfakmadhpaaPapG7
set_option linter.all false
section
set_option linter.unusedSimpArgs false
set_option linter.unusedVariables false
set_option maxRecDepth 8000
set_option maxHeartbeats 4000000
namespace Go.Proofs.Ytimonfakmadhpaa
open Go Go.Abs Go.Proofs Go.Fug
def withinP (s : PS) (a n : Int) : Bool := decide (0 ≤ a ∧ 0 ≤ n ∧ a ≤ ((s.L.length - s.G.length : Nat) : Int) ∧ n ≤ ((s.L.length - s.G.length : Nat) : Int) - a)
theorem within_live (B H : AH) (h : PH) (s : PS) (a n : Int) (p : IsP B H h s) (hh : h.p ≠ 0) : ACalls Try.prog 61 [.ptr h.p 0,.sc (.int .i64 a),.sc (.int .i64 n)] H fun v H' => v = .sc (.bool (withinP s a n)) ∧ H' = H := by
  have hlen := plen_live B H h s p
  have hls := p.t.small
  have hB : withinP s a n = decide (0 ≤ a ∧ 0 ≤ n ∧ a ≤ ((s.L.length - s.G.length : Nat) : Int) ∧ n ≤ ((s.L.length - s.G.length : Nat) : Int) - a) := rfl
  generalize hm : s.L.length - s.G.length = m at *
  have hm9 : m ≤ 10000 := by omega
  by_cases c1 : 0 ≤ a
  · by_cases c2 : 0 ≤ n
    · by_cases c3 : a ≤ (m : Int)
      · by_cases c4 : n ≤ (m : Int) - a
        · rw [hB,decide_eq_true ⟨c1,c2,c3,c4⟩]
          refine ao (c := ⟨Try.prog,31,[],[],[]⟩) (rs := [ResultVar.tmp 6]) Try.mixed Try.func61 rfl rfl rfl (Nat.le_of_ble_eq_true rfl) (by kernel_rfl) ?_
          simp (disch := omega) only [↓aI,aD,aG,ixA,aX,aV,ag,aT,ae,mkA,ab,bnd,aS,aH,aK,cvO,aJ,aY,↓aO,aW,aE,aF,aM,aA,aC,aB,aN,ad,frz,aR,Nat.reduceBEq,Nat.reduceLT,reduceCtorEq,↓reduceIte,aL,AV.cellsOf,AV.fine,AV.one,aQ,Nat.reduceMul,Nat.reduceAdd,Nat.reduceLeDiff,Nat.reduceEqDiff,Int.reduceToNat,Nat.reduceSub,Nat.reduceMod,Nat.reduceDiv,indexK.aggOf,Int.reducePow,Int.reduceLE,Int.reduceNeg,Int.reduceLT,Int.reduceBEq,Int.reduceBNe,Int.reduceEq,aZ,aU,Try.facts,dT,dF,qT,qF,nT,nF,Bool.false_and,Bool.and_false,hh]
          refine CallK.i hlen ?_
          rintro v E ⟨rfl,rfl⟩
          simp (disch := omega) only [↓aI,aD,aG,ixA,aX,aV,ag,aT,ae,mkA,ab,bnd,aS,aH,aK,cvO,aJ,aY,↓aO,aW,aE,aF,aM,aA,aC,aB,aN,ad,frz,aR,Nat.reduceBEq,Nat.reduceLT,reduceCtorEq,↓reduceIte,aL,AV.cellsOf,AV.fine,AV.one,aQ,Nat.reduceMul,Nat.reduceAdd,Nat.reduceLeDiff,Nat.reduceEqDiff,Int.reduceToNat,Nat.reduceSub,Nat.reduceMod,Nat.reduceDiv,indexK.aggOf,Int.reducePow,Int.reduceLE,Int.reduceNeg,Int.reduceLT,Int.reduceBEq,Int.reduceBNe,Int.reduceEq,aZ,aU,Try.facts,dT,dF,qT,qF,nT,nF,Bool.false_and,Bool.and_false]
          refine CallK.i hlen ?_
          rintro v E ⟨rfl,rfl⟩
          simp (disch := omega) only [↓aI,aD,aG,ixA,aX,aV,ag,aT,ae,mkA,ab,bnd,aS,aH,aK,cvO,aJ,aY,↓aO,aW,aE,aF,aM,aA,aC,aB,aN,ad,frz,aR,Nat.reduceBEq,Nat.reduceLT,reduceCtorEq,↓reduceIte,aL,AV.cellsOf,AV.fine,AV.one,aQ,Nat.reduceMul,Nat.reduceAdd,Nat.reduceLeDiff,Nat.reduceEqDiff,Int.reduceToNat,Nat.reduceSub,Nat.reduceMod,Nat.reduceDiv,indexK.aggOf,Int.reducePow,Int.reduceLE,Int.reduceNeg,Int.reduceLT,Int.reduceBEq,Int.reduceBNe,Int.reduceEq,aZ,aU,Try.facts,dT,dF,qT,qF,nT,nF,Bool.false_and,Bool.and_false]
          exact ⟨_,rfl,_,Abs.Sub.refl _,rfl,rfl⟩
        · rw [hB,decide_eq_false (fun h => c4 h.2.2.2)]
          refine ao (c := ⟨Try.prog,31,[],[],[]⟩) (rs := [ResultVar.tmp 6]) Try.mixed Try.func61 rfl rfl rfl (Nat.le_of_ble_eq_true rfl) (by kernel_rfl) ?_
          simp (disch := omega) only [↓aI,aD,aG,ixA,aX,aV,ag,aT,ae,mkA,ab,bnd,aS,aH,aK,cvO,aJ,aY,↓aO,aW,aE,aF,aM,aA,aC,aB,aN,ad,frz,aR,Nat.reduceBEq,Nat.reduceLT,reduceCtorEq,↓reduceIte,aL,AV.cellsOf,AV.fine,AV.one,aQ,Nat.reduceMul,Nat.reduceAdd,Nat.reduceLeDiff,Nat.reduceEqDiff,Int.reduceToNat,Nat.reduceSub,Nat.reduceMod,Nat.reduceDiv,indexK.aggOf,Int.reducePow,Int.reduceLE,Int.reduceNeg,Int.reduceLT,Int.reduceBEq,Int.reduceBNe,Int.reduceEq,aZ,aU,Try.facts,dT,dF,qT,qF,nT,nF,Bool.false_and,Bool.and_false,hh]
          refine CallK.i hlen ?_
          rintro v E ⟨rfl,rfl⟩
          simp (disch := omega) only [↓aI,aD,aG,ixA,aX,aV,ag,aT,ae,mkA,ab,bnd,aS,aH,aK,cvO,aJ,aY,↓aO,aW,aE,aF,aM,aA,aC,aB,aN,ad,frz,aR,Nat.reduceBEq,Nat.reduceLT,reduceCtorEq,↓reduceIte,aL,AV.cellsOf,AV.fine,AV.one,aQ,Nat.reduceMul,Nat.reduceAdd,Nat.reduceLeDiff,Nat.reduceEqDiff,Int.reduceToNat,Nat.reduceSub,Nat.reduceMod,Nat.reduceDiv,indexK.aggOf,Int.reducePow,Int.reduceLE,Int.reduceNeg,Int.reduceLT,Int.reduceBEq,Int.reduceBNe,Int.reduceEq,aZ,aU,Try.facts,dT,dF,qT,qF,nT,nF,Bool.false_and,Bool.and_false]
          refine CallK.i hlen ?_
          rintro v E ⟨rfl,rfl⟩
          simp (disch := omega) only [↓aI,aD,aG,ixA,aX,aV,ag,aT,ae,mkA,ab,bnd,aS,aH,aK,cvO,aJ,aY,↓aO,aW,aE,aF,aM,aA,aC,aB,aN,ad,frz,aR,Nat.reduceBEq,Nat.reduceLT,reduceCtorEq,↓reduceIte,aL,AV.cellsOf,AV.fine,AV.one,aQ,Nat.reduceMul,Nat.reduceAdd,Nat.reduceLeDiff,Nat.reduceEqDiff,Int.reduceToNat,Nat.reduceSub,Nat.reduceMod,Nat.reduceDiv,indexK.aggOf,Int.reducePow,Int.reduceLE,Int.reduceNeg,Int.reduceLT,Int.reduceBEq,Int.reduceBNe,Int.reduceEq,aZ,aU,Try.facts,dT,dF,qT,qF,nT,nF,Bool.false_and,Bool.and_false]
          exact ⟨_,rfl,_,Abs.Sub.refl _,rfl,rfl⟩
      · rw [hB,decide_eq_false (fun h => c3 h.2.2.1)]
        refine ao (c := ⟨Try.prog,31,[],[],[]⟩) (rs := [ResultVar.tmp 6]) Try.mixed Try.func61 rfl rfl rfl (Nat.le_of_ble_eq_true rfl) (by kernel_rfl) ?_
        simp (disch := omega) only [↓aI,aD,aG,ixA,aX,aV,ag,aT,ae,mkA,ab,bnd,aS,aH,aK,cvO,aJ,aY,↓aO,aW,aE,aF,aM,aA,aC,aB,aN,ad,frz,aR,Nat.reduceBEq,Nat.reduceLT,reduceCtorEq,↓reduceIte,aL,AV.cellsOf,AV.fine,AV.one,aQ,Nat.reduceMul,Nat.reduceAdd,Nat.reduceLeDiff,Nat.reduceEqDiff,Int.reduceToNat,Nat.reduceSub,Nat.reduceMod,Nat.reduceDiv,indexK.aggOf,Int.reducePow,Int.reduceLE,Int.reduceNeg,Int.reduceLT,Int.reduceBEq,Int.reduceBNe,Int.reduceEq,aZ,aU,Try.facts,dT,dF,qT,qF,nT,nF,Bool.false_and,Bool.and_false,hh]
        refine CallK.i hlen ?_
        rintro v E ⟨rfl,rfl⟩
        simp (disch := omega) only [↓aI,aD,aG,ixA,aX,aV,ag,aT,ae,mkA,ab,bnd,aS,aH,aK,cvO,aJ,aY,↓aO,aW,aE,aF,aM,aA,aC,aB,aN,ad,frz,aR,Nat.reduceBEq,Nat.reduceLT,reduceCtorEq,↓reduceIte,aL,AV.cellsOf,AV.fine,AV.one,aQ,Nat.reduceMul,Nat.reduceAdd,Nat.reduceLeDiff,Nat.reduceEqDiff,Int.reduceToNat,Nat.reduceSub,Nat.reduceMod,Nat.reduceDiv,indexK.aggOf,Int.reducePow,Int.reduceLE,Int.reduceNeg,Int.reduceLT,Int.reduceBEq,Int.reduceBNe,Int.reduceEq,aZ,aU,Try.facts,dT,dF,qT,qF,nT,nF,Bool.false_and,Bool.and_false]
        exact ⟨_,rfl,_,Abs.Sub.refl _,rfl,rfl⟩
    · rw [hB,decide_eq_false (fun h => c2 h.2.1)]
      refine ao (c := ⟨Try.prog,31,[],[],[]⟩) (rs := [ResultVar.tmp 6]) Try.mixed Try.func61 rfl rfl rfl (Nat.le_of_ble_eq_true rfl) (by kernel_rfl) ?_
      simp (disch := omega) only [↓aI,aD,aG,ixA,aX,aV,ag,aT,ae,mkA,ab,bnd,aS,aH,aK,cvO,aJ,aY,↓aO,aW,aE,aF,aM,aA,aC,aB,aN,ad,frz,aR,Nat.reduceBEq,Nat.reduceLT,reduceCtorEq,↓reduceIte,aL,AV.cellsOf,AV.fine,AV.one,aQ,Nat.reduceMul,Nat.reduceAdd,Nat.reduceLeDiff,Nat.reduceEqDiff,Int.reduceToNat,Nat.reduceSub,Nat.reduceMod,Nat.reduceDiv,indexK.aggOf,Int.reducePow,Int.reduceLE,Int.reduceNeg,Int.reduceLT,Int.reduceBEq,Int.reduceBNe,Int.reduceEq,aZ,aU,Try.facts,dT,dF,qT,qF,nT,nF,Bool.false_and,Bool.and_false,hh]
      exact ⟨_,rfl,_,Abs.Sub.refl _,rfl,rfl⟩
  · rw [hB,decide_eq_false (fun h => c1 h.1)]
    refine ao (c := ⟨Try.prog,31,[],[],[]⟩) (rs := [ResultVar.tmp 6]) Try.mixed Try.func61 rfl rfl rfl (Nat.le_of_ble_eq_true rfl) (by kernel_rfl) ?_
    simp (disch := omega) only [↓aI,aD,aG,ixA,aX,aV,ag,aT,ae,mkA,ab,bnd,aS,aH,aK,cvO,aJ,aY,↓aO,aW,aE,aF,aM,aA,aC,aB,aN,ad,frz,aR,Nat.reduceBEq,Nat.reduceLT,reduceCtorEq,↓reduceIte,aL,AV.cellsOf,AV.fine,AV.one,aQ,Nat.reduceMul,Nat.reduceAdd,Nat.reduceLeDiff,Nat.reduceEqDiff,Int.reduceToNat,Nat.reduceSub,Nat.reduceMod,Nat.reduceDiv,indexK.aggOf,Int.reducePow,Int.reduceLE,Int.reduceNeg,Int.reduceLT,Int.reduceBEq,Int.reduceBNe,Int.reduceEq,aZ,aU,Try.facts,dT,dF,qT,qF,nT,nF,Bool.false_and,Bool.and_false,hh]
    exact ⟨_,rfl,_,Abs.Sub.refl _,rfl,rfl⟩
abbrev opD (x : EId) : Opn := ⟨2,cj,x,cF⟩
def eraseP (s : PS) (a n : Int) : List Opn × Int :=
  if withinP s a n = false then ([],6)
  else if 64 < n then ([],2)
  else ((((live (bF s.L s.G)).drop a.toNat).take n.toNat).map fun x => opD x.id,0)
theorem erase_live (B H : AH) (h : PH) (s : PS) (a n : Int) (p : IsP B H h s) (hh : h.p ≠ 0) : ACalls Try.prog 21 [.ptr h.p 0,.sc (.int .i64 a),.sc (.int .i64 n)] H fun v H' => v = .tup [opsV (eraseP s a n).1,.sc (.int .i64 (eraseP s a n).2)] ∧ Abs.Sub H H' := by
  have hw := within_live B H h s a n p hh
  obtain ⟨wv,vp,-⟩ := p.pw
  have hls := p.t.small
  have hR : eraseP s a n = if withinP s a n = false then ([],6) else if 64 < n then ([],2) else ((((live (bF s.L s.G)).drop a.toNat).take n.toNat).map fun x => opD x.id,0) := rfl
  have hat := fun H' i t => at_live H' h.t h.mt s.L s.G i t
  have hll : (live (bF s.L s.G)).length = s.L.length - s.G.length := live_len p.t.g p.t.gs p.t.gn
  generalize eraseP s a n = R at *
  cases hwv : withinP s a n
  · rw [hwv,if_pos rfl] at hR
    rw [hwv] at hw
    subst hR
    refine ao (c := ⟨Try.prog,41,[(1000009,[10])],[],[]⟩) (rs := [ResultVar.tmp 6,ResultVar.tmp 7]) Try.mixed Try.func21 rfl rfl rfl (Nat.le_of_ble_eq_true rfl) (by kernel_rfl) ?_
    simp (disch := omega) only [↓aI,aD,aG,ixA,aX,aV,ag,aT,ae,mkA,ab,bnd,aS,aH,aK,cvO,aJ,aY,↓aO,aW,aE,aF,aM,aA,aC,aB,aN,ad,frz,aR,Nat.reduceBEq,Nat.reduceLT,reduceCtorEq,↓reduceIte,aL,AV.cellsOf,AV.fine,AV.one,aQ,Nat.reduceMul,Nat.reduceAdd,Nat.reduceLeDiff,Nat.reduceEqDiff,Int.reduceToNat,Nat.reduceSub,Nat.reduceMod,Nat.reduceDiv,indexK.aggOf,Int.reducePow,Int.reduceLE,Int.reduceNeg,Int.reduceLT,Int.reduceBEq,Int.reduceBNe,Int.reduceEq,aZ,aU,Try.facts,dT,dF,qT,qF,nT,nF,Bool.false_and,Bool.and_false,hh]
    refine CallK.i hw ?_
    rintro v E ⟨rfl,rfl⟩
    simp (disch := omega) only [↓aI,aD,aG,ixA,aX,aV,ag,aT,ae,mkA,ab,bnd,aS,aH,aK,cvO,aJ,aY,↓aO,aW,aE,aF,aM,aA,aC,aB,aN,ad,frz,aR,Nat.reduceBEq,Nat.reduceLT,reduceCtorEq,↓reduceIte,aL,AV.cellsOf,AV.fine,AV.one,aQ,Nat.reduceMul,Nat.reduceAdd,Nat.reduceLeDiff,Nat.reduceEqDiff,Int.reduceToNat,Nat.reduceSub,Nat.reduceMod,Nat.reduceDiv,indexK.aggOf,Int.reducePow,Int.reduceLE,Int.reduceNeg,Int.reduceLT,Int.reduceBEq,Int.reduceBNe,Int.reduceEq,aZ,aU,Try.facts,dT,dF,qT,qF,nT,nF,Bool.false_and,Bool.and_false]
    exact ⟨_,rfl,_,Abs.Sub.refl _,rfl,Abs.Sub.refl _⟩
  · rw [hwv,if_neg (by simp)] at hR
    rw [hwv] at hw
    unfold withinP at hwv
    simp only [decide_eq_true_eq] at hwv
    obtain ⟨c1,c2,c3,c4⟩ := hwv
    obtain ⟨i,rfl⟩ : ∃ i : Nat,a = (i : Int) := ⟨a.toNat,by omega⟩
    obtain ⟨q,rfl⟩ : ∃ q : Nat,n = (q : Int) := ⟨n.toNat,by omega⟩
    simp only [Int.toNat_natCast] at hR
    by_cases h64 : (64 : Int) < (q : Int)
    · rw [if_pos h64] at hR
      subst hR
      refine ao (c := ⟨Try.prog,41,[(1000009,[10])],[],[]⟩) (rs := [ResultVar.tmp 6,ResultVar.tmp 7]) Try.mixed Try.func21 rfl rfl rfl (Nat.le_of_ble_eq_true rfl) (by kernel_rfl) ?_
      simp (disch := omega) only [↓aI,aD,aG,ixA,aX,aV,ag,aT,ae,mkA,ab,bnd,aS,aH,aK,cvO,aJ,aY,↓aO,aW,aE,aF,aM,aA,aC,aB,aN,ad,frz,aR,Nat.reduceBEq,Nat.reduceLT,reduceCtorEq,↓reduceIte,aL,AV.cellsOf,AV.fine,AV.one,aQ,Nat.reduceMul,Nat.reduceAdd,Nat.reduceLeDiff,Nat.reduceEqDiff,Int.reduceToNat,Nat.reduceSub,Nat.reduceMod,Nat.reduceDiv,indexK.aggOf,Int.reducePow,Int.reduceLE,Int.reduceNeg,Int.reduceLT,Int.reduceBEq,Int.reduceBNe,Int.reduceEq,aZ,aU,Try.facts,dT,dF,qT,qF,nT,nF,Bool.false_and,Bool.and_false,hh]
      refine CallK.i hw ?_
      rintro v E ⟨rfl,rfl⟩
      simp (disch := omega) only [↓aI,aD,aG,ixA,aX,aV,ag,aT,ae,mkA,ab,bnd,aS,aH,aK,cvO,aJ,aY,↓aO,aW,aE,aF,aM,aA,aC,aB,aN,ad,frz,aR,Nat.reduceBEq,Nat.reduceLT,reduceCtorEq,↓reduceIte,aL,AV.cellsOf,AV.fine,AV.one,aQ,Nat.reduceMul,Nat.reduceAdd,Nat.reduceLeDiff,Nat.reduceEqDiff,Int.reduceToNat,Nat.reduceSub,Nat.reduceMod,Nat.reduceDiv,indexK.aggOf,Int.reducePow,Int.reduceLE,Int.reduceNeg,Int.reduceLT,Int.reduceBEq,Int.reduceBNe,Int.reduceEq,aZ,aU,Try.facts,dT,dF,qT,qF,nT,nF,Bool.false_and,Bool.and_false]
      exact ⟨_,rfl,_,Abs.Sub.refl _,rfl,Abs.Sub.refl _⟩
    · rw [if_neg h64] at hR
      refine ao (c := ⟨Try.prog,41,[(1000009,[10])],[],[]⟩) (rs := [ResultVar.tmp 6,ResultVar.tmp 7]) Try.mixed Try.func21 rfl rfl rfl (Nat.le_of_ble_eq_true rfl) (by kernel_rfl) ?_
      simp (disch := omega) only [↓aI,aD,aG,ixA,aX,aV,ag,aT,ae,mkA,ab,bnd,aS,aH,aK,cvO,aJ,aY,↓aO,aW,aE,aF,aM,aA,aC,aB,aN,ad,frz,aR,Nat.reduceBEq,Nat.reduceLT,reduceCtorEq,↓reduceIte,aL,AV.cellsOf,AV.fine,AV.one,aQ,Nat.reduceMul,Nat.reduceAdd,Nat.reduceLeDiff,Nat.reduceEqDiff,Int.reduceToNat,Nat.reduceSub,Nat.reduceMod,Nat.reduceDiv,indexK.aggOf,Int.reducePow,Int.reduceLE,Int.reduceNeg,Int.reduceLT,Int.reduceBEq,Int.reduceBNe,Int.reduceEq,aZ,aU,Try.facts,dT,dF,qT,qF,nT,nF,Bool.false_and,Bool.and_false,hh]
      refine CallK.i hw ?_
      rintro v E ⟨rfl,rfl⟩
      simp (disch := omega) only [↓aI,aD,aG,ixA,aX,aV,ag,aT,ae,mkA,ab,bnd,aS,aH,aK,cvO,aJ,aY,↓aO,aW,aE,aF,aM,aA,aC,aB,aN,ad,frz,aR,Nat.reduceBEq,Nat.reduceLT,reduceCtorEq,↓reduceIte,aL,AV.cellsOf,AV.fine,AV.one,aQ,Nat.reduceMul,Nat.reduceAdd,Nat.reduceLeDiff,Nat.reduceEqDiff,Int.reduceToNat,Nat.reduceSub,Nat.reduceMod,Nat.reduceDiv,indexK.aggOf,Int.reducePow,Int.reduceLE,Int.reduceNeg,Int.reduceLT,Int.reduceBEq,Int.reduceBNe,Int.reduceEq,aZ,aU,Try.facts,dT,dF,qT,qF,nT,nF,Bool.false_and,Bool.and_false]
      refine tok_t 8 (by simp (disch := omega) only [↓aI,aD,aG,ixA,aX,aV,ag,aT,ae,mkA,ab,bnd,aS,aH,aK,cvO,aJ,aY,↓aO,aW,aE,aF,aM,aA,aC,aB,aN,ad,frz,aR,Nat.reduceBEq,Nat.reduceLT,reduceCtorEq,↓reduceIte,aL,AV.cellsOf,AV.fine,AV.one,aQ,Nat.reduceMul,Nat.reduceAdd,Nat.reduceLeDiff,Nat.reduceEqDiff,Int.reduceToNat,Nat.reduceSub,Nat.reduceMod,Nat.reduceDiv,indexK.aggOf,Int.reducePow,Int.reduceLE,Int.reduceNeg,Int.reduceLT,Int.reduceBEq,Int.reduceBNe,Int.reduceEq,aZ,aU,Try.facts]) fun k hk0 hk => ?_
      refine br (c := ⟨Try.prog,41,[(1000009,[10])],[],[]⟩) Try.mixed (by kernel_rfl) (fun mm σ H' => ∃ (j : Nat) (O : List Opn) (k : Nat) (o : AObj),j + mm = q ∧ O = (((live (bF s.L s.G)).drop i).take j).map (fun x => opD x.id) ∧ O.length = j ∧ k ≠ 0 ∧ E k = none ∧ Abs.Sub E H' ∧ H' k = some o ∧ cy 84 19 o (O.length * 19) ∧
        σ 0 = .ptr h.p 0 ∧ σ 1 = .sc (.int .i64 (i : Nat)) ∧ σ 8 = .imm k (dL O) O.length ∧ σ 19 = .sc (.int .i64 (q : Nat)) ∧ σ 20 = .sc (.int .i64 (j : Nat))) q ?_ ?_
      · refine ⟨0,[],k,.nilt,by omega,by simp,rfl,hk0,hk,Sub.set_new hk,set_get,.inr ⟨rfl,rfl⟩,?_⟩
        simp (disch := omega) only [↓aI,aD,aG,ixA,aX,aV,ag,aT,ae,mkA,ab,bnd,aS,aH,aK,cvO,aJ,aY,↓aO,aW,aE,aF,aM,aA,aC,aB,aN,ad,frz,aR,Nat.reduceBEq,Nat.reduceLT,reduceCtorEq,↓reduceIte,aL,AV.cellsOf,AV.fine,AV.one,aQ,Nat.reduceMul,Nat.reduceAdd,Nat.reduceLeDiff,Nat.reduceEqDiff,Int.reduceToNat,Nat.reduceSub,Nat.reduceMod,Nat.reduceDiv,indexK.aggOf,Int.reducePow,Int.reduceLE,Int.reduceNeg,Int.reduceLT,Int.reduceBEq,Int.reduceBNe,Int.reduceEq,aZ,aU,Try.facts]
        try rfl
      · clear hk hk0 k
        rintro mm σ H' ⟨j,O,k,o,hjm,hO,hOl,hk0,hk,hs,vk,ho,s0,s1,s8,s19,s20⟩
        have pH := p.mono hs
        by_cases hlt : j < q
        · have hnd : i + j < (live (bF s.L s.G)).length := by omega
          have hA := hat H' ((i : Int) + (j : Int)) pH.t
          have hat1 : atL (bF s.L s.G) ((i : Int) + (j : Int)) = ((live (bF s.L s.G))[i + j].id,0) := by
            unfold atL
            rw [if_pos (by omega),show ((i : Int) + (j : Int)).toNat = i + j by omega,List.getElem?_eq_getElem hnd]
            rfl
          have hO2 : (((live (bF s.L s.G)).drop i).take (j + 1)).map (fun x => opD x.id) = O ++ [opD (live (bF s.L s.G))[i + j].id] := by
            rw [hO,List.take_succ_eq_append_getElem (by rw [List.length_drop]; omega),List.map_append,List.getElem_drop]
            rfl
          rw [hat1] at hA
          generalize (live (bF s.L s.G))[i + j].id = x at *
          obtain ⟨x1,x2⟩ := x
          have vpH := hs _ _ vp
          have hsn := opsC_snoc O (opD (x1,x2))
          have hsl := cq O
          simp (disch := omega) only [↓aI,aD,aG,ixA,aX,aV,ag,aT,ae,mkA,ab,bnd,aS,aH,aK,cvO,aJ,aY,↓aO,aW,aE,aF,aM,aA,aC,aB,aN,ad,frz,aR,Nat.reduceBEq,Nat.reduceLT,reduceCtorEq,↓reduceIte,aL,AV.cellsOf,AV.fine,AV.one,aQ,Nat.reduceMul,Nat.reduceAdd,Nat.reduceLeDiff,Nat.reduceEqDiff,Int.reduceToNat,Nat.reduceSub,Nat.reduceMod,Nat.reduceDiv,indexK.aggOf,Int.reducePow,Int.reduceLE,Int.reduceNeg,Int.reduceLT,Int.reduceBEq,Int.reduceBNe,Int.reduceEq,aZ,aU,Try.facts,s0,s1,s8,s19,s20,dT,dF,qT,qF,nT,nF,Bool.false_and,Bool.and_false,vpH]
          refine CallK.i hA ?_
          rintro v E2 ⟨rfl,hE⟩
          subst hE
          simp (disch := omega) only [↓aI,aD,aG,ixA,aX,aV,ag,aT,ae,mkA,ab,bnd,aS,aH,aK,cvO,aJ,aY,↓aO,aW,aE,aF,aM,aA,aC,aB,aN,ad,frz,aR,Nat.reduceBEq,Nat.reduceLT,reduceCtorEq,↓reduceIte,aL,AV.cellsOf,AV.fine,AV.one,aQ,Nat.reduceMul,Nat.reduceAdd,Nat.reduceLeDiff,Nat.reduceEqDiff,Int.reduceToNat,Nat.reduceSub,Nat.reduceMod,Nat.reduceDiv,indexK.aggOf,Int.reducePow,Int.reduceLE,Int.reduceNeg,Int.reduceLT,Int.reduceBEq,Int.reduceBNe,Int.reduceEq,aZ,aU,Try.facts,s0,s1,s8,s19,s20,dT,dF,qT,qF,nT,nF,Bool.false_and,Bool.and_false]
          intro b10 hb100 hb10
          try simp (disch := omega) only [↓aI,aD,aG,ixA,aX,aV,ag,aT,ae,mkA,ab,bnd,aS,aH,aK,cvO,aJ,aY,↓aO,aW,aE,aF,aM,aA,aC,aB,aN,ad,frz,aR,Nat.reduceBEq,Nat.reduceLT,reduceCtorEq,↓reduceIte,aL,AV.cellsOf,AV.fine,AV.one,aQ,Nat.reduceMul,Nat.reduceAdd,Nat.reduceLeDiff,Nat.reduceEqDiff,Int.reduceToNat,Nat.reduceSub,Nat.reduceMod,Nat.reduceDiv,indexK.aggOf,Int.reducePow,Int.reduceLE,Int.reduceNeg,Int.reduceLT,Int.reduceBEq,Int.reduceBNe,Int.reduceEq,aZ,aU,Try.facts,s0,s1,s8,s19,s20,dT,dF,qT,qF,nT,nF,Bool.false_and,Bool.and_false,aj hb10,ah,vk,ho,hk0,hsl]
          intro k2 o2 hk20 hk2 ho2
          have h9 : (O ++ [opD (x1,x2)]).length = O.length + 1 := by simp
          exact ⟨mm - 1,by omega,j + 1,O ++ [opD (x1,x2)],k2,o2,by omega,hO2.symm,by omega,hk20,hs.free hk2,(hs.kill_free hk).set_free (hs.free hk2),set_get,by rw [h9,Nat.succ_mul]; exact ho2,by rw [h9]; exact congrArg (fun c => AV.imm k2 c (O.length + 1)) hsn,rfl⟩
        · obtain rfl : j = q := by omega
          rw [← hO] at hR
          subst hR
          simp (disch := omega) only [↓aI,aD,aG,ixA,aX,aV,ag,aT,ae,mkA,ab,bnd,aS,aH,aK,cvO,aJ,aY,↓aO,aW,aE,aF,aM,aA,aC,aB,aN,ad,frz,aR,Nat.reduceBEq,Nat.reduceLT,reduceCtorEq,↓reduceIte,aL,AV.cellsOf,AV.fine,AV.one,aQ,Nat.reduceMul,Nat.reduceAdd,Nat.reduceLeDiff,Nat.reduceEqDiff,Int.reduceToNat,Nat.reduceSub,Nat.reduceMod,Nat.reduceDiv,indexK.aggOf,Int.reducePow,Int.reduceLE,Int.reduceNeg,Int.reduceLT,Int.reduceBEq,Int.reduceBNe,Int.reduceEq,aZ,aU,Try.facts,s0,s1,s8,s19,s20,dT,dF,qT,qF,nT,nF,Bool.false_and,Bool.and_false]
          exact ⟨_,rfl,_,Abs.Sub.refl _,rfl,hs⟩
end Go.Proofs.Ytimonfakmadhpaa
end
section
set_option linter.unusedSimpArgs false
set_option linter.unusedVariables false
set_option maxRecDepth 8000
set_option maxHeartbeats 1000000
namespace Go.Proofs.Ytimonfakmadhpaa
open Go Go.Abs Go.Proofs Go.Fug
theorem ids_same (L : List Ins) (G G' : List EId) : ck (bF L G) = ck (bF L G') := by
  have h1 := nodes_sub L [] G G'
  have h2 := nodes_sub L [] G' G
  rw [List.append_nil] at h1 h2
  exact h1.eq_of_length (Nat.le_antisymm h1.length_le h2.length_le)
theorem nodes_map (L : List Ins) (G : List EId) : bF L G = (ck (bF L G)).map (bl L G) := by
  unfold ck
  rw [List.map_map]
  exact ((List.map_congr_left fun n hn => (nd_eq hn).symm).trans (List.map_id _)).symm
theorem runesN_ids (L : List Ins) (G G' : List EId) : runesN (bF L G') = ((ck (bF L G)).filter fun y => !decide (y ∈ G')).map fun y => (bl L [] y).rune := by
  have h := nodes_map L G'
  rw [ids_same L G' G] at h
  unfold runesN liv
  rw [h,List.filter_map,List.map_map]
  rfl
theorem filter_mid : ∀ (A M B : List EId),(A ++ (M ++ B)).Nodup → ((A ++ (M ++ B)).filter fun y => !decide (y ∈ M)) = A ++ B := fun A M B h => by
  rw [List.nodup_append] at h
  obtain ⟨h1,h2,h3⟩ := h
  rw [List.nodup_append] at h2
  obtain ⟨h4,h5,h6⟩ := h2
  rw [List.filter_append,List.filter_append]
  have e1 : (A.filter fun y => !decide (y ∈ M)) = A := List.filter_eq_self.2 fun y hy => by
    simp only [Bool.not_eq_true',decide_eq_false_iff_not]
    intro hm
    exact h3 y hy y (List.mem_append_left _ hm) rfl
  have e2 : (M.filter fun y => !decide (y ∈ M)) = [] := List.filter_eq_nil_iff.2 fun y hy => by simp [hy]
  have e3 : (B.filter fun y => !decide (y ∈ M)) = B := List.filter_eq_self.2 fun y hy => by
    simp only [Bool.not_eq_true',decide_eq_false_iff_not]
    intro hm
    exact h6 y hm y hy rfl
  rw [e1,e2,e3,List.nil_append]
theorem takes_drop : ∀ (l : List EId) (s : PS),(∀ x ∈ l,x ∈ s.L.map (·.id)) → (s.G ++ l).Nodup → (l.map opD).foldl dK s = { s with D := s.D ++ l,G := s.G ++ l }
  | [],s,_,_ => by simp
  | x :: l,s,h,hn => by
    have e : s.G ++ x :: l = (s.G ++ [x]) ++ l := by simp
    rw [e] at hn ⊢
    have h1 : dK s (opD x) = { s with D := s.D ++ [x],G := s.G ++ [x] } := by
      have h2 : x ∉ s.G := fun h => by
        rw [List.nodup_append,List.nodup_append] at hn
        exact hn.1.2.2 x h x (by simp) rfl
      unfold dK
      rw [if_neg (show ¬ (2 : Int) = 1 by decide),if_pos rfl]
      have h3 : dropG s.L s.G (opD x).drop = (s.G ++ [x],0) := by
        unfold dropG
        rw [if_neg (fun h' => h' (h x (by simp))),if_neg h2]
      rw [h3]
    rw [List.map_cons,List.foldl_cons,h1,takes_drop l { s with D := s.D ++ [x],G := s.G ++ [x] } (fun y hy => h y (List.mem_cons_of_mem _ hy)) hn]
    simp
theorem settle_stuck {s : PS} (ok : ∀ i ∈ s.W,okI i = true) (hL : s.L.length < 4096) (st : Stuck s.L s.W) : settleP s = s := by
  have key : ∀ (W R : List Ins),(∀ i ∈ W,okI i = true) → Stuck s.L W → W.foldl (addD s.D) (s.L,s.G,R) = (s.L,s.G,R ++ W) := by
    intro W
    induction W with
    | nil => intro R _ _; simp
    | cons i W ih =>
      intro R hok hst
      have h1 : addD s.D (s.L,s.G,R) i = (s.L,s.G,R ++ [i]) := by
        unfold addD
        simp only
        rw [if_neg]
        rcases add_cases s.L i (hok i (by simp)) hL with ⟨-,h2,h3⟩ | ⟨h2,-⟩
        · rcases hst i (by simp) with h4 | ⟨h4,h5⟩
          · exact absurd h4 h2
          · rcases h3 with h6 | h6
            · exact absurd h6 h4
            · exact absurd h6 h5
        · exact h2
      rw [List.foldl_cons,h1,ih (R ++ [i]) (fun j hj => hok j (by simp [hj])) (fun j hj => hst j (by simp [hj]))]
      simp
  have h := key s.W [] ok st
  rw [List.nil_append] at h
  unfold settleP
  rw [dG]
  unfold rndP
  rw [h,if_pos rfl]
theorem fresh_allD (s : PS) : ∀ (l F : List Opn),(∀ o ∈ l,cf s o = false) → ((F ++ l).map cM).Nodup → l.foldl (dZ s) F = F ++ l
  | [],F,_,_ => by simp
  | o :: l,F,hk,hn => by
    have e : F ++ o :: l = (F ++ [o]) ++ l := by simp
    rw [e] at hn ⊢
    have h1 : dZ s F o = F ++ [o] := by
      unfold dZ
      rw [if_neg]
      rintro (h | h)
      · rw [List.map_append,List.nodup_append,List.map_append,List.nodup_append] at hn
        exact hn.1.2.2 _ h (cM o) (by simp) rfl
      · rw [hk o (by simp)] at h; cases h
    rw [List.foldl_cons,h1]
    exact fresh_allD s l _ (fun q hq => hk q (by simp [hq])) hn
theorem erased_law {s : PS} (t : InvP s) (g : Fug.Good s.L) (gs : ∀ x ∈ s.G, x ∈ s.L.map (·.id)) (gn : s.G.Nodup) (hz : sizP s ≤ 100) {a n : Nat} (he : eraseP s (a : Int) (n : Int) = (((((live (bF s.L s.G)).drop a).take n).map fun x => opD x.id), 0)) (hn : n ≤ 64)
    (hM : s.l.length ≤ 400) :
    (doP s (eraseP s (a : Int) (n : Int)).1).1 = 0 ∧ runesN (bF (doP s (eraseP s (a : Int) (n : Int)).1).2.L (doP s (eraseP s (a : Int) (n : Int)).1).2.G) = (runesN (bF s.L s.G)).take a ++ (runesN (bF s.L s.G)).drop (a + n) := by
  rw [he]
  simp only
  have hL4 : s.L.length < 4096 ∧ s.I.length < 4096 := by
    have h1 := t.mid.pm.length_eq
    rw [List.length_append] at h1
    unfold sizP at hz
    omega
  have hlm : (((live (bF s.L s.G)).drop a).take n).map (fun x => opD x.id) = (((ck (liv (bF s.L s.G))).drop a).take n).map opD := by
    unfold ck
    rw [← List.map_drop,← List.map_take,List.map_map]
    rfl
  rw [hlm]
  have hnd := liv_nodup g s.G
  have hlid : ck (liv (bF s.L s.G)) = (ck (bF s.L s.G)).filter fun y => !decide (y ∈ s.G) := by
    have h := nodes_map s.L s.G
    have e : liv (bF s.L s.G) = liv ((ck (bF s.L s.G)).map (bl s.L s.G)) := by rw [← h]
    rw [e]
    unfold liv ck
    rw [List.filter_map,List.map_map]
    exact (List.map_congr_left fun n _ => rfl).trans (List.map_id _)
  generalize hl : ck (liv (bF s.L s.G)) = l at *
  have hmem : ∀ x ∈ l,x ∈ s.L.map (·.id) ∧ x ∉ s.G := fun x hx => by
    rw [hlid] at hx
    obtain ⟨h1,h2⟩ := List.mem_filter.1 hx
    exact ⟨(mem_nodes g s.G).1 h1,by simpa using h2⟩
  have hcut : l = l.take a ++ ((l.drop a).take n ++ l.drop (a + n)) := by
    rw [← List.drop_drop,List.take_append_drop,List.take_append_drop]
  have hM1 : ∀ x ∈ (l.drop a).take n,x ∈ l := fun x hx => List.mem_of_mem_drop (List.mem_of_mem_take hx)
  have hr0 := runesN_ids s.L s.G s.G
  rw [← hlid] at hr0
  have hr1 := runesN_ids s.L s.G (s.G ++ (l.drop a).take n)
  have hf : ((ck (bF s.L s.G)).filter fun y => !decide (y ∈ s.G ++ (l.drop a).take n)) = l.filter fun y => !decide (y ∈ (l.drop a).take n) := by
    rw [hlid,List.filter_filter]
    refine List.filter_congr fun y _ => ?_
    rw [← hlid]
    by_cases h1 : y ∈ s.G <;> by_cases h2 : y ∈ (l.drop a).take n <;> simp [h1,h2]
  have hfin : (l.filter fun y => !decide (y ∈ (l.drop a).take n)) = l.take a ++ l.drop (a + n) := by
    rw [hcut] at hnd
    have h1 := filter_mid (l.take a) ((l.drop a).take n) (l.drop (a + n)) hnd
    rw [← hcut] at h1
    exact h1
  rw [hf,hfin,List.map_append] at hr1
  generalize hms : (l.drop a).take n = m at *
  have hmn : m.Nodup := by
    rw [← hms]
    exact (hnd.sublist (List.drop_sublist a l)).sublist (List.take_sublist n _)
  have hml : m.length ≤ n := by rw [← hms,List.length_take]; omega
  have hgm : (s.G ++ m).Nodup := by
    rw [List.nodup_append]
    exact ⟨gn,hmn,fun x hx y hy e => (hmem y (hM1 y hy)).2 (by rw [← e]; exact hx)⟩
  have hall : (m.map opD).all opR = true := by
    rw [List.all_eq_true]
    intro o ho
    obtain ⟨x,hx,rfl⟩ := List.mem_map.1 ho
    obtain ⟨i,hi,e⟩ := List.mem_map.1 (hmem x (hM1 x hx)).1
    have h1 := t.ok i (t.mid.pm.mem_iff.1 (by simp [hi]))
    unfold insO at h1
    simp only [Bool.and_eq_true] at h1
    unfold opR
    rw [if_neg (show ¬ (2 : Int) = 1 by decide),if_pos rfl,Bool.and_eq_true,decide_eq_true_eq]
    refine ⟨?_,rfl,rfl⟩
    rw [← e]
    exact h1.1.1
  have hfr : freshP s (m.map opD) = m.map opD := by
    unfold freshP
    rw [fresh_allD s (m.map opD) [] ?_ ?_,List.nil_append]
    · intro o ho
      obtain ⟨x,hx,rfl⟩ := List.mem_map.1 ho
      unfold cf
      rw [if_neg (show ¬ (2 : Int) = 1 by decide),if_pos rfl,decide_eq_false_iff_not]
      intro hD
      have h2 := hmem x (hM1 x hx)
      exact h2.2 ((t.mid.gd x).2 ⟨hD,h2.1⟩)
    · rw [List.nil_append,List.map_map]
      refine List.Pairwise.map _ (fun a b hab => ?_) hmn
      exact fun e => hab (by
        have e2 : ((2 : Int),a.1,a.2) = (2,b.1,b.2) := e
        simp only [Prod.mk.injEq,true_and] at e2
        exact Prod.ext e2.1 e2.2)
  have hmk : dI (m.map opD) = 0 := by
    unfold dI
    rw [List.filter_map,List.length_map]
    have : (m.filter ((fun o => decide (o.kind = 3)) ∘ opD)) = [] := List.filter_eq_nil_iff.2 fun x _ => by simp
    rw [this]
    rfl
  unfold doP
  rw [if_neg (by rw [hall]; simp),hfr,if_neg (by rw [hmk,List.length_map]; unfold sizP at hz; omega)]
  rw [takes_drop m s (fun x hx => (hmem x (hM1 x hx)).1) hgm]
  rw [settle_stuck (s := { s with D := s.D ++ m,G := s.G ++ m }) (fun i hi => insO_ok (t.ok i (t.mid.pm.mem_iff.1 (by simp [show i ∈ s.W from hi])))) hL4.1 t.st]
  refine ⟨rfl,?_⟩
  show runesN (bF s.L (s.G ++ m)) = _
  rw [hr1,hr0,List.map_take,List.map_drop]
end Go.Proofs.Ytimonfakmadhpaa
end
section
set_option maxRecDepth 20000
namespace Go.Proofs.Ytimonfakmadhpaa
open Go Go.Abs Go.Proofs Go.Fug
abbrev opssOf (x : List (List OpX)) : List (List Opn) := x.map fun l => l.map opOf
theorem opss_enc (x : List (List OpX)) : (Try.ty22.enc x).getD 0 .any = opssV (opssOf x) := by
  show AV.imm 0 (x.flatMap fun l => [AV.imm 0 (l.flatMap Try.ty84.enc) l.length]) x.length = .imm 0 ((opssOf x).map opsV) (opssOf x).length
  rw [flat_one,List.length_map]
  congr 1
  rw [List.map_map]
  refine List.map_congr_left fun l _ => ?_
  show AV.imm 0 (l.flatMap Try.ty84.enc) l.length = opsV (l.map opOf)
  rw [ops_enc,opsV,List.length_map]
theorem opss_len (x : List (List OpX)) : (opssOf x).length ≤ Try.ty22.size x := by
  show (opssOf x).length ≤ sumMap Try.ty28.size x + 1
  rw [List.length_map]
  have : ∀ l : List (List OpX),l.length ≤ sumMap Try.ty28.size l := by
    intro l
    induction l with
    | nil => exact Nat.zero_le _
    | cons a l ih =>
      show l.length + 1 ≤ _
      have h2 : 1 ≤ Try.ty28.size a := by
        show 1 ≤ sumMap _ a + 1
        omega
      simp only [sumMap,List.map_cons,List.sum_cons] at ih ⊢
      omega
  have := this x
  omega
end Go.Proofs.Ytimonfakmadhpaa
end
