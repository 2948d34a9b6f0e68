/-
  The law of the real suite.
  Conditions: none. Lemmas only.
-/
import Derived.Test.YtejncnmdjkhiaaaDoorShbG
import Derived.Test.YtejncnmdjkhiaaaDoorShbH
import Derived.Test.YtejncnmdjkhiaaaDoorSuiG6
set_option linter.all false
set_option linter.unusedSimpArgs false
set_option linter.unusedVariables false
set_option maxRecDepth 20000
set_option maxHeartbeats 4000000
namespace Go.Proofs.YtejncnmdjkhiaaaDoor
open Go Go.Abs Go.Proofs Go.Sha
theorem true_walk (x0 x1 x2 : List UInt8) (t : UInt8) (h0 : x0.length ≤ 140737488355328) (h1 : x1.length ≤ 140737488355328) (h2 : x2.length ≤ 140737488355328) : APure Tryd.prog 3 [eu x0,eu x1,eu x2,.sc (.int .u8 t.toNat)] (.sc (.bool true)) := by
  have haw := awake_pure
  refine az (c := ⟨Tryd.prog,72,[(2000011,[0,1,2,3,4,5,6,7,8,9,10,11,12,13,16,14,15,17,18,19,20,21,22,23,24,25,26,29,30,27,28,31,32,33,34,35,36,37,38]),(11,[0,0,0,0,0,0,0,0,0,0,0,0,0,0,0,2,0,0,0,0,0,0,0,0,0,0,0,0,0,2,0,0,0,0,0,0,2,0,0]),(4000011,[8]),(4000007,[0,1,2,3,9,10,28,29]),(4000001,[0,1,2,3,18])],[],[]⟩) (rs := [ResultVar.tmp 8]) Tryd.mixed Tryd.func3 rfl rfl rfl (Nat.le_of_ble_eq_true rfl) (by kernel_rfl) fun H => ?_
  by_cases hbig : 1000 < x0.length ∨ 1000 < x2.length
  · by_cases hb0 : 1000 < x0.length
    · have b0 : decide ((1000 : Int) < (x0.length : Int)) = true := dT (by omega)
      simp (disch := omega) only [↓aI,↓zP,aD,zD,aS,Nat.reduceBEq,Nat.reduceLT,reduceCtorEq,↓reduceIte,Nat.reduceMul,Nat.reduceAdd,Nat.reduceLeDiff,Nat.reduceEqDiff,Int.reduceToNat,Nat.reduceSub,Nat.reduceMod,Nat.reduceDiv,Int.reducePow,Int.reduceLE,Int.reduceNeg,Int.reduceLT,Int.reduceBEq,Int.reduceBNe,Int.reduceEq,Tryd.facts,b0]
      first | refine CallK.p (haw) ?_ | refine CallP.i (haw) ?_
      simp (disch := omega) only [↓aI,↓zP,aD,zD,aS,Nat.reduceBEq,Nat.reduceLT,reduceCtorEq,↓reduceIte,Nat.reduceMul,Nat.reduceAdd,Nat.reduceLeDiff,Nat.reduceEqDiff,Int.reduceToNat,Nat.reduceSub,Nat.reduceMod,Nat.reduceDiv,Int.reducePow,Int.reduceLE,Int.reduceNeg,Int.reduceLT,Int.reduceBEq,Int.reduceBNe,Int.reduceEq,Tryd.facts]
      first | exact Abs.Sub.refl _ | trace_state
    · have b0 : decide ((1000 : Int) < (x0.length : Int)) = false := dF (by omega)
      have b2 : decide ((1000 : Int) < (x2.length : Int)) = true := dT (by omega)
      simp (disch := omega) only [↓aI,↓zP,aD,zD,aS,Nat.reduceBEq,Nat.reduceLT,reduceCtorEq,↓reduceIte,Nat.reduceMul,Nat.reduceAdd,Nat.reduceLeDiff,Nat.reduceEqDiff,Int.reduceToNat,Nat.reduceSub,Nat.reduceMod,Nat.reduceDiv,Int.reducePow,Int.reduceLE,Int.reduceNeg,Int.reduceLT,Int.reduceBEq,Int.reduceBNe,Int.reduceEq,Tryd.facts,b0,b2]
      first | refine CallK.p (haw) ?_ | refine CallP.i (haw) ?_
      simp (disch := omega) only [↓aI,↓zP,aD,zD,aS,Nat.reduceBEq,Nat.reduceLT,reduceCtorEq,↓reduceIte,Nat.reduceMul,Nat.reduceAdd,Nat.reduceLeDiff,Nat.reduceEqDiff,Int.reduceToNat,Nat.reduceSub,Nat.reduceMod,Nat.reduceDiv,Int.reducePow,Int.reduceLE,Int.reduceNeg,Int.reduceLT,Int.reduceBEq,Int.reduceBNe,Int.reduceEq,Tryd.facts]
      first | exact Abs.Sub.refl _ | trace_state
  · have b0 : decide ((1000 : Int) < (x0.length : Int)) = false := dF (by omega)
    have b2 : decide ((1000 : Int) < (x2.length : Int)) = false := dF (by omega)
    have o0 := own_pure x0 h0
    have o1 := own_pure x1 h1
    have o2 := own_pure x2 h2
    obtain ⟨n,hn⟩ : ∃ n,n = t.toNat % 8 + 1 := ⟨_,rfl⟩
    have ht8 : (t.toNat : Int).tmod 8 = ((t.toNat % 8 : Nat) : Int) := rfl
    have hw8 : IntKind.i64.wrap ((t.toNat % 8 : Nat) : Int) = ((t.toNat % 8 : Nat) : Int) := iw (by omega)
    have hw9 : IntKind.i64.wrap (((t.toNat % 8 : Nat) : Int) + 1) = (n : Int) := by rw [iw (by omega),hn]; rfl
    simp (disch := omega) only [↓aI,↓zP,aD,zD,aS,Nat.reduceBEq,Nat.reduceLT,reduceCtorEq,↓reduceIte,Nat.reduceMul,Nat.reduceAdd,Nat.reduceLeDiff,Nat.reduceEqDiff,Int.reduceToNat,Nat.reduceSub,Nat.reduceMod,Nat.reduceDiv,Int.reducePow,Int.reduceLE,Int.reduceNeg,Int.reduceLT,Int.reduceBEq,Int.reduceBNe,Int.reduceEq,Tryd.facts,b0,b2]
    first | refine CallK.p (o0) ?_ | refine CallP.i (o0) ?_
    simp (disch := omega) only [↓aI,↓zP,aD,zD,aS,Nat.reduceBEq,Nat.reduceLT,reduceCtorEq,↓reduceIte,Nat.reduceMul,Nat.reduceAdd,Nat.reduceLeDiff,Nat.reduceEqDiff,Int.reduceToNat,Nat.reduceSub,Nat.reduceMod,Nat.reduceDiv,Int.reducePow,Int.reduceLE,Int.reduceNeg,Int.reduceLT,Int.reduceBEq,Int.reduceBNe,Int.reduceEq,Tryd.facts]
    refine CallK.i (new_real H x0 (by omega)) ?_
    rintro v E ⟨h,k,rfl,hh0,hhn,hh,hs⟩
    simp (disch := omega) only [↓aI,↓zP,aD,zD,aS,Nat.reduceBEq,Nat.reduceLT,reduceCtorEq,↓reduceIte,Nat.reduceMul,Nat.reduceAdd,Nat.reduceLeDiff,Nat.reduceEqDiff,Int.reduceToNat,Nat.reduceSub,Nat.reduceMod,Nat.reduceDiv,Int.reducePow,Int.reduceLE,Int.reduceNeg,Int.reduceLT,Int.reduceBEq,Int.reduceBNe,Int.reduceEq,Tryd.facts,ht8,hw8,hw9]
    refine br (c := ⟨Tryd.prog,72,[(2000011,[0,1,2,3,4,5,6,7,8,9,10,11,12,13,16,14,15,17,18,19,20,21,22,23,24,25,26,29,30,27,28,31,32,33,34,35,36,37,38]),(11,[0,0,0,0,0,0,0,0,0,0,0,0,0,0,0,2,0,0,0,0,0,0,0,0,0,0,0,0,0,2,0,0,0,0,0,0,2,0,0]),(4000011,[8]),(4000007,[0,1,2,3,9,10,28,29]),(4000001,[0,1,2,3,18])],[],[]⟩) Tryd.mixed (by kernel_rfl) (fun m σ H' => ∃ i : Nat,i + m = n ∧ σ 0 = eu x0 ∧ σ 1 = eu x1 ∧ σ 2 = eu x2 ∧ σ 3 = .sc (.int .u8 t.toNat) ∧ σ 9 = .ptr h 0 ∧ σ 28 = .sc (.int .i64 n) ∧ σ 29 = .sc (.int .i64 i) ∧ (0 < i → σ 10 = eu (drawM x0 i)) ∧ H' h = some (.cells [.imm k (bw x0) x0.length,.sc (.int .i64 i)] 35 2) ∧ Abs.Sub H H') n ?_ ?_
    · refine ⟨0,by omega,?_⟩
      simp (disch := omega) only [↓aI,↓zP,aD,zD,aS,Nat.reduceBEq,Nat.reduceLT,reduceCtorEq,↓reduceIte,Nat.reduceMul,Nat.reduceAdd,Nat.reduceLeDiff,Nat.reduceEqDiff,Int.reduceToNat,Nat.reduceSub,Nat.reduceMod,Nat.reduceDiv,Int.reducePow,Int.reduceLE,Int.reduceNeg,Int.reduceLT,Int.reduceBEq,Int.reduceBNe,Int.reduceEq,Tryd.facts]
      exact ⟨by rw [hn],hh,hs⟩
    · rintro m σ H' ⟨i,hi,g0,g1,g2,g3,g9,g28,g29,g10,hc,hs2⟩
      by_cases hlt : i < n
      · have hb : decide ((i : Int) < (n : Int)) = true := dT (by omega)
        simp (disch := omega) only [↓aI,↓zP,aD,zD,aS,Nat.reduceBEq,Nat.reduceLT,reduceCtorEq,↓reduceIte,Nat.reduceMul,Nat.reduceAdd,Nat.reduceLeDiff,Nat.reduceEqDiff,Int.reduceToNat,Nat.reduceSub,Nat.reduceMod,Nat.reduceDiv,Int.reducePow,Int.reduceLE,Int.reduceNeg,Int.reduceLT,Int.reduceBEq,Int.reduceBNe,Int.reduceEq,Tryd.facts,g0,g1,g2,g3,g9,g28,g29,hb]
        refine CallK.i (draw_real H' h i k x0 (by omega) (by omega) hc) ?_
        rintro v E2 ⟨rfl,rfl⟩
        simp (disch := omega) only [↓aI,↓zP,aD,zD,aS,Nat.reduceBEq,Nat.reduceLT,reduceCtorEq,↓reduceIte,Nat.reduceMul,Nat.reduceAdd,Nat.reduceLeDiff,Nat.reduceEqDiff,Int.reduceToNat,Nat.reduceSub,Nat.reduceMod,Nat.reduceDiv,Int.reducePow,Int.reduceLE,Int.reduceNeg,Int.reduceLT,Int.reduceBEq,Int.reduceBNe,Int.reduceEq,Tryd.facts,g0,g1,g2,g3,g9,g28,g29]
        exact ⟨m - 1,by omega,i + 1,by omega,rfl,fun _ => rfl,rfl,hs2.set_free hhn⟩
      · obtain rfl : i = n := by omega
        have hb : decide ((i : Int) < (i : Int)) = false := by simp
        have g10 := g10 (by omega)
        have hd := ddraw_pure x0 i (by omega) (by omega)
        have hdr : drawM x0 i = derivM x0 ([100,114,97,119] ++ fh 8 i) := rfl
        have hh2 := dhash_pure x2 (by omega)
        rw [← hdr] at hd
        generalize drawM x0 i = R1 at *
        simp (disch := omega) only [↓aI,↓zP,aD,zD,aS,Nat.reduceBEq,Nat.reduceLT,reduceCtorEq,↓reduceIte,Nat.reduceMul,Nat.reduceAdd,Nat.reduceLeDiff,Nat.reduceEqDiff,Int.reduceToNat,Nat.reduceSub,Nat.reduceMod,Nat.reduceDiv,Int.reducePow,Int.reduceLE,Int.reduceNeg,Int.reduceLT,Int.reduceBEq,Int.reduceBNe,Int.reduceEq,Tryd.facts,g0,g1,g2,g3,g9,g10,g28,g29,hb,ht8,hw8,hw9]
        rw [← hn]
        have hrd := rderive_pure h H' x1 x2 (by omega)
        have hdd : APure Tryd.prog 12 [eu x1,eu x2] (eu (rderM x1 x2)) := by
          unfold rderM
          by_cases h32 : x1.length = 32
          · rw [if_pos h32]; exact dderiv_yes x1 x2 h32 (by omega)
          · rw [if_neg h32]; exact dderiv_no x1 x2 h32
        have hrh := rhash_pure h H' x2 (by omega)
        generalize rderM x1 x2 = R3 at *
        generalize shaM x2 = R2 at *
        first | refine CallK.p (hd) ?_ | refine CallP.i (hd) ?_
        simp (disch := omega) only [↓aI,↓zP,aD,zD,aS,Nat.reduceBEq,Nat.reduceLT,reduceCtorEq,↓reduceIte,Nat.reduceMul,Nat.reduceAdd,Nat.reduceLeDiff,Nat.reduceEqDiff,Int.reduceToNat,Nat.reduceSub,Nat.reduceMod,Nat.reduceDiv,Int.reducePow,Int.reduceLE,Int.reduceNeg,Int.reduceLT,Int.reduceBEq,Int.reduceBNe,Int.reduceEq,Tryd.facts,g0,g1,g2,g3,g9,g10]
        first | refine CallK.p (o2) ?_ | refine CallP.i (o2) ?_
        simp (disch := omega) only [↓aI,↓zP,aD,zD,aS,Nat.reduceBEq,Nat.reduceLT,reduceCtorEq,↓reduceIte,Nat.reduceMul,Nat.reduceAdd,Nat.reduceLeDiff,Nat.reduceEqDiff,Int.reduceToNat,Nat.reduceSub,Nat.reduceMod,Nat.reduceDiv,Int.reducePow,Int.reduceLE,Int.reduceNeg,Int.reduceLT,Int.reduceBEq,Int.reduceBNe,Int.reduceEq,Tryd.facts,g0,g1,g2,g3,g9,g10]
        refine CallK.i hrh ?_
        rintro v E2 ⟨rfl,rfl⟩
        simp (disch := omega) only [↓aI,↓zP,aD,zD,aS,Nat.reduceBEq,Nat.reduceLT,reduceCtorEq,↓reduceIte,Nat.reduceMul,Nat.reduceAdd,Nat.reduceLeDiff,Nat.reduceEqDiff,Int.reduceToNat,Nat.reduceSub,Nat.reduceMod,Nat.reduceDiv,Int.reducePow,Int.reduceLE,Int.reduceNeg,Int.reduceLT,Int.reduceBEq,Int.reduceBNe,Int.reduceEq,Tryd.facts,g0,g1,g2,g3,g9,g10]
        first | refine CallK.p (hh2) ?_ | refine CallP.i (hh2) ?_
        simp (disch := omega) only [↓aI,↓zP,aD,zD,aS,Nat.reduceBEq,Nat.reduceLT,reduceCtorEq,↓reduceIte,Nat.reduceMul,Nat.reduceAdd,Nat.reduceLeDiff,Nat.reduceEqDiff,Int.reduceToNat,Nat.reduceSub,Nat.reduceMod,Nat.reduceDiv,Int.reducePow,Int.reduceLE,Int.reduceNeg,Int.reduceLT,Int.reduceBEq,Int.reduceBNe,Int.reduceEq,Tryd.facts,g0,g1,g2,g3,g9,g10]
        first | refine CallK.p (o1) ?_ | refine CallP.i (o1) ?_
        simp (disch := omega) only [↓aI,↓zP,aD,zD,aS,Nat.reduceBEq,Nat.reduceLT,reduceCtorEq,↓reduceIte,Nat.reduceMul,Nat.reduceAdd,Nat.reduceLeDiff,Nat.reduceEqDiff,Int.reduceToNat,Nat.reduceSub,Nat.reduceMod,Nat.reduceDiv,Int.reducePow,Int.reduceLE,Int.reduceNeg,Int.reduceLT,Int.reduceBEq,Int.reduceBNe,Int.reduceEq,Tryd.facts,g0,g1,g2,g3,g9,g10]
        first | refine CallK.p (o2) ?_ | refine CallP.i (o2) ?_
        simp (disch := omega) only [↓aI,↓zP,aD,zD,aS,Nat.reduceBEq,Nat.reduceLT,reduceCtorEq,↓reduceIte,Nat.reduceMul,Nat.reduceAdd,Nat.reduceLeDiff,Nat.reduceEqDiff,Int.reduceToNat,Nat.reduceSub,Nat.reduceMod,Nat.reduceDiv,Int.reducePow,Int.reduceLE,Int.reduceNeg,Int.reduceLT,Int.reduceBEq,Int.reduceBNe,Int.reduceEq,Tryd.facts,g0,g1,g2,g3,g9,g10]
        refine CallK.i hrd ?_
        rintro v E3 ⟨rfl,rfl⟩
        simp (disch := omega) only [↓aI,↓zP,aD,zD,aS,Nat.reduceBEq,Nat.reduceLT,reduceCtorEq,↓reduceIte,Nat.reduceMul,Nat.reduceAdd,Nat.reduceLeDiff,Nat.reduceEqDiff,Int.reduceToNat,Nat.reduceSub,Nat.reduceMod,Nat.reduceDiv,Int.reducePow,Int.reduceLE,Int.reduceNeg,Int.reduceLT,Int.reduceBEq,Int.reduceBNe,Int.reduceEq,Tryd.facts,g0,g1,g2,g3,g9,g10]
        first | refine CallK.p (hdd) ?_ | refine CallP.i (hdd) ?_
        simp (disch := omega) only [↓aI,↓zP,aD,zD,aS,Nat.reduceBEq,Nat.reduceLT,reduceCtorEq,↓reduceIte,Nat.reduceMul,Nat.reduceAdd,Nat.reduceLeDiff,Nat.reduceEqDiff,Int.reduceToNat,Nat.reduceSub,Nat.reduceMod,Nat.reduceDiv,Int.reducePow,Int.reduceLE,Int.reduceNeg,Int.reduceLT,Int.reduceBEq,Int.reduceBNe,Int.reduceEq,Tryd.facts,g0,g1,g2,g3,g9,g10]
        first | refine CallK.p (haw) ?_ | refine CallP.i (haw) ?_
        simp (disch := omega) only [↓aI,↓zP,aD,zD,aS,Nat.reduceBEq,Nat.reduceLT,reduceCtorEq,↓reduceIte,Nat.reduceMul,Nat.reduceAdd,Nat.reduceLeDiff,Nat.reduceEqDiff,Int.reduceToNat,Nat.reduceSub,Nat.reduceMod,Nat.reduceDiv,Int.reducePow,Int.reduceLE,Int.reduceNeg,Int.reduceLT,Int.reduceBEq,Int.reduceBNe,Int.reduceEq,Tryd.facts,g0,g1,g2,g3,g9,g10]
        exact hs2
end Go.Proofs.YtejncnmdjkhiaaaDoor
