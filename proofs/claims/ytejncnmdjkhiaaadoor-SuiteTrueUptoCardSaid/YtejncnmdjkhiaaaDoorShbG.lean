/-
  The real suite: draws, hashes, derived keys.
  Conditions: none. Lemmas only.
-/
import Derived.Test.YtejncnmdjkhiaaaDoorShaG6
import Derived.Test.YtejncnmdjkhiaaaDoorSuiG1
set_option linter.all false
set_option linter.unusedSimpArgs false
set_option linter.unusedVariables false
set_option maxRecDepth 20000
set_option maxHeartbeats 4000000
namespace Go.Proofs.YtejncnmdjkhiaaaDoor
open Go Go.Abs Go.Proofs Go.Sha
theorem rhash_pure (h : Nat) (H : AH) (b : List UInt8) (hb : b.length ≤ 10000000) : ACalls Tryd.prog 9 [.ptr h 0,eu b] H fun v H' => v = eu (shaM b) ∧ H' = H := by
  have h1 := sum256_pure b hb
  refine ao (c := ⟨Tryd.prog,7,[],[],[]⟩) (rs := [ResultVar.tmp 4]) Tryd.mixed Tryd.func9 rfl rfl rfl (Nat.le_of_ble_eq_true rfl) (by kernel_rfl) ?_
  simp (disch := omega) only [↓aI,↓zP,aD,zD,aS,Nat.reduceBEq,Nat.reduceLT,reduceCtorEq,↓reduceIte,Nat.reduceMul,Nat.reduceAdd,Nat.reduceLeDiff,Nat.reduceEqDiff,Int.reduceToNat,Nat.reduceSub,Nat.reduceMod,Nat.reduceDiv,Int.reducePow,Int.reduceLE,Int.reduceNeg,Int.reduceLT,Int.reduceBEq,Int.reduceBNe,Int.reduceEq,Tryd.facts]
  first | refine CallK.p (h1) ?_ | refine CallP.i (h1) ?_
  simp (disch := omega) only [↓aI,↓zP,aD,zD,aS,Nat.reduceBEq,Nat.reduceLT,reduceCtorEq,↓reduceIte,Nat.reduceMul,Nat.reduceAdd,Nat.reduceLeDiff,Nat.reduceEqDiff,Int.reduceToNat,Nat.reduceSub,Nat.reduceMod,Nat.reduceDiv,Int.reducePow,Int.reduceLE,Int.reduceNeg,Int.reduceLT,Int.reduceBEq,Int.reduceBNe,Int.reduceEq,Tryd.facts]
  exact ⟨_,rfl,H,Abs.Sub.refl _,rfl,rfl⟩
def rderM (key info : List UInt8) : List UInt8 := if key.length = 32 then derivM key info else []
theorem rderive_pure (h : Nat) (H : AH) (key info : List UInt8) (hi : info.length ≤ 1000000) : ACalls Tryd.prog 11 [.ptr h 0,eu key,eu info] H fun v H' => v = eu (rderM key info) ∧ H' = H := by
  unfold rderM
  by_cases h32 : key.length = 32
  · have h1 := derived_pure key info (by omega) (by omega)
    rw [if_pos h32]
    have hb : ((key.length : Int) != 32) = false := by rw [h32]; rfl
    refine ao (c := ⟨Tryd.prog,13,[],[],[]⟩) (rs := [ResultVar.tmp 6]) Tryd.mixed Tryd.func11 rfl rfl rfl (Nat.le_of_ble_eq_true rfl) (by kernel_rfl) ?_
    simp (disch := omega) only [↓aI,↓zP,aD,zD,aS,Nat.reduceBEq,Nat.reduceLT,reduceCtorEq,↓reduceIte,Nat.reduceMul,Nat.reduceAdd,Nat.reduceLeDiff,Nat.reduceEqDiff,Int.reduceToNat,Nat.reduceSub,Nat.reduceMod,Nat.reduceDiv,Int.reducePow,Int.reduceLE,Int.reduceNeg,Int.reduceLT,Int.reduceBEq,Int.reduceBNe,Int.reduceEq,Tryd.facts,hb]
    first | refine CallK.p (h1) ?_ | refine CallP.i (h1) ?_
    simp (disch := omega) only [↓aI,↓zP,aD,zD,aS,Nat.reduceBEq,Nat.reduceLT,reduceCtorEq,↓reduceIte,Nat.reduceMul,Nat.reduceAdd,Nat.reduceLeDiff,Nat.reduceEqDiff,Int.reduceToNat,Nat.reduceSub,Nat.reduceMod,Nat.reduceDiv,Int.reducePow,Int.reduceLE,Int.reduceNeg,Int.reduceLT,Int.reduceBEq,Int.reduceBNe,Int.reduceEq,Tryd.facts]
    exact ⟨_,rfl,H,Abs.Sub.refl _,rfl,rfl⟩
  · rw [if_neg h32]
    have hb : ((key.length : Int) != 32) = true := by simp; omega
    refine ao (c := ⟨Tryd.prog,13,[],[],[]⟩) (rs := [ResultVar.tmp 6]) Tryd.mixed Tryd.func11 rfl rfl rfl (Nat.le_of_ble_eq_true rfl) (by kernel_rfl) ?_
    simp (disch := omega) only [↓aI,↓zP,aD,zD,aS,Nat.reduceBEq,Nat.reduceLT,reduceCtorEq,↓reduceIte,Nat.reduceMul,Nat.reduceAdd,Nat.reduceLeDiff,Nat.reduceEqDiff,Int.reduceToNat,Nat.reduceSub,Nat.reduceMod,Nat.reduceDiv,Int.reducePow,Int.reduceLE,Int.reduceNeg,Int.reduceLT,Int.reduceBEq,Int.reduceBNe,Int.reduceEq,Tryd.facts,hb]
    exact ⟨_,rfl,H,Abs.Sub.refl _,rfl,rfl⟩
def drawM (seed : List UInt8) (n : Nat) : List UInt8 := derivM seed ([100,114,97,119] ++ fh 8 n)
theorem new_real (H : AH) (seed : List UInt8) (hs : seed.length ≤ 100000000) : ACalls Tryd.prog 5 [eu seed] H fun v H' => ∃ h k,v = .ptr h 0 ∧ h ≠ 0 ∧ H h = none ∧ H' h = some (.cells [.imm k (bw seed) seed.length,.sc (.int .i64 0)] 35 2) ∧ Abs.Sub H H' := by
  have hel := gz seed
  unfold eu
  refine ao (c := ⟨Tryd.prog,8,[],[3],[]⟩) (rs := [ResultVar.tmp 2]) Tryd.mixed Tryd.func5 rfl rfl rfl (Nat.le_of_ble_eq_true rfl) (by kernel_rfl) ?_
  simp (disch := omega) only [↓aI,↓zP,aD,zD,aS,Nat.reduceBEq,Nat.reduceLT,reduceCtorEq,↓reduceIte,Nat.reduceMul,Nat.reduceAdd,Nat.reduceLeDiff,Nat.reduceEqDiff,Int.reduceToNat,Nat.reduceSub,Nat.reduceMod,Nat.reduceDiv,Int.reducePow,Int.reduceLE,Int.reduceNeg,Int.reduceLT,Int.reduceBEq,Int.reduceBNe,Int.reduceEq,Tryd.facts]
  intro k hk0 hk
  simp (disch := omega) only [↓aI,↓zP,aD,zD,aS,Nat.reduceBEq,Nat.reduceLT,reduceCtorEq,↓reduceIte,Nat.reduceMul,Nat.reduceAdd,Nat.reduceLeDiff,Nat.reduceEqDiff,Int.reduceToNat,Nat.reduceSub,Nat.reduceMod,Nat.reduceDiv,Int.reducePow,Int.reduceLE,Int.reduceNeg,Int.reduceLT,Int.reduceBEq,Int.reduceBNe,Int.reduceEq,Tryd.facts,hk0,hel]
  intro k2 o2 hk20 hk2 ho2
  intro b hb0 hb
  exact ⟨_,rfl,_,Abs.Sub.refl _,b,k2,rfl,hb0,am hb,set_get,(Sub.set_new (am hk2)).set_free (am hb)⟩
theorem draw_real (H : AH) (h d k : Nat) (seed : List UInt8) (hs : seed.length ≤ 1000000) (hd : d ≤ 1000000) (hh : H h = some (.cells [.imm k (bw seed) seed.length,.sc (.int .i64 d)] 35 2)) : ACalls Tryd.prog 7 [.ptr h 0] H fun v H' => v = eu (drawM seed (d + 1)) ∧ H' = H.set h (.cells [.imm k (bw seed) seed.length,.sc (.int .i64 (d + 1 : Nat))] 35 2) := by
  have h1 := jj (d + 1) (by omega)
  have hll : (fh 8 (d + 1)).length = 8 := fe ..
  have h2 := derived_pure seed ([100,114,97,119] ++ fh 8 (d + 1)) (by omega) (by simp [hll])
  have w1 : IntKind.i64.wrap ((d : Int) + 1) = ((d + 1 : Nat) : Int) := by rw [iw (by omega)]; rfl
  have he8 := gz (fh 8 (d + 1))
  unfold drawM
  unfold eu at *
  generalize fh 8 (d + 1) = lw at *
  generalize hres : derivM seed ([100,114,97,119] ++ lw) = R at *
  refine ao (c := ⟨Tryd.prog,23,[(2,[0,0,0,0,2,2,0,0,0,0,0,2,2,0])],[14,6000015],[(2,(.op 0 0 (.op 1 0 (.op 2 0 (.op 6 0 (.op 7 0 (.op 8 0 (.op 3 4 (.op 9 4 (.op 10 0 (.op 4 3 (.op 5 5 (.op 11 3 (.op 12 2 (.op 13 0 .nil)))))))))))))))]⟩) (rs := [ResultVar.tmp 2]) Tryd.mixed Tryd.func7 rfl rfl rfl (Nat.le_of_ble_eq_true rfl) (by kernel_rfl) ?_
  simp (disch := omega) only [↓aI,↓zP,aD,zD,aS,Nat.reduceBEq,Nat.reduceLT,reduceCtorEq,↓reduceIte,Nat.reduceMul,Nat.reduceAdd,Nat.reduceLeDiff,Nat.reduceEqDiff,Int.reduceToNat,Nat.reduceSub,Nat.reduceMod,Nat.reduceDiv,Int.reducePow,Int.reduceLE,Int.reduceNeg,Int.reduceLT,Int.reduceBEq,Int.reduceBNe,Int.reduceEq,Tryd.facts,hh,ah,w1]
  refine eI (fun σ F => σ 2 = .imm 0 (bw R) R.length ∧ Abs.Sub (H.set h (.cells [.imm k (bw seed) seed.length,.sc (.int .i64 (d + 1 : Nat))] 35 2)) F) ?_ ?_
  · simp (disch := omega) only [↓aI,↓zP,aD,zD,aS,Nat.reduceBEq,Nat.reduceLT,reduceCtorEq,↓reduceIte,Nat.reduceMul,Nat.reduceAdd,Nat.reduceLeDiff,Nat.reduceEqDiff,Int.reduceToNat,Nat.reduceSub,Nat.reduceMod,Nat.reduceDiv,Int.reducePow,Int.reduceLE,Int.reduceNeg,Int.reduceLT,Int.reduceBEq,Int.reduceBNe,Int.reduceEq,Tryd.facts,hh,ah]
    first | refine CallK.p (h1) ?_ | refine CallP.i (h1) ?_
    simp (disch := omega) only [↓aI,↓zP,aD,zD,aS,Nat.reduceBEq,Nat.reduceLT,reduceCtorEq,↓reduceIte,Nat.reduceMul,Nat.reduceAdd,Nat.reduceLeDiff,Nat.reduceEqDiff,Int.reduceToNat,Nat.reduceSub,Nat.reduceMod,Nat.reduceDiv,Int.reducePow,Int.reduceLE,Int.reduceNeg,Int.reduceLT,Int.reduceBEq,Int.reduceBNe,Int.reduceEq,Tryd.facts]
    intro k1 hk10 hk1
    refine conv_m (e := 5) (z := 1) (by kernel_rfl) (by kernel_rfl) hk10 (by omega) set_get fun k2 hk20 hk2 => ⟨?_,?_⟩
    · exact (SubC.kill set_get (by intro _ _ _ h; cases h)).trans (SubC.set (by simp only [AH.kill]; split <;> first | rfl | exact hk2))
    · rw [ef hk1]
      have hlc : ([AV.sc (.int .u8 100),AV.sc (.int .u8 114),AV.sc (.int .u8 97),AV.sc (.int .u8 119)] : List AV) = bw [100,114,97,119] := rfl
      rw [hlc]
      simp (disch := omega) only [↓aI,↓zP,aD,zD,aS,Nat.reduceBEq,Nat.reduceLT,reduceCtorEq,↓reduceIte,Nat.reduceMul,Nat.reduceAdd,Nat.reduceLeDiff,Nat.reduceEqDiff,Int.reduceToNat,Nat.reduceSub,Nat.reduceMod,Nat.reduceDiv,Int.reducePow,Int.reduceLE,Int.reduceNeg,Int.reduceLT,Int.reduceBEq,Int.reduceBNe,Int.reduceEq,Tryd.facts,hk20,hll,he8]
      intro k3 o3 hk30 hk3 ho3
      rw [ef (am hk2),encB_append]
      have hln : ([100,114,97,119] ++ lw : List UInt8).length = 12 := by simp [hll]
      rw [hln] at h2
      first | refine CallK.p (h2) ?_ | refine CallP.i (h2) ?_
      simp (disch := omega) only [↓aI,↓zP,aD,zD,aS,Nat.reduceBEq,Nat.reduceLT,reduceCtorEq,↓reduceIte,Nat.reduceMul,Nat.reduceAdd,Nat.reduceLeDiff,Nat.reduceEqDiff,Int.reduceToNat,Nat.reduceSub,Nat.reduceMod,Nat.reduceDiv,Int.reducePow,Int.reduceLE,Int.reduceNeg,Int.reduceLT,Int.reduceBEq,Int.reduceBNe,Int.reduceEq,Tryd.facts]
      exact Sub.set_new (am hk3)
  · rintro σ F ⟨g2,hs⟩
    simp (disch := omega) only [↓aI,↓zP,aD,zD,aS,Nat.reduceBEq,Nat.reduceLT,reduceCtorEq,↓reduceIte,Nat.reduceMul,Nat.reduceAdd,Nat.reduceLeDiff,Nat.reduceEqDiff,Int.reduceToNat,Nat.reduceSub,Nat.reduceMod,Nat.reduceDiv,Int.reducePow,Int.reduceLE,Int.reduceNeg,Int.reduceLT,Int.reduceBEq,Int.reduceBNe,Int.reduceEq,Tryd.facts,g2]
    exact ⟨_,rfl,_,hs,rfl,rfl⟩
end Go.Proofs.YtejncnmdjkhiaaaDoor
