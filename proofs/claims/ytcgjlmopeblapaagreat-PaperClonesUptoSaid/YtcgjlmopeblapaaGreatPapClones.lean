/-
  PaperClones: the walk, and the call, of the arguments as they are read.
  Conditions: none. Lemmas only.
-/
import Derived.Test.YtcgjlmopeblapaaGreatPapCl
import Derived.Test.YtcgjlmopeblapaaGreatPapGE
import Derived.Test.YtcgjlmopeblapaaGreatPapG1
import Derived.Test.YtcgjlmopeblapaaGreatPapG4
import Derived.Test.YtcgjlmopeblapaaGreatPapGA
import Derived.Test.YtcgjlmopeblapaaGreatPapGB
set_option linter.all false
set_option linter.unusedSimpArgs false
set_option linter.unusedVariables false
set_option maxRecDepth 20000
set_option maxHeartbeats 8000000
namespace Go.Proofs.YtcgjlmopeblapaaGreat
open Go Go.Abs Go.Proofs Go.Fug
theorem set_same {H : AH} {k : Nat} {o : AObj} (h : H k = some o) : H.set k o = H := by
  funext j
  simp only [AH.set]
  split
  · rename_i e; rw [e,h]
  · rfl
theorem clones_no (l one two : List (List Opn)) (h : ¬ (smallB l = true ∧ smallB one = true ∧ smallB two = true)) (hl : l.length ≤ 1100000) (h1 : one.length ≤ 1100000) (h2 : two.length ≤ 1100000) :
    APure Tryz.prog 4 [opssV l,opssV one,opssV two] (.sc (.bool true)) := by
  have haw := awake_pure
  have s1 := small_pure l (by omega)
  have s2 := small_pure one (by omega)
  have s3 := small_pure two (by omega)
  cases a : smallB l
  · rw [a] at s1
    refine az (c := ⟨Tryz.prog,102,[(4,[0,2,0,2,0,2]),(19,[0,2,0,0,0,0,0,2,0,0,0,0,0,0,2,0,2,0,0,0,0,2,0,2,0,0,0,2,0,0]),(4000019,[6]),(4000017,[7,8,10,11,57,58,59]),(4000011,[2,7,8,10,11,41,42,43]),(4000004,[1,2,7,8,10,11]),(4000003,[1,2,7,8]),(4000001,[0,1,2,28])],[],[(4,(.op 0 0 (.or (.op 1 2 (.or (.op 2 2 (.op 3 2 (.op 4 0 (.op 5 2 .nil)))) (.op 3 2 (.op 4 0 (.op 2 2 (.op 5 2 .nil)))))) (.or (.op 2 2 (.or (.op 1 2 (.op 3 2 (.op 4 0 (.op 5 2 .nil)))) (.op 3 2 (.op 1 2 (.op 4 0 (.op 5 2 .nil)))))) (.op 3 2 (.or (.op 1 2 (.op 4 0 (.op 2 2 (.op 5 2 .nil)))) (.op 2 2 (.op 1 2 (.op 4 0 (.op 5 2 .nil)))))))))),(19,(.op 0 0 (.or (.op 1 2 (.op 2 2 (.op 3 0 (.op 4 0 (.op 5 0 (.op 6 0 (.or (.op 7 2 (.op 8 2 (.op 9 0 (.op 10 0 (.op 11 0 (.op 12 0 (.op 13 0 (.or (.op 14 2 (.op 15 2 (.op 16 2 (.op 17 0 (.op 18 0 (.op 19 0 (.op 20 0 (.or (.op 21 2 (.op 22 2 (.op 23 2 (.op 24 0 (.op 25 0 (.op 26 0 (.op 27 2 (.op 28 0 (.op 29 0 .nil))))))))) (.op 22 2 (.op 21 2 (.op 23 2 (.op 24 0 (.op 25 0 (.op 26 0 (.op 27 2 (.op 28 0 (.op 29 0 .nil))))))))))))))))) (.op 15 2 (.op 14 2 (.op 16 2 (.op 17 0 (.op 18 0 (.op 19 0 (.op 20 0 (.or (.op 21 2 (.op 22 2 (.op 23 2 (.op 24 0 (.op 25 0 (.op 26 0 (.op 27 2 (.op 28 0 (.op 29 0 .nil))))))))) (.op 22 2 (.op 21 2 (.op 23 2 (.op 24 0 (.op 25 0 (.op 26 0 (.op 27 2 (.op 28 0 (.op 29 0 .nil))))))))))))))))))))))))) (.op 8 2 (.op 7 2 (.op 9 0 (.op 10 0 (.op 11 0 (.op 12 0 (.op 13 0 (.or (.op 14 2 (.op 15 2 (.op 16 2 (.op 17 0 (.op 18 0 (.op 19 0 (.op 20 0 (.or (.op 21 2 (.op 22 2 (.op 23 2 (.op 24 0 (.op 25 0 (.op 26 0 (.op 27 2 (.op 28 0 (.op 29 0 .nil))))))))) (.op 22 2 (.op 21 2 (.op 23 2 (.op 24 0 (.op 25 0 (.op 26 0 (.op 27 2 (.op 28 0 (.op 29 0 .nil))))))))))))))))) (.op 15 2 (.op 14 2 (.op 16 2 (.op 17 0 (.op 18 0 (.op 19 0 (.op 20 0 (.or (.op 21 2 (.op 22 2 (.op 23 2 (.op 24 0 (.op 25 0 (.op 26 0 (.op 27 2 (.op 28 0 (.op 29 0 .nil))))))))) (.op 22 2 (.op 21 2 (.op 23 2 (.op 24 0 (.op 25 0 (.op 26 0 (.op 27 2 (.op 28 0 (.op 29 0 .nil)))))))))))))))))))))))))))))))) (.op 2 2 (.op 1 2 (.op 3 0 (.op 4 0 (.op 5 0 (.op 6 0 (.or (.op 7 2 (.op 8 2 (.op 9 0 (.op 10 0 (.op 11 0 (.op 12 0 (.op 13 0 (.or (.op 14 2 (.op 15 2 (.op 16 2 (.op 17 0 (.op 18 0 (.op 19 0 (.op 20 0 (.or (.op 21 2 (.op 22 2 (.op 23 2 (.op 24 0 (.op 25 0 (.op 26 0 (.op 27 2 (.op 28 0 (.op 29 0 .nil))))))))) (.op 22 2 (.op 21 2 (.op 23 2 (.op 24 0 (.op 25 0 (.op 26 0 (.op 27 2 (.op 28 0 (.op 29 0 .nil))))))))))))))))) (.op 15 2 (.op 14 2 (.op 16 2 (.op 17 0 (.op 18 0 (.op 19 0 (.op 20 0 (.or (.op 21 2 (.op 22 2 (.op 23 2 (.op 24 0 (.op 25 0 (.op 26 0 (.op 27 2 (.op 28 0 (.op 29 0 .nil))))))))) (.op 22 2 (.op 21 2 (.op 23 2 (.op 24 0 (.op 25 0 (.op 26 0 (.op 27 2 (.op 28 0 (.op 29 0 .nil))))))))))))))))))))))))) (.op 8 2 (.op 7 2 (.op 9 0 (.op 10 0 (.op 11 0 (.op 12 0 (.op 13 0 (.or (.op 14 2 (.op 15 2 (.op 16 2 (.op 17 0 (.op 18 0 (.op 19 0 (.op 20 0 (.or (.op 21 2 (.op 22 2 (.op 23 2 (.op 24 0 (.op 25 0 (.op 26 0 (.op 27 2 (.op 28 0 (.op 29 0 .nil))))))))) (.op 22 2 (.op 21 2 (.op 23 2 (.op 24 0 (.op 25 0 (.op 26 0 (.op 27 2 (.op 28 0 (.op 29 0 .nil))))))))))))))))) (.op 15 2 (.op 14 2 (.op 16 2 (.op 17 0 (.op 18 0 (.op 19 0 (.op 20 0 (.or (.op 21 2 (.op 22 2 (.op 23 2 (.op 24 0 (.op 25 0 (.op 26 0 (.op 27 2 (.op 28 0 (.op 29 0 .nil))))))))) (.op 22 2 (.op 21 2 (.op 23 2 (.op 24 0 (.op 25 0 (.op 26 0 (.op 27 2 (.op 28 0 (.op 29 0 .nil)))))))))))))))))))))))))))))))))))]⟩) (rs := [ResultVar.tmp 6]) Tryz.mixed Tryz.func4 rfl rfl rfl (Nat.le_of_ble_eq_true rfl) (by kernel_rfl) fun H => ?_
    simp (disch := omega) only [↓aI,↓zP,aD,zD,aS,simprocAttr,Tryz.facts,zA]
    first | refine CallK.p (s1) ?_ | refine CallP.i (s1) ?_
    simp (disch := omega) only [↓aI,↓zP,aD,zD,aS,simprocAttr,Tryz.facts,zA]
    first | refine CallK.p (haw) ?_ | refine CallP.i (haw) ?_
    simp (disch := omega) only [↓aI,↓zP,aD,zD,aS,simprocAttr,Tryz.facts,zA]
    exact Abs.Sub.refl _
  · rw [a] at s1
    cases b : smallB one
    · rw [b] at s2
      refine az (c := ⟨Tryz.prog,102,[(4,[0,2,0,2,0,2]),(19,[0,2,0,0,0,0,0,2,0,0,0,0,0,0,2,0,2,0,0,0,0,2,0,2,0,0,0,2,0,0]),(4000019,[6]),(4000017,[7,8,10,11,57,58,59]),(4000011,[2,7,8,10,11,41,42,43]),(4000004,[1,2,7,8,10,11]),(4000003,[1,2,7,8]),(4000001,[0,1,2,28])],[],[(4,(.op 0 0 (.or (.op 1 2 (.or (.op 2 2 (.op 3 2 (.op 4 0 (.op 5 2 .nil)))) (.op 3 2 (.op 4 0 (.op 2 2 (.op 5 2 .nil)))))) (.or (.op 2 2 (.or (.op 1 2 (.op 3 2 (.op 4 0 (.op 5 2 .nil)))) (.op 3 2 (.op 1 2 (.op 4 0 (.op 5 2 .nil)))))) (.op 3 2 (.or (.op 1 2 (.op 4 0 (.op 2 2 (.op 5 2 .nil)))) (.op 2 2 (.op 1 2 (.op 4 0 (.op 5 2 .nil)))))))))),(19,(.op 0 0 (.or (.op 1 2 (.op 2 2 (.op 3 0 (.op 4 0 (.op 5 0 (.op 6 0 (.or (.op 7 2 (.op 8 2 (.op 9 0 (.op 10 0 (.op 11 0 (.op 12 0 (.op 13 0 (.or (.op 14 2 (.op 15 2 (.op 16 2 (.op 17 0 (.op 18 0 (.op 19 0 (.op 20 0 (.or (.op 21 2 (.op 22 2 (.op 23 2 (.op 24 0 (.op 25 0 (.op 26 0 (.op 27 2 (.op 28 0 (.op 29 0 .nil))))))))) (.op 22 2 (.op 21 2 (.op 23 2 (.op 24 0 (.op 25 0 (.op 26 0 (.op 27 2 (.op 28 0 (.op 29 0 .nil))))))))))))))))) (.op 15 2 (.op 14 2 (.op 16 2 (.op 17 0 (.op 18 0 (.op 19 0 (.op 20 0 (.or (.op 21 2 (.op 22 2 (.op 23 2 (.op 24 0 (.op 25 0 (.op 26 0 (.op 27 2 (.op 28 0 (.op 29 0 .nil))))))))) (.op 22 2 (.op 21 2 (.op 23 2 (.op 24 0 (.op 25 0 (.op 26 0 (.op 27 2 (.op 28 0 (.op 29 0 .nil))))))))))))))))))))))))) (.op 8 2 (.op 7 2 (.op 9 0 (.op 10 0 (.op 11 0 (.op 12 0 (.op 13 0 (.or (.op 14 2 (.op 15 2 (.op 16 2 (.op 17 0 (.op 18 0 (.op 19 0 (.op 20 0 (.or (.op 21 2 (.op 22 2 (.op 23 2 (.op 24 0 (.op 25 0 (.op 26 0 (.op 27 2 (.op 28 0 (.op 29 0 .nil))))))))) (.op 22 2 (.op 21 2 (.op 23 2 (.op 24 0 (.op 25 0 (.op 26 0 (.op 27 2 (.op 28 0 (.op 29 0 .nil))))))))))))))))) (.op 15 2 (.op 14 2 (.op 16 2 (.op 17 0 (.op 18 0 (.op 19 0 (.op 20 0 (.or (.op 21 2 (.op 22 2 (.op 23 2 (.op 24 0 (.op 25 0 (.op 26 0 (.op 27 2 (.op 28 0 (.op 29 0 .nil))))))))) (.op 22 2 (.op 21 2 (.op 23 2 (.op 24 0 (.op 25 0 (.op 26 0 (.op 27 2 (.op 28 0 (.op 29 0 .nil)))))))))))))))))))))))))))))))) (.op 2 2 (.op 1 2 (.op 3 0 (.op 4 0 (.op 5 0 (.op 6 0 (.or (.op 7 2 (.op 8 2 (.op 9 0 (.op 10 0 (.op 11 0 (.op 12 0 (.op 13 0 (.or (.op 14 2 (.op 15 2 (.op 16 2 (.op 17 0 (.op 18 0 (.op 19 0 (.op 20 0 (.or (.op 21 2 (.op 22 2 (.op 23 2 (.op 24 0 (.op 25 0 (.op 26 0 (.op 27 2 (.op 28 0 (.op 29 0 .nil))))))))) (.op 22 2 (.op 21 2 (.op 23 2 (.op 24 0 (.op 25 0 (.op 26 0 (.op 27 2 (.op 28 0 (.op 29 0 .nil))))))))))))))))) (.op 15 2 (.op 14 2 (.op 16 2 (.op 17 0 (.op 18 0 (.op 19 0 (.op 20 0 (.or (.op 21 2 (.op 22 2 (.op 23 2 (.op 24 0 (.op 25 0 (.op 26 0 (.op 27 2 (.op 28 0 (.op 29 0 .nil))))))))) (.op 22 2 (.op 21 2 (.op 23 2 (.op 24 0 (.op 25 0 (.op 26 0 (.op 27 2 (.op 28 0 (.op 29 0 .nil))))))))))))))))))))))))) (.op 8 2 (.op 7 2 (.op 9 0 (.op 10 0 (.op 11 0 (.op 12 0 (.op 13 0 (.or (.op 14 2 (.op 15 2 (.op 16 2 (.op 17 0 (.op 18 0 (.op 19 0 (.op 20 0 (.or (.op 21 2 (.op 22 2 (.op 23 2 (.op 24 0 (.op 25 0 (.op 26 0 (.op 27 2 (.op 28 0 (.op 29 0 .nil))))))))) (.op 22 2 (.op 21 2 (.op 23 2 (.op 24 0 (.op 25 0 (.op 26 0 (.op 27 2 (.op 28 0 (.op 29 0 .nil))))))))))))))))) (.op 15 2 (.op 14 2 (.op 16 2 (.op 17 0 (.op 18 0 (.op 19 0 (.op 20 0 (.or (.op 21 2 (.op 22 2 (.op 23 2 (.op 24 0 (.op 25 0 (.op 26 0 (.op 27 2 (.op 28 0 (.op 29 0 .nil))))))))) (.op 22 2 (.op 21 2 (.op 23 2 (.op 24 0 (.op 25 0 (.op 26 0 (.op 27 2 (.op 28 0 (.op 29 0 .nil)))))))))))))))))))))))))))))))))))]⟩) (rs := [ResultVar.tmp 6]) Tryz.mixed Tryz.func4 rfl rfl rfl (Nat.le_of_ble_eq_true rfl) (by kernel_rfl) fun H => ?_
      simp (disch := omega) only [↓aI,↓zP,aD,zD,aS,simprocAttr,Tryz.facts,zA]
      first | refine CallK.p (s1) ?_ | refine CallP.i (s1) ?_
      simp (disch := omega) only [↓aI,↓zP,aD,zD,aS,simprocAttr,Tryz.facts,zA]
      first | refine CallK.p (s2) ?_ | refine CallP.i (s2) ?_
      simp (disch := omega) only [↓aI,↓zP,aD,zD,aS,simprocAttr,Tryz.facts,zA]
      first | refine CallK.p (haw) ?_ | refine CallP.i (haw) ?_
      simp (disch := omega) only [↓aI,↓zP,aD,zD,aS,simprocAttr,Tryz.facts,zA]
      exact Abs.Sub.refl _
    · rw [b] at s2
      cases c : smallB two
      · rw [c] at s3
        refine az (c := ⟨Tryz.prog,102,[(4,[0,2,0,2,0,2]),(19,[0,2,0,0,0,0,0,2,0,0,0,0,0,0,2,0,2,0,0,0,0,2,0,2,0,0,0,2,0,0]),(4000019,[6]),(4000017,[7,8,10,11,57,58,59]),(4000011,[2,7,8,10,11,41,42,43]),(4000004,[1,2,7,8,10,11]),(4000003,[1,2,7,8]),(4000001,[0,1,2,28])],[],[(4,(.op 0 0 (.or (.op 1 2 (.or (.op 2 2 (.op 3 2 (.op 4 0 (.op 5 2 .nil)))) (.op 3 2 (.op 4 0 (.op 2 2 (.op 5 2 .nil)))))) (.or (.op 2 2 (.or (.op 1 2 (.op 3 2 (.op 4 0 (.op 5 2 .nil)))) (.op 3 2 (.op 1 2 (.op 4 0 (.op 5 2 .nil)))))) (.op 3 2 (.or (.op 1 2 (.op 4 0 (.op 2 2 (.op 5 2 .nil)))) (.op 2 2 (.op 1 2 (.op 4 0 (.op 5 2 .nil)))))))))),(19,(.op 0 0 (.or (.op 1 2 (.op 2 2 (.op 3 0 (.op 4 0 (.op 5 0 (.op 6 0 (.or (.op 7 2 (.op 8 2 (.op 9 0 (.op 10 0 (.op 11 0 (.op 12 0 (.op 13 0 (.or (.op 14 2 (.op 15 2 (.op 16 2 (.op 17 0 (.op 18 0 (.op 19 0 (.op 20 0 (.or (.op 21 2 (.op 22 2 (.op 23 2 (.op 24 0 (.op 25 0 (.op 26 0 (.op 27 2 (.op 28 0 (.op 29 0 .nil))))))))) (.op 22 2 (.op 21 2 (.op 23 2 (.op 24 0 (.op 25 0 (.op 26 0 (.op 27 2 (.op 28 0 (.op 29 0 .nil))))))))))))))))) (.op 15 2 (.op 14 2 (.op 16 2 (.op 17 0 (.op 18 0 (.op 19 0 (.op 20 0 (.or (.op 21 2 (.op 22 2 (.op 23 2 (.op 24 0 (.op 25 0 (.op 26 0 (.op 27 2 (.op 28 0 (.op 29 0 .nil))))))))) (.op 22 2 (.op 21 2 (.op 23 2 (.op 24 0 (.op 25 0 (.op 26 0 (.op 27 2 (.op 28 0 (.op 29 0 .nil))))))))))))))))))))))))) (.op 8 2 (.op 7 2 (.op 9 0 (.op 10 0 (.op 11 0 (.op 12 0 (.op 13 0 (.or (.op 14 2 (.op 15 2 (.op 16 2 (.op 17 0 (.op 18 0 (.op 19 0 (.op 20 0 (.or (.op 21 2 (.op 22 2 (.op 23 2 (.op 24 0 (.op 25 0 (.op 26 0 (.op 27 2 (.op 28 0 (.op 29 0 .nil))))))))) (.op 22 2 (.op 21 2 (.op 23 2 (.op 24 0 (.op 25 0 (.op 26 0 (.op 27 2 (.op 28 0 (.op 29 0 .nil))))))))))))))))) (.op 15 2 (.op 14 2 (.op 16 2 (.op 17 0 (.op 18 0 (.op 19 0 (.op 20 0 (.or (.op 21 2 (.op 22 2 (.op 23 2 (.op 24 0 (.op 25 0 (.op 26 0 (.op 27 2 (.op 28 0 (.op 29 0 .nil))))))))) (.op 22 2 (.op 21 2 (.op 23 2 (.op 24 0 (.op 25 0 (.op 26 0 (.op 27 2 (.op 28 0 (.op 29 0 .nil)))))))))))))))))))))))))))))))) (.op 2 2 (.op 1 2 (.op 3 0 (.op 4 0 (.op 5 0 (.op 6 0 (.or (.op 7 2 (.op 8 2 (.op 9 0 (.op 10 0 (.op 11 0 (.op 12 0 (.op 13 0 (.or (.op 14 2 (.op 15 2 (.op 16 2 (.op 17 0 (.op 18 0 (.op 19 0 (.op 20 0 (.or (.op 21 2 (.op 22 2 (.op 23 2 (.op 24 0 (.op 25 0 (.op 26 0 (.op 27 2 (.op 28 0 (.op 29 0 .nil))))))))) (.op 22 2 (.op 21 2 (.op 23 2 (.op 24 0 (.op 25 0 (.op 26 0 (.op 27 2 (.op 28 0 (.op 29 0 .nil))))))))))))))))) (.op 15 2 (.op 14 2 (.op 16 2 (.op 17 0 (.op 18 0 (.op 19 0 (.op 20 0 (.or (.op 21 2 (.op 22 2 (.op 23 2 (.op 24 0 (.op 25 0 (.op 26 0 (.op 27 2 (.op 28 0 (.op 29 0 .nil))))))))) (.op 22 2 (.op 21 2 (.op 23 2 (.op 24 0 (.op 25 0 (.op 26 0 (.op 27 2 (.op 28 0 (.op 29 0 .nil))))))))))))))))))))))))) (.op 8 2 (.op 7 2 (.op 9 0 (.op 10 0 (.op 11 0 (.op 12 0 (.op 13 0 (.or (.op 14 2 (.op 15 2 (.op 16 2 (.op 17 0 (.op 18 0 (.op 19 0 (.op 20 0 (.or (.op 21 2 (.op 22 2 (.op 23 2 (.op 24 0 (.op 25 0 (.op 26 0 (.op 27 2 (.op 28 0 (.op 29 0 .nil))))))))) (.op 22 2 (.op 21 2 (.op 23 2 (.op 24 0 (.op 25 0 (.op 26 0 (.op 27 2 (.op 28 0 (.op 29 0 .nil))))))))))))))))) (.op 15 2 (.op 14 2 (.op 16 2 (.op 17 0 (.op 18 0 (.op 19 0 (.op 20 0 (.or (.op 21 2 (.op 22 2 (.op 23 2 (.op 24 0 (.op 25 0 (.op 26 0 (.op 27 2 (.op 28 0 (.op 29 0 .nil))))))))) (.op 22 2 (.op 21 2 (.op 23 2 (.op 24 0 (.op 25 0 (.op 26 0 (.op 27 2 (.op 28 0 (.op 29 0 .nil)))))))))))))))))))))))))))))))))))]⟩) (rs := [ResultVar.tmp 6]) Tryz.mixed Tryz.func4 rfl rfl rfl (Nat.le_of_ble_eq_true rfl) (by kernel_rfl) fun H => ?_
        simp (disch := omega) only [↓aI,↓zP,aD,zD,aS,simprocAttr,Tryz.facts,zA]
        first | refine CallK.p (s1) ?_ | refine CallP.i (s1) ?_
        simp (disch := omega) only [↓aI,↓zP,aD,zD,aS,simprocAttr,Tryz.facts,zA]
        first | refine CallK.p (s2) ?_ | refine CallP.i (s2) ?_
        simp (disch := omega) only [↓aI,↓zP,aD,zD,aS,simprocAttr,Tryz.facts,zA]
        first | refine CallK.p (s3) ?_ | refine CallP.i (s3) ?_
        simp (disch := omega) only [↓aI,↓zP,aD,zD,aS,simprocAttr,Tryz.facts,zA]
        first | refine CallK.p (haw) ?_ | refine CallP.i (haw) ?_
        simp (disch := omega) only [↓aI,↓zP,aD,zD,aS,simprocAttr,Tryz.facts,zA]
        exact Abs.Sub.refl _
      · exact absurd ⟨a,b,c⟩ h
abbrev boxP (P : List Opn) : AObj := .cells [opsV P] 30 1
theorem clones_yes (l one two : List (List Opn)) (hl : smallB l = true) (hone : smallB one = true) (htwo : smallB two = true) :
    APure Tryz.prog 4 [opssV l,opssV one,opssV two] (.sc (.bool true)) := by
  have haw := awake_pure
  have z0 := smallF_sum l 0 (by simpa [smallB] using hl)
  have z1 := smallF_sum one 0 (by simpa [smallB] using hone)
  have z2 := smallF_sum two 0 (by simpa [smallB] using htwo)
  have s1 := small_pure l (by omega)
  have s2 := small_pure one (by omega)
  have s3 := small_pure two (by omega)
  rw [hl] at s1
  rw [hone] at s2
  rw [htwo] at s3
  obtain ⟨inv,hz⟩ := both_inv l (by omega)
  obtain ⟨rel,hok⟩ := both_rel l
  have hbl := fun H => both_live H l (by omega) (by omega)
  rw [hok] at hbl
  have hrz := rel.size
  have hm1 : (one.map opsV).length = one.length := by simp
  have hm2 : (two.map opsV).length = two.length := by simp
  generalize bothS l = S at *
  generalize bothR l = P at *
  refine az (c := ⟨Tryz.prog,102,[(4,[0,2,0,2,0,2]),(19,[0,2,0,0,0,0,0,2,0,0,0,0,0,0,2,0,2,0,0,0,0,2,0,2,0,0,0,2,0,0]),(4000019,[6]),(4000017,[7,8,10,11,57,58,59]),(4000011,[2,7,8,10,11,41,42,43]),(4000004,[1,2,7,8,10,11]),(4000003,[1,2,7,8]),(4000001,[0,1,2,28])],[],[(4,(.op 0 0 (.or (.op 1 2 (.or (.op 2 2 (.op 3 2 (.op 4 0 (.op 5 2 .nil)))) (.op 3 2 (.op 4 0 (.op 2 2 (.op 5 2 .nil)))))) (.or (.op 2 2 (.or (.op 1 2 (.op 3 2 (.op 4 0 (.op 5 2 .nil)))) (.op 3 2 (.op 1 2 (.op 4 0 (.op 5 2 .nil)))))) (.op 3 2 (.or (.op 1 2 (.op 4 0 (.op 2 2 (.op 5 2 .nil)))) (.op 2 2 (.op 1 2 (.op 4 0 (.op 5 2 .nil)))))))))),(19,(.op 0 0 (.or (.op 1 2 (.op 2 2 (.op 3 0 (.op 4 0 (.op 5 0 (.op 6 0 (.or (.op 7 2 (.op 8 2 (.op 9 0 (.op 10 0 (.op 11 0 (.op 12 0 (.op 13 0 (.or (.op 14 2 (.op 15 2 (.op 16 2 (.op 17 0 (.op 18 0 (.op 19 0 (.op 20 0 (.or (.op 21 2 (.op 22 2 (.op 23 2 (.op 24 0 (.op 25 0 (.op 26 0 (.op 27 2 (.op 28 0 (.op 29 0 .nil))))))))) (.op 22 2 (.op 21 2 (.op 23 2 (.op 24 0 (.op 25 0 (.op 26 0 (.op 27 2 (.op 28 0 (.op 29 0 .nil))))))))))))))))) (.op 15 2 (.op 14 2 (.op 16 2 (.op 17 0 (.op 18 0 (.op 19 0 (.op 20 0 (.or (.op 21 2 (.op 22 2 (.op 23 2 (.op 24 0 (.op 25 0 (.op 26 0 (.op 27 2 (.op 28 0 (.op 29 0 .nil))))))))) (.op 22 2 (.op 21 2 (.op 23 2 (.op 24 0 (.op 25 0 (.op 26 0 (.op 27 2 (.op 28 0 (.op 29 0 .nil))))))))))))))))))))))))) (.op 8 2 (.op 7 2 (.op 9 0 (.op 10 0 (.op 11 0 (.op 12 0 (.op 13 0 (.or (.op 14 2 (.op 15 2 (.op 16 2 (.op 17 0 (.op 18 0 (.op 19 0 (.op 20 0 (.or (.op 21 2 (.op 22 2 (.op 23 2 (.op 24 0 (.op 25 0 (.op 26 0 (.op 27 2 (.op 28 0 (.op 29 0 .nil))))))))) (.op 22 2 (.op 21 2 (.op 23 2 (.op 24 0 (.op 25 0 (.op 26 0 (.op 27 2 (.op 28 0 (.op 29 0 .nil))))))))))))))))) (.op 15 2 (.op 14 2 (.op 16 2 (.op 17 0 (.op 18 0 (.op 19 0 (.op 20 0 (.or (.op 21 2 (.op 22 2 (.op 23 2 (.op 24 0 (.op 25 0 (.op 26 0 (.op 27 2 (.op 28 0 (.op 29 0 .nil))))))))) (.op 22 2 (.op 21 2 (.op 23 2 (.op 24 0 (.op 25 0 (.op 26 0 (.op 27 2 (.op 28 0 (.op 29 0 .nil)))))))))))))))))))))))))))))))) (.op 2 2 (.op 1 2 (.op 3 0 (.op 4 0 (.op 5 0 (.op 6 0 (.or (.op 7 2 (.op 8 2 (.op 9 0 (.op 10 0 (.op 11 0 (.op 12 0 (.op 13 0 (.or (.op 14 2 (.op 15 2 (.op 16 2 (.op 17 0 (.op 18 0 (.op 19 0 (.op 20 0 (.or (.op 21 2 (.op 22 2 (.op 23 2 (.op 24 0 (.op 25 0 (.op 26 0 (.op 27 2 (.op 28 0 (.op 29 0 .nil))))))))) (.op 22 2 (.op 21 2 (.op 23 2 (.op 24 0 (.op 25 0 (.op 26 0 (.op 27 2 (.op 28 0 (.op 29 0 .nil))))))))))))))))) (.op 15 2 (.op 14 2 (.op 16 2 (.op 17 0 (.op 18 0 (.op 19 0 (.op 20 0 (.or (.op 21 2 (.op 22 2 (.op 23 2 (.op 24 0 (.op 25 0 (.op 26 0 (.op 27 2 (.op 28 0 (.op 29 0 .nil))))))))) (.op 22 2 (.op 21 2 (.op 23 2 (.op 24 0 (.op 25 0 (.op 26 0 (.op 27 2 (.op 28 0 (.op 29 0 .nil))))))))))))))))))))))))) (.op 8 2 (.op 7 2 (.op 9 0 (.op 10 0 (.op 11 0 (.op 12 0 (.op 13 0 (.or (.op 14 2 (.op 15 2 (.op 16 2 (.op 17 0 (.op 18 0 (.op 19 0 (.op 20 0 (.or (.op 21 2 (.op 22 2 (.op 23 2 (.op 24 0 (.op 25 0 (.op 26 0 (.op 27 2 (.op 28 0 (.op 29 0 .nil))))))))) (.op 22 2 (.op 21 2 (.op 23 2 (.op 24 0 (.op 25 0 (.op 26 0 (.op 27 2 (.op 28 0 (.op 29 0 .nil))))))))))))))))) (.op 15 2 (.op 14 2 (.op 16 2 (.op 17 0 (.op 18 0 (.op 19 0 (.op 20 0 (.or (.op 21 2 (.op 22 2 (.op 23 2 (.op 24 0 (.op 25 0 (.op 26 0 (.op 27 2 (.op 28 0 (.op 29 0 .nil))))))))) (.op 22 2 (.op 21 2 (.op 23 2 (.op 24 0 (.op 25 0 (.op 26 0 (.op 27 2 (.op 28 0 (.op 29 0 .nil)))))))))))))))))))))))))))))))))))]⟩) (rs := [ResultVar.tmp 6]) Tryz.mixed Tryz.func4 rfl rfl rfl (Nat.le_of_ble_eq_true rfl) (by kernel_rfl) fun H => ?_
  simp (disch := omega) only [↓aI,↓zP,aD,zD,aS,simprocAttr,Tryz.facts,zA]
  first | refine CallK.p (s1) ?_ | refine CallP.i (s1) ?_
  simp (disch := omega) only [↓aI,↓zP,aD,zD,aS,simprocAttr,Tryz.facts,zA]
  first | refine CallK.p (s2) ?_ | refine CallP.i (s2) ?_
  simp (disch := omega) only [↓aI,↓zP,aD,zD,aS,simprocAttr,Tryz.facts,zA]
  first | refine CallK.p (s3) ?_ | refine CallP.i (s3) ?_
  simp (disch := omega) only [↓aI,↓zP,aD,zD,aS,simprocAttr,Tryz.facts,zA]
  refine CallK.i (hbl _) ?_
  rintro v H1 ⟨h,hh0,rfl,p⟩
  simp (disch := omega) only [↓aI,↓zP,aD,zD,aS,simprocAttr,Tryz.facts,zA]
  intro b8 hb80 hb8
  have hB8 := p.sub.free hb8
  simp (disch := omega) only [↓aI,↓zP,aD,zD,aS,simprocAttr,Tryz.facts,zA,ah]
  have pb := p.box (boxP P) (.inl hb8)
  have hpne : H1.set b8 (boxP P) = H1.set b8 (.cells [opsV P] 30 1) := rfl
  generalize hHp : H1.set b8 (boxP P) = Hp at *
  have v8p : Hp b8 = some (boxP P) := by rw [← hHp]; exact set_get
  have hcl := fun B X (q : IsP B X h S) => pclone_live B X h S P q rel inv (by omega)
  refine eI (fun σ F => ∃ (h2 : PH) (b11 : Nat),h2.p ≠ 0 ∧ Hp b11 = none ∧ IsP (Hp.set b11 (boxP P)) F h2 (cloneP P) ∧
    σ 1 = opssV one ∧ σ 2 = opssV two ∧ σ 7 = .ptr h.p 0 ∧ σ 8 = .ptr b8 0 ∧ σ 10 = .ptr h2.p 0 ∧ σ 11 = .ptr b11 0) ?_ ?_
  · simp (disch := omega) only [↓aI,↓zP,aD,zD,aS,simprocAttr,Tryz.facts,zA,ah,v8p]
    refine ⟨?_,?_,?_⟩
    · refine CallK.i (hcl _ _ pb) ?_
      rintro v Hc ⟨h2,h20,rfl,q⟩
      have v8c := q.sub _ _ v8p
      simp (disch := omega) only [↓aI,↓zP,aD,zD,aS,simprocAttr,Tryz.facts,zA,ah,v8c]
      refine ⟨fun k hk0 hk => ⟨h2,k,h20,q.sub.free hk,q.box (boxP P) (.inl hk),rfl,rfl⟩,fun k hk0 hk => ?_⟩
      have n8 := bA v8c hk
      simp (disch := omega) only [↓aI,↓zP,aD,zD,aS,simprocAttr,Tryz.facts,zA,ah,aP,n8,v8c]
      exact ⟨h2,k,h20,q.sub.free hk,q.box (boxP P) (.inl hk),rfl,rfl⟩
    · refine ⟨?_,?_⟩
      · refine CallK.i (hcl _ _ pb) ?_
        rintro v Hc ⟨h2,h20,rfl,q⟩
        simp (disch := omega) only [↓aI,↓zP,aD,zD,aS,simprocAttr,Tryz.facts,zA,ah]
        exact fun k hk0 hk => ⟨h2,k,h20,q.sub.free hk,q.box (boxP P) (.inl hk),rfl,rfl⟩
      · intro k hk0 hk
        refine CallK.i (hcl _ _ (pb.mono (Sub.set_new hk))) ?_
        rintro v Hc ⟨h2,h20,rfl,q⟩
        have vk := q.sub _ _ set_get
        simp (disch := omega) only [↓aI,↓zP,aD,zD,aS,simprocAttr,Tryz.facts,zA,ah,vk]
        have qb := q.box (b := k) (boxP P) (.inr (by rw [set_get]; simp))
        rw [box_twice] at qb
        exact ⟨h2,k,h20,hk,qb,rfl,rfl⟩
    · intro k hk0 hk
      refine ⟨?_,?_⟩
      · refine CallK.i (hcl _ _ (pb.mono (Sub.set_new hk))) ?_
        rintro v Hc ⟨h2,h20,rfl,q⟩
        have vk := q.sub _ _ set_get
        have v8c := q.sub _ _ (by rw [aP (bA v8p hk)]; exact v8p)
        simp (disch := omega) only [↓aI,↓zP,aD,zD,aS,simprocAttr,Tryz.facts,zA,ah,vk,v8c]
        have qb := q.box (b := k) (boxP P) (.inr (by rw [set_get]; simp))
        rw [box_twice] at qb
        exact ⟨h2,k,h20,hk,qb,rfl,rfl⟩
      · have n8 := bA v8p hk
        simp (disch := omega) only [↓aI,↓zP,aD,zD,aS,simprocAttr,Tryz.facts,zA,ah,aP,n8,v8p]
        refine CallK.i (hcl _ _ (pb.mono (Sub.set_new hk))) ?_
        rintro v Hc ⟨h2,h20,rfl,q⟩
        have vk := q.sub _ _ set_get
        simp (disch := omega) only [↓aI,↓zP,aD,zD,aS,simprocAttr,Tryz.facts,zA,ah,vk]
        have qb := q.box (b := k) (boxP P) (.inr (by rw [set_get]; simp))
        rw [box_twice] at qb
        exact ⟨h2,k,h20,hk,qb,rfl,rfl⟩
  · rintro σ F ⟨h2,b11,h20,hb11,q,t1,t2,t7,t8,t10,t11⟩
    have n11 : ¬ b8 = b11 := bA v8p hb11
    have hsl : ∀ j,((one.take j).map List.length).sum ≤ 60 := fun j => by
      have e : one.take j ++ one.drop j = one := List.take_append_drop j one
      rw [← e,List.map_append,List.sum_append] at z1
      omega
    have pb2 := pb.box (b := b11) (boxP P) (.inl hb11)
    obtain ⟨C,pC,qC⟩ := pb2.swap q
    have hB11 : (H.set b8 (boxP P)) b11 = none := pb.sub.free hb11
    have v8C : C b8 = some (boxP P) := qC.sub _ _ (by rw [aP n11,set_get])
    have v11C : C b11 = some (boxP P) := qC.sub _ _ set_get
    have hcr := clone_rel rel.okO (by omega)
    clear hcl q pb pb2
    simp (disch := omega) only [↓aI,↓zP,aD,zD,aS,simprocAttr,Tryz.facts,t1,t2,t7,t8,t10,t11,zA,ah,hm1]
    have c0 : IsP (C.set b8 (boxP P)) F h S := by rw [set_same v8C]; exact pC
    refine br (c := ⟨Tryz.prog,102,[(4,[0,2,0,2,0,2]),(19,[0,2,0,0,0,0,0,2,0,0,0,0,0,0,2,0,2,0,0,0,0,2,0,2,0,0,0,2,0,0]),(4000019,[6]),(4000017,[7,8,10,11,57,58,59]),(4000011,[2,7,8,10,11,41,42,43]),(4000004,[1,2,7,8,10,11]),(4000003,[1,2,7,8]),(4000001,[0,1,2,28])],[],[(4,(.op 0 0 (.or (.op 1 2 (.or (.op 2 2 (.op 3 2 (.op 4 0 (.op 5 2 .nil)))) (.op 3 2 (.op 4 0 (.op 2 2 (.op 5 2 .nil)))))) (.or (.op 2 2 (.or (.op 1 2 (.op 3 2 (.op 4 0 (.op 5 2 .nil)))) (.op 3 2 (.op 1 2 (.op 4 0 (.op 5 2 .nil)))))) (.op 3 2 (.or (.op 1 2 (.op 4 0 (.op 2 2 (.op 5 2 .nil)))) (.op 2 2 (.op 1 2 (.op 4 0 (.op 5 2 .nil)))))))))),(19,(.op 0 0 (.or (.op 1 2 (.op 2 2 (.op 3 0 (.op 4 0 (.op 5 0 (.op 6 0 (.or (.op 7 2 (.op 8 2 (.op 9 0 (.op 10 0 (.op 11 0 (.op 12 0 (.op 13 0 (.or (.op 14 2 (.op 15 2 (.op 16 2 (.op 17 0 (.op 18 0 (.op 19 0 (.op 20 0 (.or (.op 21 2 (.op 22 2 (.op 23 2 (.op 24 0 (.op 25 0 (.op 26 0 (.op 27 2 (.op 28 0 (.op 29 0 .nil))))))))) (.op 22 2 (.op 21 2 (.op 23 2 (.op 24 0 (.op 25 0 (.op 26 0 (.op 27 2 (.op 28 0 (.op 29 0 .nil))))))))))))))))) (.op 15 2 (.op 14 2 (.op 16 2 (.op 17 0 (.op 18 0 (.op 19 0 (.op 20 0 (.or (.op 21 2 (.op 22 2 (.op 23 2 (.op 24 0 (.op 25 0 (.op 26 0 (.op 27 2 (.op 28 0 (.op 29 0 .nil))))))))) (.op 22 2 (.op 21 2 (.op 23 2 (.op 24 0 (.op 25 0 (.op 26 0 (.op 27 2 (.op 28 0 (.op 29 0 .nil))))))))))))))))))))))))) (.op 8 2 (.op 7 2 (.op 9 0 (.op 10 0 (.op 11 0 (.op 12 0 (.op 13 0 (.or (.op 14 2 (.op 15 2 (.op 16 2 (.op 17 0 (.op 18 0 (.op 19 0 (.op 20 0 (.or (.op 21 2 (.op 22 2 (.op 23 2 (.op 24 0 (.op 25 0 (.op 26 0 (.op 27 2 (.op 28 0 (.op 29 0 .nil))))))))) (.op 22 2 (.op 21 2 (.op 23 2 (.op 24 0 (.op 25 0 (.op 26 0 (.op 27 2 (.op 28 0 (.op 29 0 .nil))))))))))))))))) (.op 15 2 (.op 14 2 (.op 16 2 (.op 17 0 (.op 18 0 (.op 19 0 (.op 20 0 (.or (.op 21 2 (.op 22 2 (.op 23 2 (.op 24 0 (.op 25 0 (.op 26 0 (.op 27 2 (.op 28 0 (.op 29 0 .nil))))))))) (.op 22 2 (.op 21 2 (.op 23 2 (.op 24 0 (.op 25 0 (.op 26 0 (.op 27 2 (.op 28 0 (.op 29 0 .nil)))))))))))))))))))))))))))))))) (.op 2 2 (.op 1 2 (.op 3 0 (.op 4 0 (.op 5 0 (.op 6 0 (.or (.op 7 2 (.op 8 2 (.op 9 0 (.op 10 0 (.op 11 0 (.op 12 0 (.op 13 0 (.or (.op 14 2 (.op 15 2 (.op 16 2 (.op 17 0 (.op 18 0 (.op 19 0 (.op 20 0 (.or (.op 21 2 (.op 22 2 (.op 23 2 (.op 24 0 (.op 25 0 (.op 26 0 (.op 27 2 (.op 28 0 (.op 29 0 .nil))))))))) (.op 22 2 (.op 21 2 (.op 23 2 (.op 24 0 (.op 25 0 (.op 26 0 (.op 27 2 (.op 28 0 (.op 29 0 .nil))))))))))))))))) (.op 15 2 (.op 14 2 (.op 16 2 (.op 17 0 (.op 18 0 (.op 19 0 (.op 20 0 (.or (.op 21 2 (.op 22 2 (.op 23 2 (.op 24 0 (.op 25 0 (.op 26 0 (.op 27 2 (.op 28 0 (.op 29 0 .nil))))))))) (.op 22 2 (.op 21 2 (.op 23 2 (.op 24 0 (.op 25 0 (.op 26 0 (.op 27 2 (.op 28 0 (.op 29 0 .nil))))))))))))))))))))))))) (.op 8 2 (.op 7 2 (.op 9 0 (.op 10 0 (.op 11 0 (.op 12 0 (.op 13 0 (.or (.op 14 2 (.op 15 2 (.op 16 2 (.op 17 0 (.op 18 0 (.op 19 0 (.op 20 0 (.or (.op 21 2 (.op 22 2 (.op 23 2 (.op 24 0 (.op 25 0 (.op 26 0 (.op 27 2 (.op 28 0 (.op 29 0 .nil))))))))) (.op 22 2 (.op 21 2 (.op 23 2 (.op 24 0 (.op 25 0 (.op 26 0 (.op 27 2 (.op 28 0 (.op 29 0 .nil))))))))))))))))) (.op 15 2 (.op 14 2 (.op 16 2 (.op 17 0 (.op 18 0 (.op 19 0 (.op 20 0 (.or (.op 21 2 (.op 22 2 (.op 23 2 (.op 24 0 (.op 25 0 (.op 26 0 (.op 27 2 (.op 28 0 (.op 29 0 .nil))))))))) (.op 22 2 (.op 21 2 (.op 23 2 (.op 24 0 (.op 25 0 (.op 26 0 (.op 27 2 (.op 28 0 (.op 29 0 .nil)))))))))))))))))))))))))))))))))))]⟩) Tryz.mixed (by kernel_rfl) (fun mm σ H' => ∃ (i : Nat) (P1 : List Opn) (S1 : PS),i + mm = one.length ∧ Rel P1 S1 ∧ InvP S1 ∧ P1.length ≤ P.length + ((one.take i).map List.length).sum ∧ IsP (C.set b8 (boxP P1)) H' h S1 ∧
      σ 2 = opssV two ∧ σ 7 = .ptr h.p 0 ∧ σ 8 = .ptr b8 0 ∧ σ 10 = .ptr h2.p 0 ∧ σ 11 = .ptr b11 0 ∧ σ 41 = opssV one ∧ σ 42 = .sc (.int .i64 (one.length : Nat)) ∧ σ 43 = .sc (.int .i64 (i : Nat))) one.length ?_ ?_
    · refine ⟨0,P,S,by omega,rel,inv,Nat.le_add_right _ _,c0,?_⟩
      simp (disch := omega) only [↓aI,↓zP,aD,zD,aS,simprocAttr,Tryz.facts,t1,t2,t7,t8,t10,t11]
      try rfl
    · clear c0 t1 t2 t7 t8 t10 t11
      rintro mm σ H' ⟨i,P1,S1,him,rel1,inv1,hP1,p1,s2,s7,s8,s10,s11,s41,s42,s43⟩
      have hs1 := hsl i
      have v8 : H' b8 = some (boxP P1) := p1.sub _ _ set_get
      by_cases hlt : i < one.length
      · have hg := opss_get hlt
        have hs2 := hsl (i + 1)
        have hsm2 : ((one.take (i + 1)).map List.length).sum = ((one.take i).map List.length).sum + one[i].length := by
          rw [List.take_succ_eq_append_getElem hlt,List.map_append,List.sum_append]; simp
        have hz1 := rel1.size
        have zz := rdo_len P1 one[i]
        have rel2 := rel1.do_ one[i]
        have inv2 := inv1.do_ one[i] (by omega)
        generalize one[i] = q at *
        have hrd := rdo_pure P1 q (by omega) (by omega)
        have hqo := cq q
        have hdo := do_live _ _ h S1 q p1 (by omega) (by omega)
        generalize doP S1 q = DD at *
        obtain ⟨de,DS⟩ := DD
        generalize rDo P1 q = RR at *
        obtain ⟨re,RP⟩ := RR
        simp only at rel2 inv2 zz hrd hdo
        obtain ⟨-,rel2⟩ := rel2
        simp (disch := omega) only [↓aI,↓zP,aD,zD,aS,simprocAttr,Tryz.facts,s2,s7,s8,s10,s11,s41,s42,s43,zA,hg,hm1]
        refine CallK.i hdo ?_
        rintro v H2 ⟨rfl,p2⟩
        have v82 : H2 b8 = some (boxP P1) := p2.sub _ _ set_get
        simp (disch := omega) only [↓aI,↓zP,aD,zD,aS,simprocAttr,Tryz.facts,s2,s7,s8,s10,s11,s41,s42,s43,zA,hg,hm1,v82]
        first | refine CallK.p (hrd) ?_ | refine CallP.i (hrd) ?_
        simp (disch := omega) only [↓aI,↓zP,aD,zD,aS,simprocAttr,Tryz.facts,s2,s7,s8,s10,s11,s41,s42,s43,zA,hg,hm1,v82,ah]
        have p3 := p2.box (b := b8) (boxP RP) (.inr (by rw [set_get]; simp))
        rw [box_twice] at p3
        exact ⟨mm - 1,by omega,i + 1,RP,DS,by omega,rel2,inv2,by omega,p3,rfl⟩
      · obtain rfl : i = one.length := by omega
        simp (disch := omega) only [↓aI,↓zP,aD,zD,aS,simprocAttr,Tryz.facts,s2,s7,s8,s10,s11,s41,s42,s43,zA,hm2]
        have hc1 := qC.box (b := b8) (boxP P1) (.inr (by rw [aP n11,set_get]; simp))
        obtain ⟨D,qD,pD⟩ := hc1.swap p1
        have v11D : D b11 = some (boxP P) := pD.sub _ _ (by rw [aP (fun e => n11 e.symm),set_get])
        have v8D : D b8 = some (boxP P1) := pD.sub _ _ set_get
        have c0 : IsP (D.set b11 (boxP P)) H' h2 (cloneP P) := by rw [set_same v11D]; exact qD
        have hsD : Abs.Sub H D := fun y o hy => pD.sub _ _ (by
          have e8 : ¬ y = b8 := bA hy hB8
          have e11 : ¬ y = b11 := fun e => by
            subst e
            have := hB11
            rw [aP e8] at this
            rw [this] at hy; cases hy
          rw [aP e8,aP e11,aP e8]
          exact hy)
        have hsl2 : ∀ j,((two.take j).map List.length).sum ≤ 60 := fun j => by
          have e : two.take j ++ two.drop j = two := List.take_append_drop j two
          rw [← e,List.map_append,List.sum_append] at z2
          omega
        have hrp := rOps_ok rel.okO
        clear hc1 qD p1 v8 pC qC
        refine br (c := ⟨Tryz.prog,102,[(4,[0,2,0,2,0,2]),(19,[0,2,0,0,0,0,0,2,0,0,0,0,0,0,2,0,2,0,0,0,0,2,0,2,0,0,0,2,0,0]),(4000019,[6]),(4000017,[7,8,10,11,57,58,59]),(4000011,[2,7,8,10,11,41,42,43]),(4000004,[1,2,7,8,10,11]),(4000003,[1,2,7,8]),(4000001,[0,1,2,28])],[],[(4,(.op 0 0 (.or (.op 1 2 (.or (.op 2 2 (.op 3 2 (.op 4 0 (.op 5 2 .nil)))) (.op 3 2 (.op 4 0 (.op 2 2 (.op 5 2 .nil)))))) (.or (.op 2 2 (.or (.op 1 2 (.op 3 2 (.op 4 0 (.op 5 2 .nil)))) (.op 3 2 (.op 1 2 (.op 4 0 (.op 5 2 .nil)))))) (.op 3 2 (.or (.op 1 2 (.op 4 0 (.op 2 2 (.op 5 2 .nil)))) (.op 2 2 (.op 1 2 (.op 4 0 (.op 5 2 .nil)))))))))),(19,(.op 0 0 (.or (.op 1 2 (.op 2 2 (.op 3 0 (.op 4 0 (.op 5 0 (.op 6 0 (.or (.op 7 2 (.op 8 2 (.op 9 0 (.op 10 0 (.op 11 0 (.op 12 0 (.op 13 0 (.or (.op 14 2 (.op 15 2 (.op 16 2 (.op 17 0 (.op 18 0 (.op 19 0 (.op 20 0 (.or (.op 21 2 (.op 22 2 (.op 23 2 (.op 24 0 (.op 25 0 (.op 26 0 (.op 27 2 (.op 28 0 (.op 29 0 .nil))))))))) (.op 22 2 (.op 21 2 (.op 23 2 (.op 24 0 (.op 25 0 (.op 26 0 (.op 27 2 (.op 28 0 (.op 29 0 .nil))))))))))))))))) (.op 15 2 (.op 14 2 (.op 16 2 (.op 17 0 (.op 18 0 (.op 19 0 (.op 20 0 (.or (.op 21 2 (.op 22 2 (.op 23 2 (.op 24 0 (.op 25 0 (.op 26 0 (.op 27 2 (.op 28 0 (.op 29 0 .nil))))))))) (.op 22 2 (.op 21 2 (.op 23 2 (.op 24 0 (.op 25 0 (.op 26 0 (.op 27 2 (.op 28 0 (.op 29 0 .nil))))))))))))))))))))))))) (.op 8 2 (.op 7 2 (.op 9 0 (.op 10 0 (.op 11 0 (.op 12 0 (.op 13 0 (.or (.op 14 2 (.op 15 2 (.op 16 2 (.op 17 0 (.op 18 0 (.op 19 0 (.op 20 0 (.or (.op 21 2 (.op 22 2 (.op 23 2 (.op 24 0 (.op 25 0 (.op 26 0 (.op 27 2 (.op 28 0 (.op 29 0 .nil))))))))) (.op 22 2 (.op 21 2 (.op 23 2 (.op 24 0 (.op 25 0 (.op 26 0 (.op 27 2 (.op 28 0 (.op 29 0 .nil))))))))))))))))) (.op 15 2 (.op 14 2 (.op 16 2 (.op 17 0 (.op 18 0 (.op 19 0 (.op 20 0 (.or (.op 21 2 (.op 22 2 (.op 23 2 (.op 24 0 (.op 25 0 (.op 26 0 (.op 27 2 (.op 28 0 (.op 29 0 .nil))))))))) (.op 22 2 (.op 21 2 (.op 23 2 (.op 24 0 (.op 25 0 (.op 26 0 (.op 27 2 (.op 28 0 (.op 29 0 .nil)))))))))))))))))))))))))))))))) (.op 2 2 (.op 1 2 (.op 3 0 (.op 4 0 (.op 5 0 (.op 6 0 (.or (.op 7 2 (.op 8 2 (.op 9 0 (.op 10 0 (.op 11 0 (.op 12 0 (.op 13 0 (.or (.op 14 2 (.op 15 2 (.op 16 2 (.op 17 0 (.op 18 0 (.op 19 0 (.op 20 0 (.or (.op 21 2 (.op 22 2 (.op 23 2 (.op 24 0 (.op 25 0 (.op 26 0 (.op 27 2 (.op 28 0 (.op 29 0 .nil))))))))) (.op 22 2 (.op 21 2 (.op 23 2 (.op 24 0 (.op 25 0 (.op 26 0 (.op 27 2 (.op 28 0 (.op 29 0 .nil))))))))))))))))) (.op 15 2 (.op 14 2 (.op 16 2 (.op 17 0 (.op 18 0 (.op 19 0 (.op 20 0 (.or (.op 21 2 (.op 22 2 (.op 23 2 (.op 24 0 (.op 25 0 (.op 26 0 (.op 27 2 (.op 28 0 (.op 29 0 .nil))))))))) (.op 22 2 (.op 21 2 (.op 23 2 (.op 24 0 (.op 25 0 (.op 26 0 (.op 27 2 (.op 28 0 (.op 29 0 .nil))))))))))))))))))))))))) (.op 8 2 (.op 7 2 (.op 9 0 (.op 10 0 (.op 11 0 (.op 12 0 (.op 13 0 (.or (.op 14 2 (.op 15 2 (.op 16 2 (.op 17 0 (.op 18 0 (.op 19 0 (.op 20 0 (.or (.op 21 2 (.op 22 2 (.op 23 2 (.op 24 0 (.op 25 0 (.op 26 0 (.op 27 2 (.op 28 0 (.op 29 0 .nil))))))))) (.op 22 2 (.op 21 2 (.op 23 2 (.op 24 0 (.op 25 0 (.op 26 0 (.op 27 2 (.op 28 0 (.op 29 0 .nil))))))))))))))))) (.op 15 2 (.op 14 2 (.op 16 2 (.op 17 0 (.op 18 0 (.op 19 0 (.op 20 0 (.or (.op 21 2 (.op 22 2 (.op 23 2 (.op 24 0 (.op 25 0 (.op 26 0 (.op 27 2 (.op 28 0 (.op 29 0 .nil))))))))) (.op 22 2 (.op 21 2 (.op 23 2 (.op 24 0 (.op 25 0 (.op 26 0 (.op 27 2 (.op 28 0 (.op 29 0 .nil)))))))))))))))))))))))))))))))))))]⟩) Tryz.mixed (by kernel_rfl) (fun mm σ H' => ∃ (i : Nat) (Q R : List Opn) (S2 U : PS),i + mm = two.length ∧ Rel R S2 ∧ R.Perm Q ∧ Rel Q U ∧ InvP S2 ∧ Q.length ≤ P.length + ((two.take i).map List.length).sum ∧ IsP (D.set b11 (boxP Q)) H' h2 S2 ∧
          σ 7 = .ptr h.p 0 ∧ σ 8 = .ptr b8 0 ∧ σ 10 = .ptr h2.p 0 ∧ σ 11 = .ptr b11 0 ∧ σ 57 = opssV two ∧ σ 58 = .sc (.int .i64 (two.length : Nat)) ∧ σ 59 = .sc (.int .i64 (i : Nat))) two.length ?_ ?_
        · refine ⟨0,P,rOps P,cloneP P,S,by omega,hcr.1,hrp.2,rel,hcr.2.1,Nat.le_add_right _ _,c0,?_⟩
          simp (disch := omega) only [↓aI,↓zP,aD,zD,aS,simprocAttr,Tryz.facts,s2,s7,s8,s10,s11]
          try rfl
        · clear c0 s2 s7 s8 s10 s11 s41 s42 s43
          rintro mm σ H' ⟨i,Q,R,S2,U,him,relR,hRQ,relU,invR,hQ,p2,s7,s8,s10,s11,s57,s58,s59⟩
          have hs1 := hsl2 i
          have hRl := hRQ.length_eq
          have v11 : H' b11 = some (boxP Q) := p2.sub _ _ set_get
          by_cases hlt : i < two.length
          · have hg := opss_get hlt
            have hs2 := hsl2 (i + 1)
            have hsm2 : ((two.take (i + 1)).map List.length).sum = ((two.take i).map List.length).sum + two[i].length := by
              rw [List.take_succ_eq_append_getElem hlt,List.map_append,List.sum_append]; simp
            have hz1 := relR.size
            have zz := rdo_len Q two[i]
            have rel2 := relR.do_ two[i]
            have rel3 := relU.do_ two[i]
            have hpp := rdo_perm hRQ two[i]
            have inv2 := invR.do_ two[i] (by omega)
            generalize two[i] = q at *
            have hrd := rdo_pure Q q (by omega) (by omega)
            have hqo := cq q
            have hdo := do_live _ _ h2 S2 q p2 (by omega) (by omega)
            generalize doP S2 q = DD at *
            obtain ⟨de,DS⟩ := DD
            generalize doP U q = UU at *
            generalize rDo Q q = RR at *
            generalize rDo R q = RR2 at *
            obtain ⟨re,RP⟩ := RR
            simp only at rel2 rel3 hpp inv2 zz hrd hdo
            obtain ⟨-,rel2⟩ := rel2
            obtain ⟨-,rel3⟩ := rel3
            simp (disch := omega) only [↓aI,↓zP,aD,zD,aS,simprocAttr,Tryz.facts,s7,s8,s10,s11,s57,s58,s59,zA,hg,hm2]
            refine CallK.i hdo ?_
            rintro v H3 ⟨rfl,p3⟩
            have v113 : H3 b11 = some (boxP Q) := p3.sub _ _ set_get
            simp (disch := omega) only [↓aI,↓zP,aD,zD,aS,simprocAttr,Tryz.facts,s7,s8,s10,s11,s57,s58,s59,zA,hg,hm2,v113]
            first | refine CallK.p (hrd) ?_ | refine CallP.i (hrd) ?_
            simp (disch := omega) only [↓aI,↓zP,aD,zD,aS,simprocAttr,Tryz.facts,s7,s8,s10,s11,s57,s58,s59,zA,hg,hm2,v113,ah]
            have p4 := p3.box (b := b11) (boxP RP) (.inr (by rw [set_get]; simp))
            rw [box_twice] at p4
            exact ⟨mm - 1,by omega,i + 1,RP,RR2.2,DS,UU.2,by omega,rel2,hpp,rel3,inv2,by omega,p4,rfl⟩
          · obtain rfl : i = two.length := by omega
            have pF := (pD.box (b := b11) (boxP Q) (.inr (by rw [aP (fun e => n11 e.symm),set_get]; simp))).mono p2.sub
            have v8F : H' b8 = some (boxP P1) := p2.sub _ _ (by rw [aP n11]; exact v8D)
            have hs60 := hsl one.length
            have hzA := rel1.size
            have hzB := relR.size
            have tA := tree_same rel1 inv1 pF.t.g pF.nd (by omega)
            have tB := tree_perm relR hRQ invR p2.t.g p2.nd (by omega)
            have mB := marks_perm relR relU hRQ p2.g (by rw [relU.m]; exact rMarks_good Q)
            rw [relU.m] at mB
            have oA := ops_rel _ _ h S1 P1 pF rel1 inv1
            have oB := ops_rel _ _ h2 S2 R p2 relR invR
            rw [ops_perm relR.okO hRQ] at oB
            have qA := rops_pure P1 (by omega)
            have qB := rops_pure Q (by omega)
            have rA := pruns_live _ _ h S1 pF hh0
            have rB := pruns_live _ _ h2 S2 p2 h20
            rw [tA,rel1.m] at rA
            rw [tB,mB] at rB
            have eA := rpruns_pure P1 (by omega)
            have eB := rpruns_pure Q (by omega)
            have okQ := relU.okO
            have hrlA : (rOps P1).length ≤ 3000000 := by rw [(rOps_ok rel1.okO).2.length_eq]; omega
            have hrlB : (rOps Q).length ≤ 3000000 := by rw [(rOps_ok okQ).2.length_eq]; omega
            have sA := same_pure (rOps P1) (rOps P1) hrlA hrlA
            have sB := same_pure (rOps Q) (rOps Q) hrlB hrlB
            have hrn : ∀ X : List Opn,X.length ≤ 4096 → (runsN (bF (rTreeL X) (rTreeG X)) (rMarks X)).length ≤ 100000 := fun X hX => by
              have hin := (rTree_in X).1
              have hLl := hin.le
              have h1 := nodes_sum hin.g (rTreeG X) fun _ => 1
              simp only [List.map_const',List.sum_replicate_nat] at h1
              unfold runsN
              rw [List.length_reverse]
              have := runsR_len (styN (bF (rTreeL X) (rTreeG X)) (rMarks X)) (ixd 0 (bF (rTreeL X) (rTreeG X)))
              rw [ixd_length] at this
              omega
            have uA := rsame_pure _ _ (hrn P1 (by omega)) (hrn P1 (by omega))
            have uB := rsame_pure _ _ (hrn Q (by omega)) (hrn Q (by omega))
            rw [decide_eq_true rfl] at sA sB uA uB
            clear hrn hrlA hrlB
            have hsF : Abs.Sub H H' := fun y o hy => p2.sub _ _ (by
              have e11 : ¬ y = b11 := fun e => by
                subst e
                have := hB11
                rw [aP (fun e => n11 e.symm)] at this
                rw [this] at hy; cases hy
              rw [aP e11]
              exact hsD _ _ hy)
            generalize runsN (bF (rTreeL P1) (rTreeG P1)) (rMarks P1) = RA at *
            generalize runsN (bF (rTreeL Q) (rTreeG Q)) (rMarks Q) = RB at *
            simp (disch := omega) only [↓aI,↓zP,aD,zD,aS,simprocAttr,Tryz.facts,s7,s8,s10,s11,s57,s58,s59,zA]
            refine eI (fun σ F => Abs.Sub H F ∧ σ 6 = .sc (.bool true)) ?_ ?_
            · simp (disch := omega) only [↓aI,↓zP,aD,zD,aS,simprocAttr,Tryz.facts,s7,s8,s10,s11,s57,s58,s59,zA,v8F,v11]
              repeat' first
                | refine And.intro ?_ ?_
                | (refine CallK.i oA ?_; rintro v E ⟨rfl,hE⟩; subst hE; simp (disch := omega) only [↓aI,↓zP,aD,zD,aS,simprocAttr,Tryz.facts,s7,s8,s10,s11,s57,s58,s59,zA,v8F,v11,ah,beq_self_eq_true])
                | (refine CallK.i oB ?_; rintro v E ⟨rfl,hE⟩; subst hE; simp (disch := omega) only [↓aI,↓zP,aD,zD,aS,simprocAttr,Tryz.facts,s7,s8,s10,s11,s57,s58,s59,zA,v8F,v11,ah,beq_self_eq_true])
                | (refine CallK.i rA ?_; rintro v E ⟨rfl,hE⟩; subst hE; simp (disch := omega) only [↓aI,↓zP,aD,zD,aS,simprocAttr,Tryz.facts,s7,s8,s10,s11,s57,s58,s59,zA,v8F,v11,ah,beq_self_eq_true])
                | (refine CallK.i rB ?_; rintro v E ⟨rfl,hE⟩; subst hE; simp (disch := omega) only [↓aI,↓zP,aD,zD,aS,simprocAttr,Tryz.facts,s7,s8,s10,s11,s57,s58,s59,zA,v8F,v11,ah,beq_self_eq_true])
                | (refine CallK.p (qA) ?_; simp (disch := omega) only [↓aI,↓zP,aD,zD,aS,simprocAttr,Tryz.facts,s7,s8,s10,s11,s57,s58,s59,zA,v8F,v11,ah,beq_self_eq_true])
                | (refine CallP.i (qA) ?_; simp (disch := omega) only [↓aI,↓zP,aD,zD,aS,simprocAttr,Tryz.facts,s7,s8,s10,s11,s57,s58,s59,zA,v8F,v11,ah,beq_self_eq_true])
                | (refine CallK.p (qB) ?_; simp (disch := omega) only [↓aI,↓zP,aD,zD,aS,simprocAttr,Tryz.facts,s7,s8,s10,s11,s57,s58,s59,zA,v8F,v11,ah,beq_self_eq_true])
                | (refine CallP.i (qB) ?_; simp (disch := omega) only [↓aI,↓zP,aD,zD,aS,simprocAttr,Tryz.facts,s7,s8,s10,s11,s57,s58,s59,zA,v8F,v11,ah,beq_self_eq_true])
                | (refine CallK.p (sA) ?_; simp (disch := omega) only [↓aI,↓zP,aD,zD,aS,simprocAttr,Tryz.facts,s7,s8,s10,s11,s57,s58,s59,zA,v8F,v11,ah,beq_self_eq_true])
                | (refine CallP.i (sA) ?_; simp (disch := omega) only [↓aI,↓zP,aD,zD,aS,simprocAttr,Tryz.facts,s7,s8,s10,s11,s57,s58,s59,zA,v8F,v11,ah,beq_self_eq_true])
                | (refine CallK.p (sB) ?_; simp (disch := omega) only [↓aI,↓zP,aD,zD,aS,simprocAttr,Tryz.facts,s7,s8,s10,s11,s57,s58,s59,zA,v8F,v11,ah,beq_self_eq_true])
                | (refine CallP.i (sB) ?_; simp (disch := omega) only [↓aI,↓zP,aD,zD,aS,simprocAttr,Tryz.facts,s7,s8,s10,s11,s57,s58,s59,zA,v8F,v11,ah,beq_self_eq_true])
                | (refine CallK.p (eA) ?_; simp (disch := omega) only [↓aI,↓zP,aD,zD,aS,simprocAttr,Tryz.facts,s7,s8,s10,s11,s57,s58,s59,zA,v8F,v11,ah,beq_self_eq_true])
                | (refine CallP.i (eA) ?_; simp (disch := omega) only [↓aI,↓zP,aD,zD,aS,simprocAttr,Tryz.facts,s7,s8,s10,s11,s57,s58,s59,zA,v8F,v11,ah,beq_self_eq_true])
                | (refine CallK.p (eB) ?_; simp (disch := omega) only [↓aI,↓zP,aD,zD,aS,simprocAttr,Tryz.facts,s7,s8,s10,s11,s57,s58,s59,zA,v8F,v11,ah,beq_self_eq_true])
                | (refine CallP.i (eB) ?_; simp (disch := omega) only [↓aI,↓zP,aD,zD,aS,simprocAttr,Tryz.facts,s7,s8,s10,s11,s57,s58,s59,zA,v8F,v11,ah,beq_self_eq_true])
                | (refine CallK.p (uA) ?_; simp (disch := omega) only [↓aI,↓zP,aD,zD,aS,simprocAttr,Tryz.facts,s7,s8,s10,s11,s57,s58,s59,zA,v8F,v11,ah,beq_self_eq_true])
                | (refine CallP.i (uA) ?_; simp (disch := omega) only [↓aI,↓zP,aD,zD,aS,simprocAttr,Tryz.facts,s7,s8,s10,s11,s57,s58,s59,zA,v8F,v11,ah,beq_self_eq_true])
                | (refine CallK.p (uB) ?_; simp (disch := omega) only [↓aI,↓zP,aD,zD,aS,simprocAttr,Tryz.facts,s7,s8,s10,s11,s57,s58,s59,zA,v8F,v11,ah,beq_self_eq_true])
                | (refine CallP.i (uB) ?_; simp (disch := omega) only [↓aI,↓zP,aD,zD,aS,simprocAttr,Tryz.facts,s7,s8,s10,s11,s57,s58,s59,zA,v8F,v11,ah,beq_self_eq_true])
                | (refine CallK.p (haw) ?_; simp (disch := omega) only [↓aI,↓zP,aD,zD,aS,simprocAttr,Tryz.facts,s7,s8,s10,s11,s57,s58,s59,zA,v8F,v11,ah,beq_self_eq_true])
                | (refine CallP.i (haw) ?_; simp (disch := omega) only [↓aI,↓zP,aD,zD,aS,simprocAttr,Tryz.facts,s7,s8,s10,s11,s57,s58,s59,zA,v8F,v11,ah,beq_self_eq_true])
                | exact hsF
                | rfl
            · rintro σ F ⟨hs,s6⟩
              simp (disch := omega) only [↓aI,↓zP,aD,zD,aS,simprocAttr,Tryz.facts,s6,zA]
              exact hs
theorem paper_clones (x0 x1 x2 : List (List OpX)) (hb : Tryz.ty22.size x0 + Tryz.ty22.size x1 + Tryz.ty22.size x2 ≤ 1048576) : APure Tryz.prog 4 [(Tryz.ty22.enc x0).getD 0 .any,(Tryz.ty22.enc x1).getD 0 .any,(Tryz.ty22.enc x2).getD 0 .any] (.sc (.bool true)) := by
  have h1 := opss_len x0
  have h2 := opss_len x1
  have h3 := opss_len x2
  rw [opss_enc,opss_enc,opss_enc]
  by_cases h : smallB (opssOf x0) = true ∧ smallB (opssOf x1) = true ∧ smallB (opssOf x2) = true
  · exact clones_yes _ _ _ h.1 h.2.1 h.2.2
  · exact clones_no _ _ _ h (by omega) (by omega) (by omega)
end Go.Proofs.YtcgjlmopeblapaaGreat
