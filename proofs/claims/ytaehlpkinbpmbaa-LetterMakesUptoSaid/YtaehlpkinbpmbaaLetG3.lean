/-
  Several texts in one: each says what it proves.
  Conditions: none. Lemmas only.
-/
import Derived.Test.YtaehlpkinbpmbaaLetG1
set_option linter.all false
section
set_option linter.unusedSimpArgs false
set_option linter.unusedVariables false
set_option maxRecDepth 20000
set_option maxHeartbeats 4000000
namespace Go.Proofs.Ytaehlpkinbpmbaa
open Go Go.Abs Go.Proofs
structure Ltr where
  kind : Int
  author : Int
  epoch : Int
  number : Int
  prev : List UInt8
  box : List UInt8
  sig : List UInt8
def ltrC (l : Ltr) : List AV := [.sc (.int .i64 l.kind),.sc (.int .i64 l.author),.sc (.int .i64 l.epoch),.sc (.int .i64 l.number),bytesV l.prev,bytesV l.box,bytesV l.sig]
def headR (l : Ltr) : Bool := decide (2 ≤ l.kind ∧ l.kind ≤ 4 ∧ 0 ≤ l.author ∧ l.author ≤ 4 ∧ 1 ≤ l.epoch ∧ l.epoch ≤ 65536 ∧ 1 ≤ l.number ∧ l.number ≤ 1048576)
def tailR (kd nu : Int) (n : Nat) : Bool := if kd = 2 then decide (n = 32 ∨ (n = 0 ∧ nu = 1)) else decide (n = 0)
def namedL (l : Ltr) : Bool := headR l && tailR l.kind l.number l.prev.length
theorem tail_cases (kd nu : Int) (n : Nat) : (kd = 2 ∧ n = 32 ∧ tailR kd nu n = true) ∨ (kd = 2 ∧ ¬ n = 32 ∧ n = 0 ∧ nu = 1 ∧ tailR kd nu n = true) ∨ (kd = 2 ∧ ¬ n = 32 ∧ n = 0 ∧ ¬ nu = 1 ∧ tailR kd nu n = false) ∨ (kd = 2 ∧ ¬ n = 32 ∧ ¬ n = 0 ∧ tailR kd nu n = false) ∨ (¬ kd = 2 ∧ n = 0 ∧ tailR kd nu n = true) ∨ (¬ kd = 2 ∧ ¬ n = 0 ∧ tailR kd nu n = false) := by
  unfold tailR
  by_cases h : kd = 2
  · rw [if_pos h]
    by_cases a : n = 32
    · exact .inl ⟨h,a,decide_eq_true (.inl a)⟩
    · by_cases b : n = 0
      · by_cases c : nu = 1
        · exact .inr (.inl ⟨h,a,b,c,decide_eq_true (.inr ⟨b,c⟩)⟩)
        · exact .inr (.inr (.inl ⟨h,a,b,c,decide_eq_false (by omega)⟩))
      · exact .inr (.inr (.inr (.inl ⟨h,a,b,decide_eq_false (by omega)⟩)))
  · rw [if_neg h]
    by_cases b : n = 0
    · exact .inr (.inr (.inr (.inr (.inl ⟨h,b,decide_eq_true b⟩))))
    · exact .inr (.inr (.inr (.inr (.inr ⟨h,b,decide_eq_false b⟩))))
theorem head_cases (l : Ltr) : headR l = true ∨ (l.kind < 2 ∨ (¬ l.kind < 2 ∧ 4 < l.kind) ∨ (¬ l.kind < 2 ∧ ¬ 4 < l.kind ∧ l.author < 0) ∨ (¬ l.kind < 2 ∧ ¬ 4 < l.kind ∧ ¬ l.author < 0 ∧ 4 < l.author) ∨ (¬ l.kind < 2 ∧ ¬ 4 < l.kind ∧ ¬ l.author < 0 ∧ ¬ 4 < l.author ∧ l.epoch < 1) ∨
    (¬ l.kind < 2 ∧ ¬ 4 < l.kind ∧ ¬ l.author < 0 ∧ ¬ 4 < l.author ∧ ¬ l.epoch < 1 ∧ 65536 < l.epoch) ∨ (¬ l.kind < 2 ∧ ¬ 4 < l.kind ∧ ¬ l.author < 0 ∧ ¬ 4 < l.author ∧ ¬ l.epoch < 1 ∧ ¬ 65536 < l.epoch ∧ l.number < 1) ∨
    (¬ l.kind < 2 ∧ ¬ 4 < l.kind ∧ ¬ l.author < 0 ∧ ¬ 4 < l.author ∧ ¬ l.epoch < 1 ∧ ¬ 65536 < l.epoch ∧ ¬ l.number < 1 ∧ 1048576 < l.number)) := by
  unfold headR
  rw [decide_eq_true_eq]
  omega
theorem named_pure (l : Ltr) : APure Try.prog 45 [.agg (ltrC l)] (.sc (.bool (namedL l))) := by
  have hR : namedL l = (headR l && tailR l.kind l.number l.prev.length) := rfl
  have hH : headR l = decide (2 ≤ l.kind ∧ l.kind ≤ 4 ∧ 0 ≤ l.author ∧ l.author ≤ 4 ∧ 1 ≤ l.epoch ∧ l.epoch ≤ 65536 ∧ 1 ≤ l.number ∧ l.number ≤ 1048576) := rfl
  have hc := head_cases l
  have ht := tail_cases l.kind l.number l.prev.length
  generalize namedL l = R at *
  generalize headR l = hd at *
  obtain ⟨kd,au,ep,nu,pv,bx,sg⟩ := l
  simp only [ltrC] at *
  generalize tailR kd nu pv.length = tl at *
  rcases hc with h | hc
  · subst h
    obtain ⟨k1,k2,k3,k4,k5,k6,k7,k8⟩ := of_decide_eq_true hH.symm
    rw [Bool.true_and] at hR
    subst hR
    rcases ht with ⟨q1,q2,rfl⟩ | ⟨q1,q2,q3,q4,rfl⟩ | ⟨q1,q2,q3,q4,rfl⟩ | ⟨q1,q2,q3,rfl⟩ | ⟨q1,q2,rfl⟩ | ⟨q1,q2,rfl⟩
    all_goals
      refine az (c := ⟨Try.prog,64,[(1000000,[1]),(4000005,[2]),(4000003,[1,49]),(4000001,[1,40])],[],[]⟩) (rs := [ResultVar.tmp 2]) Try.mixed Try.func45 rfl rfl rfl (Nat.le_of_ble_eq_true rfl) (by kernel_rfl) fun H => ?_
      simp (disch := omega) only [↓aI,↓zP,aD,zD,aS,simprocAttr,Try.facts,zA]
      intro k hk0 hk
      simp (disch := omega) only [↓aI,↓zP,aD,zD,aS,simprocAttr,Try.facts,zA,aj hk]
      exact Abs.Sub.refl _
  · have hd' : hd = false := by rw [hH]; exact decide_eq_false (by omega)
    rw [hd',Bool.false_and] at hR
    subst hR
    rcases hc with h | ⟨h1,h⟩ | ⟨h1,h2,h⟩ | ⟨h1,h2,h3,h⟩ | ⟨h1,h2,h3,h4,h⟩ | ⟨h1,h2,h3,h4,h5,h⟩ | ⟨h1,h2,h3,h4,h5,h6,h⟩ | ⟨h1,h2,h3,h4,h5,h6,h7,h⟩
    all_goals
      refine az (c := ⟨Try.prog,64,[(1000000,[1]),(4000005,[2]),(4000003,[1,49]),(4000001,[1,40])],[],[]⟩) (rs := [ResultVar.tmp 2]) Try.mixed Try.func45 rfl rfl rfl (Nat.le_of_ble_eq_true rfl) (by kernel_rfl) fun H => ?_
      simp (disch := omega) only [↓aI,↓zP,aD,zD,aS,simprocAttr,Try.facts,zA]
      intro k hk0 hk
      simp (disch := omega) only [↓aI,↓zP,aD,zD,aS,simprocAttr,Try.facts,zA,aj hk]
      exact Abs.Sub.refl _
theorem rnamed_pure (l : Ltr) : APure Try.prog 13 [.agg (ltrC l)] (.sc (.bool (namedL l))) := by
  have hR : namedL l = (headR l && tailR l.kind l.number l.prev.length) := rfl
  have hH : headR l = decide (2 ≤ l.kind ∧ l.kind ≤ 4 ∧ 0 ≤ l.author ∧ l.author ≤ 4 ∧ 1 ≤ l.epoch ∧ l.epoch ≤ 65536 ∧ 1 ≤ l.number ∧ l.number ≤ 1048576) := rfl
  have hc := head_cases l
  have ht := tail_cases l.kind l.number l.prev.length
  generalize namedL l = R at *
  generalize headR l = hd at *
  obtain ⟨kd,au,ep,nu,pv,bx,sg⟩ := l
  simp only [ltrC] at *
  generalize tailR kd nu pv.length = tl at *
  rcases hc with h | hc
  · subst h
    obtain ⟨k1,k2,k3,k4,k5,k6,k7,k8⟩ := of_decide_eq_true hH.symm
    rw [Bool.true_and] at hR
    subst hR
    rcases ht with ⟨q1,q2,rfl⟩ | ⟨q1,q2,q3,q4,rfl⟩ | ⟨q1,q2,q3,q4,rfl⟩ | ⟨q1,q2,q3,rfl⟩ | ⟨q1,q2,rfl⟩ | ⟨q1,q2,rfl⟩
    all_goals
      refine az (c := ⟨Try.prog,63,[(1000000,[1]),(4000005,[2]),(4000004,[2]),(4000001,[1,40])],[],[]⟩) (rs := [ResultVar.tmp 2]) Try.mixed Try.func13 rfl rfl rfl (Nat.le_of_ble_eq_true rfl) (by kernel_rfl) fun H => ?_
      simp (disch := omega) only [↓aI,↓zP,aD,zD,aS,simprocAttr,Try.facts,zA]
      intro k hk0 hk
      simp (disch := omega) only [↓aI,↓zP,aD,zD,aS,simprocAttr,Try.facts,zA,aj hk]
      exact Abs.Sub.refl _
  · have hd' : hd = false := by rw [hH]; exact decide_eq_false (by omega)
    rw [hd',Bool.false_and] at hR
    subst hR
    rcases hc with h | ⟨h1,h⟩ | ⟨h1,h2,h⟩ | ⟨h1,h2,h3,h⟩ | ⟨h1,h2,h3,h4,h⟩ | ⟨h1,h2,h3,h4,h5,h⟩ | ⟨h1,h2,h3,h4,h5,h6,h⟩ | ⟨h1,h2,h3,h4,h5,h6,h7,h⟩
    all_goals
      refine az (c := ⟨Try.prog,63,[(1000000,[1]),(4000005,[2]),(4000004,[2]),(4000001,[1,40])],[],[]⟩) (rs := [ResultVar.tmp 2]) Try.mixed Try.func13 rfl rfl rfl (Nat.le_of_ble_eq_true rfl) (by kernel_rfl) fun H => ?_
      simp (disch := omega) only [↓aI,↓zP,aD,zD,aS,simprocAttr,Try.facts,zA]
      intro k hk0 hk
      simp (disch := omega) only [↓aI,↓zP,aD,zD,aS,simprocAttr,Try.facts,zA,aj hk]
      exact Abs.Sub.refl _
end Go.Proofs.Ytaehlpkinbpmbaa
end
section
set_option linter.unusedSimpArgs false
set_option linter.unusedVariables false
set_option maxRecDepth 20000
set_option maxHeartbeats 4000000
namespace Go.Proofs.Ytaehlpkinbpmbaa
open Go Go.Abs Go.Proofs
def bktL (n : Int) : Int × Int :=
  if n < 0 then (0,1) else if n < 64 then (64,0) else if n < 128 then (128,0) else if n < 256 then (256,0) else if n < 512 then (512,0)
  else if n < 1024 then (1024,0) else if n < 2048 then (2048,0) else if n < 4096 then (4096,0) else (0,2)
theorem bkt_of {n : Int} {i : Nat} (hi : i ≤ 6) (h0 : 0 ≤ n) (h1 : i = 0 ∨ ((32 * 2 ^ i : Nat) : Int) ≤ n) (h2 : n < ((64 * 2 ^ i : Nat) : Int)) : bktL n = (((64 * 2 ^ i : Nat) : Int),0) := by
  unfold bktL
  rcases (by omega : i = 0 ∨ i = 1 ∨ i = 2 ∨ i = 3 ∨ i = 4 ∨ i = 5 ∨ i = 6) with rfl | rfl | rfl | rfl | rfl | rfl | rfl
  all_goals
    simp only [Nat.reducePow,Nat.reduceMul] at *
    repeat' split
    all_goals first | rfl | (exfalso; omega)
theorem bkt_big {n : Int} (h : 4096 ≤ n) : bktL n = (0,2) := by
  unfold bktL
  repeat' split
  all_goals first | rfl | (exfalso; omega)
theorem bkt_neg {n : Int} (h : n < 0) : bktL n = (0,1) := by
  unfold bktL
  rw [if_pos h]
theorem bucket_pure (n : Int) : APure Try.prog 74 [.sc (.int .i64 n)] (.tup [.sc (.int .i64 (bktL n).1),.sc (.int .i64 (bktL n).2)]) := by
  by_cases h0 : n < 0
  · rw [bkt_neg h0]
    refine az (c := ⟨Try.prog,17,[],[],[]⟩) (rs := [ResultVar.tmp 2,ResultVar.tmp 3]) Try.mixed Try.func74 rfl rfl rfl (Nat.le_of_ble_eq_true rfl) (by kernel_rfl) fun H => ?_
    simp (disch := omega) only [↓aI,↓zP,aD,zD,aS,Nat.reduceBEq,Nat.reduceLT,reduceCtorEq,↓reduceIte,Nat.reduceMul,Nat.reduceAdd,Nat.reduceLeDiff,Nat.reduceEqDiff,Int.reduceToNat,Nat.reduceSub,Nat.reduceMod,Nat.reduceDiv,Int.reducePow,Int.reduceLE,Int.reduceNeg,Int.reduceLT,Int.reduceBEq,Int.reduceBNe,Int.reduceEq,Try.facts,zA]
    exact Abs.Sub.refl _
  · have hof := fun (i : Nat) (hi : i ≤ 6) h1 h2 => bkt_of (n := n) (i := i) hi (by omega) h1 h2
    have hbig := fun h => bkt_big (n := n) h
    generalize bktL n = R at *
    refine az (c := ⟨Try.prog,17,[],[],[]⟩) (rs := [ResultVar.tmp 2,ResultVar.tmp 3]) Try.mixed Try.func74 rfl rfl rfl (Nat.le_of_ble_eq_true rfl) (by kernel_rfl) fun H => ?_
    simp (disch := omega) only [↓aI,↓zP,aD,zD,aS,Nat.reduceBEq,Nat.reduceLT,reduceCtorEq,↓reduceIte,Nat.reduceMul,Nat.reduceAdd,Nat.reduceLeDiff,Nat.reduceEqDiff,Int.reduceToNat,Nat.reduceSub,Nat.reduceMod,Nat.reduceDiv,Int.reducePow,Int.reduceLE,Int.reduceNeg,Int.reduceLT,Int.reduceBEq,Int.reduceBNe,Int.reduceEq,Try.facts,zA]
    refine br (c := ⟨Try.prog,17,[],[],[]⟩) Try.mixed (by kernel_rfl) (fun mm σ H' => H' = H ∧ ∃ (i : Nat),i + mm = 7 ∧ (i = 0 ∨ ((32 * 2 ^ i : Nat) : Int) ≤ n) ∧ σ 0 = .sc (.int .i64 n) ∧ σ 8 = .agg [.sc (.int .i64 64),.sc (.int .i64 128),.sc (.int .i64 256),.sc (.int .i64 512),.sc (.int .i64 1024),.sc (.int .i64 2048),.sc (.int .i64 4096)] ∧ σ 9 = .sc (.int .i64 (i : Nat))) 7 ?_ ?_
    · refine ⟨rfl,0,rfl,.inl rfl,?_⟩
      simp (disch := omega) only [↓aI,↓zP,aD,zD,aS,Nat.reduceBEq,Nat.reduceLT,reduceCtorEq,↓reduceIte,Nat.reduceMul,Nat.reduceAdd,Nat.reduceLeDiff,Nat.reduceEqDiff,Int.reduceToNat,Nat.reduceSub,Nat.reduceMod,Nat.reduceDiv,Int.reducePow,Int.reduceLE,Int.reduceNeg,Int.reduceLT,Int.reduceBEq,Int.reduceBNe,Int.reduceEq,Try.facts]
      try rfl
    · rintro mm σ H' ⟨rfl,i,him,hlo,s0,s8,s9⟩
      by_cases hlt : i < 7
      · have hn1 : n < ((64 * 2 ^ i : Nat) : Int) → R = (((64 * 2 ^ i : Nat) : Int),0) := fun h => hof i (by omega) hlo h
        clear hof hbig
        by_cases hs : n < ((64 * 2 ^ i : Nat) : Int)
        · obtain rfl := hn1 hs
          rcases (by omega : i = 0 ∨ i = 1 ∨ i = 2 ∨ i = 3 ∨ i = 4 ∨ i = 5 ∨ i = 6) with rfl | rfl | rfl | rfl | rfl | rfl | rfl
          all_goals
            simp only [Nat.reducePow,Nat.reduceMul] at hs
            simp (disch := omega) only [↓aI,↓zP,aD,zD,aS,Nat.reduceBEq,Nat.reduceLT,reduceCtorEq,↓reduceIte,Nat.reduceMul,Nat.reduceAdd,Nat.reduceLeDiff,Nat.reduceEqDiff,Int.reduceToNat,Nat.reduceSub,Nat.reduceMod,Nat.reduceDiv,Int.reducePow,Int.reduceLE,Int.reduceNeg,Int.reduceLT,Int.reduceBEq,Int.reduceBNe,Int.reduceEq,Try.facts,s0,s8,s9,zA]
            exact ⟨rfl,Abs.Sub.refl _⟩
        · clear hn1
          rcases (by omega : i = 0 ∨ i = 1 ∨ i = 2 ∨ i = 3 ∨ i = 4 ∨ i = 5 ∨ i = 6) with rfl | rfl | rfl | rfl | rfl | rfl | rfl
          all_goals
            simp only [Nat.reducePow,Nat.reduceMul] at hs
            simp (disch := omega) only [↓aI,↓zP,aD,zD,aS,Nat.reduceBEq,Nat.reduceLT,reduceCtorEq,↓reduceIte,Nat.reduceMul,Nat.reduceAdd,Nat.reduceLeDiff,Nat.reduceEqDiff,Int.reduceToNat,Nat.reduceSub,Nat.reduceMod,Nat.reduceDiv,Int.reducePow,Int.reduceLE,Int.reduceNeg,Int.reduceLT,Int.reduceBEq,Int.reduceBNe,Int.reduceEq,Try.facts,s0,s8,s9,zA]
            first | exact ⟨mm - 1,by omega,1,by omega,.inr (by simp only [Nat.reducePow,Nat.reduceMul]; omega),rfl⟩ | exact ⟨mm - 1,by omega,2,by omega,.inr (by simp only [Nat.reducePow,Nat.reduceMul]; omega),rfl⟩ | exact ⟨mm - 1,by omega,3,by omega,.inr (by simp only [Nat.reducePow,Nat.reduceMul]; omega),rfl⟩ | exact ⟨mm - 1,by omega,4,by omega,.inr (by simp only [Nat.reducePow,Nat.reduceMul]; omega),rfl⟩ | exact ⟨mm - 1,by omega,5,by omega,.inr (by simp only [Nat.reducePow,Nat.reduceMul]; omega),rfl⟩ | exact ⟨mm - 1,by omega,6,by omega,.inr (by simp only [Nat.reducePow,Nat.reduceMul]; omega),rfl⟩ | exact ⟨mm - 1,by omega,7,by omega,.inr (by simp only [Nat.reducePow,Nat.reduceMul]; omega),rfl⟩
      · obtain rfl : i = 7 := by omega
        have hn : R = (0,2) := hbig (by simp only [Nat.reducePow,Nat.reduceMul] at hlo; omega)
        subst hn
        simp (disch := omega) only [↓aI,↓zP,aD,zD,aS,Nat.reduceBEq,Nat.reduceLT,reduceCtorEq,↓reduceIte,Nat.reduceMul,Nat.reduceAdd,Nat.reduceLeDiff,Nat.reduceEqDiff,Int.reduceToNat,Nat.reduceSub,Nat.reduceMod,Nat.reduceDiv,Int.reducePow,Int.reduceLE,Int.reduceNeg,Int.reduceLT,Int.reduceBEq,Int.reduceBNe,Int.reduceEq,Try.facts,s0,s8,s9,zA]
        exact Abs.Sub.refl _
theorem rbucket_pure (n : Int) : APure Try.prog 20 [.sc (.int .i64 n)] (.tup [.sc (.int .i64 (bktL n).1),.sc (.int .i64 (bktL n).2)]) := by
  by_cases h0 : n < 0
  · rw [bkt_neg h0]
    refine az (c := ⟨Try.prog,15,[],[],[]⟩) (rs := [ResultVar.tmp 2,ResultVar.tmp 3]) Try.mixed Try.func20 rfl rfl rfl (Nat.le_of_ble_eq_true rfl) (by kernel_rfl) fun H => ?_
    simp (disch := omega) only [↓aI,↓zP,aD,zD,aS,Nat.reduceBEq,Nat.reduceLT,reduceCtorEq,↓reduceIte,Nat.reduceMul,Nat.reduceAdd,Nat.reduceLeDiff,Nat.reduceEqDiff,Int.reduceToNat,Nat.reduceSub,Nat.reduceMod,Nat.reduceDiv,Int.reducePow,Int.reduceLE,Int.reduceNeg,Int.reduceLT,Int.reduceBEq,Int.reduceBNe,Int.reduceEq,Try.facts,zA]
    exact Abs.Sub.refl _
  · by_cases h4 : 4095 < n
    · rw [bkt_big (by omega)]
      refine az (c := ⟨Try.prog,15,[],[],[]⟩) (rs := [ResultVar.tmp 2,ResultVar.tmp 3]) Try.mixed Try.func20 rfl rfl rfl (Nat.le_of_ble_eq_true rfl) (by kernel_rfl) fun H => ?_
      simp (disch := omega) only [↓aI,↓zP,aD,zD,aS,Nat.reduceBEq,Nat.reduceLT,reduceCtorEq,↓reduceIte,Nat.reduceMul,Nat.reduceAdd,Nat.reduceLeDiff,Nat.reduceEqDiff,Int.reduceToNat,Nat.reduceSub,Nat.reduceMod,Nat.reduceDiv,Int.reducePow,Int.reduceLE,Int.reduceNeg,Int.reduceLT,Int.reduceBEq,Int.reduceBNe,Int.reduceEq,Try.facts,zA]
      exact Abs.Sub.refl _
    · have hof := fun (i : Nat) (hi : i ≤ 6) h1 h2 => bkt_of (n := n) (i := i) hi (by omega) h1 h2
      generalize bktL n = R at *
      refine az (c := ⟨Try.prog,15,[],[],[]⟩) (rs := [ResultVar.tmp 2,ResultVar.tmp 3]) Try.mixed Try.func20 rfl rfl rfl (Nat.le_of_ble_eq_true rfl) (by kernel_rfl) fun H => ?_
      simp (disch := omega) only [↓aI,↓zP,aD,zD,aS,Nat.reduceBEq,Nat.reduceLT,reduceCtorEq,↓reduceIte,Nat.reduceMul,Nat.reduceAdd,Nat.reduceLeDiff,Nat.reduceEqDiff,Int.reduceToNat,Nat.reduceSub,Nat.reduceMod,Nat.reduceDiv,Int.reducePow,Int.reduceLE,Int.reduceNeg,Int.reduceLT,Int.reduceBEq,Int.reduceBNe,Int.reduceEq,Try.facts,zA]
      refine br (c := ⟨Try.prog,15,[],[],[]⟩) Try.mixed (by kernel_rfl) (fun mm σ H' => H' = H ∧ ∃ (i : Nat),i + mm = 6 ∧ (i = 0 ∨ ((32 * 2 ^ i : Nat) : Int) ≤ n) ∧ σ 0 = .sc (.int .i64 n) ∧ σ 4 = .sc (.int .i64 (64 * 2 ^ i : Nat))) 6 ?_ ?_
      · refine ⟨rfl,0,rfl,.inl rfl,?_⟩
        simp (disch := omega) only [↓aI,↓zP,aD,zD,aS,Nat.reduceBEq,Nat.reduceLT,reduceCtorEq,↓reduceIte,Nat.reduceMul,Nat.reduceAdd,Nat.reduceLeDiff,Nat.reduceEqDiff,Int.reduceToNat,Nat.reduceSub,Nat.reduceMod,Nat.reduceDiv,Int.reducePow,Int.reduceLE,Int.reduceNeg,Int.reduceLT,Int.reduceBEq,Int.reduceBNe,Int.reduceEq,Try.facts]
        try rfl
      · rintro mm σ H' ⟨rfl,i,him,hlo,s0,s4⟩
        have hn1 := hof i (by omega) hlo
        clear hof
        by_cases hs : n < ((64 * 2 ^ i : Nat) : Int)
        · obtain rfl := hn1 hs
          generalize ((64 * 2 ^ i : Nat) : Int) = z at *
          simp (disch := omega) only [↓aI,↓zP,aD,zD,aS,Nat.reduceBEq,Nat.reduceLT,reduceCtorEq,↓reduceIte,Nat.reduceMul,Nat.reduceAdd,Nat.reduceLeDiff,Nat.reduceEqDiff,Int.reduceToNat,Nat.reduceSub,Nat.reduceMod,Nat.reduceDiv,Int.reducePow,Int.reduceLE,Int.reduceNeg,Int.reduceLT,Int.reduceBEq,Int.reduceBNe,Int.reduceEq,Try.facts,s0,s4,zA]
          exact Abs.Sub.refl _
        · clear hn1
          rcases (by omega : i = 0 ∨ i = 1 ∨ i = 2 ∨ i = 3 ∨ i = 4 ∨ i = 5 ∨ i = 6) with rfl | rfl | rfl | rfl | rfl | rfl | rfl
          all_goals
            simp only [Nat.reducePow,Nat.reduceMul] at hs s4
            first
              | (exfalso; omega)
              | (simp (disch := omega) only [↓aI, ↓zP, aD, zD, aS, Nat.reduceBEq, Nat.reduceLT, reduceCtorEq, ↓reduceIte, Nat.reduceMul, Nat.reduceAdd, Nat.reduceLeDiff, Nat.reduceEqDiff, Int.reduceToNat, Nat.reduceSub, Nat.reduceMod, Nat.reduceDiv, Int.reducePow, Int.reduceLE, Int.reduceNeg, Int.reduceLT, Int.reduceBEq, Int.reduceBNe, Int.reduceEq, Try.facts, s0, s4, zA]
                 first | exact ⟨mm - 1,by omega,1,by omega,.inr (by simp only [Nat.reducePow,Nat.reduceMul]; omega),rfl⟩ | exact ⟨mm - 1,by omega,2,by omega,.inr (by simp only [Nat.reducePow,Nat.reduceMul]; omega),rfl⟩ | exact ⟨mm - 1,by omega,3,by omega,.inr (by simp only [Nat.reducePow,Nat.reduceMul]; omega),rfl⟩ | exact ⟨mm - 1,by omega,4,by omega,.inr (by simp only [Nat.reducePow,Nat.reduceMul]; omega),rfl⟩ | exact ⟨mm - 1,by omega,5,by omega,.inr (by simp only [Nat.reducePow,Nat.reduceMul]; omega),rfl⟩ | exact ⟨mm - 1,by omega,6,by omega,.inr (by simp only [Nat.reducePow,Nat.reduceMul]; omega),rfl⟩)
end Go.Proofs.Ytaehlpkinbpmbaa
end
section
set_option linter.unusedSimpArgs false
set_option linter.unusedVariables false
set_option maxRecDepth 20000
set_option maxHeartbeats 4000000
namespace Go.Proofs.Ytaehlpkinbpmbaa
open Go Go.Abs Go.Proofs
def bxP : Nat → Nat → Bool
  | 0,_ => false
  | i + 1,n => bxP i n || decide (n = 64 * 2 ^ i + 16)
def bxR (n : Nat) : Bool := bxP 7 n
theorem bx_iff (n : Nat) : bxR n = decide (n = 80 ∨ n = 144 ∨ n = 272 ∨ n = 528 ∨ n = 1040 ∨ n = 2064 ∨ n = 4112) := by
  unfold bxR
  rw [Bool.eq_iff_iff,decide_eq_true_eq]
  simp only [bxP,Bool.or_eq_true,decide_eq_true_eq,Bool.false_eq_true,false_or,Nat.reducePow,Nat.reduceMul,Nat.reduceAdd]
  omega
theorem bkt_box (n : Nat) : bxR n = (decide ((bktL ((n : Int) - 17)).2 = 0) && decide ((bktL ((n : Int) - 17)).1 + 16 = (n : Int))) := by
  rw [bx_iff,Bool.eq_iff_iff,Bool.and_eq_true,decide_eq_true_eq,decide_eq_true_eq,decide_eq_true_eq]
  have key : ∀ p : Int × Int,bktL ((n : Int) - 17) = p → ((n = 80 ∨ n = 144 ∨ n = 272 ∨ n = 528 ∨ n = 1040 ∨ n = 2064 ∨ n = 4112) ↔ p.2 = 0 ∧ p.1 + 16 = (n : Int)) := by
    rintro ⟨a,b⟩ h
    unfold bktL at h
    simp only []
    repeat' split at h
    all_goals
      simp only [Prod.mk.injEq] at h
      obtain ⟨rfl,rfl⟩ := h
      omega
  exact key _ rfl
theorem bkt_le (n : Int) : 0 ≤ (bktL n).1 ∧ (bktL n).1 ≤ 4096 := by
  have key : ∀ p : Int × Int,bktL n = p → 0 ≤ p.1 ∧ p.1 ≤ 4096 := by
    rintro ⟨a,b⟩ h
    unfold bktL at h
    simp only []
    repeat' split at h
    all_goals
      simp only [Prod.mk.injEq] at h
      obtain ⟨rfl,rfl⟩ := h
      omega
  exact key _ rfl
def rightL (l : Ltr) : Bool := namedL l && bxR l.box.length && decide (l.sig.length = 64)
theorem ee (l : Ltr) (hl : l.box.length ≤ 100000000) : APure Try.prog 36 [.agg (ltrC l)] (.sc (.bool (rightL l))) := by
  have hb := bucket_pure ((l.box.length : Int) - 17)
  have hn := named_pure l
  have hR : rightL l = (namedL l && bxR l.box.length && decide (l.sig.length = 64)) := rfl
  rw [bkt_box] at hR
  have hsz := bkt_le ((l.box.length : Int) - 17)
  generalize rightL l = R at *
  generalize namedL l = nm at *
  generalize bktL ((l.box.length : Int) - 17) = z at *
  obtain ⟨sz,e⟩ := z
  obtain ⟨kd,au,ep,nu,pv,bx,sg⟩ := l
  simp only [ltrC] at *
  cases nm
  · simp only [Bool.false_and] at hR
    subst hR
    refine az (c := ⟨Try.prog,33,[(1000000,[1])],[],[]⟩) (rs := [ResultVar.tmp 2]) Try.mixed Try.func36 rfl rfl rfl (Nat.le_of_ble_eq_true rfl) (by kernel_rfl) fun H => ?_
    simp (disch := omega) only [↓aI,↓zP,aD,zD,aS,Nat.reduceBEq,Nat.reduceLT,reduceCtorEq,↓reduceIte,Nat.reduceMul,Nat.reduceAdd,Nat.reduceLeDiff,Nat.reduceEqDiff,Int.reduceToNat,Nat.reduceSub,Nat.reduceMod,Nat.reduceDiv,Int.reducePow,Int.reduceLE,Int.reduceNeg,Int.reduceLT,Int.reduceBEq,Int.reduceBNe,Int.reduceEq,Try.facts,zA]
    intro k hk0 hk
    simp (disch := omega) only [↓aI,↓zP,aD,zD,aS,Nat.reduceBEq,Nat.reduceLT,reduceCtorEq,↓reduceIte,Nat.reduceMul,Nat.reduceAdd,Nat.reduceLeDiff,Nat.reduceEqDiff,Int.reduceToNat,Nat.reduceSub,Nat.reduceMod,Nat.reduceDiv,Int.reducePow,Int.reduceLE,Int.reduceNeg,Int.reduceLT,Int.reduceBEq,Int.reduceBNe,Int.reduceEq,Try.facts,zA,aj hk]
    first | refine CallK.p (hb) ?_ | refine CallP.i (hb) ?_
    simp (disch := omega) only [↓aI,↓zP,aD,zD,aS,Nat.reduceBEq,Nat.reduceLT,reduceCtorEq,↓reduceIte,Nat.reduceMul,Nat.reduceAdd,Nat.reduceLeDiff,Nat.reduceEqDiff,Int.reduceToNat,Nat.reduceSub,Nat.reduceMod,Nat.reduceDiv,Int.reducePow,Int.reduceLE,Int.reduceNeg,Int.reduceLT,Int.reduceBEq,Int.reduceBNe,Int.reduceEq,Try.facts,zA]
    first | refine CallK.p (hn) ?_ | refine CallP.i (hn) ?_
    simp (disch := omega) only [↓aI,↓zP,aD,zD,aS,Nat.reduceBEq,Nat.reduceLT,reduceCtorEq,↓reduceIte,Nat.reduceMul,Nat.reduceAdd,Nat.reduceLeDiff,Nat.reduceEqDiff,Int.reduceToNat,Nat.reduceSub,Nat.reduceMod,Nat.reduceDiv,Int.reducePow,Int.reduceLE,Int.reduceNeg,Int.reduceLT,Int.reduceBEq,Int.reduceBNe,Int.reduceEq,Try.facts,zA]
    exact Abs.Sub.refl _
  · by_cases c1 : e = 0
    · by_cases c2 : sz + 16 = (bx.length : Nat)
      · by_cases c3 : sg.length = 64
        · rw [decide_eq_true c1,decide_eq_true c2,decide_eq_true c3] at hR
          subst hR
          refine az (c := ⟨Try.prog,33,[(1000000,[1])],[],[]⟩) (rs := [ResultVar.tmp 2]) Try.mixed Try.func36 rfl rfl rfl (Nat.le_of_ble_eq_true rfl) (by kernel_rfl) fun H => ?_
          simp (disch := omega) only [↓aI,↓zP,aD,zD,aS,Nat.reduceBEq,Nat.reduceLT,reduceCtorEq,↓reduceIte,Nat.reduceMul,Nat.reduceAdd,Nat.reduceLeDiff,Nat.reduceEqDiff,Int.reduceToNat,Nat.reduceSub,Nat.reduceMod,Nat.reduceDiv,Int.reducePow,Int.reduceLE,Int.reduceNeg,Int.reduceLT,Int.reduceBEq,Int.reduceBNe,Int.reduceEq,Try.facts,zA]
          intro k hk0 hk
          simp (disch := omega) only [↓aI,↓zP,aD,zD,aS,Nat.reduceBEq,Nat.reduceLT,reduceCtorEq,↓reduceIte,Nat.reduceMul,Nat.reduceAdd,Nat.reduceLeDiff,Nat.reduceEqDiff,Int.reduceToNat,Nat.reduceSub,Nat.reduceMod,Nat.reduceDiv,Int.reducePow,Int.reduceLE,Int.reduceNeg,Int.reduceLT,Int.reduceBEq,Int.reduceBNe,Int.reduceEq,Try.facts,zA,aj hk]
          first | refine CallK.p (hb) ?_ | refine CallP.i (hb) ?_
          simp (disch := omega) only [↓aI,↓zP,aD,zD,aS,Nat.reduceBEq,Nat.reduceLT,reduceCtorEq,↓reduceIte,Nat.reduceMul,Nat.reduceAdd,Nat.reduceLeDiff,Nat.reduceEqDiff,Int.reduceToNat,Nat.reduceSub,Nat.reduceMod,Nat.reduceDiv,Int.reducePow,Int.reduceLE,Int.reduceNeg,Int.reduceLT,Int.reduceBEq,Int.reduceBNe,Int.reduceEq,Try.facts,zA]
          first | refine CallK.p (hn) ?_ | refine CallP.i (hn) ?_
          simp (disch := omega) only [↓aI,↓zP,aD,zD,aS,Nat.reduceBEq,Nat.reduceLT,reduceCtorEq,↓reduceIte,Nat.reduceMul,Nat.reduceAdd,Nat.reduceLeDiff,Nat.reduceEqDiff,Int.reduceToNat,Nat.reduceSub,Nat.reduceMod,Nat.reduceDiv,Int.reducePow,Int.reduceLE,Int.reduceNeg,Int.reduceLT,Int.reduceBEq,Int.reduceBNe,Int.reduceEq,Try.facts,zA]
          exact Abs.Sub.refl _
        · rw [decide_eq_true c1,decide_eq_true c2,decide_eq_false c3] at hR
          subst hR
          refine az (c := ⟨Try.prog,33,[(1000000,[1])],[],[]⟩) (rs := [ResultVar.tmp 2]) Try.mixed Try.func36 rfl rfl rfl (Nat.le_of_ble_eq_true rfl) (by kernel_rfl) fun H => ?_
          simp (disch := omega) only [↓aI,↓zP,aD,zD,aS,Nat.reduceBEq,Nat.reduceLT,reduceCtorEq,↓reduceIte,Nat.reduceMul,Nat.reduceAdd,Nat.reduceLeDiff,Nat.reduceEqDiff,Int.reduceToNat,Nat.reduceSub,Nat.reduceMod,Nat.reduceDiv,Int.reducePow,Int.reduceLE,Int.reduceNeg,Int.reduceLT,Int.reduceBEq,Int.reduceBNe,Int.reduceEq,Try.facts,zA]
          intro k hk0 hk
          simp (disch := omega) only [↓aI,↓zP,aD,zD,aS,Nat.reduceBEq,Nat.reduceLT,reduceCtorEq,↓reduceIte,Nat.reduceMul,Nat.reduceAdd,Nat.reduceLeDiff,Nat.reduceEqDiff,Int.reduceToNat,Nat.reduceSub,Nat.reduceMod,Nat.reduceDiv,Int.reducePow,Int.reduceLE,Int.reduceNeg,Int.reduceLT,Int.reduceBEq,Int.reduceBNe,Int.reduceEq,Try.facts,zA,aj hk]
          first | refine CallK.p (hb) ?_ | refine CallP.i (hb) ?_
          simp (disch := omega) only [↓aI,↓zP,aD,zD,aS,Nat.reduceBEq,Nat.reduceLT,reduceCtorEq,↓reduceIte,Nat.reduceMul,Nat.reduceAdd,Nat.reduceLeDiff,Nat.reduceEqDiff,Int.reduceToNat,Nat.reduceSub,Nat.reduceMod,Nat.reduceDiv,Int.reducePow,Int.reduceLE,Int.reduceNeg,Int.reduceLT,Int.reduceBEq,Int.reduceBNe,Int.reduceEq,Try.facts,zA]
          first | refine CallK.p (hn) ?_ | refine CallP.i (hn) ?_
          simp (disch := omega) only [↓aI,↓zP,aD,zD,aS,Nat.reduceBEq,Nat.reduceLT,reduceCtorEq,↓reduceIte,Nat.reduceMul,Nat.reduceAdd,Nat.reduceLeDiff,Nat.reduceEqDiff,Int.reduceToNat,Nat.reduceSub,Nat.reduceMod,Nat.reduceDiv,Int.reducePow,Int.reduceLE,Int.reduceNeg,Int.reduceLT,Int.reduceBEq,Int.reduceBNe,Int.reduceEq,Try.facts,zA]
          exact Abs.Sub.refl _
      · rw [decide_eq_true c1,decide_eq_false c2,Bool.and_false,Bool.and_false,Bool.false_and] at hR
        subst hR
        refine az (c := ⟨Try.prog,33,[(1000000,[1])],[],[]⟩) (rs := [ResultVar.tmp 2]) Try.mixed Try.func36 rfl rfl rfl (Nat.le_of_ble_eq_true rfl) (by kernel_rfl) fun H => ?_
        simp (disch := omega) only [↓aI,↓zP,aD,zD,aS,Nat.reduceBEq,Nat.reduceLT,reduceCtorEq,↓reduceIte,Nat.reduceMul,Nat.reduceAdd,Nat.reduceLeDiff,Nat.reduceEqDiff,Int.reduceToNat,Nat.reduceSub,Nat.reduceMod,Nat.reduceDiv,Int.reducePow,Int.reduceLE,Int.reduceNeg,Int.reduceLT,Int.reduceBEq,Int.reduceBNe,Int.reduceEq,Try.facts,zA]
        intro k hk0 hk
        simp (disch := omega) only [↓aI,↓zP,aD,zD,aS,Nat.reduceBEq,Nat.reduceLT,reduceCtorEq,↓reduceIte,Nat.reduceMul,Nat.reduceAdd,Nat.reduceLeDiff,Nat.reduceEqDiff,Int.reduceToNat,Nat.reduceSub,Nat.reduceMod,Nat.reduceDiv,Int.reducePow,Int.reduceLE,Int.reduceNeg,Int.reduceLT,Int.reduceBEq,Int.reduceBNe,Int.reduceEq,Try.facts,zA,aj hk]
        first | refine CallK.p (hb) ?_ | refine CallP.i (hb) ?_
        simp (disch := omega) only [↓aI,↓zP,aD,zD,aS,Nat.reduceBEq,Nat.reduceLT,reduceCtorEq,↓reduceIte,Nat.reduceMul,Nat.reduceAdd,Nat.reduceLeDiff,Nat.reduceEqDiff,Int.reduceToNat,Nat.reduceSub,Nat.reduceMod,Nat.reduceDiv,Int.reducePow,Int.reduceLE,Int.reduceNeg,Int.reduceLT,Int.reduceBEq,Int.reduceBNe,Int.reduceEq,Try.facts,zA]
        first | refine CallK.p (hn) ?_ | refine CallP.i (hn) ?_
        simp (disch := omega) only [↓aI,↓zP,aD,zD,aS,Nat.reduceBEq,Nat.reduceLT,reduceCtorEq,↓reduceIte,Nat.reduceMul,Nat.reduceAdd,Nat.reduceLeDiff,Nat.reduceEqDiff,Int.reduceToNat,Nat.reduceSub,Nat.reduceMod,Nat.reduceDiv,Int.reducePow,Int.reduceLE,Int.reduceNeg,Int.reduceLT,Int.reduceBEq,Int.reduceBNe,Int.reduceEq,Try.facts,zA]
        exact Abs.Sub.refl _
    · rw [decide_eq_false c1,Bool.false_and,Bool.and_false,Bool.false_and] at hR
      subst hR
      refine az (c := ⟨Try.prog,33,[(1000000,[1])],[],[]⟩) (rs := [ResultVar.tmp 2]) Try.mixed Try.func36 rfl rfl rfl (Nat.le_of_ble_eq_true rfl) (by kernel_rfl) fun H => ?_
      simp (disch := omega) only [↓aI,↓zP,aD,zD,aS,Nat.reduceBEq,Nat.reduceLT,reduceCtorEq,↓reduceIte,Nat.reduceMul,Nat.reduceAdd,Nat.reduceLeDiff,Nat.reduceEqDiff,Int.reduceToNat,Nat.reduceSub,Nat.reduceMod,Nat.reduceDiv,Int.reducePow,Int.reduceLE,Int.reduceNeg,Int.reduceLT,Int.reduceBEq,Int.reduceBNe,Int.reduceEq,Try.facts,zA]
      intro k hk0 hk
      simp (disch := omega) only [↓aI,↓zP,aD,zD,aS,Nat.reduceBEq,Nat.reduceLT,reduceCtorEq,↓reduceIte,Nat.reduceMul,Nat.reduceAdd,Nat.reduceLeDiff,Nat.reduceEqDiff,Int.reduceToNat,Nat.reduceSub,Nat.reduceMod,Nat.reduceDiv,Int.reducePow,Int.reduceLE,Int.reduceNeg,Int.reduceLT,Int.reduceBEq,Int.reduceBNe,Int.reduceEq,Try.facts,zA,aj hk]
      first | refine CallK.p (hb) ?_ | refine CallP.i (hb) ?_
      simp (disch := omega) only [↓aI,↓zP,aD,zD,aS,Nat.reduceBEq,Nat.reduceLT,reduceCtorEq,↓reduceIte,Nat.reduceMul,Nat.reduceAdd,Nat.reduceLeDiff,Nat.reduceEqDiff,Int.reduceToNat,Nat.reduceSub,Nat.reduceMod,Nat.reduceDiv,Int.reducePow,Int.reduceLE,Int.reduceNeg,Int.reduceLT,Int.reduceBEq,Int.reduceBNe,Int.reduceEq,Try.facts,zA]
      first | refine CallK.p (hn) ?_ | refine CallP.i (hn) ?_
      simp (disch := omega) only [↓aI,↓zP,aD,zD,aS,Nat.reduceBEq,Nat.reduceLT,reduceCtorEq,↓reduceIte,Nat.reduceMul,Nat.reduceAdd,Nat.reduceLeDiff,Nat.reduceEqDiff,Int.reduceToNat,Nat.reduceSub,Nat.reduceMod,Nat.reduceDiv,Int.reducePow,Int.reduceLE,Int.reduceNeg,Int.reduceLT,Int.reduceBEq,Int.reduceBNe,Int.reduceEq,Try.facts,zA]
      exact Abs.Sub.refl _
theorem rright_pure (l : Ltr) (hl : l.box.length ≤ 100000000) : APure Try.prog 37 [.agg (ltrC l)] (.sc (.bool (rightL l))) := by
  have hn := rnamed_pure l
  have hR : rightL l = (namedL l && bxR l.box.length && decide (l.sig.length = 64)) := rfl
  generalize rightL l = R at *
  generalize namedL l = nm at *
  obtain ⟨kd,au,ep,nu,pv,bx,sg⟩ := l
  simp only [ltrC] at *
  refine az (c := ⟨Try.prog,29,[(1000000,[1])],[],[]⟩) (rs := [ResultVar.tmp 2]) Try.mixed Try.func37 rfl rfl rfl (Nat.le_of_ble_eq_true rfl) (by kernel_rfl) fun H => ?_
  simp (disch := omega) only [↓aI,↓zP,aD,zD,aS,Nat.reduceBEq,Nat.reduceLT,reduceCtorEq,↓reduceIte,Nat.reduceMul,Nat.reduceAdd,Nat.reduceLeDiff,Nat.reduceEqDiff,Int.reduceToNat,Nat.reduceSub,Nat.reduceMod,Nat.reduceDiv,Int.reducePow,Int.reduceLE,Int.reduceNeg,Int.reduceLT,Int.reduceBEq,Int.reduceBNe,Int.reduceEq,Try.facts,zA]
  intro k hk0 hk
  simp (disch := omega) only [↓aI,↓zP,aD,zD,aS,Nat.reduceBEq,Nat.reduceLT,reduceCtorEq,↓reduceIte,Nat.reduceMul,Nat.reduceAdd,Nat.reduceLeDiff,Nat.reduceEqDiff,Int.reduceToNat,Nat.reduceSub,Nat.reduceMod,Nat.reduceDiv,Int.reducePow,Int.reduceLE,Int.reduceNeg,Int.reduceLT,Int.reduceBEq,Int.reduceBNe,Int.reduceEq,Try.facts,zA,aj hk]
  refine br (c := ⟨Try.prog,29,[(1000000,[1])],[],[]⟩) Try.mixed (by kernel_rfl) (fun mm σ H' => H' = H ∧ ∃ (i : Nat),i + mm = 7 ∧ σ 1 = .ip [.sc (.int .i64 kd),.sc (.int .i64 au),.sc (.int .i64 ep),.sc (.int .i64 nu),bytesV pv,bytesV bx,bytesV sg] 0 ∧ σ 3 = .sc (.bool (bxP i bx.length)) ∧ σ 4 = .sc (.int .i64 (64 * 2 ^ i : Nat))) 7 ?_ ?_
  · refine ⟨rfl,0,rfl,?_⟩
    simp (disch := omega) only [↓aI,↓zP,aD,zD,aS,Nat.reduceBEq,Nat.reduceLT,reduceCtorEq,↓reduceIte,Nat.reduceMul,Nat.reduceAdd,Nat.reduceLeDiff,Nat.reduceEqDiff,Int.reduceToNat,Nat.reduceSub,Nat.reduceMod,Nat.reduceDiv,Int.reducePow,Int.reduceLE,Int.reduceNeg,Int.reduceLT,Int.reduceBEq,Int.reduceBNe,Int.reduceEq,Try.facts]
    exact ⟨rfl,rfl⟩
  · rintro mm σ H' ⟨rfl,i,him,s1,s3,s4⟩
    by_cases hlt : i < 7
    · have hle : (64 * 2 ^ i : Nat) ≤ 4096 := by
        have : 2 ^ i ≤ 2 ^ 6 := Nat.pow_le_pow_right (by omega) (by omega)
        omega
      have hp : bxP (i + 1) bx.length = (bxP i bx.length || decide (bx.length = 64 * 2 ^ i + 16)) := rfl
      have hw : (64 * 2 ^ (i + 1) : Nat) = 64 * 2 ^ i * 2 := by rw [Nat.pow_succ,Nat.mul_assoc]
      have hz : (64 * 2 ^ (i + 1) : Nat) ≤ 8192 := by omega
      generalize 64 * 2 ^ i = z at *
      generalize bxP i bx.length = bb at *
      cases bb
      · by_cases c : bx.length = z + 16
        · rw [decide_eq_true c] at hp
          simp (disch := omega) only [↓aI,↓zP,aD,zD,aS,Nat.reduceBEq,Nat.reduceLT,reduceCtorEq,↓reduceIte,Nat.reduceMul,Nat.reduceAdd,Nat.reduceLeDiff,Nat.reduceEqDiff,Int.reduceToNat,Nat.reduceSub,Nat.reduceMod,Nat.reduceDiv,Int.reducePow,Int.reduceLE,Int.reduceNeg,Int.reduceLT,Int.reduceBEq,Int.reduceBNe,Int.reduceEq,Try.facts,s1,s3,s4,zA]
          exact ⟨mm - 1,by omega,i + 1,by omega,by rw [hp] <;> rfl,by rw [hw] <;> rfl⟩
        · rw [decide_eq_false c] at hp
          simp (disch := omega) only [↓aI,↓zP,aD,zD,aS,Nat.reduceBEq,Nat.reduceLT,reduceCtorEq,↓reduceIte,Nat.reduceMul,Nat.reduceAdd,Nat.reduceLeDiff,Nat.reduceEqDiff,Int.reduceToNat,Nat.reduceSub,Nat.reduceMod,Nat.reduceDiv,Int.reducePow,Int.reduceLE,Int.reduceNeg,Int.reduceLT,Int.reduceBEq,Int.reduceBNe,Int.reduceEq,Try.facts,s1,s3,s4,zA]
          exact ⟨mm - 1,by omega,i + 1,by omega,by rw [hp] <;> rfl,by rw [hw] <;> rfl⟩
      · rw [Bool.true_or] at hp
        simp (disch := omega) only [↓aI,↓zP,aD,zD,aS,Nat.reduceBEq,Nat.reduceLT,reduceCtorEq,↓reduceIte,Nat.reduceMul,Nat.reduceAdd,Nat.reduceLeDiff,Nat.reduceEqDiff,Int.reduceToNat,Nat.reduceSub,Nat.reduceMod,Nat.reduceDiv,Int.reducePow,Int.reduceLE,Int.reduceNeg,Int.reduceLT,Int.reduceBEq,Int.reduceBNe,Int.reduceEq,Try.facts,s1,s3,s4,zA]
        exact ⟨mm - 1,by omega,i + 1,by omega,by rw [hp] <;> rfl,by rw [hw] <;> rfl⟩
    · obtain rfl : i = 7 := by omega
      rw [show bxP 7 bx.length = bxR bx.length from rfl] at s3
      simp only [Nat.reducePow,Nat.reduceMul] at s4
      generalize bxR bx.length = bb at *
      cases nm
      · simp only [Bool.false_and] at hR
        subst hR
        simp (disch := omega) only [↓aI,↓zP,aD,zD,aS,Nat.reduceBEq,Nat.reduceLT,reduceCtorEq,↓reduceIte,Nat.reduceMul,Nat.reduceAdd,Nat.reduceLeDiff,Nat.reduceEqDiff,Int.reduceToNat,Nat.reduceSub,Nat.reduceMod,Nat.reduceDiv,Int.reducePow,Int.reduceLE,Int.reduceNeg,Int.reduceLT,Int.reduceBEq,Int.reduceBNe,Int.reduceEq,Try.facts,s1,s3,s4,zA]
        first | refine CallK.p (hn) ?_ | refine CallP.i (hn) ?_
        simp (disch := omega) only [↓aI,↓zP,aD,zD,aS,Nat.reduceBEq,Nat.reduceLT,reduceCtorEq,↓reduceIte,Nat.reduceMul,Nat.reduceAdd,Nat.reduceLeDiff,Nat.reduceEqDiff,Int.reduceToNat,Nat.reduceSub,Nat.reduceMod,Nat.reduceDiv,Int.reducePow,Int.reduceLE,Int.reduceNeg,Int.reduceLT,Int.reduceBEq,Int.reduceBNe,Int.reduceEq,Try.facts,s1,s3,zA]
        exact Abs.Sub.refl _
      · cases bb
        · simp only [Bool.true_and,Bool.false_and] at hR
          subst hR
          simp (disch := omega) only [↓aI,↓zP,aD,zD,aS,Nat.reduceBEq,Nat.reduceLT,reduceCtorEq,↓reduceIte,Nat.reduceMul,Nat.reduceAdd,Nat.reduceLeDiff,Nat.reduceEqDiff,Int.reduceToNat,Nat.reduceSub,Nat.reduceMod,Nat.reduceDiv,Int.reducePow,Int.reduceLE,Int.reduceNeg,Int.reduceLT,Int.reduceBEq,Int.reduceBNe,Int.reduceEq,Try.facts,s1,s3,s4,zA]
          first | refine CallK.p (hn) ?_ | refine CallP.i (hn) ?_
          simp (disch := omega) only [↓aI,↓zP,aD,zD,aS,Nat.reduceBEq,Nat.reduceLT,reduceCtorEq,↓reduceIte,Nat.reduceMul,Nat.reduceAdd,Nat.reduceLeDiff,Nat.reduceEqDiff,Int.reduceToNat,Nat.reduceSub,Nat.reduceMod,Nat.reduceDiv,Int.reducePow,Int.reduceLE,Int.reduceNeg,Int.reduceLT,Int.reduceBEq,Int.reduceBNe,Int.reduceEq,Try.facts,s1,s3,zA]
          exact Abs.Sub.refl _
        · by_cases c3 : sg.length = 64
          · rw [decide_eq_true c3] at hR
            subst hR
            simp (disch := omega) only [↓aI,↓zP,aD,zD,aS,Nat.reduceBEq,Nat.reduceLT,reduceCtorEq,↓reduceIte,Nat.reduceMul,Nat.reduceAdd,Nat.reduceLeDiff,Nat.reduceEqDiff,Int.reduceToNat,Nat.reduceSub,Nat.reduceMod,Nat.reduceDiv,Int.reducePow,Int.reduceLE,Int.reduceNeg,Int.reduceLT,Int.reduceBEq,Int.reduceBNe,Int.reduceEq,Try.facts,s1,s3,s4,zA]
            first | refine CallK.p (hn) ?_ | refine CallP.i (hn) ?_
            simp (disch := omega) only [↓aI,↓zP,aD,zD,aS,Nat.reduceBEq,Nat.reduceLT,reduceCtorEq,↓reduceIte,Nat.reduceMul,Nat.reduceAdd,Nat.reduceLeDiff,Nat.reduceEqDiff,Int.reduceToNat,Nat.reduceSub,Nat.reduceMod,Nat.reduceDiv,Int.reducePow,Int.reduceLE,Int.reduceNeg,Int.reduceLT,Int.reduceBEq,Int.reduceBNe,Int.reduceEq,Try.facts,s1,s3,zA]
            exact Abs.Sub.refl _
          · rw [decide_eq_false c3] at hR
            subst hR
            simp (disch := omega) only [↓aI,↓zP,aD,zD,aS,Nat.reduceBEq,Nat.reduceLT,reduceCtorEq,↓reduceIte,Nat.reduceMul,Nat.reduceAdd,Nat.reduceLeDiff,Nat.reduceEqDiff,Int.reduceToNat,Nat.reduceSub,Nat.reduceMod,Nat.reduceDiv,Int.reducePow,Int.reduceLE,Int.reduceNeg,Int.reduceLT,Int.reduceBEq,Int.reduceBNe,Int.reduceEq,Try.facts,s1,s3,s4,zA]
            first | refine CallK.p (hn) ?_ | refine CallP.i (hn) ?_
            simp (disch := omega) only [↓aI,↓zP,aD,zD,aS,Nat.reduceBEq,Nat.reduceLT,reduceCtorEq,↓reduceIte,Nat.reduceMul,Nat.reduceAdd,Nat.reduceLeDiff,Nat.reduceEqDiff,Int.reduceToNat,Nat.reduceSub,Nat.reduceMod,Nat.reduceDiv,Int.reducePow,Int.reduceLE,Int.reduceNeg,Int.reduceLT,Int.reduceBEq,Int.reduceBNe,Int.reduceEq,Try.facts,s1,s3,zA]
            exact Abs.Sub.refl _
end Go.Proofs.Ytaehlpkinbpmbaa
end
section
set_option linter.unusedSimpArgs false
set_option linter.unusedVariables false
set_option maxRecDepth 20000
set_option maxHeartbeats 4000000
namespace Go.Proofs.Ytaehlpkinbpmbaa
open Go Go.Abs Go.Proofs
def headL (l : Ltr) : List UInt8 := vnum l.kind ++ (vnum l.author ++ (vnum l.epoch ++ (vnum l.number ++ vtext l.prev)))
def nums4 (l : Ltr) : Nat → List UInt8
  | 0 => []
  | 1 => vnum l.kind
  | 2 => vnum l.kind ++ vnum l.author
  | 3 => vnum l.kind ++ vnum l.author ++ vnum l.epoch
  | _ => vnum l.kind ++ vnum l.author ++ vnum l.epoch ++ vnum l.number
theorem nums4_len (l : Ltr) (i : Nat) : (nums4 l i).length ≤ 28 := by
  have h1 := vnum_length l.kind
  have h2 := vnum_length l.author
  have h3 := vnum_length l.epoch
  have h4 := vnum_length l.number
  unfold nums4
  split
  all_goals first | omega | (simp only [List.length_append]; omega) | (simp; done)
theorem head_nums (l : Ltr) : headL l = nums4 l 4 ++ vtext l.prev := by
  simp [headL,nums4]
theorem headL_len (l : Ltr) : (headL l).length ≤ 35 + l.prev.length := by
  rw [head_nums,List.length_append]
  have := nums4_len l 4
  have := vnum_length l.prev.length
  unfold vtext
  rw [List.length_append]
  omega
theorem head_pure (b : List UInt8) (l : Ltr) (hb : b.length ≤ 3000000) (hp : l.prev.length ≤ 3000000) : APure Try.prog 48 [bytesV b,.agg (ltrC l)] (bytesV (b ++ headL l)) := by
  have hn := fun i z => wnum_pure (b ++ nums4 l i) (by rw [List.length_append]; have := nums4_len l i; omega) z
  have ht := wtext_pure (b ++ nums4 l 4) l.prev (by rw [List.length_append]; have := nums4_len l 4; omega) (by omega)
  rw [List.append_assoc,← head_nums] at ht
  have e0 : b = b ++ nums4 l 0 := by simp [nums4]
  have e1 : b ++ nums4 l 0 ++ vnum l.kind = b ++ nums4 l 1 := by simp [nums4]
  have e2 : b ++ nums4 l 1 ++ vnum l.author = b ++ nums4 l 2 := by simp [nums4]
  have e3 : b ++ nums4 l 2 ++ vnum l.epoch = b ++ nums4 l 3 := by simp [nums4]
  have e4 : b ++ nums4 l 3 ++ vnum l.number = b ++ nums4 l 4 := by simp [nums4]
  have h0 := hn 0 l.kind
  have h1 := hn 1 l.author
  have h2 := hn 2 l.epoch
  have h3 := hn 3 l.number
  rw [e1] at h0
  rw [e2] at h1
  rw [e3] at h2
  rw [e4] at h3
  generalize headL l = HL at *
  obtain ⟨Z,hZ⟩ : ∃ Z : Nat → List UInt8,∀ i,Z i = b ++ nums4 l i := ⟨_,fun _ => rfl⟩
  simp only [← hZ] at *
  clear hn e1 e2 e3 e4
  obtain ⟨kd,au,ep,nu,pv,bx,sg⟩ := l
  unfold ltrC at *
  refine az (c := ⟨Try.prog,27,[(1000000,[3])],[],[]⟩) (rs := [ResultVar.tmp 4]) Try.mixed Try.func48 rfl rfl rfl (Nat.le_of_ble_eq_true rfl) (by kernel_rfl) fun H => ?_
  simp (disch := omega) only [↓aI,↓zP,aD,zD,aS,simprocAttr,Try.facts,zA]
  intro k hk0 hk
  simp (disch := omega) only [↓aI,↓zP,aD,zD,aS,simprocAttr,Try.facts,zA,aj hk]
  refine br (c := ⟨Try.prog,27,[(1000000,[3])],[],[]⟩) Try.mixed (by kernel_rfl) (fun mm σ H' => H' = H ∧ ∃ (i : Nat),i + mm = 4 ∧ σ 0 = bytesV (Z i) ∧ σ 3 = .ip [.sc (.int .i64 kd),.sc (.int .i64 au),.sc (.int .i64 ep),.sc (.int .i64 nu),bytesV pv,bytesV bx,bytesV sg] 0 ∧ σ 15 = .agg [.sc (.int .i64 kd),.sc (.int .i64 au),.sc (.int .i64 ep),.sc (.int .i64 nu)] ∧ σ 16 = .sc (.int .i64 (i : Nat))) 4 ?_ ?_
  · refine ⟨rfl,0,rfl,?_⟩
    simp (disch := omega) only [↓aI,↓zP,aD,zD,aS,simprocAttr,Try.facts]
    rw [← e0]
    try rfl
  · rintro mm σ H' ⟨rfl,i,him,s0,s3,s15,s16⟩
    by_cases hlt : i < 4
    · rcases (by omega : i = 0 ∨ i = 1 ∨ i = 2 ∨ i = 3) with rfl | rfl | rfl | rfl
      · simp (disch := omega) only [↓aI,↓zP,aD,zD,aS,simprocAttr,Try.facts,s0,s3,s15,s16,zA]
        first | refine CallK.p (h0) ?_ | refine CallP.i (h0) ?_
        simp (disch := omega) only [↓aI,↓zP,aD,zD,aS,simprocAttr,Try.facts,s0,s3,s15,s16,zA]
        exact ⟨mm - 1,by omega,1,by omega,rfl,rfl⟩
      · simp (disch := omega) only [↓aI,↓zP,aD,zD,aS,simprocAttr,Try.facts,s0,s3,s15,s16,zA]
        first | refine CallK.p (h1) ?_ | refine CallP.i (h1) ?_
        simp (disch := omega) only [↓aI,↓zP,aD,zD,aS,simprocAttr,Try.facts,s0,s3,s15,s16,zA]
        exact ⟨mm - 1,by omega,2,by omega,rfl,rfl⟩
      · simp (disch := omega) only [↓aI,↓zP,aD,zD,aS,simprocAttr,Try.facts,s0,s3,s15,s16,zA]
        first | refine CallK.p (h2) ?_ | refine CallP.i (h2) ?_
        simp (disch := omega) only [↓aI,↓zP,aD,zD,aS,simprocAttr,Try.facts,s0,s3,s15,s16,zA]
        exact ⟨mm - 1,by omega,3,by omega,rfl,rfl⟩
      · simp (disch := omega) only [↓aI,↓zP,aD,zD,aS,simprocAttr,Try.facts,s0,s3,s15,s16,zA]
        first | refine CallK.p (h3) ?_ | refine CallP.i (h3) ?_
        simp (disch := omega) only [↓aI,↓zP,aD,zD,aS,simprocAttr,Try.facts,s0,s3,s15,s16,zA]
        exact ⟨mm - 1,by omega,4,by omega,rfl,rfl⟩
    · obtain rfl : i = 4 := by omega
      simp (disch := omega) only [↓aI,↓zP,aD,zD,aS,simprocAttr,Try.facts,s0,s3,s15,s16,zA]
      first | refine CallK.p (ht) ?_ | refine CallP.i (ht) ?_
      simp (disch := omega) only [↓aI,↓zP,aD,zD,aS,simprocAttr,Try.facts,s0,s3,s15,s16,zA]
      exact ⟨by rw [bytesV,List.length_append],Abs.Sub.refl _⟩
theorem rhead_pure (b : List UInt8) (l : Ltr) (hb : b.length ≤ 3000000) (hp : l.prev.length ≤ 3000000) : APure Try.prog 59 [bytesV b,.agg (ltrC l)] (bytesV (b ++ headL l)) := by
  have hn := fun i z => rnum_pure (b ++ nums4 l i) (by rw [List.length_append]; have := nums4_len l i; omega) z
  have ht := rtext_pure (b ++ nums4 l 4) l.prev (by rw [List.length_append]; have := nums4_len l 4; omega) (by omega)
  rw [List.append_assoc,← head_nums] at ht
  have e0 : b ++ nums4 l 0 = b := by simp [nums4]
  have e1 : b ++ nums4 l 0 ++ vnum l.kind = b ++ nums4 l 1 := by simp [nums4]
  have e2 : b ++ nums4 l 1 ++ vnum l.author = b ++ nums4 l 2 := by simp [nums4]
  have e3 : b ++ nums4 l 2 ++ vnum l.epoch = b ++ nums4 l 3 := by simp [nums4]
  have e4 : b ++ nums4 l 3 ++ vnum l.number = b ++ nums4 l 4 := by simp [nums4]
  have h0 := hn 0 l.kind
  have h1 := hn 1 l.author
  have h2 := hn 2 l.epoch
  have h3 := hn 3 l.number
  rw [e1,e0] at h0
  rw [e2] at h1
  rw [e3] at h2
  rw [e4] at h3
  have hZ : (b ++ headL l).length = (b ++ headL l).length := rfl
  generalize b ++ headL l = HL at *
  generalize b ++ nums4 l 1 = Z1 at *
  generalize b ++ nums4 l 2 = Z2 at *
  generalize b ++ nums4 l 3 = Z3 at *
  generalize b ++ nums4 l 4 = Z4 at *
  clear hn e0 e1 e2 e3 e4
  obtain ⟨kd,au,ep,nu,pv,bx,sg⟩ := l
  unfold ltrC at *
  refine az (c := ⟨Try.prog,23,[(1,[0,0,1,0,0,1,0,0]),(2,[0,0,1,0,0,1,0,0]),(1000000,[3])],[],[]⟩) (rs := [ResultVar.tmp 4]) Try.mixed Try.func59 rfl rfl rfl (Nat.le_of_ble_eq_true rfl) (by kernel_rfl) fun H => ?_
  simp (disch := omega) only [↓aI,↓zP,aD,zD,aS,simprocAttr,Try.facts,zA]
  intro k hk0 hk
  try simp (disch := omega) only [↓aI,↓zP,aD,zD,aS,simprocAttr,Try.facts,zA,aj hk]
  first | refine CallK.p (h0) ?_ | refine CallP.i (h0) ?_
  simp (disch := omega) only [↓aI,↓zP,aD,zD,aS,simprocAttr,Try.facts,zA]
  first | refine CallK.p (h1) ?_ | refine CallP.i (h1) ?_
  simp (disch := omega) only [↓aI,↓zP,aD,zD,aS,simprocAttr,Try.facts,zA]
  first | refine CallK.p (h2) ?_ | refine CallP.i (h2) ?_
  simp (disch := omega) only [↓aI,↓zP,aD,zD,aS,simprocAttr,Try.facts,zA]
  first | refine CallK.p (h3) ?_ | refine CallP.i (h3) ?_
  simp (disch := omega) only [↓aI,↓zP,aD,zD,aS,simprocAttr,Try.facts,zA]
  first | refine CallK.p (ht) ?_ | refine CallP.i (ht) ?_
  simp (disch := omega) only [↓aI,↓zP,aD,zD,aS,simprocAttr,Try.facts,zA]
  first | exact Abs.Sub.refl _ | exact Sub.box hk
def dq (l : Ltr) : List UInt8 := headL l ++ vtext l.box ++ vtext l.sig
theorem vtext_len (s : List UInt8) : (vtext s).length ≤ 7 + s.length := by
  unfold vtext
  rw [List.length_append]
  have := vnum_length s.length
  omega
abbrev okL (l : Ltr) : Prop := l.prev.length ≤ 1100000 ∧ l.box.length ≤ 1100000 ∧ l.sig.length ≤ 1100000
theorem putL_len {l : Ltr} (h : okL l) : (dq l).length ≤ 49 + l.prev.length + l.box.length + l.sig.length := by
  have := headL_len l
  have := vtext_len l.box
  have := vtext_len l.sig
  unfold dq
  rw [List.length_append,List.length_append]
  omega
theorem put_pure (b : List UInt8) (l : Ltr) (hb : b.length ≤ 100) (hp : okL l) : APure Try.prog 21 [bytesV b,.agg (ltrC l)] (bytesV (b ++ dq l)) := by
  have h1 := headL_len l
  have h2 := vtext_len l.box
  have hh := head_pure b l (by omega) (by omega)
  have ht := wtext_pure (b ++ headL l) l.box (by rw [List.length_append]; omega) (by omega)
  have hu := wtext_pure (b ++ headL l ++ vtext l.box) l.sig (by rw [List.length_append,List.length_append]; omega) (by omega)
  have e : b ++ headL l ++ vtext l.box ++ vtext l.sig = b ++ dq l := by simp [dq]
  rw [e] at hu
  generalize b ++ dq l = HL at *
  generalize b ++ headL l = Z1 at *
  generalize Z1 ++ vtext l.box = Z2 at *
  clear e
  obtain ⟨kd,au,ep,nu,pv,bx,sg⟩ := l
  unfold ltrC at *
  refine az (c := ⟨Try.prog,14,[(1,[0,1,0,0,1,0,0,1,0,0]),(1000000,[3])],[],[]⟩) (rs := [ResultVar.tmp 4]) Try.mixed Try.func21 rfl rfl rfl (Nat.le_of_ble_eq_true rfl) (by kernel_rfl) fun H => ?_
  simp (disch := omega) only [↓aI,↓zP,aD,zD,aS,simprocAttr,Try.facts,zA]
  intro k hk0 hk
  try simp (disch := omega) only [↓aI,↓zP,aD,zD,aS,simprocAttr,Try.facts,zA,aj hk]
  first | refine CallK.p (hh) ?_ | refine CallP.i (hh) ?_
  simp (disch := omega) only [↓aI,↓zP,aD,zD,aS,simprocAttr,Try.facts,zA]
  first | refine CallK.p (ht) ?_ | refine CallP.i (ht) ?_
  simp (disch := omega) only [↓aI,↓zP,aD,zD,aS,simprocAttr,Try.facts,zA]
  first | refine CallK.p (hu) ?_ | refine CallP.i (hu) ?_
  simp (disch := omega) only [↓aI,↓zP,aD,zD,aS,simprocAttr,Try.facts,zA]
  first | exact Abs.Sub.refl _ | exact Sub.box hk
theorem rput_pure (b : List UInt8) (l : Ltr) (hb : b.length ≤ 100) (hp : okL l) : APure Try.prog 38 [bytesV b,.agg (ltrC l)] (bytesV (b ++ dq l)) := by
  have h1 := headL_len l
  have h2 := vtext_len l.box
  have hh := rhead_pure b l (by omega) (by omega)
  have ht := rtext_pure (b ++ headL l) l.box (by rw [List.length_append]; omega) (by omega)
  have hu := rtext_pure (b ++ headL l ++ vtext l.box) l.sig (by rw [List.length_append,List.length_append]; omega) (by omega)
  have e : b ++ headL l ++ vtext l.box ++ vtext l.sig = b ++ dq l := by simp [dq]
  rw [e] at hu
  generalize b ++ dq l = HL at *
  generalize b ++ headL l = Z1 at *
  generalize Z1 ++ vtext l.box = Z2 at *
  clear e
  obtain ⟨kd,au,ep,nu,pv,bx,sg⟩ := l
  unfold ltrC at *
  refine az (c := ⟨Try.prog,14,[(1,[0,1,0,0,1,0,0,1,0,0]),(1000000,[3])],[],[]⟩) (rs := [ResultVar.tmp 4]) Try.mixed Try.func38 rfl rfl rfl (Nat.le_of_ble_eq_true rfl) (by kernel_rfl) fun H => ?_
  simp (disch := omega) only [↓aI,↓zP,aD,zD,aS,simprocAttr,Try.facts,zA]
  intro k hk0 hk
  try simp (disch := omega) only [↓aI,↓zP,aD,zD,aS,simprocAttr,Try.facts,zA,aj hk]
  first | refine CallK.p (hh) ?_ | refine CallP.i (hh) ?_
  simp (disch := omega) only [↓aI,↓zP,aD,zD,aS,simprocAttr,Try.facts,zA]
  first | refine CallK.p (ht) ?_ | refine CallP.i (ht) ?_
  simp (disch := omega) only [↓aI,↓zP,aD,zD,aS,simprocAttr,Try.facts,zA]
  first | refine CallK.p (hu) ?_ | refine CallP.i (hu) ?_
  simp (disch := omega) only [↓aI,↓zP,aD,zD,aS,simprocAttr,Try.facts,zA]
  first | exact Abs.Sub.refl _ | exact Sub.box hk
theorem lsame_pure (a b : Ltr) (ha : okL a) (hb : okL b) : APure Try.prog 18 [.agg (ltrC a),.agg (ltrC b)] (.sc (.bool (dq a == dq b))) := by
  have h1 := rput_pure [] a (by simp) ha
  have h2 := rput_pure [] b (by simp) hb
  rw [List.nil_append] at h1 h2
  generalize dq a = A at *
  generalize dq b = B at *
  obtain ⟨kd,au,ep,nu,pv,bx,sg⟩ := a
  obtain ⟨kd2,au2,ep2,nu2,pv2,bx2,sg2⟩ := b
  unfold ltrC at *
  refine az (c := ⟨Try.prog,12,[(1,[1,0,0,1,0,0,0,0]),(1000000,[3,2])],[],[]⟩) (rs := [ResultVar.tmp 4]) Try.mixed Try.func18 rfl rfl rfl (Nat.le_of_ble_eq_true rfl) (by kernel_rfl) fun H => ?_
  simp (disch := omega) only [↓aI,↓zP,aD,zD,aS,simprocAttr,Try.facts,zA]
  intro k hk0 hk k2 hk20 hk2
  simp (disch := omega) only [↓aI,↓zP,aD,zD,aS,simprocAttr,Try.facts,zA,aj hk2,aj hk]
  first | refine CallK.p (h1) ?_ | refine CallP.i (h1) ?_
  simp (disch := omega) only [↓aI,↓zP,aD,zD,aS,simprocAttr,Try.facts,zA,bO]
  first | refine CallK.p (h2) ?_ | refine CallP.i (h2) ?_
  simp (disch := omega) only [↓aI,↓zP,aD,zD,aS,simprocAttr,Try.facts,zA,bO]
  exact Abs.Sub.refl _
end Go.Proofs.Ytaehlpkinbpmbaa
end
