/-
  LetterBytes: the walk.
  Conditions: none. Lemmas only.
-/
import Derived.Test.YtaehlpkinbpmbaaLetG5
import Derived.Test.YtaehlpkinbpmbaaLetE
import Derived.Test.YtaehlpkinbpmbaaLetG7
import Derived.Test.YtaehlpkinbpmbaaLtB
set_option linter.all false
set_option linter.unusedSimpArgs false
set_option linter.unusedVariables false
set_option maxRecDepth 20000
set_option maxHeartbeats 16000000
namespace Go.Proofs.Ytaehlpkinbpmbaa
open Go Go.Abs Go.Proofs
def smallL (l : Ltr) : Bool := decide (l.prev.length ≤ 5000) && (decide (l.box.length ≤ 5000) && decide (l.sig.length ≤ 5000))
theorem lsmall_pure (l : Ltr) : APure Try.prog 24 [.agg (ltrC l)] (.sc (.bool (smallL l))) := by
  unfold smallL
  obtain ⟨kd,au,ep,nu,pv,bx,sg⟩ := l
  simp only [ltrC]
  by_cases h1 : pv.length ≤ 5000
  · by_cases h2 : bx.length ≤ 5000
    · by_cases h3 : sg.length ≤ 5000
      · rw [decide_eq_true h1,decide_eq_true h2,decide_eq_true h3]
        refine az (c := ⟨Try.prog,19,[(1000000,[1])],[],[]⟩) (rs := [ResultVar.tmp 2]) Try.mixed Try.func24 rfl rfl rfl (Nat.le_of_ble_eq_true rfl) (by kernel_rfl) fun H => ?_
        simp (disch := omega) only [↓aI,↓zP,aD,zD,aS,simprocAttr,Try.facts,zA]
        intro k hk0 hk
        simp (disch := omega) only [↓aI,↓zP,aD,zD,aS,simprocAttr,Try.facts,zA,aj hk]
        exact Abs.Sub.refl _
      · rw [decide_eq_true h1,decide_eq_true h2,decide_eq_false h3]
        refine az (c := ⟨Try.prog,19,[(1000000,[1])],[],[]⟩) (rs := [ResultVar.tmp 2]) Try.mixed Try.func24 rfl rfl rfl (Nat.le_of_ble_eq_true rfl) (by kernel_rfl) fun H => ?_
        simp (disch := omega) only [↓aI,↓zP,aD,zD,aS,simprocAttr,Try.facts,zA]
        intro k hk0 hk
        simp (disch := omega) only [↓aI,↓zP,aD,zD,aS,simprocAttr,Try.facts,zA,aj hk]
        exact Abs.Sub.refl _
    · rw [decide_eq_true h1,decide_eq_false h2,Bool.false_and]
      refine az (c := ⟨Try.prog,19,[(1000000,[1])],[],[]⟩) (rs := [ResultVar.tmp 2]) Try.mixed Try.func24 rfl rfl rfl (Nat.le_of_ble_eq_true rfl) (by kernel_rfl) fun H => ?_
      simp (disch := omega) only [↓aI,↓zP,aD,zD,aS,simprocAttr,Try.facts,zA]
      intro k hk0 hk
      simp (disch := omega) only [↓aI,↓zP,aD,zD,aS,simprocAttr,Try.facts,zA,aj hk]
      exact Abs.Sub.refl _
  · rw [decide_eq_false h1,Bool.false_and]
    refine az (c := ⟨Try.prog,19,[(1000000,[1])],[],[]⟩) (rs := [ResultVar.tmp 2]) Try.mixed Try.func24 rfl rfl rfl (Nat.le_of_ble_eq_true rfl) (by kernel_rfl) fun H => ?_
    simp (disch := omega) only [↓aI,↓zP,aD,zD,aS,simprocAttr,Try.facts,zA]
    intro k hk0 hk
    simp (disch := omega) only [↓aI,↓zP,aD,zD,aS,simprocAttr,Try.facts,zA,aj hk]
    exact Abs.Sub.refl _
theorem smallL_ok {l : Ltr} (h : smallL l = true) : okL l := by
  unfold smallL at h
  rw [Bool.and_eq_true,Bool.and_eq_true,decide_eq_true_eq,decide_eq_true_eq,decide_eq_true_eq] at h
  exact ⟨by omega,by omega,by omega⟩
theorem rdLtr_ok (s : RS) : okL (rdLtr s).2 := by
  unfold rdLtr fixL
  split
  · split
    · refine ⟨Nat.le_trans (rdTx_len _ _) (by omega),Nat.le_trans (rdTx_len _ _) (by omega),Nat.le_trans (rdTx_len _ _) (by omega)⟩
    · exact ⟨by simp,by simp,by simp⟩
  · exact ⟨by simp,by simp,by simp⟩
theorem rdLtr_sw (s : RS) : (rdLtr s).1.1.length ≤ s.1.length := by
  have h : ∀ (q : RS) (l : Ltr),(fixL q l).1.1 = q.1 := fun q l => by
    unfold fixL
    split
    · split <;> rfl
    · rfl
  unfold rdLtr
  rw [h]
  exact Nat.le_trans (rdTx_sw _ _).le (Nat.le_trans (rdTx_sw _ _).le (Nat.le_trans (rdTx_sw _ _).le (Nat.le_trans (rdNum_sh _ _ _).le (Nat.le_trans (rdNum_sh _ _ _).le (Nat.le_trans (rdNum_sh _ _ _).le (rdNum_sh _ _ _).le)))))
theorem read13_pure (b : List UInt8) : APure Try.prog 35 [bytesV b] (rsV (b,0)) := by
  refine az (c := ⟨Try.prog,5,[],[],[]⟩) (rs := [ResultVar.cell 2 71]) Try.mixed Try.func35 rfl rfl rfl (Nat.le_of_ble_eq_true rfl) (by kernel_rfl) fun H => ?_
  simp (disch := omega) only [↓aI,↓zP,aD,zD,aS,simprocAttr,Try.facts]
  intro k hk0 hk
  try simp (disch := omega) only [↓aI,↓zP,aD,zD,aS,simprocAttr,Try.facts,ah]
  first | exact ⟨rfl,Sub.set_new hk⟩ | exact Sub.set_new hk | (trace_state; fail)
theorem bytes_walk22 (l : Ltr) (b : List UInt8) (hb : b.length ≤ 2000000) : APure Try.prog 7 [.agg (ltrC l),bytesV b] (.sc (.bool true)) := by
  have haw := lawake_pure
  have hon := lown_pure b (by omega)
  have hsml := lsmall_pure l
  generalize hsm : smallL l = sm at *
  cases sm
  · obtain ⟨kd,au,ep,nu,pv,bx,sg⟩ := l
    simp only [ltrC] at *
    refine az (c := ⟨Try.prog,68,[(2000006,[0,1,2,3,4,5,6,7,8,9,10,11,12,13,14,15,16,17,18,19,20,21,22,24,25,23,26,27,28,29,30,31,32,33,35,36,37,34,38,39,40,41,42,43,44]),(6,[1,0,1,0,0,0,0,1,0,0,0,1,0,0,0,0,0,1,1,0,0,0,0,0,0,2,0,0,0,0,0,0,0,0,0,0,0,2,0,0,0,0,2,0,0]),(1000000,[2]),(1000004,[6]),(1000005,[8,7]),(4000006,[4]),(4000005,[2,5,6,7,8])],[],[]⟩) (rs := [ResultVar.tmp 4]) Try.mixed Try.func7 rfl rfl rfl (Nat.le_of_ble_eq_true rfl) (by kernel_rfl) fun H => ?_
    simp (disch := omega) only [↓aI,↓zP,aD,zD,aS,simprocAttr,Try.facts,zA]
    intro k2 hk20 hk2
    try simp (disch := omega) only [↓aI,↓zP,aD,zD,aS,simprocAttr,Try.facts,zA,aj hk2]
    first | refine CallK.p (hsml) ?_ | refine CallP.i (hsml) ?_
    simp (disch := omega) only [↓aI,↓zP,aD,zD,aS,simprocAttr,Try.facts,zA]
    first | refine CallK.p (haw) ?_ | refine CallP.i (haw) ?_
    simp (disch := omega) only [↓aI,↓zP,aD,zD,aS,simprocAttr,Try.facts,zA]
    exact Abs.Sub.refl _
  · have hok := smallL_ok hsm
    have hr1 := ee l (by have := hok.2.1; omega)
    have hr2 := rright_pure l (by have := hok.2.1; omega)
    have hp1 := put_pure [7] l (by simp) hok
    have hp2 := rput_pure [7] l (by simp) hok
    have hrd := fun H => read_live H b hb
    have hget := fun B H2 r k p hr0 => lget_live B H2 r k b (b,0) p hr0
    have hrg := rlget_pure (b,0) hb
    have hr13 := read13_pure b
    have hgok := rdLtr_ok (b,0)
    have hgl := rdLtr_sw (b,0)
    generalize rdLtr (b,0) = G at *
    obtain ⟨sr,g⟩ := G
    have hsame := lsame_pure g g hgok hgok
    rw [beq_self_eq_true] at hsame
    generalize rightL l = rl at *
    generalize [7] ++ dq l = P at *
    obtain ⟨kd,au,ep,nu,pv,bx,sg⟩ := l
    obtain ⟨kd2,au2,ep2,nu2,pv2,bx2,sg2⟩ := g
    obtain ⟨rest,er⟩ := sr
    simp only [ltrC] at *
    refine az (c := ⟨Try.prog,68,[(2000006,[0,1,2,3,4,5,6,7,8,9,10,11,12,13,14,15,16,17,18,19,20,21,22,24,25,23,26,27,28,29,30,31,32,33,35,36,37,34,38,39,40,41,42,43,44]),(6,[1,0,1,0,0,0,0,1,0,0,0,1,0,0,0,0,0,1,1,0,0,0,0,0,0,2,0,0,0,0,0,0,0,0,0,0,0,2,0,0,0,0,2,0,0]),(1000000,[2]),(1000004,[6]),(1000005,[8,7]),(4000006,[4]),(4000005,[2,5,6,7,8])],[],[]⟩) (rs := [ResultVar.tmp 4]) Try.mixed Try.func7 rfl rfl rfl (Nat.le_of_ble_eq_true rfl) (by kernel_rfl) fun H => ?_
    simp (disch := omega) only [↓aI,↓zP,aD,zD,aS,simprocAttr,Try.facts,zA]
    intro k2 hk20 hk2
    try simp (disch := omega) only [↓aI,↓zP,aD,zD,aS,simprocAttr,Try.facts,zA,aj hk2]
    first | refine CallK.p (hsml) ?_ | refine CallP.i (hsml) ?_
    simp (disch := omega) only [↓aI,↓zP,aD,zD,aS,simprocAttr,Try.facts,zA]
    first | refine CallK.p (hon) ?_ | refine CallP.i (hon) ?_
    simp (disch := omega) only [↓aI,↓zP,aD,zD,aS,simprocAttr,Try.facts,zA]
    refine CallK.i (hrd _) ?_
    rintro v E ⟨r,kk,rfl,hr0,hrf,hrv,hrs2⟩
    simp (disch := omega) only [↓aI,↓zP,aD,zD,aS,simprocAttr,Try.facts,zA]
    have pr : RdS (E.kill r) E r kk b (b,0) := ⟨⟨0,Nat.zero_le _,rfl,hrv⟩,Sub.killed,kill_same,by omega⟩
    refine CallK.i (hget _ _ _ _ pr hr0) ?_
    rintro v E2 ⟨rfl,pr2⟩
    have hsE2 : Abs.Sub H E2 := fun yy o hy => pr2.2.1 _ _ (by
      have e : yy ≠ r := fun e => by subst e; rw [hrf] at hy; cases hy
      rw [bZ e]
      exact hrs2 _ _ hy)
    simp (disch := omega) only [↓aI,↓zP,aD,zD,aS,simprocAttr,Try.facts,zA,ah]
    intro b6 hb60 hb6
    rw [aj hb6]
    try simp (disch := omega) only [↓aI,↓zP,aD,zD,aS,simprocAttr,Try.facts,zA,ah]
    first | refine CallK.p (hr13) ?_ | refine CallP.i (hr13) ?_
    simp (disch := omega) only [↓aI,↓zP,aD,zD,aS,simprocAttr,Try.facts,zA,ah]
    first | refine CallK.p (hrg) ?_ | refine CallP.i (hrg) ?_
    simp (disch := omega) only [↓aI,↓zP,aD,zD,aS,simprocAttr,Try.facts,zA,ah]
    intro b7 hb70 hb7 b8 hb80 hb8
    have n78 := bK hb8
    have f8 : ∀ x : AObj,(E2.set b7 x) b8 = none := fun x => by
      rw [aP (fun e => n78 e.symm)]
      exact am hb8
    have k8 : ∀ x y : AObj,((E2.set b7 x).set b8 y).kill b8 = E2.set b7 x := fun x y => aj (f8 x)
    have k7 : ∀ x : AObj,(E2.set b7 x).kill b7 = E2 := fun x => aj hb7
    have hRE := err_live _ _ r kk b (rest,er) pr2 hr0
    have hRL := rleft_live _ _ r kk b (rest,er) pr2 hr0
    simp (disch := omega) only [↓aI,↓zP,aD,zD,aS,simprocAttr,Try.facts,zA,ah,aP,n78,set_four n78,k8,k7]
    first | refine CallK.p (hr1) ?_ | refine CallP.i (hr1) ?_
    simp (disch := omega) only [↓aI,↓zP,aD,zD,aS,simprocAttr,Try.facts,zA,ah,bO,beq_self_eq_true]
    first | refine CallK.p (hr2) ?_ | refine CallP.i (hr2) ?_
    simp (disch := omega) only [↓aI,↓zP,aD,zD,aS,simprocAttr,Try.facts,zA,ah,bO,beq_self_eq_true]
    first | refine CallK.p (hp1) ?_ | refine CallP.i (hp1) ?_
    simp (disch := omega) only [↓aI,↓zP,aD,zD,aS,simprocAttr,Try.facts,zA,ah,bO,beq_self_eq_true]
    first | refine CallK.p (hp2) ?_ | refine CallP.i (hp2) ?_
    simp (disch := omega) only [↓aI,↓zP,aD,zD,aS,simprocAttr,Try.facts,zA,ah,bO,beq_self_eq_true]
    first | refine CallK.p (hsame) ?_ | refine CallP.i (hsame) ?_
    simp (disch := omega) only [↓aI,↓zP,aD,zD,aS,simprocAttr,Try.facts,zA,ah,bO,beq_self_eq_true]
    refine CallK.i hRE ?_
    rintro v E3 ⟨rfl,rfl⟩
    by_cases c : er = 0
    · subst c
      simp (disch := omega) only [↓aI,↓zP,aD,zD,aS,simprocAttr,Try.facts,zA,ah,bO,beq_self_eq_true]
      refine CallK.i hRL ?_
      rintro v E4 ⟨rfl,rfl⟩
      simp (disch := omega) only [↓aI,↓zP,aD,zD,aS,simprocAttr,Try.facts,zA,ah,bO,beq_self_eq_true]
      first | refine CallK.p (haw) ?_ | refine CallP.i (haw) ?_
      simp (disch := omega) only [↓aI,↓zP,aD,zD,aS,simprocAttr,Try.facts,zA,ah,bO,beq_self_eq_true]
      exact hsE2
    · simp (disch := omega) only [↓aI,↓zP,aD,zD,aS,simprocAttr,Try.facts,zA,ah,bO,beq_self_eq_true]
      first | refine CallK.p (haw) ?_ | refine CallP.i (haw) ?_
      simp (disch := omega) only [↓aI,↓zP,aD,zD,aS,simprocAttr,Try.facts,zA,ah,bO,beq_self_eq_true]
      exact hsE2
end Go.Proofs.Ytaehlpkinbpmbaa
