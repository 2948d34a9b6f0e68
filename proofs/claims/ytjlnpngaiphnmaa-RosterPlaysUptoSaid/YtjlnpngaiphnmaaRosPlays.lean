/-
  Rosters: whatever steps are gone through, both tell the same.
  Conditions: none. Lemmas only.
-/
import Derived.Test.YtjlnpngaiphnmaaRtG7
set_option linter.all false
set_option linter.unusedSimpArgs false
set_option linter.unusedVariables false
set_option maxRecDepth 20000
set_option maxHeartbeats 16000000
namespace Go.Proofs.Ytjlnpngaiphnmaa
open Go Go.Abs Go.Proofs
theorem plays_walk (l : List DoM) (n a : Int) (hl : l.length ≤ 2000000) (he : ∀ t ∈ l, t.ends.length ≤ 2000000) (hn : -9223372036854775808 ≤ n ∧ n ≤ 9223372036854775807) :
    APure Try.prog 3 [dosV l,.sc (.int .i64 n),.sc (.int .i64 a)] (.sc (.bool true)) := by
  have hs := small_pure l hl he
  have haw := rawake_pure
  cases hsm : smallM l
  · rw [hsm] at hs
    refine az (c := ⟨Try.prog,83,[(8,[0,1,2,0,0,0,0,0,0,0,0,0,2,0,0,0,0,0,0,0,0,0,0,0,0,2,0,0,0,0,0,0,0,0,0,0,0,0,0,0,0,0,0,2,0,0]),(1000003,[7]),(4000008,[6]),(4000007,[1,7,9,10,11,12]),(4000006,[1,2,7,9,10]),(4000003,[1,2,7,8])],[],[(8,(.op 0 0 (.op 1 0 (.op 3 0 (.op 4 0 (.op 5 0 (.op 6 0 (.op 2 5 (.op 7 0 (.op 8 0 (.op 9 0 (.op 10 0 (.op 11 0 (.op 14 0 (.op 15 0 (.op 16 0 (.op 12 5 (.op 13 0 (.op 17 0 (.op 18 0 (.op 19 0 (.op 20 0 (.op 21 0 (.op 22 0 (.op 23 0 (.op 24 0 (.op 26 0 (.op 27 0 (.op 28 0 (.op 25 5 (.op 29 0 (.op 30 0 (.op 31 0 (.op 32 0 (.op 33 0 (.op 34 0 (.op 35 0 (.op 36 0 (.op 37 0 (.op 38 0 (.op 39 0 (.op 40 0 (.op 41 0 (.op 42 0 (.op 43 2 (.op 44 0 (.op 45 0 .nil)))))))))))))))))))))))))))))))))))))))))))))))]⟩) (rs := [ResultVar.tmp 6]) Try.mixed Try.func3 rfl rfl rfl (Nat.le_of_ble_eq_true rfl) (by kernel_rfl) fun H => ?_
    simp (disch := omega) only [↓aI,↓zP,aD,zD,aS,simprocAttr,Try.facts,zA]
    first | refine CallK.p (hs) ?_ | refine CallP.i (hs) ?_
    simp (disch := omega) only [↓aI,↓zP,aD,zD,aS,simprocAttr,Try.facts,zA]
    first | refine CallK.p (haw) ?_ | refine CallP.i (haw) ?_
    simp (disch := omega) only [↓aI,↓zP,aD,zD,aS,simprocAttr,Try.facts,zA]
    exact Abs.Sub.refl _
  · rw [hsm] at hs
    have h12 := small_len hsm
    have hpl := fun G => played_live G l (by omega) (fun t h => by have := small_ends hsm t h; omega)
    have hok := play_ok (c := begM 5) (ad := ad5) l begB_ok (by omega)
    change OkB _ (playB l) at hok
    generalize playB l = B at *
    generalize ad5 = ad at *
    generalize begM 5 = c at *
    have hg := hok.g
    have hre := rend_any (ad := ad) hg a
    have hrd := rdig_any (ad := ad) hg n
    have hrm := rmems_pure (ad := ad) hg n hn.2
    have hsa := samem_pure (memsM B.g n) (by have := memsM_len hg n; omega) (memsM_b hg n)
    refine az (c := ⟨Try.prog,83,[(8,[0,1,2,0,0,0,0,0,0,0,0,0,2,0,0,0,0,0,0,0,0,0,0,0,0,2,0,0,0,0,0,0,0,0,0,0,0,0,0,0,0,0,0,2,0,0]),(1000003,[7]),(4000008,[6]),(4000007,[1,7,9,10,11,12]),(4000006,[1,2,7,9,10]),(4000003,[1,2,7,8])],[],[(8,(.op 0 0 (.op 1 0 (.op 3 0 (.op 4 0 (.op 5 0 (.op 6 0 (.op 2 5 (.op 7 0 (.op 8 0 (.op 9 0 (.op 10 0 (.op 11 0 (.op 14 0 (.op 15 0 (.op 16 0 (.op 12 5 (.op 13 0 (.op 17 0 (.op 18 0 (.op 19 0 (.op 20 0 (.op 21 0 (.op 22 0 (.op 23 0 (.op 24 0 (.op 26 0 (.op 27 0 (.op 28 0 (.op 25 5 (.op 29 0 (.op 30 0 (.op 31 0 (.op 32 0 (.op 33 0 (.op 34 0 (.op 35 0 (.op 36 0 (.op 37 0 (.op 38 0 (.op 39 0 (.op 40 0 (.op 41 0 (.op 42 0 (.op 43 2 (.op 44 0 (.op 45 0 .nil)))))))))))))))))))))))))))))))))))))))))))))))]⟩) (rs := [ResultVar.tmp 6]) Try.mixed Try.func3 rfl rfl rfl (Nat.le_of_ble_eq_true rfl) (by kernel_rfl) fun H => ?_
    simp (disch := omega) only [↓aI,↓zP,aD,zD,aS,simprocAttr,Try.facts,zA]
    first | refine CallK.p (hs) ?_ | refine CallP.i (hs) ?_
    simp (disch := omega) only [↓aI,↓zP,aD,zD,aS,simprocAttr,Try.facts,zA]
    refine CallK.i (hpl _) ?_
    rintro v E ⟨h,m,r,k,kd,rfl,hr0,hk,hkd,hr,s⟩
    have hsb := (Sub.set_new (o := lgP ad B.g k kd) hr).trans s.sub
    have hv := s.sub r _ set_get
    have hla := last_any hr0 hv
    have hen := end_any hg hr0 hv a
    have hdi := dig_any hg hr0 hv n
    have hme := mems_live hg hr0 hv n hn.2 hn.1
    try simp (disch := omega) only [↓aI,↓zP,aD,zD,aS,simprocAttr,Try.facts,zA]
    intro b1 hb10 hb1
    try simp (disch := omega) only [↓aI,↓zP,aD,zD,aS,simprocAttr,Try.facts,zA,ah,aj hb1]
    refine CallK.i hen ?_
    rintro v E' ⟨rfl,rfl⟩
    try simp (disch := omega) only [↓aI,↓zP,aD,zD,aS,simprocAttr,Try.facts,zA,ah]
    first | refine CallK.p (hre) ?_ | refine CallP.i (hre) ?_
    simp (disch := omega) only [↓aI,↓zP,aD,zD,aS,simprocAttr,Try.facts,zA,ah]
    refine eI (fun σ F => Abs.Sub H F ∧ σ 6 = .sc (.bool true)) ?_ ?_
    · simp (disch := omega) only [↓aI,↓zP,aD,zD,aS,simprocAttr,Try.facts,zA,ah]
      refine CallK.i hla ?_
      rintro v E' ⟨rfl,rfl⟩
      refine ⟨SubC.refl,?_⟩
      try simp (disch := omega) only [↓aI,↓zP,aD,zD,aS,simprocAttr,Try.facts,zA,ah]
      refine CallK.i hdi ?_
      rintro v E' ⟨rfl,rfl⟩
      try refine ⟨SubC.refl,?_⟩
      try simp (disch := omega) only [↓aI,↓zP,aD,zD,aS,simprocAttr,Try.facts,zA,ah]
      first | refine CallK.p (hrd) ?_ | refine CallP.i (hrd) ?_
      simp (disch := omega) only [↓aI,↓zP,aD,zD,aS,simprocAttr,Try.facts,zA,ah]
      refine CallK.i hme ?_
      rintro v E' ⟨rfl,rfl⟩
      try refine ⟨SubC.refl,?_⟩
      try simp (disch := omega) only [↓aI,↓zP,aD,zD,aS,simprocAttr,Try.facts,zA,ah]
      first | refine CallK.p (hrm) ?_ | refine CallP.i (hrm) ?_
      simp (disch := omega) only [↓aI,↓zP,aD,zD,aS,simprocAttr,Try.facts,zA,ah]
      first | refine CallK.p (hsa) ?_ | refine CallP.i (hsa) ?_
      simp (disch := omega) only [↓aI,↓zP,aD,zD,aS,simprocAttr,Try.facts,zA,ah]
      first | refine CallK.p (haw) ?_ | refine CallP.i (haw) ?_
      simp (disch := omega) only [↓aI,↓zP,aD,zD,aS,simprocAttr,Try.facts,zA,ah]
      exact hsb
    · rintro σ F ⟨hF,s6⟩
      simp (disch := omega) only [↓aI,↓zP,aD,zD,aS,simprocAttr,Try.facts,zA,s6]
      exact hF
end Go.Proofs.Ytjlnpngaiphnmaa
