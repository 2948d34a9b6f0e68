/-
  Rosters: a log that is not there takes nothing, makes nothing, and has nothing.
  Conditions: none. Lemmas only.
-/
import Derived.Test.YtjlnpngaiphnmaaRtG7
import Derived.Test.YtjlnpngaiphnmaaRtG3
set_option linter.all false
set_option linter.unusedSimpArgs false
set_option linter.unusedVariables false
set_option maxRecDepth 20000
set_option maxHeartbeats 16000000
namespace Go.Proofs.Ytjlnpngaiphnmaa
open Go Go.Abs Go.Proofs
abbrev noL : AV := .sc (.pointer none)
theorem nlast_live (H : AH) : ACalls Try.prog 12 [noL] H fun v H' => v = .sc (.int .i64 0) ∧ H' = H := by
  refine ao (c := ⟨Try.prog,10,[],[],[]⟩) (rs := [ResultVar.tmp 2]) Try.mixed Try.func12 rfl rfl rfl (Nat.le_of_ble_eq_true rfl) (by kernel_rfl) ?_
  simp (disch := omega) only [↓aI,↓zP,aD,zD,aS,simprocAttr,Try.facts,zA]
  exact ⟨_,rfl,_,Abs.Sub.refl _,rfl,rfl⟩
theorem nend_live (H : AH) (n : Int) : ACalls Try.prog 10 [noL,.sc (.int .i64 n)] H fun v H' => v = .tup [.sc (.int .i64 0),.sc (.bool false)] ∧ H' = H := by
  refine ao (c := ⟨Try.prog,39,[(4,[0,0,0,0,0,2,0,0,0,0,0,0,0,0]),(1000006,[8])],[],[(4,(.op 0 0 (.op 1 0 (.op 2 0 (.op 4 0 (.op 7 0 (.op 13 0 (.op 3 4 (.op 5 5 (.op 6 0 (.op 8 0 (.op 9 0 (.op 10 0 (.op 11 0 (.op 12 0 .nil)))))))))))))))]⟩) (rs := [ResultVar.tmp 4,ResultVar.tmp 5]) Try.mixed Try.func10 rfl rfl rfl (Nat.le_of_ble_eq_true rfl) (by kernel_rfl) ?_
  simp (disch := omega) only [↓aI,↓zP,aD,zD,aS,simprocAttr,Try.facts,zA]
  refine CallK.i (nlast_live _) ?_
  rintro v E ⟨rfl,rfl⟩
  try simp (disch := omega) only [↓aI,↓zP,aD,zD,aS,simprocAttr,Try.facts,zA]
  refine br (c := ⟨Try.prog,39,[(4,[0,0,0,0,0,2,0,0,0,0,0,0,0,0]),(1000006,[8])],[],[(4,(.op 0 0 (.op 1 0 (.op 2 0 (.op 4 0 (.op 7 0 (.op 13 0 (.op 3 4 (.op 5 5 (.op 6 0 (.op 8 0 (.op 9 0 (.op 10 0 (.op 11 0 (.op 12 0 .nil)))))))))))))))]⟩) Try.mixed (by kernel_rfl) (fun mm σ F => F = E ∧ σ 4 = .sc (.int .i64 0) ∧ σ 5 = .sc (.bool false) ∧ σ 10 = .sc (.int .i64 0) ∧ σ 11 = .sc (.int .i64 0)) 0 ?_ ?_
  · simp (disch := omega) only [↓aI,↓zP,aD,zD,aS,simprocAttr,Try.facts,zA]
  · rintro mm σ F ⟨rfl,s4,s5,s10,s11⟩
    simp (disch := omega) only [↓aI,↓zP,aD,zD,aS,simprocAttr,Try.facts,zA,s4,s5,s10,s11]
    exact ⟨_,rfl,_,Abs.Sub.refl _,rfl,rfl⟩
theorem ndig_live (H : AH) (n : Int) : ACalls Try.prog 13 [noL,.sc (.int .i64 n)] H fun v H' => v = .imm 0 [] 0 ∧ H' = H := by
  by_cases h : n < 1
  · refine ao (c := ⟨Try.prog,23,[],[13],[]⟩) (rs := [ResultVar.tmp 4]) Try.mixed Try.func13 rfl rfl rfl (Nat.le_of_ble_eq_true rfl) (by kernel_rfl) ?_
    simp (disch := omega) only [↓aI,↓zP,aD,zD,aS,simprocAttr,Try.facts,zA]
    exact ⟨_,rfl,_,Abs.Sub.refl _,rfl,rfl⟩
  · refine ao (c := ⟨Try.prog,23,[],[13],[]⟩) (rs := [ResultVar.tmp 4]) Try.mixed Try.func13 rfl rfl rfl (Nat.le_of_ble_eq_true rfl) (by kernel_rfl) ?_
    simp (disch := omega) only [↓aI,↓zP,aD,zD,aS,simprocAttr,Try.facts,zA]
    refine CallK.i (nlast_live _) ?_
    rintro v E ⟨rfl,rfl⟩
    try simp (disch := omega) only [↓aI,↓zP,aD,zD,aS,simprocAttr,Try.facts,zA]
    exact ⟨_,rfl,_,Abs.Sub.refl _,rfl,rfl⟩
theorem nmems_live (H : AH) (n : Int) : ACalls Try.prog 16 [noL,.sc (.int .i64 n)] H fun v H' => v = .imm 0 [] 0 ∧ H' = H := by
  by_cases h : n < 1
  · refine ao (c := ⟨Try.prog,23,[],[],[]⟩) (rs := [ResultVar.tmp 4]) Try.mixed Try.func16 rfl rfl rfl (Nat.le_of_ble_eq_true rfl) (by kernel_rfl) ?_
    simp (disch := omega) only [↓aI,↓zP,aD,zD,aS,simprocAttr,Try.facts,zA]
    exact ⟨_,rfl,_,Abs.Sub.refl _,rfl,rfl⟩
  · refine ao (c := ⟨Try.prog,23,[],[],[]⟩) (rs := [ResultVar.tmp 4]) Try.mixed Try.func16 rfl rfl rfl (Nat.le_of_ble_eq_true rfl) (by kernel_rfl) ?_
    simp (disch := omega) only [↓aI,↓zP,aD,zD,aS,simprocAttr,Try.facts,zA]
    refine CallK.i (nlast_live _) ?_
    rintro v E ⟨rfl,rfl⟩
    try simp (disch := omega) only [↓aI,↓zP,aD,zD,aS,simprocAttr,Try.facts,zA]
    exact ⟨_,rfl,_,Abs.Sub.refl _,rfl,rfl⟩
theorem nclone_live (H : AH) : ACalls Try.prog 19 [noL] H fun v H' => v = .sc (.pointer none) ∧ H' = H := by
  refine ao (c := ⟨Try.prog,31,[(4,[0,0,0,0,0,0,0,0,0,0,2,0,0,0,0,0,0,2,0,2,0])],[2000021,2000028],[(4,(.op 0 0 (.op 1 0 (.op 2 0 (.op 4 0 (.op 5 0 (.op 6 0 (.op 8 0 (.op 9 0 (.op 11 0 (.op 12 0 (.op 13 0 (.op 15 0 (.op 16 0 (.op 3 4 (.op 7 4 (.op 14 4 (.or (.op 10 3 (.op 17 3 (.op 18 0 (.op 19 3 (.op 20 0 .nil))))) (.op 17 3 (.op 10 3 (.op 18 0 (.op 19 3 (.op 20 0 .nil)))))))))))))))))))))))]⟩) (rs := [ResultVar.tmp 2]) Try.mixed Try.func19 rfl rfl rfl (Nat.le_of_ble_eq_true rfl) (by kernel_rfl) ?_
  simp (disch := omega) only [↓aI,↓zP,aD,zD,aS,simprocAttr,Try.facts,zA]
  exact ⟨_,rfl,_,Abs.Sub.refl _,rfl,rfl⟩
theorem nmake_live (H : AH) (h : Nat) (a b c : List UInt8) : ACalls Try.prog 23 [noL,idealV h,bytesV a,bytesV b,bytesV c,.imm 0 [] 0,.imm 0 [] 0] H fun v H' => v = .tup [.agg zeroC,.sc (.int .i64 1)] ∧ H' = H := by
  refine ao (c := ⟨Try.prog,133,[(3,[0,0,2,0,0,0,0,0,0]),(18,[0,0,0,0,1,0,0,0,0,0,2,0,2,0,2]),(20,[0,0,1,0,0,0,0,2,0,2]),(1000014,[19]),(4000020,[14,17]),(4000018,[1,2,3,4,14,17,86,87,88]),(4000015,[1,2,3,4,14,17,20,21,86,87,88]),(4000011,[1,2,3,4,5,14,17]),(4000009,[1,2,3,4,5,6,14,17,77]),(4000008,[0,1,2,3,4,5,6,14,17]),(4000005,[0,1,2,3,4,5,6,14,16]),(4000003,[0,1,2,3,4,5,6,14,48]),(4000001,[0,1,2,3,4,5,6,14,38])],[81],[(3,(.op 0 0 (.op 1 0 (.op 3 0 (.op 4 0 (.op 5 0 (.or (.op 2 2 (.op 6 3 (.op 7 0 (.op 8 0 .nil)))) (.op 6 3 (.op 2 2 (.op 7 0 (.op 8 0 .nil))))))))))),(18,(.op 0 0 (.op 2 0 (.op 3 0 (.op 6 0 (.op 7 0 (.op 8 0 (.op 9 0 (.op 4 4 (.op 5 0 (.or (.op 1 3 (.op 10 2 (.op 11 0 (.op 12 3 (.op 13 0 (.op 14 2 .nil)))))) (.op 10 2 (.op 11 0 (.op 1 3 (.op 12 3 (.op 13 0 (.op 14 2 .nil)))))))))))))))))]⟩) (rs := [ResultVar.cell 14 59,ResultVar.tmp 15]) Try.mixed Try.func23 rfl rfl rfl (Nat.le_of_ble_eq_true rfl) (by kernel_rfl) ?_
  simp (disch := omega) only [↓aI,↓zP,aD,zD,aS,simprocAttr,Try.facts,zA]
  intro b1 hb10 hb1
  try simp (disch := omega) only [↓aI,↓zP,aD,zD,aS,simprocAttr,Try.facts,zA,ah,set_twice,aj hb1]
  exact ⟨_,rfl,_,Sub.set_new hb1,rfl,rfl⟩
theorem ntake_live (H : AH) (h : Nat) (e : Ent) : ACalls Try.prog 24 [noL,idealV h,.agg (entC e)] H fun v H' => v = .sc (.int .i64 1) ∧ H' = H := by
  obtain ⟨n,prev,ms,ns,once,bs,sig⟩ := e
  simp only [entC]
  refine ao (c := ⟨Try.prog,117,[(5,[0,0,0,0,0,0,0,0,0,0,1,0,0,0,0,2,0]),(10,[0,0,0,0,2,0,0]),(12,[0,0,0,0,1,1,0,0,1,0,0,0,2,0]),(16,[0,0,0,0,0,2,0,0,2,0,2,2]),(17,[0,0,0,0,1,0,0,2,0,0,2,0,0,2]),(18,[0,0,0,0,0,0,0,2,0,0,0,0,0,0,2,0,2,0,0,2]),(1000000,[5]),(1000016,[8]),(4000017,[0,1,5,7]),(4000016,[0,1,5,7,8]),(4000014,[0,1,5,7,74]),(4000012,[0,1,5,7,67]),(4000010,[0,1,5,7,53]),(4000008,[0,1,5,7,46]),(4000005,[41]),(4000003,[0,1,5,7]),(4000001,[0,1,5,15])],[80,2000092,2000105],[(5,(.op 0 0 (.op 1 0 (.op 2 0 (.op 4 0 (.op 5 0 (.op 6 0 (.op 9 0 (.op 10 0 (.op 11 0 (.op 12 0 (.op 13 0 (.op 14 0 (.or (.op 3 3 (.op 7 0 (.op 8 0 (.op 15 2 (.op 16 0 .nil))))) (.op 15 2 (.op 3 3 (.op 7 0 (.op 8 0 (.op 16 0 .nil))))))))))))))))))),(16,(.op 0 0 (.op 1 0 (.op 2 0 (.op 3 0 (.op 4 0 (.op 6 0 (.op 7 0 (.or (.op 5 3 (.or (.op 8 3 (.op 9 0 (.op 10 3 (.op 11 2 .nil)))) (.op 10 3 (.op 8 3 (.op 9 0 (.op 11 2 .nil)))))) (.op 10 3 (.op 5 3 (.op 8 3 (.op 9 0 (.op 11 2 .nil)))))))))))))),(17,(.op 0 0 (.op 1 0 (.op 2 0 (.op 3 0 (.op 5 0 (.op 6 0 (.op 8 0 (.op 9 0 (.op 4 4 (.op 7 3 (.op 10 3 (.op 11 0 (.op 12 0 (.op 13 2 .nil))))))))))))))),(18,(.op 0 0 (.op 1 0 (.op 2 0 (.op 3 0 (.op 5 0 (.op 6 0 (.op 8 0 (.op 9 0 (.op 10 0 (.op 11 0 (.op 12 0 (.op 13 0 (.or (.op 4 3 (.or (.op 7 3 (.op 14 2 (.op 15 0 (.op 16 3 (.op 17 0 (.op 18 0 (.op 19 2 .nil))))))) (.op 14 2 (.op 15 0 (.op 7 3 (.op 16 3 (.op 17 0 (.op 18 0 (.op 19 2 .nil))))))))) (.op 14 2 (.op 15 0 (.op 4 3 (.op 7 3 (.op 16 3 (.op 17 0 (.op 18 0 (.op 19 2 .nil))))))))))))))))))))))]⟩) (rs := [ResultVar.tmp 6]) Try.mixed Try.func24 rfl rfl rfl (Nat.le_of_ble_eq_true rfl) (by kernel_rfl) ?_
  simp (disch := omega) only [↓aI,↓zP,aD,zD,aS,simprocAttr,Try.facts,zA]
  intro b5 hb50 hb5
  rw [aj hb5]
  try simp (disch := omega) only [↓aI,↓zP,aD,zD,aS,simprocAttr,Try.facts,zA]
  exact ⟨_,rfl,_,Abs.Sub.refl _,rfl,rfl⟩
theorem nobody_walk21 (e : Ent) (n : Int) : APure Try.prog 5 [.agg (entC e),.sc (.int .i64 n)] (.sc (.bool true)) := by
  have haw := rawake_pure
  have hmk := fun E h => nmake_live E h (zeroB 32) (zeroB 32) (zeroB 32)
  have htk := fun E h => ntake_live E h e
  have hz := zeroB_C 32
  obtain ⟨n1,pr1,ms1,ns1,on1,bs1,sg1⟩ := e
  simp only [entC] at *
  refine az (c := ⟨Try.prog,80,[(5,[0,0,0,0,0,0,2,0,0,0,2,2,0]),(1000000,[2]),(1000005,[7]),(4000007,[4]),(4000006,[1,2,5,6,8,9,10]),(4000005,[1,2,5,6,8])],[4000018,4000019,4000020],[(5,(.op 0 0 (.op 1 0 (.op 2 0 (.op 3 0 (.op 4 0 (.op 5 0 (.or (.op 6 2 (.op 7 0 (.op 8 0 (.op 9 0 (.op 10 3 (.op 11 2 (.op 12 0 .nil))))))) (.op 10 3 (.op 6 2 (.op 7 0 (.op 8 0 (.op 9 0 (.op 11 2 (.op 12 0 .nil)))))))))))))))]⟩) (rs := [ResultVar.tmp 4]) Try.mixed Try.func5 rfl rfl rfl (Nat.le_of_ble_eq_true rfl) (by kernel_rfl) fun H => ?_
  simp (disch := omega) only [↓aI,↓zP,aD,zD,aS,simprocAttr,Try.facts,zA]
  intro b2 hb20 hb2
  try simp (disch := omega) only [↓aI,↓zP,aD,zD,aS,simprocAttr,Try.facts,zA,aj hb2]
  refine CallK.i (new_ss _) ?_
  rintro v E ⟨h,m,rfl,s⟩
  try simp (disch := omega) only [↓aI,↓zP,aD,zD,aS,simprocAttr,Try.facts,zA]
  refine eI (fun σ F => ∃ b7,F = E.set b7 (.cells zeroC 59 7) ∧ E b7 = none ∧ σ 7 = .ptr b7 0 ∧ σ 5 = noL ∧ σ 6 = .ptr h 0 ∧ σ 8 = .sc (.int .i64 1) ∧ σ 1 = .sc (.int .i64 n) ∧ σ 2 = .ip [.sc (.int .i64 n1),bytesV pr1,memsV ms1,ndsV ns1,bytesV on1,rowsV bs1,bytesV sg1] 0) ?_ ?_
  · simp (disch := omega) only [↓aI,↓zP,aD,zD,aS,simprocAttr,Try.facts,zA,hz]
    refine And.intro ?_ ?_
    · refine CallK.i (hmk _ _) ?_
      rintro v E' ⟨rfl,rfl⟩
      try simp (disch := omega) only [↓aI,↓zP,aD,zD,aS,simprocAttr,Try.facts,zA,hz]
      intro b7 hb70 hb7
      try simp (disch := omega) only [↓aI,↓zP,aD,zD,aS,simprocAttr,Try.facts,zA,hz,aj hb7,ah]
      exact ⟨b7,rfl,hb7,rfl⟩
    · intro b7 hb70 hb7
      try simp (disch := omega) only [↓aI,↓zP,aD,zD,aS,simprocAttr,Try.facts,zA,hz]
      refine CallK.i (hmk _ _) ?_
      rintro v E' ⟨rfl,rfl⟩
      try simp (disch := omega) only [↓aI,↓zP,aD,zD,aS,simprocAttr,Try.facts,zA,hz,aj hb7,ah,set_twice]
      exact ⟨b7,rfl,hb7,rfl⟩
  · rintro σ F ⟨b7,rfl,hb7,s7,s5,s6,s8,s1,s2⟩
    simp (disch := omega) only [↓aI,↓zP,aD,zD,aS,simprocAttr,Try.facts,zA,s7,s5,s6,s8,s1,s2,aj hb7]
    refine CallK.i (nend_live _ _) ?_
    rintro v E' ⟨rfl,rfl⟩
    try simp (disch := omega) only [↓aI,↓zP,aD,zD,aS,simprocAttr,Try.facts,zA,s5,s6,s8,s1,s2]
    refine CallK.i (htk _ _) ?_
    rintro v E' ⟨rfl,rfl⟩
    try simp (disch := omega) only [↓aI,↓zP,aD,zD,aS,simprocAttr,Try.facts,zA,s5,s6,s8,s1,s2]
    refine CallK.i (nlast_live _) ?_
    rintro v E' ⟨rfl,rfl⟩
    try simp (disch := omega) only [↓aI,↓zP,aD,zD,aS,simprocAttr,Try.facts,zA,s5,s6,s8,s1,s2]
    refine CallK.i (ndig_live _ _) ?_
    rintro v E' ⟨rfl,rfl⟩
    try simp (disch := omega) only [↓aI,↓zP,aD,zD,aS,simprocAttr,Try.facts,zA,s5,s6,s8,s1,s2]
    refine CallK.i (nmems_live _ _) ?_
    rintro v E' ⟨rfl,rfl⟩
    try simp (disch := omega) only [↓aI,↓zP,aD,zD,aS,simprocAttr,Try.facts,zA,s5,s6,s8,s1,s2]
    refine CallK.i (nclone_live _) ?_
    rintro v E' ⟨rfl,rfl⟩
    try simp (disch := omega) only [↓aI,↓zP,aD,zD,aS,simprocAttr,Try.facts,zA,s5,s6,s8,s1,s2]
    refine CallK.i (len_ss s) ?_
    rintro v E' ⟨rfl,rfl⟩
    try simp (disch := omega) only [↓aI,↓zP,aD,zD,aS,simprocAttr,Try.facts,zA,s5,s6,s8,s1,s2]
    first | refine CallK.p (haw) ?_ | refine CallP.i (haw) ?_
    simp (disch := omega) only [↓aI,↓zP,aD,zD,aS,simprocAttr,Try.facts,zA]
    exact s.sub
end Go.Proofs.Ytjlnpngaiphnmaa
