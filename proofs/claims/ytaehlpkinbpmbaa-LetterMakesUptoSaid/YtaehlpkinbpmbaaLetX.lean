/-
  Letters that are made: the walk.
  Conditions: none. Lemmas only.
-/
import Derived.Test.YtaehlpkinbpmbaaLetG4
set_option linter.all false
set_option linter.unusedSimpArgs false
set_option linter.unusedVariables false
set_option maxRecDepth 20000
set_option maxHeartbeats 8000000
namespace Go.Proofs.Ytaehlpkinbpmbaa
open Go Go.Abs Go.Proofs
theorem make_bad {H0 H : AH} {h m d : Nat} {ts : List Term} (secret epoch : List UInt8) (l : Ltr) (text : List UInt8) (ht : text.length ≤ 3000000) (s : SS H0 H h m d ts) (hbad : secret.length ≠ 32 ∨ epoch.length ≠ 32 ∨ namedL l = false ∨ (padL text).2 ≠ 0) :
    ACalls Try.prog 11 [idealV h,bytesV secret,bytesV epoch,.agg (ltrC l),bytesV text] H fun v H' => v = .tup [.agg (ltrC (makeL ts secret epoch l text).2.1),.sc (.int .i64 (makeL ts secret epoch l text).2.2)] ∧ SS H0 H' h m d (makeL ts secret epoch l text).1 := by
  have hn := named_pure l
  have hp := pad_pure text ht
  have hR : makeL ts secret epoch l text = if secret.length ≠ 32 ∨ epoch.length ≠ 32 ∨ namedL l = false then (ts,zeroL,1) else if (padL text).2 ≠ 0 then (ts,zeroL,(padL text).2) else ((madeL ts secret epoch l (padL text).1).ts4,boxed l (madeL ts secret epoch l (padL text).1).box (madeL ts secret epoch l (padL text).1).sig,0) := rfl
  generalize makeL ts secret epoch l text = R at *
  generalize madeL ts secret epoch l (padL text).1 = MD at *
  generalize namedL l = nm at *
  generalize padL text = PD at *
  obtain ⟨p,pe⟩ := PD
  simp only [] at hp hR hbad
  have hz : ltrC zeroL = [.sc (.int .i64 0),.sc (.int .i64 0),.sc (.int .i64 0),.sc (.int .i64 0),.imm 0 [] 0,.imm 0 [] 0,.imm 0 [] 0] := rfl
  by_cases c1 : secret.length = 32
  · by_cases c2 : epoch.length = 32
    · cases nm
      · rw [if_pos (.inr (.inr rfl))] at hR
        subst hR
        rw [hz]
        obtain ⟨kd,au,ep,nu,pv,bx,sg⟩ := l
        simp only [ltrC] at *
        refine ao (c := ⟨Try.prog,81,[(6,[0,0,0,0,0,0,0,0,2,0,0,2,0,2,2]),(7,[0,0,0,1,2,0,0,0,0,0,0,0,0,2,0,2]),(2000008,[0,1,2,3,4,5,6,9,10,11,7,8,12,13,14]),(8,[0,0,1,0,0,0,1,0,0,0,2,0,2,0,2]),(1000000,[8]),(4000008,[10,14]),(4000007,[0,1,10,14]),(4000006,[0,1,2,10,12,14]),(4000003,[0,1,2,8,10,12,13]),(4000001,[0,1,2,4,8,10,27])],[46],[(6,(.op 0 0 (.op 1 0 (.op 2 0 (.op 3 0 (.op 4 0 (.op 5 0 (.op 6 0 (.op 7 0 (.op 9 0 (.op 10 0 (.or (.op 8 2 (.or (.op 11 2 (.op 12 0 (.op 13 2 (.op 14 2 .nil)))) (.op 13 2 (.op 11 2 (.op 12 0 (.op 14 2 .nil)))))) (.op 13 2 (.op 8 2 (.op 11 2 (.op 12 0 (.op 14 2 .nil))))))))))))))))),(7,(.op 0 0 (.op 1 0 (.op 2 0 (.op 5 0 (.op 9 0 (.op 10 0 (.op 11 0 (.op 12 0 (.or (.op 3 2 (.or (.op 4 2 (.or (.op 6 2 (.op 7 2 (.op 8 0 (.op 13 2 (.op 14 0 (.op 15 2 .nil)))))) (.op 7 2 (.op 8 0 (.op 6 2 (.op 13 2 (.op 14 0 (.op 15 2 .nil)))))))) (.or (.op 6 2 (.or (.op 4 2 (.op 7 2 (.op 8 0 (.op 13 2 (.op 14 0 (.op 15 2 .nil)))))) (.op 7 2 (.op 4 2 (.op 8 0 (.op 13 2 (.op 14 0 (.op 15 2 .nil)))))))) (.op 7 2 (.or (.op 4 2 (.op 8 0 (.op 6 2 (.op 13 2 (.op 14 0 (.op 15 2 .nil)))))) (.op 6 2 (.op 4 2 (.op 8 0 (.op 13 2 (.op 14 0 (.op 15 2 .nil))))))))))) (.or (.op 6 2 (.or (.op 3 2 (.or (.op 4 2 (.op 7 2 (.op 8 0 (.op 13 2 (.op 14 0 (.op 15 2 .nil)))))) (.op 7 2 (.op 4 2 (.op 8 0 (.op 13 2 (.op 14 0 (.op 15 2 .nil)))))))) (.op 7 2 (.op 3 2 (.op 4 2 (.op 8 0 (.op 13 2 (.op 14 0 (.op 15 2 .nil))))))))) (.op 7 2 (.or (.op 3 2 (.or (.op 4 2 (.op 8 0 (.op 6 2 (.op 13 2 (.op 14 0 (.op 15 2 .nil)))))) (.op 6 2 (.op 4 2 (.op 8 0 (.op 13 2 (.op 14 0 (.op 15 2 .nil)))))))) (.op 6 2 (.op 3 2 (.op 4 2 (.op 8 0 (.op 13 2 (.op 14 0 (.op 15 2 .nil))))))))))))))))))))]⟩) (rs := [ResultVar.cell 10 24,ResultVar.tmp 11]) Try.mixed Try.func11 rfl rfl rfl (Nat.le_of_ble_eq_true rfl) (by kernel_rfl) ?_
        simp (disch := omega) only [↓aI,↓zP,aD,zD,aS,simprocAttr,Try.facts,zA]
        intro k8 hk80 hk8 k10 hk100 hk10
        have n8 := bK hk10
        have hk10H := am hk10
        simp (disch := omega) only [↓aI,↓zP,aD,zD,aS,simprocAttr,Try.facts,zA,aP,n8,bH hk8 n8]
        first | refine CallK.p (hn) ?_ | refine CallP.i (hn) ?_
        simp (disch := omega) only [↓aI,↓zP,aD,zD,aS,simprocAttr,Try.facts,zA]
        simp (disch := omega) only [↓aI,↓zP,aD,zD,aS,simprocAttr,Try.facts,zA,ah]
        exact ⟨_,rfl,H,Sub.set_new hk10H,rfl,s⟩
      · rw [if_neg (fun h => h.elim (fun h => h c1) (fun h => h.elim (fun h => h c2) (fun h => Bool.noConfusion h)))] at hR
        have c4 : pe ≠ 0 := by
          rcases hbad with h | h | h | h
          · exact absurd c1 h
          · exact absurd c2 h
          · cases h
          · exact h
        rw [if_pos c4] at hR
        subst hR
        rw [hz]
        obtain ⟨kd,au,ep,nu,pv,bx,sg⟩ := l
        simp only [ltrC] at *
        refine ao (c := ⟨Try.prog,81,[(6,[0,0,0,0,0,0,0,0,2,0,0,2,0,2,2]),(7,[0,0,0,1,2,0,0,0,0,0,0,0,0,2,0,2]),(2000008,[0,1,2,3,4,5,6,9,10,11,7,8,12,13,14]),(8,[0,0,1,0,0,0,1,0,0,0,2,0,2,0,2]),(1000000,[8]),(4000008,[10,14]),(4000007,[0,1,10,14]),(4000006,[0,1,2,10,12,14]),(4000003,[0,1,2,8,10,12,13]),(4000001,[0,1,2,4,8,10,27])],[46],[(6,(.op 0 0 (.op 1 0 (.op 2 0 (.op 3 0 (.op 4 0 (.op 5 0 (.op 6 0 (.op 7 0 (.op 9 0 (.op 10 0 (.or (.op 8 2 (.or (.op 11 2 (.op 12 0 (.op 13 2 (.op 14 2 .nil)))) (.op 13 2 (.op 11 2 (.op 12 0 (.op 14 2 .nil)))))) (.op 13 2 (.op 8 2 (.op 11 2 (.op 12 0 (.op 14 2 .nil))))))))))))))))),(7,(.op 0 0 (.op 1 0 (.op 2 0 (.op 5 0 (.op 9 0 (.op 10 0 (.op 11 0 (.op 12 0 (.or (.op 3 2 (.or (.op 4 2 (.or (.op 6 2 (.op 7 2 (.op 8 0 (.op 13 2 (.op 14 0 (.op 15 2 .nil)))))) (.op 7 2 (.op 8 0 (.op 6 2 (.op 13 2 (.op 14 0 (.op 15 2 .nil)))))))) (.or (.op 6 2 (.or (.op 4 2 (.op 7 2 (.op 8 0 (.op 13 2 (.op 14 0 (.op 15 2 .nil)))))) (.op 7 2 (.op 4 2 (.op 8 0 (.op 13 2 (.op 14 0 (.op 15 2 .nil)))))))) (.op 7 2 (.or (.op 4 2 (.op 8 0 (.op 6 2 (.op 13 2 (.op 14 0 (.op 15 2 .nil)))))) (.op 6 2 (.op 4 2 (.op 8 0 (.op 13 2 (.op 14 0 (.op 15 2 .nil))))))))))) (.or (.op 6 2 (.or (.op 3 2 (.or (.op 4 2 (.op 7 2 (.op 8 0 (.op 13 2 (.op 14 0 (.op 15 2 .nil)))))) (.op 7 2 (.op 4 2 (.op 8 0 (.op 13 2 (.op 14 0 (.op 15 2 .nil)))))))) (.op 7 2 (.op 3 2 (.op 4 2 (.op 8 0 (.op 13 2 (.op 14 0 (.op 15 2 .nil))))))))) (.op 7 2 (.or (.op 3 2 (.or (.op 4 2 (.op 8 0 (.op 6 2 (.op 13 2 (.op 14 0 (.op 15 2 .nil)))))) (.op 6 2 (.op 4 2 (.op 8 0 (.op 13 2 (.op 14 0 (.op 15 2 .nil)))))))) (.op 6 2 (.op 3 2 (.op 4 2 (.op 8 0 (.op 13 2 (.op 14 0 (.op 15 2 .nil))))))))))))))))))))]⟩) (rs := [ResultVar.cell 10 24,ResultVar.tmp 11]) Try.mixed Try.func11 rfl rfl rfl (Nat.le_of_ble_eq_true rfl) (by kernel_rfl) ?_
        simp (disch := omega) only [↓aI,↓zP,aD,zD,aS,simprocAttr,Try.facts,zA]
        intro k8 hk80 hk8 k10 hk100 hk10
        have n8 := bK hk10
        have hk10H := am hk10
        simp (disch := omega) only [↓aI,↓zP,aD,zD,aS,simprocAttr,Try.facts,zA,aP,n8,bH hk8 n8]
        first | refine CallK.p (hn) ?_ | refine CallP.i (hn) ?_
        simp (disch := omega) only [↓aI,↓zP,aD,zD,aS,simprocAttr,Try.facts,zA]
        first | refine CallK.p (hp) ?_ | refine CallP.i (hp) ?_
        simp (disch := omega) only [↓aI,↓zP,aD,zD,aS,simprocAttr,Try.facts,zA]
        simp (disch := omega) only [↓aI,↓zP,aD,zD,aS,simprocAttr,Try.facts,zA,ah]
        exact ⟨_,rfl,H,Sub.set_new hk10H,rfl,s⟩
    · rw [if_pos (.inr (.inl c2))] at hR
      subst hR
      rw [hz]
      obtain ⟨kd,au,ep,nu,pv,bx,sg⟩ := l
      simp only [ltrC] at *
      refine ao (c := ⟨Try.prog,81,[(6,[0,0,0,0,0,0,0,0,2,0,0,2,0,2,2]),(7,[0,0,0,1,2,0,0,0,0,0,0,0,0,2,0,2]),(2000008,[0,1,2,3,4,5,6,9,10,11,7,8,12,13,14]),(8,[0,0,1,0,0,0,1,0,0,0,2,0,2,0,2]),(1000000,[8]),(4000008,[10,14]),(4000007,[0,1,10,14]),(4000006,[0,1,2,10,12,14]),(4000003,[0,1,2,8,10,12,13]),(4000001,[0,1,2,4,8,10,27])],[46],[(6,(.op 0 0 (.op 1 0 (.op 2 0 (.op 3 0 (.op 4 0 (.op 5 0 (.op 6 0 (.op 7 0 (.op 9 0 (.op 10 0 (.or (.op 8 2 (.or (.op 11 2 (.op 12 0 (.op 13 2 (.op 14 2 .nil)))) (.op 13 2 (.op 11 2 (.op 12 0 (.op 14 2 .nil)))))) (.op 13 2 (.op 8 2 (.op 11 2 (.op 12 0 (.op 14 2 .nil))))))))))))))))),(7,(.op 0 0 (.op 1 0 (.op 2 0 (.op 5 0 (.op 9 0 (.op 10 0 (.op 11 0 (.op 12 0 (.or (.op 3 2 (.or (.op 4 2 (.or (.op 6 2 (.op 7 2 (.op 8 0 (.op 13 2 (.op 14 0 (.op 15 2 .nil)))))) (.op 7 2 (.op 8 0 (.op 6 2 (.op 13 2 (.op 14 0 (.op 15 2 .nil)))))))) (.or (.op 6 2 (.or (.op 4 2 (.op 7 2 (.op 8 0 (.op 13 2 (.op 14 0 (.op 15 2 .nil)))))) (.op 7 2 (.op 4 2 (.op 8 0 (.op 13 2 (.op 14 0 (.op 15 2 .nil)))))))) (.op 7 2 (.or (.op 4 2 (.op 8 0 (.op 6 2 (.op 13 2 (.op 14 0 (.op 15 2 .nil)))))) (.op 6 2 (.op 4 2 (.op 8 0 (.op 13 2 (.op 14 0 (.op 15 2 .nil))))))))))) (.or (.op 6 2 (.or (.op 3 2 (.or (.op 4 2 (.op 7 2 (.op 8 0 (.op 13 2 (.op 14 0 (.op 15 2 .nil)))))) (.op 7 2 (.op 4 2 (.op 8 0 (.op 13 2 (.op 14 0 (.op 15 2 .nil)))))))) (.op 7 2 (.op 3 2 (.op 4 2 (.op 8 0 (.op 13 2 (.op 14 0 (.op 15 2 .nil))))))))) (.op 7 2 (.or (.op 3 2 (.or (.op 4 2 (.op 8 0 (.op 6 2 (.op 13 2 (.op 14 0 (.op 15 2 .nil)))))) (.op 6 2 (.op 4 2 (.op 8 0 (.op 13 2 (.op 14 0 (.op 15 2 .nil)))))))) (.op 6 2 (.op 3 2 (.op 4 2 (.op 8 0 (.op 13 2 (.op 14 0 (.op 15 2 .nil))))))))))))))))))))]⟩) (rs := [ResultVar.cell 10 24,ResultVar.tmp 11]) Try.mixed Try.func11 rfl rfl rfl (Nat.le_of_ble_eq_true rfl) (by kernel_rfl) ?_
      simp (disch := omega) only [↓aI,↓zP,aD,zD,aS,simprocAttr,Try.facts,zA]
      intro k8 hk80 hk8 k10 hk100 hk10
      have n8 := bK hk10
      have hk10H := am hk10
      simp (disch := omega) only [↓aI,↓zP,aD,zD,aS,simprocAttr,Try.facts,zA,aP,n8,bH hk8 n8]
      simp (disch := omega) only [↓aI,↓zP,aD,zD,aS,simprocAttr,Try.facts,zA,ah]
      exact ⟨_,rfl,H,Sub.set_new hk10H,rfl,s⟩
  · rw [if_pos (.inl c1)] at hR
    subst hR
    rw [hz]
    obtain ⟨kd,au,ep,nu,pv,bx,sg⟩ := l
    simp only [ltrC] at *
    refine ao (c := ⟨Try.prog,81,[(6,[0,0,0,0,0,0,0,0,2,0,0,2,0,2,2]),(7,[0,0,0,1,2,0,0,0,0,0,0,0,0,2,0,2]),(2000008,[0,1,2,3,4,5,6,9,10,11,7,8,12,13,14]),(8,[0,0,1,0,0,0,1,0,0,0,2,0,2,0,2]),(1000000,[8]),(4000008,[10,14]),(4000007,[0,1,10,14]),(4000006,[0,1,2,10,12,14]),(4000003,[0,1,2,8,10,12,13]),(4000001,[0,1,2,4,8,10,27])],[46],[(6,(.op 0 0 (.op 1 0 (.op 2 0 (.op 3 0 (.op 4 0 (.op 5 0 (.op 6 0 (.op 7 0 (.op 9 0 (.op 10 0 (.or (.op 8 2 (.or (.op 11 2 (.op 12 0 (.op 13 2 (.op 14 2 .nil)))) (.op 13 2 (.op 11 2 (.op 12 0 (.op 14 2 .nil)))))) (.op 13 2 (.op 8 2 (.op 11 2 (.op 12 0 (.op 14 2 .nil))))))))))))))))),(7,(.op 0 0 (.op 1 0 (.op 2 0 (.op 5 0 (.op 9 0 (.op 10 0 (.op 11 0 (.op 12 0 (.or (.op 3 2 (.or (.op 4 2 (.or (.op 6 2 (.op 7 2 (.op 8 0 (.op 13 2 (.op 14 0 (.op 15 2 .nil)))))) (.op 7 2 (.op 8 0 (.op 6 2 (.op 13 2 (.op 14 0 (.op 15 2 .nil)))))))) (.or (.op 6 2 (.or (.op 4 2 (.op 7 2 (.op 8 0 (.op 13 2 (.op 14 0 (.op 15 2 .nil)))))) (.op 7 2 (.op 4 2 (.op 8 0 (.op 13 2 (.op 14 0 (.op 15 2 .nil)))))))) (.op 7 2 (.or (.op 4 2 (.op 8 0 (.op 6 2 (.op 13 2 (.op 14 0 (.op 15 2 .nil)))))) (.op 6 2 (.op 4 2 (.op 8 0 (.op 13 2 (.op 14 0 (.op 15 2 .nil))))))))))) (.or (.op 6 2 (.or (.op 3 2 (.or (.op 4 2 (.op 7 2 (.op 8 0 (.op 13 2 (.op 14 0 (.op 15 2 .nil)))))) (.op 7 2 (.op 4 2 (.op 8 0 (.op 13 2 (.op 14 0 (.op 15 2 .nil)))))))) (.op 7 2 (.op 3 2 (.op 4 2 (.op 8 0 (.op 13 2 (.op 14 0 (.op 15 2 .nil))))))))) (.op 7 2 (.or (.op 3 2 (.or (.op 4 2 (.op 8 0 (.op 6 2 (.op 13 2 (.op 14 0 (.op 15 2 .nil)))))) (.op 6 2 (.op 4 2 (.op 8 0 (.op 13 2 (.op 14 0 (.op 15 2 .nil)))))))) (.op 6 2 (.op 3 2 (.op 4 2 (.op 8 0 (.op 13 2 (.op 14 0 (.op 15 2 .nil))))))))))))))))))))]⟩) (rs := [ResultVar.cell 10 24,ResultVar.tmp 11]) Try.mixed Try.func11 rfl rfl rfl (Nat.le_of_ble_eq_true rfl) (by kernel_rfl) ?_
    simp (disch := omega) only [↓aI,↓zP,aD,zD,aS,simprocAttr,Try.facts,zA]
    intro k8 hk80 hk8 k10 hk100 hk10
    have n8 := bK hk10
    have hk10H := am hk10
    simp (disch := omega) only [↓aI,↓zP,aD,zD,aS,simprocAttr,Try.facts,zA,aP,n8,bH hk8 n8]
    simp (disch := omega) only [↓aI,↓zP,aD,zD,aS,simprocAttr,Try.facts,zA,ah]
    exact ⟨_,rfl,H,Sub.set_new hk10H,rfl,s⟩
end Go.Proofs.Ytaehlpkinbpmbaa
