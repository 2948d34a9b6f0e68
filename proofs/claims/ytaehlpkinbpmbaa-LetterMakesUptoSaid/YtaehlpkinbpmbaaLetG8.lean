/-
  Several texts in one: each says what it proves.
  Conditions: none. Lemmas only.
-/
import Derived.Test.YtaehlpkinbpmbaaLetG7
set_option linter.all false
section
set_option linter.unusedSimpArgs false
set_option linter.unusedVariables false
set_option maxRecDepth 20000
set_option maxHeartbeats 8000000
namespace Go.Proofs.Ytaehlpkinbpmbaa
open Go Go.Abs Go.Proofs
theorem changed_prev (l : Ltr) (how : UInt8) (at_ : Int) (hl : okL l) (hd : HdR l) (ha : -9223372036854775808 ≤ at_ ∧ at_ < 9223372036854775808) (hm4 : how.toNat % 8 = 7) (hz : 0 < l.prev.length) : APure Try.prog 15 [.agg (ltrC l),.sc (.int .u8 how.toNat),.sc (.int .i64 at_)] (.agg (ltrC (chL l how at_))) := by
  have hR : chL l how at_ = { l with prev := flipB l.prev (flipI at_ l.prev.length) } := by
    unfold chL flipI
    rw [hm4]
    unfold chM flipL flipI
    simp only []
    rw [if_neg (by omega)]
  rw [hR]
  have hj : flipI at_ l.prev.length < l.prev.length := Nat.mod_lt _ hz
  have hju : IntKind.u64.wrap at_ % (l.prev.length : Int) = ((flipI at_ l.prev.length : Nat) : Int) := by
    have h0 : 0 ≤ IntKind.u64.wrap at_ := by rw [IntKind.wrap_u64]; omega
    unfold flipI
    rw [Int.natCast_emod,Int.toNat_of_nonneg h0]
  have hmod : ((how.toNat : Nat) : Int).tmod 8 = 7 := by rw [tmodN _ 8,hm4]; rfl
  generalize hJ : flipI at_ l.prev.length = j at *
  obtain ⟨hpv,hbx,hsg⟩ := hl
  obtain ⟨kd,au,ep,nu,pv,bx,sg⟩ := l
  simp only [ltrC] at *
  have o1 := lown_pure pv (by omega)
  have o2 := lown_pure bx (by omega)
  have o3 := lown_pure sg (by omega)
  have p0 := fun H => lown_own pv (by omega) H
  have h8 := encB_len pv
  have hg := getD8 hj
  have hju2 : (IntKind.u64.wrap at_).tmod (pv.length : Int) = (j : Nat) := by
    rw [← hju]
    exact Int.tmod_eq_emod_of_nonneg (by rw [IntKind.wrap_u64]; omega)
  intro H
  suffices X : ACalls Try.prog 15 [.agg [.sc (.int .i64 kd),.sc (.int .i64 au),.sc (.int .i64 ep),.sc (.int .i64 nu),bytesV pv,bytesV bx,bytesV sg],.sc (.int .u8 how.toNat),.sc (.int .i64 at_)] H (fun v H' => ∃ k,H k = none ∧ H' k = some (.cells (bw (flipB pv j)) 5 1) ∧ Abs.Sub H H' ∧ v = .agg [.sc (.int .i64 kd),.sc (.int .i64 au),.sc (.int .i64 ep),.sc (.int .i64 nu),.own k 0 pv.length,bytesV bx,bytesV sg]) by
    have hfl : (flipB pv j).length = pv.length := by unfold flipB; rw [List.length_set]
    refine X.freeze ?_
    rintro v H' ⟨k,fk,vk,hs,rfl⟩
    refine ⟨_,H,hs,Frz.aggL (FrzL.at (l := [.sc (.int .i64 kd),.sc (.int .i64 au),.sc (.int .i64 ep),.sc (.int .i64 nu)]) (r := [bytesV bx,bytesV sg]) (Frz.own vk fk (by rw [encB_len,hfl]; omega))),?_,rfl⟩
    rw [Nat.mul_one,List.take_of_length_le (by rw [encB_len,hfl]; exact Nat.le_refl _),← hfl]
    rfl
  refine ao (c := ⟨Try.prog,109,[(1,[0,1,2,0,1,0,0,1,0,0,2,0,2,0,2]),(11,[0,1,0,0,0,1,1,0,0,0,0,1,0,0,2]),(14,[0,1,0,0,0,1,1,0,0,0,0,1,0,0,2]),(19,[0,1,0,0,0,1,1,0,0,0,0,1,0,0,2]),(4000004,[3,6]),(4000006,[3,6]),(4000008,[3,6]),(4000011,[3,6]),(4000014,[3,6]),(4000016,[3,6]),(4000019,[3,6]),(4000001,[1,2,3,6])],[],[(1,(.op 0 0 (.op 3 0 (.op 6 0 (.or (.op 1 2 (.or (.op 2 2 (.or (.op 4 2 (.op 5 0 (.op 7 2 (.op 8 0 (.op 9 0 (.op 10 2 (.op 11 0 (.op 12 2 (.op 13 0 (.op 14 2 .nil)))))))))) (.op 7 2 (.op 4 2 (.op 5 0 (.op 8 0 (.op 9 0 (.op 10 2 (.op 11 0 (.op 12 2 (.op 13 0 (.op 14 2 .nil)))))))))))) (.or (.op 4 2 (.or (.op 2 2 (.op 5 0 (.op 7 2 (.op 8 0 (.op 9 0 (.op 10 2 (.op 11 0 (.op 12 2 (.op 13 0 (.op 14 2 .nil)))))))))) (.op 7 2 (.op 2 2 (.op 5 0 (.op 8 0 (.op 9 0 (.op 10 2 (.op 11 0 (.op 12 2 (.op 13 0 (.op 14 2 .nil)))))))))))) (.op 7 2 (.or (.op 2 2 (.op 4 2 (.op 5 0 (.op 8 0 (.op 9 0 (.op 10 2 (.op 11 0 (.op 12 2 (.op 13 0 (.op 14 2 .nil)))))))))) (.op 4 2 (.op 2 2 (.op 5 0 (.op 8 0 (.op 9 0 (.op 10 2 (.op 11 0 (.op 12 2 (.op 13 0 (.op 14 2 .nil))))))))))))))) (.or (.op 4 2 (.or (.op 1 2 (.or (.op 2 2 (.op 5 0 (.op 7 2 (.op 8 0 (.op 9 0 (.op 10 2 (.op 11 0 (.op 12 2 (.op 13 0 (.op 14 2 .nil)))))))))) (.op 7 2 (.op 2 2 (.op 5 0 (.op 8 0 (.op 9 0 (.op 10 2 (.op 11 0 (.op 12 2 (.op 13 0 (.op 14 2 .nil)))))))))))) (.op 7 2 (.op 1 2 (.op 2 2 (.op 5 0 (.op 8 0 (.op 9 0 (.op 10 2 (.op 11 0 (.op 12 2 (.op 13 0 (.op 14 2 .nil))))))))))))) (.op 7 2 (.or (.op 1 2 (.or (.op 2 2 (.op 4 2 (.op 5 0 (.op 8 0 (.op 9 0 (.op 10 2 (.op 11 0 (.op 12 2 (.op 13 0 (.op 14 2 .nil)))))))))) (.op 4 2 (.op 2 2 (.op 5 0 (.op 8 0 (.op 9 0 (.op 10 2 (.op 11 0 (.op 12 2 (.op 13 0 (.op 14 2 .nil)))))))))))) (.op 4 2 (.op 1 2 (.op 2 2 (.op 5 0 (.op 8 0 (.op 9 0 (.op 10 2 (.op 11 0 (.op 12 2 (.op 13 0 (.op 14 2 .nil)))))))))))))))))))]⟩) (rs := [ResultVar.cell 6 24]) Try.mixed Try.func15 rfl rfl rfl (Nat.le_of_ble_eq_true rfl) (by kernel_rfl) ?_
  simp (disch := omega) only [↓aI,↓zP,aD,zD,aS,simprocAttr,Try.facts,zA,hmod]
  intro k3 hk30 hk3 k6 hk60 hk6
  have n36 := bK hk6
  have f6 := am hk6
  refine eI (fun σ F => ∃ k,H k = none ∧ ¬ k3 = k ∧ ¬ k6 = k ∧ F k = some (.cells (bw pv) 5 1) ∧ F k6 = some (.cells [.sc (.int .i64 0),.sc (.int .i64 0),.sc (.int .i64 0),.sc (.int .i64 0),.sc (.slice none 0 0),.sc (.slice none 0 0),.sc (.slice none 0 0)] 24 7) ∧
    F k3 = some (.cells [.sc (.int .i64 kd),.sc (.int .i64 au),.sc (.int .i64 ep),.sc (.int .i64 nu),.own k 0 pv.length,bytesV bx,bytesV sg] 24 7) ∧ Abs.Sub H F ∧ σ 1 = .sc (.int .u8 how.toNat) ∧ σ 2 = .sc (.int .i64 at_) ∧ σ 3 = .ptr k3 0 ∧ σ 6 = .ptr k6 0) ?_ ?_
  · simp (disch := omega) only [↓aI,↓zP,aD,zD,aS,simprocAttr,Try.facts,zA,hmod,aP,n36]
    repeat' first
      | refine And.intro ?_ ?_
      | (refine CallK.i (p0 _) ?_
         rintro v E ⟨k,hk0,hk,rfl,rfl⟩
         have nk6 := bK hk
         have nk3 := bK (am hk)
         have fk := am (am hk)
         try simp (disch := omega) only [↓aI,↓zP,aD,zD,aS,simprocAttr,Try.facts,zA,hmod,aP,n36,nk3,nk6,ah])
      | (refine CallP.i o1 ?_
         try simp (disch := omega) only [↓aI,↓zP,aD,zD,aS,simprocAttr,Try.facts,zA,hmod,aP,n36,ah])
      | (refine CallP.i o2 ?_
         try simp (disch := omega) only [↓aI,↓zP,aD,zD,aS,simprocAttr,Try.facts,zA,hmod,aP,n36,ah])
      | (refine CallP.i o3 ?_
         try simp (disch := omega) only [↓aI,↓zP,aD,zD,aS,simprocAttr,Try.facts,zA,hmod,aP,n36,ah])
    all_goals
      exact ⟨k,fk,nk3,nk6,by rw [aP (fun e => nk3 e.symm),set_get],rfl,((((Abs.Sub.refl H).set_free hk3).set_free f6).set_free fk).set_free hk3⟩
  · rintro σ F ⟨k,fk,nk3,nk6,vk,v6,v3,hs,s1,s2,s3,s6⟩
    have hpl := put_bytes (l := pv) (i := j) (b := pv[j] ^^^ 1) hj
    have hfl : pv.set j (pv[j] ^^^ 1) = flipB pv j := by
      unfold flipB
      rw [getD_lt8 hj]
    rw [hfl] at hpl
    have wu : IntKind.u64.wrap ((pv.length : Nat) : Int) = (pv.length : Nat) := by rw [IntKind.wrap_u64]; omega
    have wj : IntKind.i64.wrap ((j : Nat) : Int) = (j : Nat) := wrapI (by omega)
    have hx := n8xor pv[j] 1
    rw [show ((1 : UInt8).toNat : Int) = 1 from rfl] at hx
    simp (disch := omega) only [↓aI,↓zP,aD,zD,aS,simprocAttr,Try.facts,s1,s2,s3,s6,v3,vk,v6,zA,hmod,h8,wu,hju2,hg,wj,hx,hpl,aP,nk3,nk6,n36,ah]
    exact ⟨_,rfl,_,Abs.Sub.refl _,k,fk,by rw [aP (fun e => nk6 e.symm),set_get],(hs.set_free fk).set_free f6,rfl⟩
end Go.Proofs.Ytaehlpkinbpmbaa
end
section
set_option linter.unusedSimpArgs false
set_option linter.unusedVariables false
set_option maxRecDepth 20000
set_option maxHeartbeats 8000000
namespace Go.Proofs.Ytaehlpkinbpmbaa
open Go Go.Abs Go.Proofs
theorem changed_box (l : Ltr) (how : UInt8) (at_ : Int) (hl : okL l) (hd : HdR l) (ha : -9223372036854775808 ≤ at_ ∧ at_ < 9223372036854775808) (hm4 : how.toNat % 8 = 4) (hz : 0 < l.box.length) : APure Try.prog 15 [.agg (ltrC l),.sc (.int .u8 how.toNat),.sc (.int .i64 at_)] (.agg (ltrC (chL l how at_))) := by
  have hR : chL l how at_ = { l with box := flipB l.box (flipI at_ l.box.length) } := by
    unfold chL flipI
    rw [hm4]
    unfold chM flipL flipI
    simp only []
    rw [if_neg (by omega)]
  rw [hR]
  have hj : flipI at_ l.box.length < l.box.length := Nat.mod_lt _ hz
  have hju : IntKind.u64.wrap at_ % (l.box.length : Int) = ((flipI at_ l.box.length : Nat) : Int) := by
    have h0 : 0 ≤ IntKind.u64.wrap at_ := by rw [IntKind.wrap_u64]; omega
    unfold flipI
    rw [Int.natCast_emod,Int.toNat_of_nonneg h0]
  have hmod : ((how.toNat : Nat) : Int).tmod 8 = 4 := by rw [tmodN _ 8,hm4]; rfl
  generalize hJ : flipI at_ l.box.length = j at *
  obtain ⟨hpv,hbx,hsg⟩ := hl
  obtain ⟨kd,au,ep,nu,pv,bx,sg⟩ := l
  simp only [ltrC] at *
  have o1 := lown_pure pv (by omega)
  have o2 := lown_pure bx (by omega)
  have o3 := lown_pure sg (by omega)
  have p0 := fun H => lown_own bx (by omega) H
  have h8 := encB_len bx
  have hg := getD8 hj
  have hju2 : (IntKind.u64.wrap at_).tmod (bx.length : Int) = (j : Nat) := by
    rw [← hju]
    exact Int.tmod_eq_emod_of_nonneg (by rw [IntKind.wrap_u64]; omega)
  intro H
  suffices X : ACalls Try.prog 15 [.agg [.sc (.int .i64 kd),.sc (.int .i64 au),.sc (.int .i64 ep),.sc (.int .i64 nu),bytesV pv,bytesV bx,bytesV sg],.sc (.int .u8 how.toNat),.sc (.int .i64 at_)] H (fun v H' => ∃ k,H k = none ∧ H' k = some (.cells (bw (flipB bx j)) 5 1) ∧ Abs.Sub H H' ∧ v = .agg [.sc (.int .i64 kd),.sc (.int .i64 au),.sc (.int .i64 ep),.sc (.int .i64 nu),bytesV pv,.own k 0 bx.length,bytesV sg]) by
    have hfl : (flipB bx j).length = bx.length := by unfold flipB; rw [List.length_set]
    refine X.freeze ?_
    rintro v H' ⟨k,fk,vk,hs,rfl⟩
    refine ⟨_,H,hs,Frz.aggL (FrzL.at (l := [.sc (.int .i64 kd),.sc (.int .i64 au),.sc (.int .i64 ep),.sc (.int .i64 nu),bytesV pv]) (r := [bytesV sg]) (Frz.own vk fk (by rw [encB_len,hfl]; omega))),?_,rfl⟩
    rw [Nat.mul_one,List.take_of_length_le (by rw [encB_len,hfl]; exact Nat.le_refl _),← hfl]
    rfl
  refine ao (c := ⟨Try.prog,109,[(1,[0,1,0,0,1,2,0,1,0,0,2,0,2,0,2]),(11,[0,1,0,0,0,1,1,0,0,0,0,1,0,0,2]),(14,[0,1,0,0,0,1,1,0,0,0,0,1,0,0,2]),(19,[0,1,0,0,0,1,1,0,0,0,0,1,0,0,2]),(4000004,[3,6]),(4000006,[3,6]),(4000008,[3,6]),(4000011,[3,6]),(4000014,[3,6]),(4000016,[3,6]),(4000019,[3,6]),(4000001,[1,2,3,6])],[],[(1,(.op 0 0 (.op 3 0 (.op 6 0 (.or (.op 1 2 (.op 2 0 (.or (.op 4 2 (.or (.op 5 2 (.op 7 2 (.op 8 0 (.op 9 0 (.op 10 2 (.op 11 0 (.op 12 2 (.op 13 0 (.op 14 2 .nil))))))))) (.op 7 2 (.op 9 0 (.op 5 2 (.op 8 0 (.op 10 2 (.op 11 0 (.op 12 2 (.op 13 0 (.op 14 2 .nil))))))))))) (.op 7 2 (.op 4 2 (.op 9 0 (.op 5 2 (.op 8 0 (.op 10 2 (.op 11 0 (.op 12 2 (.op 13 0 (.op 14 2 .nil))))))))))))) (.or (.op 4 2 (.or (.op 1 2 (.op 2 0 (.or (.op 5 2 (.op 7 2 (.op 8 0 (.op 9 0 (.op 10 2 (.op 11 0 (.op 12 2 (.op 13 0 (.op 14 2 .nil))))))))) (.op 7 2 (.op 9 0 (.op 5 2 (.op 8 0 (.op 10 2 (.op 11 0 (.op 12 2 (.op 13 0 (.op 14 2 .nil)))))))))))) (.op 7 2 (.op 1 2 (.op 2 0 (.op 9 0 (.op 5 2 (.op 8 0 (.op 10 2 (.op 11 0 (.op 12 2 (.op 13 0 (.op 14 2 .nil))))))))))))) (.op 7 2 (.or (.op 1 2 (.op 2 0 (.op 4 2 (.op 9 0 (.op 5 2 (.op 8 0 (.op 10 2 (.op 11 0 (.op 12 2 (.op 13 0 (.op 14 2 .nil))))))))))) (.op 4 2 (.op 1 2 (.op 2 0 (.op 9 0 (.op 5 2 (.op 8 0 (.op 10 2 (.op 11 0 (.op 12 2 (.op 13 0 (.op 14 2 .nil)))))))))))))))))))]⟩) (rs := [ResultVar.cell 6 24]) Try.mixed Try.func15 rfl rfl rfl (Nat.le_of_ble_eq_true rfl) (by kernel_rfl) ?_
  simp (disch := omega) only [↓aI,↓zP,aD,zD,aS,simprocAttr,Try.facts,zA,hmod]
  intro k3 hk30 hk3 k6 hk60 hk6
  have n36 := bK hk6
  have f6 := am hk6
  refine eI (fun σ F => ∃ k,H k = none ∧ ¬ k3 = k ∧ ¬ k6 = k ∧ F k = some (.cells (bw bx) 5 1) ∧ F k6 = some (.cells [.sc (.int .i64 0),.sc (.int .i64 0),.sc (.int .i64 0),.sc (.int .i64 0),.sc (.slice none 0 0),.sc (.slice none 0 0),.sc (.slice none 0 0)] 24 7) ∧
    F k3 = some (.cells [.sc (.int .i64 kd),.sc (.int .i64 au),.sc (.int .i64 ep),.sc (.int .i64 nu),bytesV pv,.own k 0 bx.length,bytesV sg] 24 7) ∧ Abs.Sub H F ∧ σ 1 = .sc (.int .u8 how.toNat) ∧ σ 2 = .sc (.int .i64 at_) ∧ σ 3 = .ptr k3 0 ∧ σ 6 = .ptr k6 0) ?_ ?_
  · simp (disch := omega) only [↓aI,↓zP,aD,zD,aS,simprocAttr,Try.facts,zA,hmod,aP,n36]
    repeat' first
      | refine And.intro ?_ ?_
      | (refine CallK.i (p0 _) ?_
         rintro v E ⟨k,hk0,hk,rfl,rfl⟩
         have nk6 := bK hk
         have nk3 := bK (am hk)
         have fk := am (am hk)
         try simp (disch := omega) only [↓aI,↓zP,aD,zD,aS,simprocAttr,Try.facts,zA,hmod,aP,n36,nk3,nk6,ah])
      | (refine CallP.i o1 ?_
         try simp (disch := omega) only [↓aI,↓zP,aD,zD,aS,simprocAttr,Try.facts,zA,hmod,aP,n36,ah])
      | (refine CallP.i o2 ?_
         try simp (disch := omega) only [↓aI,↓zP,aD,zD,aS,simprocAttr,Try.facts,zA,hmod,aP,n36,ah])
      | (refine CallP.i o3 ?_
         try simp (disch := omega) only [↓aI,↓zP,aD,zD,aS,simprocAttr,Try.facts,zA,hmod,aP,n36,ah])
    all_goals
      exact ⟨k,fk,nk3,nk6,by rw [aP (fun e => nk3 e.symm),set_get],rfl,((((Abs.Sub.refl H).set_free hk3).set_free f6).set_free fk).set_free hk3⟩
  · rintro σ F ⟨k,fk,nk3,nk6,vk,v6,v3,hs,s1,s2,s3,s6⟩
    have hpl := put_bytes (l := bx) (i := j) (b := bx[j] ^^^ 1) hj
    have hfl : bx.set j (bx[j] ^^^ 1) = flipB bx j := by
      unfold flipB
      rw [getD_lt8 hj]
    rw [hfl] at hpl
    have wu : IntKind.u64.wrap ((bx.length : Nat) : Int) = (bx.length : Nat) := by rw [IntKind.wrap_u64]; omega
    have wj : IntKind.i64.wrap ((j : Nat) : Int) = (j : Nat) := wrapI (by omega)
    have hx := n8xor bx[j] 1
    rw [show ((1 : UInt8).toNat : Int) = 1 from rfl] at hx
    simp (disch := omega) only [↓aI,↓zP,aD,zD,aS,simprocAttr,Try.facts,s1,s2,s3,s6,v3,vk,v6,zA,hmod,h8,wu,hju2,hg,wj,hx,hpl,aP,nk3,nk6,n36,ah]
    exact ⟨_,rfl,_,Abs.Sub.refl _,k,fk,by rw [aP (fun e => nk6 e.symm),set_get],(hs.set_free fk).set_free f6,rfl⟩
end Go.Proofs.Ytaehlpkinbpmbaa
end
section
set_option linter.unusedSimpArgs false
set_option linter.unusedVariables false
set_option maxRecDepth 20000
set_option maxHeartbeats 8000000
namespace Go.Proofs.Ytaehlpkinbpmbaa
open Go Go.Abs Go.Proofs
theorem changed_sig (l : Ltr) (how : UInt8) (at_ : Int) (hl : okL l) (hd : HdR l) (ha : -9223372036854775808 ≤ at_ ∧ at_ < 9223372036854775808) (hm4 : how.toNat % 8 = 5) (hz : 0 < l.sig.length) : APure Try.prog 15 [.agg (ltrC l),.sc (.int .u8 how.toNat),.sc (.int .i64 at_)] (.agg (ltrC (chL l how at_))) := by
  have hR : chL l how at_ = { l with sig := flipB l.sig (flipI at_ l.sig.length) } := by
    unfold chL flipI
    rw [hm4]
    unfold chM flipL flipI
    simp only []
    rw [if_neg (by omega)]
  rw [hR]
  have hj : flipI at_ l.sig.length < l.sig.length := Nat.mod_lt _ hz
  have hju : IntKind.u64.wrap at_ % (l.sig.length : Int) = ((flipI at_ l.sig.length : Nat) : Int) := by
    have h0 : 0 ≤ IntKind.u64.wrap at_ := by rw [IntKind.wrap_u64]; omega
    unfold flipI
    rw [Int.natCast_emod,Int.toNat_of_nonneg h0]
  have hmod : ((how.toNat : Nat) : Int).tmod 8 = 5 := by rw [tmodN _ 8,hm4]; rfl
  generalize hJ : flipI at_ l.sig.length = j at *
  obtain ⟨hpv,hbx,hsg⟩ := hl
  obtain ⟨kd,au,ep,nu,pv,bx,sg⟩ := l
  simp only [ltrC] at *
  have o1 := lown_pure pv (by omega)
  have o2 := lown_pure bx (by omega)
  have o3 := lown_pure sg (by omega)
  have p0 := fun H => lown_own sg (by omega) H
  have h8 := encB_len sg
  have hg := getD8 hj
  have hju2 : (IntKind.u64.wrap at_).tmod (sg.length : Int) = (j : Nat) := by
    rw [← hju]
    exact Int.tmod_eq_emod_of_nonneg (by rw [IntKind.wrap_u64]; omega)
  intro H
  suffices X : ACalls Try.prog 15 [.agg [.sc (.int .i64 kd),.sc (.int .i64 au),.sc (.int .i64 ep),.sc (.int .i64 nu),bytesV pv,bytesV bx,bytesV sg],.sc (.int .u8 how.toNat),.sc (.int .i64 at_)] H (fun v H' => ∃ k,H k = none ∧ H' k = some (.cells (bw (flipB sg j)) 5 1) ∧ Abs.Sub H H' ∧ v = .agg [.sc (.int .i64 kd),.sc (.int .i64 au),.sc (.int .i64 ep),.sc (.int .i64 nu),bytesV pv,bytesV bx,.own k 0 sg.length]) by
    have hfl : (flipB sg j).length = sg.length := by unfold flipB; rw [List.length_set]
    refine X.freeze ?_
    rintro v H' ⟨k,fk,vk,hs,rfl⟩
    refine ⟨_,H,hs,Frz.aggL (FrzL.at (l := [.sc (.int .i64 kd),.sc (.int .i64 au),.sc (.int .i64 ep),.sc (.int .i64 nu),bytesV pv,bytesV bx]) (r := []) (Frz.own vk fk (by rw [encB_len,hfl]; omega))),?_,rfl⟩
    rw [Nat.mul_one,List.take_of_length_le (by rw [encB_len,hfl]; exact Nat.le_refl _),← hfl]
    rfl
  refine ao (c := ⟨Try.prog,109,[(1,[0,1,0,0,1,0,0,1,2,0,2,0,2,0,2]),(11,[0,1,0,0,0,1,1,0,0,0,0,1,0,0,2]),(14,[0,1,0,0,0,1,1,0,0,0,0,1,0,0,2]),(19,[0,1,0,0,0,1,1,0,0,0,0,1,0,0,2]),(4000004,[3,6]),(4000006,[3,6]),(4000008,[3,6]),(4000011,[3,6]),(4000014,[3,6]),(4000016,[3,6]),(4000019,[3,6]),(4000001,[1,2,3,6])],[],[(1,(.op 0 0 (.op 3 0 (.op 6 0 (.or (.op 1 2 (.op 2 0 (.or (.op 4 2 (.op 5 0 (.op 7 2 (.op 9 0 (.op 8 2 (.op 10 2 (.op 11 0 (.op 12 2 (.op 13 0 (.op 14 2 .nil)))))))))) (.op 7 2 (.op 4 2 (.op 5 0 (.op 9 0 (.op 8 2 (.op 10 2 (.op 11 0 (.op 12 2 (.op 13 0 (.op 14 2 .nil))))))))))))) (.or (.op 4 2 (.or (.op 1 2 (.op 2 0 (.op 5 0 (.op 7 2 (.op 9 0 (.op 8 2 (.op 10 2 (.op 11 0 (.op 12 2 (.op 13 0 (.op 14 2 .nil))))))))))) (.op 7 2 (.op 1 2 (.op 2 0 (.op 5 0 (.op 9 0 (.op 8 2 (.op 10 2 (.op 11 0 (.op 12 2 (.op 13 0 (.op 14 2 .nil))))))))))))) (.op 7 2 (.or (.op 1 2 (.op 2 0 (.op 4 2 (.op 5 0 (.op 9 0 (.op 8 2 (.op 10 2 (.op 11 0 (.op 12 2 (.op 13 0 (.op 14 2 .nil))))))))))) (.op 4 2 (.op 1 2 (.op 2 0 (.op 5 0 (.op 9 0 (.op 8 2 (.op 10 2 (.op 11 0 (.op 12 2 (.op 13 0 (.op 14 2 .nil)))))))))))))))))))]⟩) (rs := [ResultVar.cell 6 24]) Try.mixed Try.func15 rfl rfl rfl (Nat.le_of_ble_eq_true rfl) (by kernel_rfl) ?_
  simp (disch := omega) only [↓aI,↓zP,aD,zD,aS,simprocAttr,Try.facts,zA,hmod]
  intro k3 hk30 hk3 k6 hk60 hk6
  have n36 := bK hk6
  have f6 := am hk6
  refine eI (fun σ F => ∃ k,H k = none ∧ ¬ k3 = k ∧ ¬ k6 = k ∧ F k = some (.cells (bw sg) 5 1) ∧ F k6 = some (.cells [.sc (.int .i64 0),.sc (.int .i64 0),.sc (.int .i64 0),.sc (.int .i64 0),.sc (.slice none 0 0),.sc (.slice none 0 0),.sc (.slice none 0 0)] 24 7) ∧
    F k3 = some (.cells [.sc (.int .i64 kd),.sc (.int .i64 au),.sc (.int .i64 ep),.sc (.int .i64 nu),bytesV pv,bytesV bx,.own k 0 sg.length] 24 7) ∧ Abs.Sub H F ∧ σ 1 = .sc (.int .u8 how.toNat) ∧ σ 2 = .sc (.int .i64 at_) ∧ σ 3 = .ptr k3 0 ∧ σ 6 = .ptr k6 0) ?_ ?_
  · simp (disch := omega) only [↓aI,↓zP,aD,zD,aS,simprocAttr,Try.facts,zA,hmod,aP,n36]
    repeat' first
      | refine And.intro ?_ ?_
      | (refine CallK.i (p0 _) ?_
         rintro v E ⟨k,hk0,hk,rfl,rfl⟩
         have nk6 := bK hk
         have nk3 := bK (am hk)
         have fk := am (am hk)
         try simp (disch := omega) only [↓aI,↓zP,aD,zD,aS,simprocAttr,Try.facts,zA,hmod,aP,n36,nk3,nk6,ah])
      | (refine CallP.i o1 ?_
         try simp (disch := omega) only [↓aI,↓zP,aD,zD,aS,simprocAttr,Try.facts,zA,hmod,aP,n36,ah])
      | (refine CallP.i o2 ?_
         try simp (disch := omega) only [↓aI,↓zP,aD,zD,aS,simprocAttr,Try.facts,zA,hmod,aP,n36,ah])
      | (refine CallP.i o3 ?_
         try simp (disch := omega) only [↓aI,↓zP,aD,zD,aS,simprocAttr,Try.facts,zA,hmod,aP,n36,ah])
    all_goals
      exact ⟨k,fk,nk3,nk6,by rw [aP (fun e => nk3 e.symm),set_get],rfl,((((Abs.Sub.refl H).set_free hk3).set_free f6).set_free fk).set_free hk3⟩
  · rintro σ F ⟨k,fk,nk3,nk6,vk,v6,v3,hs,s1,s2,s3,s6⟩
    have hpl := put_bytes (l := sg) (i := j) (b := sg[j] ^^^ 1) hj
    have hfl : sg.set j (sg[j] ^^^ 1) = flipB sg j := by
      unfold flipB
      rw [getD_lt8 hj]
    rw [hfl] at hpl
    have wu : IntKind.u64.wrap ((sg.length : Nat) : Int) = (sg.length : Nat) := by rw [IntKind.wrap_u64]; omega
    have wj : IntKind.i64.wrap ((j : Nat) : Int) = (j : Nat) := wrapI (by omega)
    have hx := n8xor sg[j] 1
    rw [show ((1 : UInt8).toNat : Int) = 1 from rfl] at hx
    simp (disch := omega) only [↓aI,↓zP,aD,zD,aS,simprocAttr,Try.facts,s1,s2,s3,s6,v3,vk,v6,zA,hmod,h8,wu,hju2,hg,wj,hx,hpl,aP,nk3,nk6,n36,ah]
    exact ⟨_,rfl,_,Abs.Sub.refl _,k,fk,by rw [aP (fun e => nk6 e.symm),set_get],(hs.set_free fk).set_free f6,rfl⟩
end Go.Proofs.Ytaehlpkinbpmbaa
end
section
set_option linter.unusedSimpArgs false
set_option linter.unusedVariables false
set_option maxRecDepth 20000
set_option maxHeartbeats 8000000
namespace Go.Proofs.Ytaehlpkinbpmbaa
open Go Go.Abs Go.Proofs
theorem changed_pure (l : Ltr) (how : UInt8) (at_ : Int) (hl : okL l) (hd : HdR l) (ha : -9223372036854775808 ≤ at_ ∧ at_ < 9223372036854775808) : APure Try.prog 15 [.agg (ltrC l),.sc (.int .u8 how.toNat),.sc (.int .i64 at_)] (.agg (ltrC (chL l how at_))) := by
  by_cases c4 : how.toNat % 8 = 4 ∧ 0 < l.box.length
  · exact changed_box l how at_ hl hd ha c4.1 c4.2
  · by_cases c5 : how.toNat % 8 = 5 ∧ 0 < l.sig.length
    · exact changed_sig l how at_ hl hd ha c5.1 c5.2
    · by_cases c7 : how.toNat % 8 = 7 ∧ 0 < l.prev.length
      · exact changed_prev l how at_ hl hd ha c7.1 c7.2
      · exact changed_plain l how at_ hl hd ⟨fun h => by omega,fun h => by omega,fun h => by omega⟩
theorem flipL_len (b : List UInt8) (at_ : Int) : (flipL b at_).length = b.length := by
  unfold flipL flipB
  split
  · rfl
  · rw [List.length_set]
theorem chL_ok {l : Ltr} (how : UInt8) (at_ : Int) (h : okL l) : okL (chL l how at_) := by
  unfold chL chM
  obtain ⟨h1,h2,h3⟩ := h
  split
  all_goals first | exact ⟨h1,h2,h3⟩ | exact ⟨h1,by rw [flipL_len]; exact h2,h3⟩ | exact ⟨h1,h2,by rw [flipL_len]; exact h3⟩ | exact ⟨by rw [flipL_len]; exact h1,h2,h3⟩
structure HdS (l : Ltr) : Prop where
  k : 0 ≤ l.kind ∧ l.kind ≤ 10000000
  a : 0 ≤ l.author ∧ l.author ≤ 10000000
  e : 0 ≤ l.epoch ∧ l.epoch ≤ 10000000
  n : 0 ≤ l.number ∧ l.number ≤ 10000000
  p : l.prev.length ≤ 32
theorem HdS.r {l : Ltr} (h : HdS l) : HdR l := ⟨by have := h.k; omega,by have := h.a; omega,by have := h.e; omega,by have := h.n; omega,by have := h.p; omega⟩
theorem HdS.ch {l : Ltr} (h : HdS l) (how : UInt8) (at_ : Int) : HdR (chL l how at_) := by
  unfold chL chM
  obtain ⟨h1,h2,h3,h4,h5⟩ := h
  have hk : 0 ≤ 2 + (l.kind - 1).tmod 3 ∧ 2 + (l.kind - 1).tmod 3 ≤ 10 := by
    rcases (by omega : l.kind = 0 ∨ 1 ≤ l.kind) with h | h
    · rw [h]; decide
    · obtain ⟨n,hn⟩ : ∃ n : Nat,l.kind - 1 = n := ⟨(l.kind - 1).toNat,by omega⟩
      rw [hn,tmodN n 3]
      have := Nat.mod_lt n (show 0 < 3 by omega)
      generalize n % 3 = q at *
      omega
  have ha : ((l.author + 1).toNat % 5 : Nat) < 5 := Nat.mod_lt _ (by omega)
  split
  · exact ⟨by simp only []; omega,by simp only []; omega,by simp only []; omega,by simp only []; omega,by simp only []; omega⟩
  · exact ⟨by simp only []; omega,by simp only []; omega,by simp only []; omega,by simp only []; omega,by simp only []; omega⟩
  · exact ⟨by simp only []; omega,by simp only []; omega,by simp only []; omega,by simp only []; omega,by simp only []; omega⟩
  · exact ⟨by simp only []; omega,by simp only []; omega,by simp only []; omega,by simp only []; omega,by simp only []; omega⟩
  · exact ⟨by simp only []; omega,by simp only []; omega,by simp only []; omega,by simp only []; omega,by simp only []; omega⟩
  · exact ⟨by simp only []; omega,by simp only []; omega,by simp only []; omega,by simp only []; omega,by simp only []; omega⟩
  · exact ⟨by simp only []; omega,by simp only []; omega,by simp only []; omega,by simp only []; omega,by simp only []; rw [flipL_len]; omega⟩
  · exact ⟨by omega,by omega,by omega,by omega,by omega⟩
def sameK (a b : Lnk) : Bool := a.author == b.author && (a.seq == b.seq && (a.epoch == b.epoch && (a.prev == b.prev && a.body == b.body)))
theorem samelink_pure (a b : Lnk) : APure Try.prog 19 [.agg (lnkC a),.agg (lnkC b)] (.sc (.bool (sameK a b))) := by
  unfold sameK
  obtain ⟨a1,a2,a3,a4,a5⟩ := a
  obtain ⟨b1,b2,b3,b4,b5⟩ := b
  simp only [lnkC]
  generalize h1 : (a1 == b1) = c1
  generalize h2 : (a2 == b2) = c2
  generalize h3 : (a3 == b3) = c3
  generalize h4 : (a4 == b4) = c4
  generalize h5 : (a5 == b5) = c5
  cases c1
  · skip
    refine az (c := ⟨Try.prog,42,[(1000000,[3,2])],[],[]⟩) (rs := [ResultVar.tmp 4]) Try.mixed Try.func19 rfl rfl rfl (Nat.le_of_ble_eq_true rfl) (by kernel_rfl) fun H => ?_
    simp (disch := omega) only [↓aI,↓zP,aD,zD,aS,simprocAttr,Try.facts,h1,h2,h3,h4,h5,bO]
    intro k3 hk30 hk3 k6 hk60 hk6
    simp (disch := omega) only [↓aI,↓zP,aD,zD,aS,simprocAttr,Try.facts,h1,h2,h3,h4,h5,bO,aj hk6,aj hk3]
    exact ⟨rfl,Abs.Sub.refl _⟩
  · skip
    cases c2
    · skip
      refine az (c := ⟨Try.prog,42,[(1000000,[3,2])],[],[]⟩) (rs := [ResultVar.tmp 4]) Try.mixed Try.func19 rfl rfl rfl (Nat.le_of_ble_eq_true rfl) (by kernel_rfl) fun H => ?_
      simp (disch := omega) only [↓aI,↓zP,aD,zD,aS,simprocAttr,Try.facts,h1,h2,h3,h4,h5,bO]
      intro k3 hk30 hk3 k6 hk60 hk6
      simp (disch := omega) only [↓aI,↓zP,aD,zD,aS,simprocAttr,Try.facts,h1,h2,h3,h4,h5,bO,aj hk6,aj hk3]
      exact ⟨rfl,Abs.Sub.refl _⟩
    · skip
      cases c3
      · skip
        refine az (c := ⟨Try.prog,42,[(1000000,[3,2])],[],[]⟩) (rs := [ResultVar.tmp 4]) Try.mixed Try.func19 rfl rfl rfl (Nat.le_of_ble_eq_true rfl) (by kernel_rfl) fun H => ?_
        simp (disch := omega) only [↓aI,↓zP,aD,zD,aS,simprocAttr,Try.facts,h1,h2,h3,h4,h5,bO]
        intro k3 hk30 hk3 k6 hk60 hk6
        simp (disch := omega) only [↓aI,↓zP,aD,zD,aS,simprocAttr,Try.facts,h1,h2,h3,h4,h5,bO,aj hk6,aj hk3]
        exact ⟨rfl,Abs.Sub.refl _⟩
      · skip
        cases c4
        · skip
          refine az (c := ⟨Try.prog,42,[(1000000,[3,2])],[],[]⟩) (rs := [ResultVar.tmp 4]) Try.mixed Try.func19 rfl rfl rfl (Nat.le_of_ble_eq_true rfl) (by kernel_rfl) fun H => ?_
          simp (disch := omega) only [↓aI,↓zP,aD,zD,aS,simprocAttr,Try.facts,h1,h2,h3,h4,h5,bO]
          intro k3 hk30 hk3 k6 hk60 hk6
          simp (disch := omega) only [↓aI,↓zP,aD,zD,aS,simprocAttr,Try.facts,h1,h2,h3,h4,h5,bO,aj hk6,aj hk3]
          exact ⟨rfl,Abs.Sub.refl _⟩
        · skip
          cases c5
          · skip
            refine az (c := ⟨Try.prog,42,[(1000000,[3,2])],[],[]⟩) (rs := [ResultVar.tmp 4]) Try.mixed Try.func19 rfl rfl rfl (Nat.le_of_ble_eq_true rfl) (by kernel_rfl) fun H => ?_
            simp (disch := omega) only [↓aI,↓zP,aD,zD,aS,simprocAttr,Try.facts,h1,h2,h3,h4,h5,bO]
            intro k3 hk30 hk3 k6 hk60 hk6
            simp (disch := omega) only [↓aI,↓zP,aD,zD,aS,simprocAttr,Try.facts,h1,h2,h3,h4,h5,bO,aj hk6,aj hk3]
            exact Abs.Sub.refl _
          · skip
            refine az (c := ⟨Try.prog,42,[(1000000,[3,2])],[],[]⟩) (rs := [ResultVar.tmp 4]) Try.mixed Try.func19 rfl rfl rfl (Nat.le_of_ble_eq_true rfl) (by kernel_rfl) fun H => ?_
            simp (disch := omega) only [↓aI,↓zP,aD,zD,aS,simprocAttr,Try.facts,h1,h2,h3,h4,h5,bO]
            intro k3 hk30 hk3 k6 hk60 hk6
            simp (disch := omega) only [↓aI,↓zP,aD,zD,aS,simprocAttr,Try.facts,h1,h2,h3,h4,h5,bO,aj hk6,aj hk3]
            exact Abs.Sub.refl _
end Go.Proofs.Ytaehlpkinbpmbaa
end
