/-
  Rosters: an entry that is read: the document's reader, the walk.
  Conditions: none. Lemmas only.
-/
import Derived.Test.YtjlnpngaiphnmaaGreatRzG2
set_option linter.all false
set_option linter.unusedSimpArgs false
set_option linter.unusedVariables false
set_option maxRecDepth 20000
set_option maxHeartbeats 16000000
namespace Go.Proofs.YtjlnpngaiphnmaaGreat
open Go Go.Abs Go.Proofs
theorem rdRep_sw {α : Type} {one : RS → RS × α} (h : ∀ s,Sw s (one s).1) (s : RS) : ∀ n,Sw s (ig one n s).1
  | 0 => Sw.rfl'
  | n + 1 => (rdRep_sw h s n).trans (h _)
theorem rdMem_sw (s : RS) : Sw s (gY s).1 := ((im s 0 4).w.trans (rdTx_sw _ 64)).trans (rdTx_sw _ 64)
theorem rdNd_sw (s : RS) : Sw s (iR s).1 := (im s 0 4).w.trans (im _ 0 1048576).w
theorem rdBx_sw (s : RS) : Sw s (io s).1 := rdTx_sw s 64
theorem rrget_pure (s : RS) (hl : s.1.length ≤ 2000000) : APure Tryz.prog 8 [rsV s] (.tup [rsV (jq s).1,.agg (fX (jq s).2)]) := by
  have hR : jq s = fixE (gJ (fR io (gJ (fR iR (fR gY (gJ (fK (fK s 1 1).1 1 65536).1 64).1).1).1 64).1).1 64).1
    ⟨(fK (fK s 1 1).1 1 65536).2,(gJ (fK (fK s 1 1).1 1 65536).1 64).2,(fR gY (gJ (fK (fK s 1 1).1 1 65536).1 64).1).2,
      (fR iR (fR gY (gJ (fK (fK s 1 1).1 1 65536).1 64).1).1).2,(gJ (fR iR (fR gY (gJ (fK (fK s 1 1).1 1 65536).1 64).1).1).1 64).2,
      (fR io (gJ (fR iR (fR gY (gJ (fK (fK s 1 1).1 1 65536).1 64).1).1).1 64).1).2,
      (gJ (fR io (gJ (fR iR (fR gY (gJ (fK (fK s 1 1).1 1 65536).1 64).1).1).1 64).1).1 64).2⟩ := rfl
  generalize jq s = R at *
  have h1 := iQ s 1 1 hl
  have l1 := Nat.le_trans (im s 1 1).le hl
  generalize fK s 1 1 = K at *
  obtain ⟨s1,kd⟩ := K
  simp only at h1 hR l1
  have h2 := iQ s1 1 65536 l1
  have l2 := Nat.le_trans (im s1 1 65536).le l1
  generalize fK s1 1 65536 = K at *
  obtain ⟨s2,nn⟩ := K
  simp only at h2 hR l2
  have h3 := jW s2 64 l2
  have l3 := Nat.le_trans (rdTx_sw s2 64).le l2
  generalize gJ s2 64 = K at *
  obtain ⟨s3,pv⟩ := K
  simp only at h3 hR l3
  have hnA := iQ s3 0 5 (by assumption)
  have hinA := jf s3 5 (by decide)
  have lnA := Nat.le_trans (im s3 0 5).le (by assumption)
  have hqA : fR gY s3 = ig gY (fK s3 0 5).2.toNat (fK s3 0 5).1 := rfl
  have lrA := iS gY s3
  have hswA := fun i => rdRep_sw rdMem_sw (fK s3 0 5).1 i
  generalize fR gY s3 = LA at *
  generalize fK s3 0 5 = NA at *
  obtain ⟨tA,mA⟩ := NA
  simp only [] at *
  obtain ⟨cA,rfl⟩ : ∃ n : Nat,mA = (n : Int) := ⟨mA.toNat,by omega⟩
  rw [Int.toNat_natCast] at hqA
  obtain ⟨PA,hPA⟩ : ∃ P : Nat → RS × List Mem,∀ i,P i = ig gY i tA := ⟨_,fun _ => rfl⟩
  have hzA : PA 0 = (tA,[]) := by rw [hPA]; rfl
  have hsA : ∀ i,PA (i + 1) = ((gY (PA i).1).1,(PA i).2 ++ [(gY (PA i).1).2]) := fun i => by rw [hPA,hPA]; rfl
  have hlA : ∀ i,(PA i).2.length = i := fun i => by rw [hPA]; exact iy _ _ _
  have hwA : ∀ i,(PA i).1.1.length ≤ 2000000 := fun i => by rw [hPA]; exact Nat.le_trans (hswA i).le lnA
  rw [← hPA] at hqA
  subst hqA
  have lAn := hwA cA
  clear hPA hswA
  have hnB := iQ (PA cA).1 0 5 (by assumption)
  have hinB := jf (PA cA).1 5 (by decide)
  have lnB := Nat.le_trans (im (PA cA).1 0 5).le (by assumption)
  have hqB : fR iR (PA cA).1 = ig iR (fK (PA cA).1 0 5).2.toNat (fK (PA cA).1 0 5).1 := rfl
  have lrB := iS iR (PA cA).1
  have hswB := fun i => rdRep_sw rdNd_sw (fK (PA cA).1 0 5).1 i
  generalize fR iR (PA cA).1 = LB at *
  generalize fK (PA cA).1 0 5 = NB at *
  obtain ⟨tB,mB⟩ := NB
  simp only [] at *
  obtain ⟨cB,rfl⟩ : ∃ n : Nat,mB = (n : Int) := ⟨mB.toNat,by omega⟩
  rw [Int.toNat_natCast] at hqB
  obtain ⟨PB,hPB⟩ : ∃ P : Nat → RS × List Nd,∀ i,P i = ig iR i tB := ⟨_,fun _ => rfl⟩
  have hzB : PB 0 = (tB,[]) := by rw [hPB]; rfl
  have hsB : ∀ i,PB (i + 1) = ((iR (PB i).1).1,(PB i).2 ++ [(iR (PB i).1).2]) := fun i => by rw [hPB,hPB]; rfl
  have hlB : ∀ i,(PB i).2.length = i := fun i => by rw [hPB]; exact iy _ _ _
  have hwB : ∀ i,(PB i).1.1.length ≤ 2000000 := fun i => by rw [hPB]; exact Nat.le_trans (hswB i).le lnB
  rw [← hPB] at hqB
  subst hqB
  have lBn := hwB cB
  clear hPB hswB
  have h6 := jW (PB cB).1 64 lBn
  have l6 := Nat.le_trans (rdTx_sw (PB cB).1 64).le lBn
  generalize gJ (PB cB).1 64 = K at *
  obtain ⟨s6,on⟩ := K
  simp only at h6 hR l6
  have hnC := iQ s6 0 5 (by assumption)
  have hinC := jf s6 5 (by decide)
  have lnC := Nat.le_trans (im s6 0 5).le (by assumption)
  have hqC : fR io s6 = ig io (fK s6 0 5).2.toNat (fK s6 0 5).1 := rfl
  have lrC := iS io s6
  have hswC := fun i => rdRep_sw rdBx_sw (fK s6 0 5).1 i
  generalize fR io s6 = LC at *
  generalize fK s6 0 5 = NC at *
  obtain ⟨tC,mC⟩ := NC
  simp only [] at *
  obtain ⟨cC,rfl⟩ : ∃ n : Nat,mC = (n : Int) := ⟨mC.toNat,by omega⟩
  rw [Int.toNat_natCast] at hqC
  obtain ⟨PC,hPC⟩ : ∃ P : Nat → RS × List (List UInt8),∀ i,P i = ig io i tC := ⟨_,fun _ => rfl⟩
  have hzC : PC 0 = (tC,[]) := by rw [hPC]; rfl
  have hsC : ∀ i,PC (i + 1) = ((io (PC i).1).1,(PC i).2 ++ [(io (PC i).1).2]) := fun i => by rw [hPC,hPC]; rfl
  have hlC : ∀ i,(PC i).2.length = i := fun i => by rw [hPC]; exact iy _ _ _
  have hwC : ∀ i,(PC i).1.1.length ≤ 2000000 := fun i => by rw [hPC]; exact Nat.le_trans (hswC i).le lnC
  rw [← hPC] at hqC
  subst hqC
  have lCn := hwC cC
  clear hPC hswC
  have h8 := jW (PC cC).1 64 lCn
  generalize gJ (PC cC).1 64 = K at *
  obtain ⟨s8,sg⟩ := K
  simp only at h8 hR
  have hrt := jx ⟨nn,pv,(PA cA).2,(PB cB).2,on,(PC cC).2,sg⟩ (by show (PA cA).2.length ≤ _; omega) (by show (PB cB).2.length ≤ _; omega) (by show (PC cC).2.length ≤ _; omega)
  unfold fixE failS at hR
  generalize hob : gK ⟨nn,pv,(PA cA).2,(PB cB).2,on,(PC cC).2,sg⟩ = ob at hrt hR
  simp only [fX] at hrt
  refine az (c := ⟨Tryz.prog,145,[(35,[1,0,2,2]),(1000027,[11]),(4000031,[1,2,3,4,136]),(4000030,[1,2,3,4]),(4000029,[1,2,3,4,5,10]),(4000027,[1,2,3,4,5,10,11,12]),(4000023,[1,2,3,4,5]),(4000022,[1,2,3,4]),(4000021,[1,2,3,4,5,8]),(4000020,[1,2,3,4,5,8,9]),(4000019,[1,2,3,4,5,8,9]),(4000014,[1,2,3,4,5]),(4000013,[1,2,3,4,5,6]),(4000012,[1,2,3,4,5,6,7]),(4000011,[1,2,3,4,5,6,7]),(4000010,[1,2,3,4,5,6,7]),(4000005,[1,2,3,4,5]),(4000004,[1,2,3,4]),(4000003,[1,2,3,4]),(4000002,[1,2,3,4])],[],[(35,(.op 0 4 (.or (.op 1 3 (.op 2 2 (.op 3 2 .nil))) (.op 2 2 (.op 1 3 (.op 3 2 .nil))))))]⟩) (rs := [ResultVar.cell 2 36,ResultVar.cell 3 27]) Tryz.mixed Tryz.func8 rfl rfl rfl (Nat.le_of_ble_eq_true rfl) (by kernel_rfl) fun H => ?_
  simp (disch := omega) only [↓aI,↓zP,aD,zD,aS,simprocAttr,Tryz.facts,zA,ah]
  intro b1 hb10 hb1 b2 hb20 hb2 b3 hb30 hb3
  have g := ((Bx.nil.box (rsO s) hb1).box rsZ hb2).box ii hb3
  generalize hE0 : ((H.set b1 (rsO s)).set b2 rsZ).set b3 ii = E0 at g ⊢
  try simp (disch := omega) only [↓aI,↓zP,aD,zD,aS,simprocAttr,Tryz.facts,zA,ah,ey]
  intro b4 hb40 hb4
  have g := g.box ii hb4
  try simp (disch := omega) only [↓aI,↓zP,aD,zD,aS,simprocAttr,Tryz.facts,zA,ah,ey]
  generalize hE1 : E0.set b4 ii = E1 at g ⊢
  have v1 := g.at 0 rfl
  have v4 := g.at 3 rfl
  have n14 := g.ne 0 3 rfl rfl (by decide)
  have n41 : ¬ b4 = b1 := fun e => n14 e.symm
  try simp (disch := omega) only [↓aI,↓zP,aD,zD,aS,simprocAttr,Tryz.facts,zA,v1,v4]

  first | refine CallK.p (h1) ?_ | refine CallP.i (h1) ?_
  simp (disch := omega) only [↓aI,↓zP,aD,zD,aS,simprocAttr,Tryz.facts,zA,v1,v4,aP,n41,n14,ah,ey]
  have g := g.put 0 (rsO s1) rfl
  generalize hE : E1.set b1 (rsO s1) = E2 at g ⊢
  clear hE
  have v1 := g.at 0 rfl
  have v4 := g.at 3 rfl
  try simp (disch := omega) only [↓aI,↓zP,aD,zD,aS,simprocAttr,Tryz.facts,zA,v1,v4]

  first | refine CallK.p (h2) ?_ | refine CallP.i (h2) ?_
  simp (disch := omega) only [↓aI,↓zP,aD,zD,aS,simprocAttr,Tryz.facts,zA,v1,v4,aP,n41,n14,ah,ey]
  have g := (g.put 0 (rsO s2) rfl).put 3 (enO [inA nn,nlS,nlS,nlS,nlS,nlS,nlS]) rfl
  generalize hE : (E2.set b1 (rsO s2)).set b4 (enO [inA nn,nlS,nlS,nlS,nlS,nlS,nlS]) = E3 at g ⊢
  clear hE
  have v1 := g.at 0 rfl
  have v4 := g.at 3 rfl
  try simp (disch := omega) only [↓aI,↓zP,aD,zD,aS,simprocAttr,Tryz.facts,zA,v1,v4]

  first | refine CallK.p (h3) ?_ | refine CallP.i (h3) ?_
  simp (disch := omega) only [↓aI,↓zP,aD,zD,aS,simprocAttr,Tryz.facts,zA,v1,v4,aP,n41,n14,ah,ey]
  have g := (g.put 0 (rsO s3) rfl).put 3 (enO [inA nn,eu pv,nlS,nlS,nlS,nlS,nlS]) rfl
  generalize hE : (E3.set b1 (rsO s3)).set b4 (enO [inA nn,eu pv,nlS,nlS,nlS,nlS,nlS]) = E4 at g ⊢
  clear hE
  have v1 := g.at 0 rfl
  have v4 := g.at 3 rfl
  try simp (disch := omega) only [↓aI,↓zP,aD,zD,aS,simprocAttr,Tryz.facts,zA,v1,v4]

  first | refine CallK.p (hnA) ?_ | refine CallP.i (hnA) ?_
  simp (disch := omega) only [↓aI,↓zP,aD,zD,aS,simprocAttr,Tryz.facts,zA,v1,v4,aP,n41,n14,ah,ey]
  have g := g.put 0 (rsO tA) rfl
  generalize hE : E4.set b1 (rsO tA) = E5 at g ⊢
  clear hE
  have v1 := g.at 0 rfl
  have v4 := g.at 3 rfl
  try simp (disch := omega) only [↓aI,↓zP,aD,zD,aS,simprocAttr,Tryz.facts,zA,v1,v4]

  refine tok_c b4 2 v4 rfl fun qA hqA0 hqA => ?_
  have g := (g.box .nilt hqA).put 3 (enO [inA nn,eu pv,.imm qA [] 0,nlS,nlS,nlS,nlS]) rfl
  rw [show (List.set ([inA nn,eu pv,nlS,nlS,nlS,nlS,nlS] : List AV) 2 (.imm qA [] 0)) = [inA nn,eu pv,.imm qA [] 0,nlS,nlS,nlS,nlS] from rfl]
  generalize hE : (E5.set qA .nilt).set b4 (enO [inA nn,eu pv,.imm qA [] 0,nlS,nlS,nlS,nlS]) = XA at g ⊢
  clear hE v1 v4
  refine br (c := ⟨Tryz.prog,145,[(35,[1,0,2,2]),(1000027,[11]),(4000031,[1,2,3,4,136]),(4000030,[1,2,3,4]),(4000029,[1,2,3,4,5,10]),(4000027,[1,2,3,4,5,10,11,12]),(4000023,[1,2,3,4,5]),(4000022,[1,2,3,4]),(4000021,[1,2,3,4,5,8]),(4000020,[1,2,3,4,5,8,9]),(4000019,[1,2,3,4,5,8,9]),(4000014,[1,2,3,4,5]),(4000013,[1,2,3,4,5,6]),(4000012,[1,2,3,4,5,6,7]),(4000011,[1,2,3,4,5,6,7]),(4000010,[1,2,3,4,5,6,7]),(4000005,[1,2,3,4,5]),(4000004,[1,2,3,4]),(4000003,[1,2,3,4]),(4000002,[1,2,3,4])],[],[(35,(.op 0 4 (.or (.op 1 3 (.op 2 2 (.op 3 2 .nil))) (.op 2 2 (.op 1 3 (.op 3 2 .nil))))))]⟩) Tryz.mixed (by kernel_rfl) (fun mm σ E => ∃ (iA ktA : Nat) (oA : AObj),iA + mm = cA ∧ ktA ≠ 0 ∧ cy 30 3 oA (iA * 3) ∧ Bx H E [(b1,rsO (PA iA).1),(b2,rsZ),(b3,ii),(b4,enO [inA nn,eu pv,.imm ktA (List.flatMap fL (PA iA).2) iA,nlS,nlS,nlS,nlS]),(ktA,oA)] ∧
    σ 1 = .ptr b1 0 ∧ σ 2 = .ptr b2 0 ∧ σ 3 = .ptr b3 0 ∧ σ 4 = .ptr b4 0 ∧ σ 5 = .sc (.int .i64 (cA : Nat)) ∧ σ 6 = .sc (.int .i64 (iA : Nat))) cA ?_ ?_
  · refine ⟨0,qA,.nilt,by omega,hqA0,.inr ⟨rfl,rfl⟩,by rw [hzA]; exact g,?_⟩
    simp (disch := omega) only [↓aI,↓zP,aD,zD,aS,simprocAttr,Tryz.facts,zA]
    try rfl
  clear g
  rintro mm σ E ⟨iA,ktA,oA,him,hkt0,ho,g,s1',s2',s3',s4',s5',s6'⟩
  have v1 := g.at 0 rfl
  have v4 := g.at 3 rfl
  have vk := g.at 4 rfl
  have n14 := g.ne 0 3 rfl rfl (by decide)
  have n41 : ¬ b4 = b1 := fun e => n14 e.symm
  by_cases hlt : iA < cA
  · have hsi := hsA iA
    have hcl : (List.flatMap fL (PA iA).2).length = (iA * 3) := by rw [fF fU,hlA]
    have k1 := iQ (PA iA).1 0 4 (hwA iA)
    have m1 := Nat.le_trans (im (PA iA).1 0 4).le (hwA iA)
    have k2 := jW (fK (PA iA).1 0 4).1 64 m1
    have m2 := Nat.le_trans (rdTx_sw (fK (PA iA).1 0 4).1 64).le m1
    have k3 := jW (gJ (fK (PA iA).1 0 4).1 64).1 64 m2
    unfold gY at hsi
    generalize gJ (gJ (fK (PA iA).1 0 4).1 64).1 64 = R3 at *
    generalize gJ (fK (PA iA).1 0 4).1 64 = R2 at *
    generalize fK (PA iA).1 0 4 = R1 at *
    obtain ⟨x1,y1⟩ := R1
    obtain ⟨x2,y2⟩ := R2
    obtain ⟨x3,y3⟩ := R3
    simp only [] at *
    generalize hPi : PA iA = Pi at *
    simp (disch := omega) only [↓aI,↓zP,aD,zD,aS,simprocAttr,Tryz.facts,zA,s1',s2',s3',s4',s5',s6',aP,ah,ey,v1,v4]
    intro b7 hb70 hb7
    have g := g.box (.cells [inA 0,nlS,nlS] 30 3) hb7
    try simp (disch := omega) only [↓aI,↓zP,aD,zD,aS,simprocAttr,Tryz.facts,zA,s1',s2',s3',s4',s5',s6',aP,ah,ey,v1,v4]
    generalize hE : E.set b7 (.cells [inA 0,nlS,nlS] 30 3) = F0 at g ⊢
    clear hE v1 v4 vk
    have v1 := g.at 0 rfl
    have v4 := g.at 3 rfl
    have v7 := g.at 5 rfl
    have n17 := g.ne 0 5 rfl rfl (by decide)
    have n71 : ¬ b7 = b1 := fun e => n17 e.symm
    have n47 := g.ne 3 5 rfl rfl (by decide)
    have n74 : ¬ b7 = b4 := fun e => n47 e.symm
    try simp (disch := omega) only [↓aI,↓zP,aD,zD,aS,simprocAttr,Tryz.facts,zA,s1',s2',s3',s4',s5',s6',aP,ah,ey,v1,v4,v7]
    first | refine CallK.p (k1) ?_ | refine CallP.i (k1) ?_
    simp (disch := omega) only [↓aI,↓zP,aD,zD,aS,simprocAttr,Tryz.facts,zA,s1',s2',s3',s4',s5',s6',v1,v4,v7,aP,n71,n17,ah,ey]
    have g := (g.put 0 (rsO x1) rfl).put 5 (.cells [inA y1,nlS,nlS] 30 3) rfl
    generalize hE : (F0.set b1 (rsO x1)).set b7 (.cells [inA y1,nlS,nlS] 30 3) = F1 at g ⊢
    clear hE v1 v4 v7
    have v1 := g.at 0 rfl
    have v4 := g.at 3 rfl
    have v7 := g.at 5 rfl
    have vk := g.at 4 rfl
    try simp (disch := omega) only [↓aI,↓zP,aD,zD,aS,simprocAttr,Tryz.facts,zA,s1',s2',s3',s4',s5',s6',v1,v4,v7,vk,hcl,ho,fO,ah]
    first | refine CallK.p (k2) ?_ | refine CallP.i (k2) ?_
    simp (disch := omega) only [↓aI,↓zP,aD,zD,aS,simprocAttr,Tryz.facts,zA,s1',s2',s3',s4',s5',s6',v1,v4,v7,aP,n71,n17,ah,ey]
    have g := (g.put 0 (rsO x2) rfl).put 5 (.cells [inA y1,eu y2,nlS] 30 3) rfl
    generalize hE : (F1.set b1 (rsO x2)).set b7 (.cells [inA y1,eu y2,nlS] 30 3) = F2 at g ⊢
    clear hE v1 v4 v7
    have v1 := g.at 0 rfl
    have v4 := g.at 3 rfl
    have v7 := g.at 5 rfl
    have vk := g.at 4 rfl
    try simp (disch := omega) only [↓aI,↓zP,aD,zD,aS,simprocAttr,Tryz.facts,zA,s1',s2',s3',s4',s5',s6',v1,v4,v7,vk,hcl,ho,fO,ah]
    first | refine CallK.p (k3) ?_ | refine CallP.i (k3) ?_
    simp (disch := omega) only [↓aI,↓zP,aD,zD,aS,simprocAttr,Tryz.facts,zA,s1',s2',s3',s4',s5',s6',v1,v4,v7,aP,n71,n17,ah,ey]
    have g := (g.put 0 (rsO x3) rfl).put 5 (.cells [inA y1,eu y2,eu y3] 30 3) rfl
    generalize hE : (F2.set b1 (rsO x3)).set b7 (.cells [inA y1,eu y2,eu y3] 30 3) = F3 at g ⊢
    clear hE v1 v4 v7
    have v1 := g.at 0 rfl
    have v4 := g.at 3 rfl
    have v7 := g.at 5 rfl
    have vk := g.at 4 rfl
    try simp (disch := omega) only [↓aI,↓zP,aD,zD,aS,simprocAttr,Tryz.facts,zA,s1',s2',s3',s4',s5',s6',v1,v4,v7,vk,hcl,ho,fO,ah]
    intro k2' o2 hk20 hk2 ho2
    have hkk : (F3.kill ktA) k2' = none := by simp [AH.kill,hk2]
    have n4k := bA v4 hk2
    have n4t := g.ne 3 4 rfl rfl (by decide)
    have g := (((g.kill 4 rfl).box o2 hkk).put 3 (enO [inA nn,eu pv,.imm k2' (List.flatMap fL Pi.2 ++ [inA y1,eu y2,eu y3]) (iA + 1),nlS,nlS,nlS,nlS]) rfl).forget 4
    try simp (disch := omega) only [↓aI,↓zP,aD,zD,aS,simprocAttr,Tryz.facts,zA,s1',s2',s3',s4',s5',s6',v1,v4,v7,vk,aP,bZ,n4k,n4t,hcl,ho,fO,ah]
    refine ⟨mm - 1,by omega,iA + 1,k2',o2,by omega,hk20,?_,?_,?_⟩
    · first | exact ho2 | (rw [Nat.add_mul,Nat.one_mul]; exact ho2) | (simpa [Nat.add_mul] using ho2)
    · rw [hsi]
      simp only [List.flatMap_append,List.flatMap_cons,List.flatMap_nil,List.append_nil,fL,ndC]
      exact g
    · rfl
  obtain rfl : iA = cA := by omega
  have hflA := hlA iA
  have g := g.forget 4
  clear vk ho
  generalize hPi : PA iA = QA at *
  simp (disch := omega) only [↓aI,↓zP,aD,zD,aS,simprocAttr,Tryz.facts,zA,s1',s2',s3',s4',s5',s6',v1,v4]
  first | refine CallK.p (hnB) ?_ | refine CallP.i (hnB) ?_
  simp (disch := omega) only [↓aI,↓zP,aD,zD,aS,simprocAttr,Tryz.facts,zA,s1',s2',s3',s4',v1,v4,aP,n41,n14,ah,ey]
  have g := g.put 0 (rsO tB) rfl
  generalize hE : E.set b1 (rsO tB) = EB1 at g ⊢
  clear hE v1 v4
  have v1 := g.at 0 rfl
  have v4 := g.at 3 rfl
  try simp (disch := omega) only [↓aI,↓zP,aD,zD,aS,simprocAttr,Tryz.facts,zA,s1',s2',s3',s4',v1,v4]
  refine tok_c b4 3 v4 rfl fun qB hqB0 hqB => ?_
  have g := (g.box .nilt hqB).put 3 (enO [inA nn,eu pv,.imm ktA (List.flatMap fL QA.2) iA,.imm qB [] 0,nlS,nlS,nlS]) rfl
  rw [show (List.set ([inA nn,eu pv,.imm ktA (List.flatMap fL QA.2) iA,nlS,nlS,nlS,nlS] : List AV) 3 (.imm qB [] 0)) = [inA nn,eu pv,.imm ktA (List.flatMap fL QA.2) iA,.imm qB [] 0,nlS,nlS,nlS] from rfl]
  generalize hE : (EB1.set qB .nilt).set b4 (enO [inA nn,eu pv,.imm ktA (List.flatMap fL QA.2) iA,.imm qB [] 0,nlS,nlS,nlS]) = XB at g ⊢
  clear hE v1 v4
  refine br (c := ⟨Tryz.prog,145,[(35,[1,0,2,2]),(1000027,[11]),(4000031,[1,2,3,4,136]),(4000030,[1,2,3,4]),(4000029,[1,2,3,4,5,10]),(4000027,[1,2,3,4,5,10,11,12]),(4000023,[1,2,3,4,5]),(4000022,[1,2,3,4]),(4000021,[1,2,3,4,5,8]),(4000020,[1,2,3,4,5,8,9]),(4000019,[1,2,3,4,5,8,9]),(4000014,[1,2,3,4,5]),(4000013,[1,2,3,4,5,6]),(4000012,[1,2,3,4,5,6,7]),(4000011,[1,2,3,4,5,6,7]),(4000010,[1,2,3,4,5,6,7]),(4000005,[1,2,3,4,5]),(4000004,[1,2,3,4]),(4000003,[1,2,3,4]),(4000002,[1,2,3,4])],[],[(35,(.op 0 4 (.or (.op 1 3 (.op 2 2 (.op 3 2 .nil))) (.op 2 2 (.op 1 3 (.op 3 2 .nil))))))]⟩) Tryz.mixed (by kernel_rfl) (fun mm σ E => ∃ (iB ktB : Nat) (oB : AObj),iB + mm = cB ∧ ktB ≠ 0 ∧ cy 84 2 oB (iB * 2) ∧ Bx H E [(b1,rsO (PB iB).1),(b2,rsZ),(b3,ii),(b4,enO [inA nn,eu pv,.imm ktA (List.flatMap fL QA.2) iA,.imm ktB (List.flatMap ndC (PB iB).2) iB,nlS,nlS,nlS]),(ktB,oB)] ∧
    σ 1 = .ptr b1 0 ∧ σ 2 = .ptr b2 0 ∧ σ 3 = .ptr b3 0 ∧ σ 4 = .ptr b4 0 ∧ σ 5 = .sc (.int .i64 (cB : Nat)) ∧ σ 8 = .sc (.int .i64 (iB : Nat))) cB ?_ ?_
  · refine ⟨0,qB,.nilt,by omega,hqB0,.inr ⟨rfl,rfl⟩,by rw [hzB]; exact g,?_⟩
    simp (disch := omega) only [↓aI,↓zP,aD,zD,aS,simprocAttr,Tryz.facts,zA,s1',s2',s3',s4']
    try rfl
  clear g
  rintro mm σ E ⟨iB,ktB,oB,him,hkt0,ho,g,s1',s2',s3',s4',s5',s6'⟩
  have v1 := g.at 0 rfl
  have v4 := g.at 3 rfl
  have vk := g.at 4 rfl
  have n14 := g.ne 0 3 rfl rfl (by decide)
  have n41 : ¬ b4 = b1 := fun e => n14 e.symm
  by_cases hlt : iB < cB
  · have hsi := hsB iB
    have hcl : (List.flatMap ndC (PB iB).2).length = (iB * 2) := by rw [fF gZ,hlB]
    have k1 := iQ (PB iB).1 0 4 (hwB iB)
    have m1 := Nat.le_trans (im (PB iB).1 0 4).le (hwB iB)
    have k2 := iQ (fK (PB iB).1 0 4).1 0 1048576 m1
    unfold iR at hsi
    generalize fK (fK (PB iB).1 0 4).1 0 1048576 = R2 at *
    generalize fK (PB iB).1 0 4 = R1 at *
    obtain ⟨x1,y1⟩ := R1
    obtain ⟨x2,y2⟩ := R2
    simp only [] at *
    generalize hPi : PB iB = Pi at *
    simp (disch := omega) only [↓aI,↓zP,aD,zD,aS,simprocAttr,Tryz.facts,zA,s1',s2',s3',s4',s5',s6',aP,ah,ey,v1,v4]
    intro b7 hb70 hb7
    have g := g.box (.cells [inA 0,inA 0] 84 2) hb7
    try simp (disch := omega) only [↓aI,↓zP,aD,zD,aS,simprocAttr,Tryz.facts,zA,s1',s2',s3',s4',s5',s6',aP,ah,ey,v1,v4]
    generalize hE : E.set b7 (.cells [inA 0,inA 0] 84 2) = F0 at g ⊢
    clear hE v1 v4 vk
    have v1 := g.at 0 rfl
    have v4 := g.at 3 rfl
    have v7 := g.at 5 rfl
    have n17 := g.ne 0 5 rfl rfl (by decide)
    have n71 : ¬ b7 = b1 := fun e => n17 e.symm
    have n47 := g.ne 3 5 rfl rfl (by decide)
    have n74 : ¬ b7 = b4 := fun e => n47 e.symm
    try simp (disch := omega) only [↓aI,↓zP,aD,zD,aS,simprocAttr,Tryz.facts,zA,s1',s2',s3',s4',s5',s6',aP,ah,ey,v1,v4,v7]
    first | refine CallK.p (k1) ?_ | refine CallP.i (k1) ?_
    simp (disch := omega) only [↓aI,↓zP,aD,zD,aS,simprocAttr,Tryz.facts,zA,s1',s2',s3',s4',s5',s6',v1,v4,v7,aP,n71,n17,ah,ey]
    have g := (g.put 0 (rsO x1) rfl).put 5 (.cells [inA y1,inA 0] 84 2) rfl
    generalize hE : (F0.set b1 (rsO x1)).set b7 (.cells [inA y1,inA 0] 84 2) = F1 at g ⊢
    clear hE v1 v4 v7
    have v1 := g.at 0 rfl
    have v4 := g.at 3 rfl
    have v7 := g.at 5 rfl
    have vk := g.at 4 rfl
    try simp (disch := omega) only [↓aI,↓zP,aD,zD,aS,simprocAttr,Tryz.facts,zA,s1',s2',s3',s4',s5',s6',v1,v4,v7,vk,hcl,ho,fO,ah]
    first | refine CallK.p (k2) ?_ | refine CallP.i (k2) ?_
    simp (disch := omega) only [↓aI,↓zP,aD,zD,aS,simprocAttr,Tryz.facts,zA,s1',s2',s3',s4',s5',s6',v1,v4,v7,aP,n71,n17,ah,ey]
    have g := (g.put 0 (rsO x2) rfl).put 5 (.cells [inA y1,inA y2] 84 2) rfl
    generalize hE : (F1.set b1 (rsO x2)).set b7 (.cells [inA y1,inA y2] 84 2) = F2 at g ⊢
    clear hE v1 v4 v7
    have v1 := g.at 0 rfl
    have v4 := g.at 3 rfl
    have v7 := g.at 5 rfl
    have vk := g.at 4 rfl
    try simp (disch := omega) only [↓aI,↓zP,aD,zD,aS,simprocAttr,Tryz.facts,zA,s1',s2',s3',s4',s5',s6',v1,v4,v7,vk,hcl,ho,fO,ah]
    intro k2' o2 hk20 hk2 ho2
    have hkk : (F2.kill ktB) k2' = none := by simp [AH.kill,hk2]
    have n4k := bA v4 hk2
    have n4t := g.ne 3 4 rfl rfl (by decide)
    have g := (((g.kill 4 rfl).box o2 hkk).put 3 (enO [inA nn,eu pv,.imm ktA (List.flatMap fL QA.2) iA,.imm k2' (List.flatMap ndC Pi.2 ++ [inA y1,inA y2]) (iB + 1),nlS,nlS,nlS]) rfl).forget 4
    try simp (disch := omega) only [↓aI,↓zP,aD,zD,aS,simprocAttr,Tryz.facts,zA,s1',s2',s3',s4',s5',s6',v1,v4,v7,vk,aP,bZ,n4k,n4t,hcl,ho,fO,ah]
    refine ⟨mm - 1,by omega,iB + 1,k2',o2,by omega,hk20,?_,?_,?_⟩
    · first | exact ho2 | (rw [Nat.add_mul,Nat.one_mul]; exact ho2) | (simpa [Nat.add_mul] using ho2)
    · rw [hsi]
      simp only [List.flatMap_append,List.flatMap_cons,List.flatMap_nil,List.append_nil,fL,ndC]
      exact g
    · rfl
  obtain rfl : iB = cB := by omega
  have hflB := hlB iB
  have g := g.forget 4
  clear vk ho
  generalize hPi : PB iB = QB at *
  simp (disch := omega) only [↓aI,↓zP,aD,zD,aS,simprocAttr,Tryz.facts,zA,s1',s2',s3',s4',s5',s6',v1,v4]
  first | refine CallK.p (h6) ?_ | refine CallP.i (h6) ?_
  simp (disch := omega) only [↓aI,↓zP,aD,zD,aS,simprocAttr,Tryz.facts,zA,s1',s2',s3',s4',v1,v4,aP,n41,n14,ah,ey]
  have g := (g.put 0 (rsO s6) rfl).put 3 (enO [inA nn,eu pv,.imm ktA (List.flatMap fL QA.2) iA,.imm ktB (List.flatMap ndC QB.2) iB,eu on,nlS,nlS]) rfl
  generalize hE : (E.set b1 (rsO s6)).set b4 (enO [inA nn,eu pv,.imm ktA (List.flatMap fL QA.2) iA,.imm ktB (List.flatMap ndC QB.2) iB,eu on,nlS,nlS]) = EC0 at g ⊢
  clear hE v1 v4
  have v1 := g.at 0 rfl
  have v4 := g.at 3 rfl
  try simp (disch := omega) only [↓aI,↓zP,aD,zD,aS,simprocAttr,Tryz.facts,zA,s1',s2',s3',s4',v1,v4]
  first | refine CallK.p (hnC) ?_ | refine CallP.i (hnC) ?_
  simp (disch := omega) only [↓aI,↓zP,aD,zD,aS,simprocAttr,Tryz.facts,zA,s1',s2',s3',s4',v1,v4,aP,n41,n14,ah,ey]
  have g := g.put 0 (rsO tC) rfl
  generalize hE : EC0.set b1 (rsO tC) = EC1 at g ⊢
  clear hE v1 v4
  have v1 := g.at 0 rfl
  have v4 := g.at 3 rfl
  try simp (disch := omega) only [↓aI,↓zP,aD,zD,aS,simprocAttr,Tryz.facts,zA,s1',s2',s3',s4',v1,v4]
  refine tok_c b4 5 v4 rfl fun qC hqC0 hqC => ?_
  have g := (g.box .nilt hqC).put 3 (enO [inA nn,eu pv,.imm ktA (List.flatMap fL QA.2) iA,.imm ktB (List.flatMap ndC QB.2) iB,eu on,.imm qC [] 0,nlS]) rfl
  rw [show (List.set ([inA nn,eu pv,.imm ktA (List.flatMap fL QA.2) iA,.imm ktB (List.flatMap ndC QB.2) iB,eu on,nlS,nlS] : List AV) 5 (.imm qC [] 0)) = [inA nn,eu pv,.imm ktA (List.flatMap fL QA.2) iA,.imm ktB (List.flatMap ndC QB.2) iB,eu on,.imm qC [] 0,nlS] from rfl]
  generalize hE : (EC1.set qC .nilt).set b4 (enO [inA nn,eu pv,.imm ktA (List.flatMap fL QA.2) iA,.imm ktB (List.flatMap ndC QB.2) iB,eu on,.imm qC [] 0,nlS]) = XC at g ⊢
  clear hE v1 v4
  refine br (c := ⟨Tryz.prog,145,[(35,[1,0,2,2]),(1000027,[11]),(4000031,[1,2,3,4,136]),(4000030,[1,2,3,4]),(4000029,[1,2,3,4,5,10]),(4000027,[1,2,3,4,5,10,11,12]),(4000023,[1,2,3,4,5]),(4000022,[1,2,3,4]),(4000021,[1,2,3,4,5,8]),(4000020,[1,2,3,4,5,8,9]),(4000019,[1,2,3,4,5,8,9]),(4000014,[1,2,3,4,5]),(4000013,[1,2,3,4,5,6]),(4000012,[1,2,3,4,5,6,7]),(4000011,[1,2,3,4,5,6,7]),(4000010,[1,2,3,4,5,6,7]),(4000005,[1,2,3,4,5]),(4000004,[1,2,3,4]),(4000003,[1,2,3,4]),(4000002,[1,2,3,4])],[],[(35,(.op 0 4 (.or (.op 1 3 (.op 2 2 (.op 3 2 .nil))) (.op 2 2 (.op 1 3 (.op 3 2 .nil))))))]⟩) Tryz.mixed (by kernel_rfl) (fun mm σ E => ∃ (iC ktC : Nat) (oC : AObj),iC + mm = cC ∧ ktC ≠ 0 ∧ cy 22 1 oC iC ∧ Bx H E [(b1,rsO (PC iC).1),(b2,rsZ),(b3,ii),(b4,enO [inA nn,eu pv,.imm ktA (List.flatMap fL QA.2) iA,.imm ktB (List.flatMap ndC QB.2) iB,eu on,.imm ktC (List.map eu (PC iC).2) iC,nlS]),(ktC,oC)] ∧
    σ 1 = .ptr b1 0 ∧ σ 2 = .ptr b2 0 ∧ σ 3 = .ptr b3 0 ∧ σ 4 = .ptr b4 0 ∧ σ 5 = .sc (.int .i64 (cC : Nat)) ∧ σ 10 = .sc (.int .i64 (iC : Nat))) cC ?_ ?_
  · refine ⟨0,qC,.nilt,by omega,hqC0,.inr ⟨rfl,rfl⟩,by rw [hzC]; exact g,?_⟩
    simp (disch := omega) only [↓aI,↓zP,aD,zD,aS,simprocAttr,Tryz.facts,zA,s1',s2',s3',s4']
    try rfl
  clear g
  rintro mm σ E ⟨iC,ktC,oC,him,hkt0,ho,g,s1',s2',s3',s4',s5',s6'⟩
  have v1 := g.at 0 rfl
  have v4 := g.at 3 rfl
  have vk := g.at 4 rfl
  have n14 := g.ne 0 3 rfl rfl (by decide)
  have n41 : ¬ b4 = b1 := fun e => n14 e.symm
  by_cases hlt : iC < cC
  · have hsi := hsC iC
    have hcl : (List.map eu (PC iC).2).length = iC := by rw [List.length_map,hlC]
    have k1 := jW (PC iC).1 64 (hwC iC)
    unfold io at hsi
    generalize gJ (PC iC).1 64 = R1 at *
    obtain ⟨x1,y1⟩ := R1
    simp only [] at *
    generalize hPi : PC iC = Pi at *
    simp (disch := omega) only [↓aI,↓zP,aD,zD,aS,simprocAttr,Tryz.facts,zA,s1',s2',s3',s4',s5',s6',v1,v4]
    first | refine CallK.p (k1) ?_ | refine CallP.i (k1) ?_
    simp (disch := omega) only [↓aI,↓zP,aD,zD,aS,simprocAttr,Tryz.facts,zA,s1',s2',s3',s4',s5',s6',v1,v4]
    intro b11 hb110 hb11
    have n411 := bA v4 hb11
    have n111 := bA v1 hb11
    have nk11 := bA vk hb11
    try simp (disch := omega) only [↓aI,↓zP,aD,zD,aS,simprocAttr,Tryz.facts,zA,s1',s2',s3',s4',s5',s6',v1,v4,vk,aP,n411,n111,aj hb11,n41,n14,hcl,ho,ah,ey]
    have g := g.put 0 (rsO x1) rfl
    have v4 := g.at 3 rfl
    have vk := g.at 4 rfl
    generalize hE : E.set b1 (rsO x1) = F1 at g v4 vk ⊢
    try simp (disch := omega) only [↓aI,↓zP,aD,zD,aS,simprocAttr,Tryz.facts,zA,s1',s2',s3',s4',s5',s6',v1,v4,vk,hcl,ho,ah]
    intro k2' o2 hk20 hk2 ho2
    have hkk : (F1.kill ktC) k2' = none := by simp [AH.kill,hk2]
    have n4k := bA v4 hk2
    have n4t := g.ne 3 4 rfl rfl (by decide)
    have g := ((g.kill 4 rfl).box o2 hkk).put 3 (enO [inA nn,eu pv,.imm ktA (List.flatMap fL QA.2) iA,.imm ktB (List.flatMap ndC QB.2) iB,eu on,.imm k2' (List.map eu Pi.2 ++ [eu y1]) (iC + 1),nlS]) rfl
    try simp (disch := omega) only [↓aI,↓zP,aD,zD,aS,simprocAttr,Tryz.facts,zA,s1',s2',s3',s4',s5',s6',v1,v4,vk,aP,bZ,n4k,n4t,hcl,ho,ah]
    refine ⟨mm - 1,by omega,iC + 1,k2',o2,by omega,hk20,?_,?_,?_⟩
    · first | exact ho2 | (simpa [Nat.add_mul] using ho2)
    · rw [hsi]
      simp only [List.map_append,List.map_cons,List.map_nil]
      exact g
    · rfl
  obtain rfl : iC = cC := by omega
  have hflC := hlC iC
  have g := g.forget 4
  clear vk ho
  generalize hPi : PC iC = QC at *
  simp (disch := omega) only [↓aI,↓zP,aD,zD,aS,simprocAttr,Tryz.facts,zA,s1',s2',s3',s4',s5',s6',v1,v4]
  first | refine CallK.p (h8) ?_ | refine CallP.i (h8) ?_
  simp (disch := omega) only [↓aI,↓zP,aD,zD,aS,simprocAttr,Tryz.facts,zA,s1',s2',s3',s4',v1,v4,aP,n41,n14,ah,ey]
  have g := (g.put 0 (rsO s8) rfl).put 3 (enO [inA nn,eu pv,.imm ktA (List.flatMap fL QA.2) iA,.imm ktB (List.flatMap ndC QB.2) iB,eu on,.imm ktC (List.map eu QC.2) iC,eu sg]) rfl
  generalize hE : (E.set b1 (rsO s8)).set b4 (enO [inA nn,eu pv,.imm ktA (List.flatMap fL QA.2) iA,.imm ktB (List.flatMap ndC QB.2) iB,eu on,.imm ktC (List.map eu QC.2) iC,eu sg]) = ED0 at g ⊢
  clear hE v1 v4
  have v1 := g.at 0 rfl
  have v4 := g.at 3 rfl
  try simp (disch := omega) only [↓aI,↓zP,aD,zD,aS,simprocAttr,Tryz.facts,zA,s1',s2',s3',s4',v1,v4]
  obtain ⟨t8,e8⟩ := s8
  simp only [] at hR
  have n12 := g.ne 0 1 rfl rfl (by decide)
  have n13 := g.ne 0 2 rfl rfl (by decide)
  have n21 : ¬ b2 = b1 := fun e => n12 e.symm
  have n31 : ¬ b3 = b1 := fun e => n13 e.symm
  have n23 := g.ne 1 2 rfl rfl (by decide)
  have n32 : ¬ b3 = b2 := fun e => n23 e.symm
  have n42 := g.ne 3 1 rfl rfl (by decide)
  have v2 := g.at 1 rfl
  have v3 := g.at 2 rfl
  have hz : fX i9 = [.sc (.int .i64 0),.imm 0 [] 0,.imm 0 [] 0,.imm 0 [] 0,.imm 0 [] 0,.imm 0 [] 0,.imm 0 [] 0] := by simp [fX,i9,bw]
  have eA : fE QA.2 = .imm 0 (QA.2.flatMap fL) iA := by rw [← hflA]
  have eB : fY QB.2 = .imm 0 (QB.2.flatMap ndC) iB := by rw [← hflB]
  have eC : fZ QC.2 = .imm 0 (QC.2.map eu) iC := by rw [← hflC]
  rw [eA,eB,eC] at hrt
  have hee : fX ⟨nn,pv,QA.2,QB.2,on,QC.2,sg⟩ = [inA nn,eu pv,.imm 0 (QA.2.flatMap fL) iA,.imm 0 (QB.2.flatMap ndC) iB,eu on,.imm 0 (QC.2.map eu) iC,eu sg] := by rw [← eA,← eB,← eC]; rfl
  by_cases c0 : e8 = 0
  · subst c0
    cases ob
    · simp only [Bool.false_eq_true,if_false,if_true,show ¬ (5 : Int) = 0 from by decide] at hR
      subst hR
      try simp (disch := omega) only [↓aI,↓zP,aD,zD,aS,simprocAttr,Tryz.facts,zA,s1',s2',s3',s4',v1,v4]
      first | refine CallK.p (hrt) ?_ | refine CallP.i (hrt) ?_
      simp (disch := omega) only [↓aI,↓zP,aD,zD,aS,simprocAttr,Tryz.facts,zA,s1',s2',s3',s4',v1,v2,v3,v4,aP,n12,n21,n13,n31,n23,n32,n41,n14,ah,ey]
      refine ⟨by rw [hz],?_⟩
      exact ((g.put 0 (rsO (t8,5)) rfl).put 1 (rsO (t8,5)) rfl).put 2 ii rfl |>.sub
    · simp only [if_true] at hR
      subst hR
      try simp (disch := omega) only [↓aI,↓zP,aD,zD,aS,simprocAttr,Tryz.facts,zA,s1',s2',s3',s4',v1,v4]
      first | refine CallK.p (hrt) ?_ | refine CallP.i (hrt) ?_
      simp (disch := omega) only [↓aI,↓zP,aD,zD,aS,simprocAttr,Tryz.facts,zA,s1',s2',s3',s4',v1,v2,v3,v4,aP,n12,n21,n13,n31,n23,n32,n41,n14,ah,ey]
      refine eI (fun σ F => Abs.Sub H F ∧ F b2 = some (rsO (t8,0)) ∧ F b3 = some (enO [inA nn,eu pv,.imm ktA (QA.2.flatMap fL) iA,.imm ktB (QB.2.flatMap ndC) iB,eu on,.imm ktC (QC.2.map eu) iC,eu sg]) ∧ σ 2 = .ptr b2 0 ∧ σ 3 = .ptr b3 0) ?_ ?_
      · simp (disch := omega) only [↓aI,↓zP,aD,zD,aS,simprocAttr,Tryz.facts,zA,s1',s2',s3',s4',v1,v2,v3,v4,aP,n12,n21,n13,n31,n23,n32,n41,n14,ah,ey]
        have hF := ((g.put 1 (rsO (t8,0)) rfl).put 2 (enO [inA nn,eu pv,.imm ktA (QA.2.flatMap fL) iA,.imm ktB (QB.2.flatMap ndC) iB,eu on,.imm ktC (QC.2.map eu) iC,eu sg]) rfl).sub
        exact ⟨hF,hF⟩
      · rintro σ F ⟨hF,w2,w3,s2',s3'⟩
        simp (disch := omega) only [↓aI,↓zP,aD,zD,aS,simprocAttr,Tryz.facts,zA,s2',s3',w2,w3]
        refine ⟨by rw [hee],hF⟩
  · simp only [if_neg c0,ite_self] at hR
    subst hR
    try simp (disch := omega) only [↓aI,↓zP,aD,zD,aS,simprocAttr,Tryz.facts,zA,s1',s2',s3',s4',v1,v2,v3,v4,c0,aP,n12,n21,n13,n31,n23,n32,n41,n14,ah,ey]
    refine ⟨by rw [hz],?_⟩
    exact (g.put 1 (rsO (t8,e8)) rfl).put 2 ii rfl |>.sub
end Go.Proofs.YtjlnpngaiphnmaaGreat
