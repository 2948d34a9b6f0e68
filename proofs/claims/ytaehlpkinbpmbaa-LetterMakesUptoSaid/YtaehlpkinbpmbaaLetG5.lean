/-
  Several texts in one: each says what it proves.
  Conditions: none. Lemmas only.
-/
import Derived.Test.YtaehlpkinbpmbaaLetG2
import Derived.Test.YtaehlpkinbpmbaaLetG3
set_option linter.all false
section
set_option linter.unusedSimpArgs false
set_option linter.unusedVariables false
set_option maxRecDepth 20000
set_option maxHeartbeats 8000000
namespace Go.Proofs.Ytaehlpkinbpmbaa
open Go Go.Abs Go.Proofs
theorem rdTx_len (s : RS) (most : Nat) : (rdTx s most).2.length ≤ most := by
  unfold rdTx
  repeat' split
  all_goals simp only [List.length_nil,Nat.zero_le,List.length_take]
  omega
abbrev noL : Ltr := ⟨0,0,0,0,[],[],[]⟩
def fixL (s : RS) (l : Ltr) : RS × Ltr :=
  if s.2 = 0 then (if rightL l = true then (s,l) else ((s.1,5),noL)) else (s,noL)
def rdLtr (s : RS) : RS × Ltr :=
  fixL (rdTx (rdTx (rdTx (rdNum (rdNum (rdNum (rdNum s 2 4).1 0 4).1 1 65536).1 1 1048576).1 64).1 4112).1 64).1
    ⟨(rdNum s 2 4).2,(rdNum (rdNum s 2 4).1 0 4).2,(rdNum (rdNum (rdNum s 2 4).1 0 4).1 1 65536).2,(rdNum (rdNum (rdNum (rdNum s 2 4).1 0 4).1 1 65536).1 1 1048576).2,
      (rdTx (rdNum (rdNum (rdNum (rdNum s 2 4).1 0 4).1 1 65536).1 1 1048576).1 64).2,(rdTx (rdTx (rdNum (rdNum (rdNum (rdNum s 2 4).1 0 4).1 1 65536).1 1 1048576).1 64).1 4112).2,
      (rdTx (rdTx (rdTx (rdNum (rdNum (rdNum (rdNum s 2 4).1 0 4).1 1 65536).1 1 1048576).1 64).1 4112).1 64).2⟩
theorem RdS.step {B H H' : AH} {r k b : Nat} {bs : List UInt8} {s s' : RS} {o : AObj} (p : RdS B H r k bs s) (f : B b = none) (n : ¬ b = r) (q : RdS ((H.set b o).kill r) H' r k bs s') : RdS B H' r k bs s' ∧ H' b = some o ∧ ∀ y x,¬ y = r → ¬ y = b → H y = some x → H' y = some x := by
  have p1 := p.put (o := o) f n
  exact ⟨p1.back q,p1.keep q set_get n,fun y x h1 h2 h3 => p1.keep q (by rw [aP h2]; exact h3) h1⟩
theorem lget_live (B H : AH) (r k : Nat) (bs : List UInt8) (s : RS) (p : RdS B H r k bs s) (hr0 : r ≠ 0) : ACalls Try.prog 33 [.ptr r 0] H fun v H' => v = .agg (ltrC (rdLtr s).2) ∧ RdS B H' r k bs (rdLtr s).1 := by
  have hnum := fun lo hi s B H p => rdnum_live B H r k bs s lo hi p hr0
  have htx := fun (m : Nat) s B H p => text_live B H r k bs s m p hr0
  have hfail := fun s B H p => fail_live B H r k bs s 5 p hr0
  have herr := fun s B H p => err_live B H r k bs s p hr0
  have hR : rdLtr s = fixL (rdTx (rdTx (rdTx (rdNum (rdNum (rdNum (rdNum s 2 4).1 0 4).1 1 65536).1 1 1048576).1 64).1 4112).1 64).1
    ⟨(rdNum s 2 4).2,(rdNum (rdNum s 2 4).1 0 4).2,(rdNum (rdNum (rdNum s 2 4).1 0 4).1 1 65536).2,(rdNum (rdNum (rdNum (rdNum s 2 4).1 0 4).1 1 65536).1 1 1048576).2,
      (rdTx (rdNum (rdNum (rdNum (rdNum s 2 4).1 0 4).1 1 65536).1 1 1048576).1 64).2,(rdTx (rdTx (rdNum (rdNum (rdNum (rdNum s 2 4).1 0 4).1 1 65536).1 1 1048576).1 64).1 4112).2,
      (rdTx (rdTx (rdTx (rdNum (rdNum (rdNum (rdNum s 2 4).1 0 4).1 1 65536).1 1 1048576).1 64).1 4112).1 64).2⟩ := rfl
  generalize rdLtr s = R at *
  have h1 := hnum 2 4 s
  generalize rdNum s 2 4 = K at *
  obtain ⟨s1,kd⟩ := K
  simp only at h1 hR
  have h2 := hnum 0 4 s1
  generalize rdNum s1 0 4 = K at *
  obtain ⟨s2,au⟩ := K
  simp only at h2 hR
  have h3 := hnum 1 65536 s2
  generalize rdNum s2 1 65536 = K at *
  obtain ⟨s3,ep⟩ := K
  simp only at h3 hR
  have h4 := hnum 1 1048576 s3
  generalize rdNum s3 1 1048576 = K at *
  obtain ⟨s4,nu⟩ := K
  simp only at h4 hR
  have h5 := htx 64 s4
  generalize rdTx s4 64 = K at *
  obtain ⟨s5,pv⟩ := K
  simp only at h5 hR
  have h6 := htx 4112 s5
  have lb := rdTx_len s5 4112
  generalize rdTx s5 4112 = K at *
  obtain ⟨s6,bx⟩ := K
  simp only at h6 hR lb
  have h7 := htx 64 s6
  generalize rdTx s6 64 = K at *
  obtain ⟨s7,sg⟩ := K
  simp only at h7 hR
  have hrt := ee ⟨kd,au,ep,nu,pv,bx,sg⟩ (by show bx.length ≤ _; omega)
  unfold fixL at hR
  generalize hob : rightL ⟨kd,au,ep,nu,pv,bx,sg⟩ = ob at hrt hR
  simp only [ltrC] at hrt
  have hz : ltrC noL = [.sc (.int .i64 0),.sc (.int .i64 0),.sc (.int .i64 0),.sc (.int .i64 0),.imm 0 [] 0,.imm 0 [] 0,.imm 0 [] 0] := rfl
  refine ao (c := ⟨Try.prog,35,[],[],[]⟩) (rs := [ResultVar.cell 2 24]) Try.mixed Try.func33 rfl rfl rfl (Nat.le_of_ble_eq_true rfl) (by kernel_rfl) ?_
  simp (disch := omega) only [↓aI,↓zP,aD,zD,aS,simprocAttr,Try.facts]
  intro b2 hb20 hb2
  have n2 := p.ne hb2
  have f2 := p.free hb2
  have v2 : (H.set b2 (.cells [.sc (.int .i64 0),.sc (.int .i64 0),.sc (.int .i64 0),.sc (.int .i64 0),.sc (.slice none 0 0),.sc (.slice none 0 0),.sc (.slice none 0 0)] 24 7)) b2 = some (.cells [.sc (.int .i64 0),.sc (.int .i64 0),.sc (.int .i64 0),.sc (.int .i64 0),.sc (.slice none 0 0),.sc (.slice none 0 0),.sc (.slice none 0 0)] 24 7) := set_get
  have p1 := p.put (o := .cells [.sc (.int .i64 0),.sc (.int .i64 0),.sc (.int .i64 0),.sc (.int .i64 0),.sc (.slice none 0 0),.sc (.slice none 0 0),.sc (.slice none 0 0)] 24 7) f2 n2
  refine CallK.i (h1 _ _ p1.all) ?_
  rintro v H1 ⟨rfl,q⟩
  have v2 := p1.keep q v2 n2
  have p1 := p1.back q
  simp (disch := omega) only [↓aI,↓zP,aD,zD,aS,simprocAttr,Try.facts]
  intro b3 hb30 hb3
  have n3 := p1.ne hb3
  have f3 := p1.free hb3
  have n23 := bA v2 hb3
  simp (disch := omega) only [↓aI,↓zP,aD,zD,aS,simprocAttr,Try.facts,zA,ah]
  refine CallK.i (h2 _ _ (p1.put f3 n3).all) ?_
  rintro v H2 ⟨rfl,q⟩
  obtain ⟨p1,v3,fr⟩ := p1.step f3 n3 q
  have v2 := fr _ _ n2 n23 v2
  simp (disch := omega) only [↓aI,↓zP,aD,zD,aS,simprocAttr,Try.facts,v2,v3,ah]
  refine CallK.i (h3 _ _ (p1.put f3 n3).all) ?_
  rintro v H3 ⟨rfl,q⟩
  obtain ⟨p1,v3,fr⟩ := p1.step f3 n3 q
  have v2 := fr _ _ n2 n23 v2
  simp (disch := omega) only [↓aI,↓zP,aD,zD,aS,simprocAttr,Try.facts,v2,v3,ah]
  refine CallK.i (h4 _ _ (p1.put f3 n3).all) ?_
  rintro v H4 ⟨rfl,q⟩
  obtain ⟨p1,v3,fr⟩ := p1.step f3 n3 q
  have v2 := fr _ _ n2 n23 v2
  simp (disch := omega) only [↓aI,↓zP,aD,zD,aS,simprocAttr,Try.facts,v2,v3,ah]
  refine CallK.i (h5 _ _ (p1.put f3 n3).all) ?_
  rintro v H5 ⟨rfl,q⟩
  obtain ⟨p1,v3,fr⟩ := p1.step f3 n3 q
  have v2 := fr _ _ n2 n23 v2
  simp (disch := omega) only [↓aI,↓zP,aD,zD,aS,simprocAttr,Try.facts,v2,v3,ah]
  refine CallK.i (h6 _ _ (p1.put f3 n3).all) ?_
  rintro v H6 ⟨rfl,q⟩
  obtain ⟨p1,v3,fr⟩ := p1.step f3 n3 q
  have v2 := fr _ _ n2 n23 v2
  simp (disch := omega) only [↓aI,↓zP,aD,zD,aS,simprocAttr,Try.facts,v2,v3,ah]
  refine CallK.i (h7 _ _ (p1.put f3 n3).all) ?_
  rintro v H7 ⟨rfl,q⟩
  obtain ⟨p1,v3,fr⟩ := p1.step f3 n3 q
  have v2 := fr _ _ n2 n23 v2
  simp (disch := omega) only [↓aI,↓zP,aD,zD,aS,simprocAttr,Try.facts,v2,v3,ah]
  cases ob with
  | true =>
    rw [if_pos rfl] at hR
    first | refine CallK.p (hrt) ?_ | refine CallP.i (hrt) ?_
    simp (disch := omega) only [↓aI,↓zP,aD,zD,aS,simprocAttr,Try.facts,v2,v3,ah,aP,n23]
    refine CallK.i (herr _ _ _ (p1.put f3 n3)) ?_
    rintro v HL ⟨rfl,rfl⟩
    by_cases c : s7.2 = 0
    · rw [if_pos c] at hR
      subst hR
      simp (disch := omega) only [↓aI,↓zP,aD,zD,aS,simprocAttr,Try.facts,v2,v3,ah,aP,n23,zA]
      exact ⟨_,rfl,_,Abs.Sub.refl _,rfl,(p1.put f3 n3).put f2 n2⟩
    · rw [if_neg c] at hR
      subst hR
      rw [hz]
      simp (disch := omega) only [↓aI,↓zP,aD,zD,aS,simprocAttr,Try.facts,v2,v3,ah,aP,n23,zA]
      exact ⟨_,rfl,_,Abs.Sub.refl _,rfl,(p1.put f3 n3).put f2 n2⟩
  | false =>
    rw [if_neg (show ¬ (false = true) by simp)] at hR
    first | refine CallK.p (hrt) ?_ | refine CallP.i (hrt) ?_
    simp (disch := omega) only [↓aI,↓zP,aD,zD,aS,simprocAttr,Try.facts,v2,v3,ah]
    refine CallK.i (hfail _ _ _ (p1.put f3 n3).all) ?_
    rintro v HL q
    obtain ⟨p1,v3,fr⟩ := p1.step f3 n3 q
    have v2 := fr _ _ n2 n23 v2
    simp (disch := omega) only [↓aI,↓zP,aD,zD,aS,simprocAttr,Try.facts,v2,v3,ah]
    refine CallK.i (herr _ _ _ p1) ?_
    rintro v HL2 ⟨rfl,rfl⟩
    have hcz : ¬ (if s7.2 = 0 then (5 : Int) else s7.2) = 0 := by
      split
      · decide
      · assumption
    have hR2 : R = ((s7.1,if s7.2 = 0 then 5 else s7.2),noL) := by
      rw [hR]
      by_cases c : s7.2 = 0
      · rw [if_pos c,if_pos c]
      · rw [if_neg c,if_neg c]
    subst hR2
    rw [hz]
    generalize (if s7.2 = 0 then (5 : Int) else s7.2) = e9 at *
    simp (disch := omega) only [↓aI,↓zP,aD,zD,aS,simprocAttr,Try.facts,v2,v3,ah,zA]
    exact ⟨_,rfl,_,Abs.Sub.refl _,rfl,p1.put f2 n2⟩
end Go.Proofs.Ytaehlpkinbpmbaa
end
section
set_option linter.unusedSimpArgs false
set_option linter.unusedVariables false
set_option maxRecDepth 20000
set_option maxHeartbeats 8000000
namespace Go.Proofs.Ytaehlpkinbpmbaa
open Go Go.Abs Go.Proofs
theorem set_flip {H : AH} {a b : Nat} {x y : AObj} (h : ¬ a = b) : (H.set b x).set a y = (H.set a y).set b x := by
  funext z
  simp only [AH.set]
  by_cases e1 : z = a
  · subst e1; simp [h]
  · simp [e1]
theorem set_twice {H : AH} {a : Nat} {x y : AObj} : (H.set a x).set a y = H.set a y := by
  funext z
  simp only [AH.set]
  by_cases e1 : z = a <;> simp [e1]
theorem rlget_pure (s : RS) (hl : s.1.length ≤ 2000000) : APure Try.prog 34 [rsV s] (.tup [rsV (rdLtr s).1,.agg (ltrC (rdLtr s).2)]) := by
  have hR : rdLtr s = fixL (rdTx (rdTx (rdTx (rdNum (rdNum (rdNum (rdNum s 2 4).1 0 4).1 1 65536).1 1 1048576).1 64).1 4112).1 64).1
    ⟨(rdNum s 2 4).2,(rdNum (rdNum s 2 4).1 0 4).2,(rdNum (rdNum (rdNum s 2 4).1 0 4).1 1 65536).2,(rdNum (rdNum (rdNum (rdNum s 2 4).1 0 4).1 1 65536).1 1 1048576).2,
      (rdTx (rdNum (rdNum (rdNum (rdNum s 2 4).1 0 4).1 1 65536).1 1 1048576).1 64).2,(rdTx (rdTx (rdNum (rdNum (rdNum (rdNum s 2 4).1 0 4).1 1 65536).1 1 1048576).1 64).1 4112).2,
      (rdTx (rdTx (rdTx (rdNum (rdNum (rdNum (rdNum s 2 4).1 0 4).1 1 65536).1 1 1048576).1 64).1 4112).1 64).2⟩ := rfl
  generalize rdLtr s = R at *
  have h1 := rrnum_pure s 2 4 hl
  have l1 := Nat.le_trans (rdNum_sh s 2 4).le hl
  generalize rdNum s 2 4 = K at *
  obtain ⟨s1,kd⟩ := K
  simp only at h1 hR l1
  have h2 := rrnum_pure s1 0 4 l1
  have l2 := Nat.le_trans (rdNum_sh s1 0 4).le l1
  generalize rdNum s1 0 4 = K at *
  obtain ⟨s2,au⟩ := K
  simp only at h2 hR l2
  have h3 := rrnum_pure s2 1 65536 l2
  have l3 := Nat.le_trans (rdNum_sh s2 1 65536).le l2
  generalize rdNum s2 1 65536 = K at *
  obtain ⟨s3,ep⟩ := K
  simp only at h3 hR l3
  have h4 := rrnum_pure s3 1 1048576 l3
  have l4 := Nat.le_trans (rdNum_sh s3 1 1048576).le l3
  generalize rdNum s3 1 1048576 = K at *
  obtain ⟨s4,nu⟩ := K
  simp only at h4 hR l4
  have h5 := rrtx_pure s4 64 l4
  have l5 := Nat.le_trans (rdTx_sw s4 64).le l4
  generalize rdTx s4 64 = K at *
  obtain ⟨s5,pv⟩ := K
  simp only at h5 hR l5
  have h6 := rrtx_pure s5 4112 l5
  have l6 := Nat.le_trans (rdTx_sw s5 4112).le l5
  have lb := rdTx_len s5 4112
  generalize rdTx s5 4112 = K at *
  obtain ⟨s6,bx⟩ := K
  simp only at h6 hR lb l6
  have h7 := rrtx_pure s6 64 l6
  generalize rdTx s6 64 = K at *
  obtain ⟨s7,sg⟩ := K
  simp only at h7 hR
  have hrt := rright_pure ⟨kd,au,ep,nu,pv,bx,sg⟩ (by show bx.length ≤ _; omega)
  unfold fixL at hR
  generalize hob : rightL ⟨kd,au,ep,nu,pv,bx,sg⟩ = ob at hrt hR
  simp only [ltrC] at hrt
  have hz : ltrC noL = [.sc (.int .i64 0),.sc (.int .i64 0),.sc (.int .i64 0),.sc (.int .i64 0),.imm 0 [] 0,.imm 0 [] 0,.imm 0 [] 0] := rfl
  obtain ⟨q0,e0⟩ := s
  obtain ⟨q1,e1⟩ := s1
  obtain ⟨q2,e2⟩ := s2
  obtain ⟨q3,e3⟩ := s3
  obtain ⟨q4,e4⟩ := s4
  obtain ⟨q5,e5⟩ := s5
  obtain ⟨q6,e6⟩ := s6
  obtain ⟨q7,e7⟩ := s7
  simp only [rsV] at *
  refine az (c := ⟨Try.prog,64,[(13,[1,0,2,2]),(4000009,[1,2,3,4,55]),(4000008,[1,2,3,4]),(4000007,[1,2,3,4]),(4000006,[1,2,3,4]),(4000005,[1,2,3,4]),(4000004,[1,2,3,4]),(4000003,[1,2,3,4]),(4000002,[1,2,3,4])],[],[(13,(.or (.op 0 2 (.or (.op 1 2 (.op 2 2 (.op 3 2 .nil))) (.op 2 2 (.op 1 2 (.op 3 2 .nil))))) (.op 1 2 (.op 0 2 (.op 2 2 (.op 3 2 .nil))))))]⟩) (rs := [ResultVar.cell 2 71,ResultVar.cell 3 24]) Try.mixed Try.func34 rfl rfl rfl (Nat.le_of_ble_eq_true rfl) (by kernel_rfl) fun H => ?_
  simp (disch := omega) only [↓aI,↓zP,aD,zD,aS,simprocAttr,Try.facts]
  intro b1 hb10 hb1 b2 hb20 hb2 b3 hb30 hb3
  have n12 := bK hb2
  have n13 := bK (am hb3)
  have n23 := bK hb3
  intro b4 hb40 hb4
  have n34 := bK hb4
  have n24 := bK (am hb4)
  have n14 := bK (am (am hb4))
  have q2 := am hb2
  have q3 := am (am hb3)
  have q4 := am (am (am hb4))
  have hsub : ∀ x y z w : AObj,Abs.Sub H ((((H.set b1 x).set b2 y).set b3 z).set b4 w) := fun x y z w => (((Sub.set_new hb1).set_free q2).set_free q3).set_free q4
  try simp (disch := omega) only [↓aI,↓zP,aD,zD,aS,simprocAttr,Try.facts,zA,ah,aP,n12,n13,n14,n23,n24,n34,set_flip n12,set_flip n13,set_flip n14,set_flip n23,set_flip n24,set_flip n34,set_twice]
  first | refine CallK.p (h1) ?_ | refine CallP.i (h1) ?_
  simp (disch := omega) only [↓aI,↓zP,aD,zD,aS,simprocAttr,Try.facts,zA,ah,aP,n12,n13,n14,n23,n24,n34,set_flip n12,set_flip n13,set_flip n14,set_flip n23,set_flip n24,set_flip n34,set_twice]
  first | refine CallK.p (h2) ?_ | refine CallP.i (h2) ?_
  simp (disch := omega) only [↓aI,↓zP,aD,zD,aS,simprocAttr,Try.facts,zA,ah,aP,n12,n13,n14,n23,n24,n34,set_flip n12,set_flip n13,set_flip n14,set_flip n23,set_flip n24,set_flip n34,set_twice]
  first | refine CallK.p (h3) ?_ | refine CallP.i (h3) ?_
  simp (disch := omega) only [↓aI,↓zP,aD,zD,aS,simprocAttr,Try.facts,zA,ah,aP,n12,n13,n14,n23,n24,n34,set_flip n12,set_flip n13,set_flip n14,set_flip n23,set_flip n24,set_flip n34,set_twice]
  first | refine CallK.p (h4) ?_ | refine CallP.i (h4) ?_
  simp (disch := omega) only [↓aI,↓zP,aD,zD,aS,simprocAttr,Try.facts,zA,ah,aP,n12,n13,n14,n23,n24,n34,set_flip n12,set_flip n13,set_flip n14,set_flip n23,set_flip n24,set_flip n34,set_twice]
  first | refine CallK.p (h5) ?_ | refine CallP.i (h5) ?_
  simp (disch := omega) only [↓aI,↓zP,aD,zD,aS,simprocAttr,Try.facts,zA,ah,aP,n12,n13,n14,n23,n24,n34,set_flip n12,set_flip n13,set_flip n14,set_flip n23,set_flip n24,set_flip n34,set_twice]
  first | refine CallK.p (h6) ?_ | refine CallP.i (h6) ?_
  simp (disch := omega) only [↓aI,↓zP,aD,zD,aS,simprocAttr,Try.facts,zA,ah,aP,n12,n13,n14,n23,n24,n34,set_flip n12,set_flip n13,set_flip n14,set_flip n23,set_flip n24,set_flip n34,set_twice]
  first | refine CallK.p (h7) ?_ | refine CallP.i (h7) ?_
  simp (disch := omega) only [↓aI,↓zP,aD,zD,aS,simprocAttr,Try.facts,zA,ah,aP,n12,n13,n14,n23,n24,n34,set_flip n12,set_flip n13,set_flip n14,set_flip n23,set_flip n24,set_flip n34,set_twice]
  by_cases c : e7 = 0
  · subst c
    simp (disch := omega) only [↓aI,↓zP,aD,zD,aS,simprocAttr,Try.facts,zA,ah,aP,n12,n13,n14,n23,n24,n34,set_flip n12,set_flip n13,set_flip n14,set_flip n23,set_flip n24,set_flip n34,set_twice]
    first | refine CallK.p (hrt) ?_ | refine CallP.i (hrt) ?_
    simp (disch := omega) only [↓aI,↓zP,aD,zD,aS,simprocAttr,Try.facts,zA,ah,aP,n12,n13,n14,n23,n24,n34,set_flip n12,set_flip n13,set_flip n14,set_flip n23,set_flip n24,set_flip n34,set_twice]
    cases ob with
    | true =>
      rw [if_pos rfl,if_pos rfl] at hR
      subst hR
      simp (disch := omega) only [↓aI,↓zP,aD,zD,aS,simprocAttr,Try.facts,zA,ah,aP,n12,n13,n14,n23,n24,n34,set_flip n12,set_flip n13,set_flip n14,set_flip n23,set_flip n24,set_flip n34,set_twice]
      refine eI (fun σ F => F = (((H.set b1 (.cells [.imm 0 (bw q7) q7.length,.sc (.int .i64 0)] 71 2)).set b2 (.cells [.imm 0 (bw q7) q7.length,.sc (.int .i64 0)] 71 2)).set b3 (.cells [.sc (.int .i64 kd),.sc (.int .i64 au),.sc (.int .i64 ep),.sc (.int .i64 nu),.imm 0 (bw pv) pv.length,.imm 0 (bw bx) bx.length,.imm 0 (bw sg) sg.length] 24 7)).set b4 (.cells [.sc (.int .i64 kd),.sc (.int .i64 au),.sc (.int .i64 ep),.sc (.int .i64 nu),.imm 0 (bw pv) pv.length,.imm 0 (bw bx) bx.length,.imm 0 (bw sg) sg.length] 24 7) ∧ σ 2 = .ptr b2 0 ∧ σ 3 = .ptr b3 0) ?_ ?_
      · simp (disch := omega) only [↓aI,↓zP,aD,zD,aS,simprocAttr,Try.facts,zA,ah,aP,n12,n13,n14,n23,n24,n34,set_flip n12,set_flip n13,set_flip n14,set_flip n23,set_flip n24,set_flip n34,set_twice]
      · rintro σ F ⟨rfl,s2,s3⟩
        simp (disch := omega) only [↓aI,↓zP,aD,zD,aS,simprocAttr,Try.facts,s2,s3,zA,ah,aP,n12,n13,n14,n23,n24,n34,set_flip n12,set_flip n13,set_flip n14,set_flip n23,set_flip n24,set_flip n34,set_twice]
        exact ⟨rfl,hsub _ _ _ _⟩
    | false =>
      rw [if_pos rfl,if_neg (show ¬ (false = true) by simp)] at hR
      subst hR
      rw [hz]
      simp (disch := omega) only [↓aI,↓zP,aD,zD,aS,simprocAttr,Try.facts,zA,ah,aP,n12,n13,n14,n23,n24,n34,set_flip n12,set_flip n13,set_flip n14,set_flip n23,set_flip n24,set_flip n34,set_twice]
      exact hsub _ _ _ _
  · rw [if_neg c] at hR
    subst hR
    rw [hz]
    simp (disch := omega) only [↓aI,↓zP,aD,zD,aS,simprocAttr,Try.facts,zA,ah,aP,n12,n13,n14,n23,n24,n34,set_flip n12,set_flip n13,set_flip n14,set_flip n23,set_flip n24,set_flip n34,set_twice]
    exact hsub _ _ _ _
end Go.Proofs.Ytaehlpkinbpmbaa
end
