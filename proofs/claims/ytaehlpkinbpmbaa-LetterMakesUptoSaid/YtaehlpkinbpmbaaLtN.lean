/-
  The document's letters: letters that are checked and opened.
  Conditions: none. Lemmas only.
-/
import Derived.Test.YtaehlpkinbpmbaaLtM
set_option linter.all false
set_option linter.unusedSimpArgs false
set_option linter.unusedVariables false
set_option maxRecDepth 20000
set_option maxHeartbeats 16000000
namespace Go.Proofs.Ytaehlpkinbpmbaa
open Go Go.Abs Go.Proofs
theorem rcheck_pure {N : Nat} (ts : List Term) (d : Nat) (signer : List UInt8) (l : Ltr) (hl : okL l) (g : GT N ts) (hN : N ≤ 999990) :
    APure Try.prog 28 [vaultV ts d,bytesV signer,.agg (ltrC l)] (.tup [vaultV (checkL ts signer l).1 d,.agg (lnkC (checkL ts signer l).2.1),.sc (.int .i64 (checkL ts signer l).2.2)]) := by
  have hr := rright_pure l (by have := hl.2.1; omega)
  have hR : checkL ts signer l = if rightL l = false then (ts,zeroK,1) else if verT (numT ts (hashT l)).1 signer (headL l ++ vtext (hashL ts l)) l.sig = false then ((numT ts (hashT l)).1,zeroK,10) else ((numT ts (hashT l)).1,⟨l.author,l.number,l.epoch,l.prev,hashL ts l⟩,0) := rfl
  have hz : lnkC zeroK = [.sc (.int .i64 0),.sc (.int .i64 0),.sc (.int .i64 0),.imm 0 [] 0,.imm 0 [] 0] := rfl
  generalize checkL ts signer l = R at *
  cases hrt : rightL l
  · rw [hrt] at hr
    rw [hrt,if_pos rfl] at hR
    subst hR
    rw [hz]
    obtain ⟨kd,au,ep,nu,pv,bx,sg⟩ := l
    simp only [ltrC,vaultV] at *
    refine az (c := ⟨Try.prog,45,[(4,[1,0,1,0,0,0,0,1,0,0]),(6,[1,0,0,0,0,0,0,0,0,0,0,2,2,0]),(1000000,[5])],[],[]⟩) (rs := [ResultVar.cell 6 54,ResultVar.cell 7 38,ResultVar.tmp 8]) Try.mixed Try.func28 rfl rfl rfl (Nat.le_of_ble_eq_true rfl) (by kernel_rfl) fun H => ?_
    simp (disch := omega) only [↓aI,↓zP,aD,zD,aS,simprocAttr,Try.facts,zA]
    intro b3 hb30 hb3 b5 hb50 hb5 b6 hb60 hb6 b7 hb70 hb7
    have n36 := bK (am hb6)
    have n37 := bK (am (am hb7))
    have n56 := bK hb6
    have n57 := bK (am hb7)
    have n67 := bK hb7
    have n63 : ¬ b6 = b3 := fun e => n36 e.symm
    have n73 : ¬ b7 = b3 := fun e => n37 e.symm
    have n76 : ¬ b7 = b6 := fun e => n67 e.symm
    have q6 := am (am hb6)
    have q7 := am (am (am hb7))
    have hsub : ∀ x y z : AObj,Abs.Sub H (((H.set b3 x).set b6 y).set b7 z) := fun x y z => ((Sub.set_new hb3).set_free q6).set_free q7
    simp (disch := omega) only [↓aI,↓zP,aD,zD,aS,simprocAttr,Try.facts,zA,aP,n56,n57,n67,n76,kill_mid2 hb5 n56 n57]
    try simp (disch := omega) only [↓aI,↓zP,aD,zD,aS,simprocAttr,Try.facts,zA,ah,aP,n36,n37,n67,n63,n73,n76,set_flip n36,set_flip n37,set_flip n67,set_twice]
    first | refine CallK.p (hr) ?_ | refine CallP.i (hr) ?_
    simp (disch := omega) only [↓aI,↓zP,aD,zD,aS,simprocAttr,Try.facts,zA,ah,aP,n36,n37,n67,n63,n73,n76,set_flip n36,set_flip n37,set_flip n67,set_twice]
    first | exact ⟨rfl,hsub _ _ _⟩ | exact hsub _ _ _ | (trace_state; fail)
  · rw [hrt] at hr
    rw [hrt,if_neg (by simp)] at hR
    obtain ⟨hnm,lb,lsg⟩ := right_facts hrt
    have lpv := (named_facts hnm).2.2.2.2.2.2.2.2
    have hhd := headL_len l
    have wh : wfT (hashT l) := wf1 (by decide) (by omega)
    have g1 : GT (N + 1) (numT ts (hashT l)).1 := g.num wh (fun e => absurd (show (104 : UInt8) = 112 from e) (by decide))
    have lh : (hashL ts l).length = 32 := by unfold hashL; rw [nameT_length]; rfl
    have hha := vhash_pure ts d l.box wh.1 g.ok (by have := g.len; omega)
    rw [show nameT ⟨104,[l.box]⟩ (numT ts ⟨104,[l.box]⟩).2 = hashL ts l from rfl,show (numT ts ⟨104,[l.box]⟩).1 = (numT ts (hashT l)).1 from rfl] at hha
    have hhe := rhead_pure [] l (by simp) (by omega)
    have htx := rtext_pure (headL l) (hashL ts l) (by omega) (by omega)
    have hve := vverify_pure (numT ts (hashT l)).1 d signer (headL l ++ vtext (hashL ts l)) l.sig g1.wf (by have := g1.len; omega)
    rw [List.nil_append] at hhe
    generalize hashL ts l = hash at *
    generalize (numT ts (hashT l)).1 = ts1 at *
    generalize headL l = HL at *
    have e : bytesV (HL ++ vtext hash) = .imm 0 (bw (HL ++ vtext hash)) (HL.length + (vtext hash).length) := by rw [bytesV,List.length_append]
    rw [e] at hve
    generalize verT ts1 signer (HL ++ vtext hash) l.sig = vt at *
    obtain ⟨kd,au,ep,nu,pv,bx,sg⟩ := l
    simp only [ltrC,vaultV] at *
    cases vt
    · rw [if_pos rfl] at hR
      subst hR
      rw [hz]
      refine az (c := ⟨Try.prog,45,[(4,[1,0,1,0,0,0,0,1,0,0]),(6,[1,0,0,0,0,0,0,0,0,0,0,2,2,0]),(1000000,[5])],[],[]⟩) (rs := [ResultVar.cell 6 54,ResultVar.cell 7 38,ResultVar.tmp 8]) Try.mixed Try.func28 rfl rfl rfl (Nat.le_of_ble_eq_true rfl) (by kernel_rfl) fun H => ?_
      simp (disch := omega) only [↓aI,↓zP,aD,zD,aS,simprocAttr,Try.facts,zA]
      intro b3 hb30 hb3 b5 hb50 hb5 b6 hb60 hb6 b7 hb70 hb7
      have n36 := bK (am hb6)
      have n37 := bK (am (am hb7))
      have n56 := bK hb6
      have n57 := bK (am hb7)
      have n67 := bK hb7
      have n63 : ¬ b6 = b3 := fun e => n36 e.symm
      have n73 : ¬ b7 = b3 := fun e => n37 e.symm
      have n76 : ¬ b7 = b6 := fun e => n67 e.symm
      have q6 := am (am hb6)
      have q7 := am (am (am hb7))
      have hsub : ∀ x y z : AObj,Abs.Sub H (((H.set b3 x).set b6 y).set b7 z) := fun x y z => ((Sub.set_new hb3).set_free q6).set_free q7
      simp (disch := omega) only [↓aI,↓zP,aD,zD,aS,simprocAttr,Try.facts,zA,aP,n56,n57,n67,n76,kill_mid2 hb5 n56 n57]
      try simp (disch := omega) only [↓aI,↓zP,aD,zD,aS,simprocAttr,Try.facts,zA,ah,aP,n36,n37,n67,n63,n73,n76,set_flip n36,set_flip n37,set_flip n67,set_twice]
      first | refine CallK.p (hr) ?_ | refine CallP.i (hr) ?_
      simp (disch := omega) only [↓aI,↓zP,aD,zD,aS,simprocAttr,Try.facts,zA,ah,aP,n36,n37,n67,n63,n73,n76,set_flip n36,set_flip n37,set_flip n67,set_twice]
      first | refine CallK.p (hha) ?_ | refine CallP.i (hha) ?_
      simp (disch := omega) only [↓aI,↓zP,aD,zD,aS,simprocAttr,Try.facts,zA,ah,aP,n36,n37,n67,n63,n73,n76,set_flip n36,set_flip n37,set_flip n67,set_twice]
      first | refine CallK.p (hhe) ?_ | refine CallP.i (hhe) ?_
      simp (disch := omega) only [↓aI,↓zP,aD,zD,aS,simprocAttr,Try.facts,zA,ah,aP,n36,n37,n67,n63,n73,n76,set_flip n36,set_flip n37,set_flip n67,set_twice]
      first | refine CallK.p (htx) ?_ | refine CallP.i (htx) ?_
      simp (disch := omega) only [↓aI,↓zP,aD,zD,aS,simprocAttr,Try.facts,zA,ah,aP,n36,n37,n67,n63,n73,n76,set_flip n36,set_flip n37,set_flip n67,set_twice]
      first | refine CallK.p (hve) ?_ | refine CallP.i (hve) ?_
      simp (disch := omega) only [↓aI,↓zP,aD,zD,aS,simprocAttr,Try.facts,zA,ah,aP,n36,n37,n67,n63,n73,n76,set_flip n36,set_flip n37,set_flip n67,set_twice]
      first | exact ⟨rfl,hsub _ _ _⟩ | exact hsub _ _ _ | (trace_state; fail)
    · rw [if_neg (by simp)] at hR
      subst hR
      refine az (c := ⟨Try.prog,45,[(4,[1,0,1,0,0,0,0,1,0,0]),(6,[1,0,0,0,0,0,0,0,0,0,0,2,2,0]),(1000000,[5])],[],[]⟩) (rs := [ResultVar.cell 6 54,ResultVar.cell 7 38,ResultVar.tmp 8]) Try.mixed Try.func28 rfl rfl rfl (Nat.le_of_ble_eq_true rfl) (by kernel_rfl) fun H => ?_
      simp (disch := omega) only [↓aI,↓zP,aD,zD,aS,simprocAttr,Try.facts,zA]
      intro b3 hb30 hb3 b5 hb50 hb5 b6 hb60 hb6 b7 hb70 hb7
      have n36 := bK (am hb6)
      have n37 := bK (am (am hb7))
      have n56 := bK hb6
      have n57 := bK (am hb7)
      have n67 := bK hb7
      have n63 : ¬ b6 = b3 := fun e => n36 e.symm
      have n73 : ¬ b7 = b3 := fun e => n37 e.symm
      have n76 : ¬ b7 = b6 := fun e => n67 e.symm
      have q6 := am (am hb6)
      have q7 := am (am (am hb7))
      have hsub : ∀ x y z : AObj,Abs.Sub H (((H.set b3 x).set b6 y).set b7 z) := fun x y z => ((Sub.set_new hb3).set_free q6).set_free q7
      simp (disch := omega) only [↓aI,↓zP,aD,zD,aS,simprocAttr,Try.facts,zA,aP,n56,n57,n67,n76,kill_mid2 hb5 n56 n57]
      try simp (disch := omega) only [↓aI,↓zP,aD,zD,aS,simprocAttr,Try.facts,zA,ah,aP,n36,n37,n67,n63,n73,n76,set_flip n36,set_flip n37,set_flip n67,set_twice]
      first | refine CallK.p (hr) ?_ | refine CallP.i (hr) ?_
      simp (disch := omega) only [↓aI,↓zP,aD,zD,aS,simprocAttr,Try.facts,zA,ah,aP,n36,n37,n67,n63,n73,n76,set_flip n36,set_flip n37,set_flip n67,set_twice]
      first | refine CallK.p (hha) ?_ | refine CallP.i (hha) ?_
      simp (disch := omega) only [↓aI,↓zP,aD,zD,aS,simprocAttr,Try.facts,zA,ah,aP,n36,n37,n67,n63,n73,n76,set_flip n36,set_flip n37,set_flip n67,set_twice]
      first | refine CallK.p (hhe) ?_ | refine CallP.i (hhe) ?_
      simp (disch := omega) only [↓aI,↓zP,aD,zD,aS,simprocAttr,Try.facts,zA,ah,aP,n36,n37,n67,n63,n73,n76,set_flip n36,set_flip n37,set_flip n67,set_twice]
      first | refine CallK.p (htx) ?_ | refine CallP.i (htx) ?_
      simp (disch := omega) only [↓aI,↓zP,aD,zD,aS,simprocAttr,Try.facts,zA,ah,aP,n36,n37,n67,n63,n73,n76,set_flip n36,set_flip n37,set_flip n67,set_twice]
      first | refine CallK.p (hve) ?_ | refine CallP.i (hve) ?_
      simp (disch := omega) only [↓aI,↓zP,aD,zD,aS,simprocAttr,Try.facts,zA,ah,aP,n36,n37,n67,n63,n73,n76,set_flip n36,set_flip n37,set_flip n67,set_twice]
      first | exact ⟨rfl,hsub _ _ _⟩ | exact hsub _ _ _ | (trace_state; fail)
theorem ropen_pure {N : Nat} (ts : List Term) (d : Nat) (epoch : List UInt8) (l : Ltr) (hl : okL l) (g : GT N ts) (hN : N ≤ 999990) :
    APure Try.prog 30 [vaultV ts d,bytesV epoch,.agg (ltrC l)] (.tup [vaultV (openL ts epoch l).1 d,bytesV (openL ts epoch l).2.1,.sc (.int .i64 (openL ts epoch l).2.2)]) := by
  have hrt := rright_pure l (by have := hl.2.1; omega)
  by_cases hbad : rightL l = false ∨ epoch.length ≠ 32
  · have hR : openL ts epoch l = (ts,[],1) := if_pos hbad
    rw [hR]
    generalize rightL l = rl at *
    obtain ⟨kd,au,ep,nu,pv,bx,sg⟩ := l
    simp only [ltrC,vaultV] at *
    cases rl
    · refine az (c := ⟨Try.prog,53,[(4,[1,0,0,1,1,0,0,1,0,0,0,0,0,0]),(1000000,[5])],[],[]⟩) (rs := [ResultVar.cell 6 54,ResultVar.tmp 7,ResultVar.tmp 8]) Try.mixed Try.func30 rfl rfl rfl (Nat.le_of_ble_eq_true rfl) (by kernel_rfl) fun H => ?_
      simp (disch := omega) only [↓aI,↓zP,aD,zD,aS,simprocAttr,Try.facts,zA]
      intro b3 hb30 hb3 b5 hb50 hb5 b6 hb60 hb6
      have n36 := bK (am hb6)
      have n56 := bK hb6
      have n63 : ¬ b6 = b3 := fun e => n36 e.symm
      have q6 := am (am hb6)
      have hsub : ∀ x y : AObj,Abs.Sub H ((H.set b3 x).set b6 y) := fun x y => (Sub.set_new hb3).set_free q6
      simp (disch := omega) only [↓aI,↓zP,aD,zD,aS,simprocAttr,Try.facts,zA,aP,n56,kill_mid1 hb5 n56]
      try simp (disch := omega) only [↓aI,↓zP,aD,zD,aS,simprocAttr,Try.facts,zA,ah,aP,n36,n63,set_flip n36,set_twice]
      first | refine CallK.p (hrt) ?_ | refine CallP.i (hrt) ?_
      simp (disch := omega) only [↓aI,↓zP,aD,zD,aS,simprocAttr,Try.facts,zA,ah,aP,n36,n63,set_flip n36,set_twice]
      first | exact ⟨rfl,hsub _ _⟩ | exact hsub _ _ | (trace_state; fail)
    · have c2 : ¬ epoch.length = 32 := by
        rcases hbad with h | h
        · cases h
        · exact h
      refine az (c := ⟨Try.prog,53,[(4,[1,0,0,1,1,0,0,1,0,0,0,0,0,0]),(1000000,[5])],[],[]⟩) (rs := [ResultVar.cell 6 54,ResultVar.tmp 7,ResultVar.tmp 8]) Try.mixed Try.func30 rfl rfl rfl (Nat.le_of_ble_eq_true rfl) (by kernel_rfl) fun H => ?_
      simp (disch := omega) only [↓aI,↓zP,aD,zD,aS,simprocAttr,Try.facts,zA]
      intro b3 hb30 hb3 b5 hb50 hb5 b6 hb60 hb6
      have n36 := bK (am hb6)
      have n56 := bK hb6
      have n63 : ¬ b6 = b3 := fun e => n36 e.symm
      have q6 := am (am hb6)
      have hsub : ∀ x y : AObj,Abs.Sub H ((H.set b3 x).set b6 y) := fun x y => (Sub.set_new hb3).set_free q6
      simp (disch := omega) only [↓aI,↓zP,aD,zD,aS,simprocAttr,Try.facts,zA,aP,n56,kill_mid1 hb5 n56]
      try simp (disch := omega) only [↓aI,↓zP,aD,zD,aS,simprocAttr,Try.facts,zA,ah,aP,n36,n63,set_flip n36,set_twice]
      first | refine CallK.p (hrt) ?_ | refine CallP.i (hrt) ?_
      simp (disch := omega) only [↓aI,↓zP,aD,zD,aS,simprocAttr,Try.facts,zA,ah,aP,n36,n63,set_flip n36,set_twice]
      first | exact ⟨rfl,hsub _ _⟩ | exact hsub _ _ | (trace_state; fail)
  · have hr : rightL l = true := by
      rcases h : rightL l with _ | _
      · exact absurd (.inl h) hbad
      · rfl
    have he : epoch.length = 32 := by
      by_cases h : epoch.length = 32
      · exact h
      · exact absurd (.inr h) hbad
    obtain ⟨hnm,lb,lsg⟩ := right_facts hr
    have nf := named_facts hnm
    have hhd := headL_len l
    have hR : openL ts epoch l = ((numT ts (keyTm epoch l)).1,
      if (openP (numT ts (keyTm epoch l)).1 (keyN ts epoch l) l).2 ≠ 0 then ([],(openP (numT ts (keyTm epoch l)).1 (keyN ts epoch l) l).2)
      else unpadL (openP (numT ts (keyTm epoch l)).1 (keyN ts epoch l) l).1) := if_neg hbad
    have hk := vkey_pure ts d epoch l he g hN
    have wk : wfT (keyTm epoch l) := wf2 (k := 107) (by decide) (by omega) (by have := keyI_len l; omega)
    have g1 := g.num wk (fun e => absurd (show (107 : UInt8) = 112 from e) (by decide))
    have lK : (keyN ts epoch l).length = 32 := by unfold keyN; rw [nameT_length]; rfl
    have hpl := openP_len (key := keyN ts epoch l) (l := l) g1
    have hhe := rhead_pure [] l (by simp) (by omega)
    have ho := vopen_pure (numT ts (keyTm epoch l)).1 d (keyN ts epoch l) l.number.toNat (headL l) l.box lK (by omega) g1.wf (by have := g1.len; omega)
    rw [openP_V] at ho
    rw [List.nil_append] at hhe
    rw [hR]
    rw [hr] at hrt
    generalize openP (numT ts (keyTm epoch l)).1 (keyN ts epoch l) l = P at *
    generalize keyN ts epoch l = K at *
    generalize (numT ts (keyTm epoch l)).1 = ts1 at *
    generalize headL l = HL at *
    obtain ⟨p,pe⟩ := P
    simp only [] at hpl
    have hu := runpad_pure p (by omega)
    generalize unpadL p = U at *
    obtain ⟨kd,au,ep,nu,pv,bx,sg⟩ := l
    simp only at nf
    obtain ⟨w,rfl⟩ : ∃ w : Nat,nu = w := ⟨nu.toNat,by omega⟩
    simp only [ltrC,vaultV,Int.toNat_natCast] at *
    by_cases c : pe = 0
    · subst c
      rw [if_neg (by simp)]
      refine az (c := ⟨Try.prog,53,[(4,[1,0,0,1,1,0,0,1,0,0,0,0,0,0]),(1000000,[5])],[],[]⟩) (rs := [ResultVar.cell 6 54,ResultVar.tmp 7,ResultVar.tmp 8]) Try.mixed Try.func30 rfl rfl rfl (Nat.le_of_ble_eq_true rfl) (by kernel_rfl) fun H => ?_
      simp (disch := omega) only [↓aI,↓zP,aD,zD,aS,simprocAttr,Try.facts,zA]
      intro b3 hb30 hb3 b5 hb50 hb5 b6 hb60 hb6
      have n36 := bK (am hb6)
      have n56 := bK hb6
      have n63 : ¬ b6 = b3 := fun e => n36 e.symm
      have q6 := am (am hb6)
      have hsub : ∀ x y : AObj,Abs.Sub H ((H.set b3 x).set b6 y) := fun x y => (Sub.set_new hb3).set_free q6
      simp (disch := omega) only [↓aI,↓zP,aD,zD,aS,simprocAttr,Try.facts,zA,aP,n56,kill_mid1 hb5 n56]
      try simp (disch := omega) only [↓aI,↓zP,aD,zD,aS,simprocAttr,Try.facts,zA,ah,aP,n36,n63,set_flip n36,set_twice]
      first | refine CallK.p (hrt) ?_ | refine CallP.i (hrt) ?_
      simp (disch := omega) only [↓aI,↓zP,aD,zD,aS,simprocAttr,Try.facts,zA,ah,aP,n36,n63,set_flip n36,set_twice]
      first | refine CallK.p (hk) ?_ | refine CallP.i (hk) ?_
      simp (disch := omega) only [↓aI,↓zP,aD,zD,aS,simprocAttr,Try.facts,zA,ah,aP,n36,n63,set_flip n36,set_twice]
      first | refine CallK.p (hhe) ?_ | refine CallP.i (hhe) ?_
      simp (disch := omega) only [↓aI,↓zP,aD,zD,aS,simprocAttr,Try.facts,zA,ah,aP,n36,n63,set_flip n36,set_twice]
      first | refine CallK.p (ho) ?_ | refine CallP.i (ho) ?_
      simp (disch := omega) only [↓aI,↓zP,aD,zD,aS,simprocAttr,Try.facts,zA,ah,aP,n36,n63,set_flip n36,set_twice]
      first | refine CallK.p (hu) ?_ | refine CallP.i (hu) ?_
      simp (disch := omega) only [↓aI,↓zP,aD,zD,aS,simprocAttr,Try.facts,zA,ah,aP,n36,n63,set_flip n36,set_twice]
      first | exact ⟨rfl,hsub _ _⟩ | exact hsub _ _ | (trace_state; fail)
    · rw [if_pos c]
      refine az (c := ⟨Try.prog,53,[(4,[1,0,0,1,1,0,0,1,0,0,0,0,0,0]),(1000000,[5])],[],[]⟩) (rs := [ResultVar.cell 6 54,ResultVar.tmp 7,ResultVar.tmp 8]) Try.mixed Try.func30 rfl rfl rfl (Nat.le_of_ble_eq_true rfl) (by kernel_rfl) fun H => ?_
      simp (disch := omega) only [↓aI,↓zP,aD,zD,aS,simprocAttr,Try.facts,zA]
      intro b3 hb30 hb3 b5 hb50 hb5 b6 hb60 hb6
      have n36 := bK (am hb6)
      have n56 := bK hb6
      have n63 : ¬ b6 = b3 := fun e => n36 e.symm
      have q6 := am (am hb6)
      have hsub : ∀ x y : AObj,Abs.Sub H ((H.set b3 x).set b6 y) := fun x y => (Sub.set_new hb3).set_free q6
      simp (disch := omega) only [↓aI,↓zP,aD,zD,aS,simprocAttr,Try.facts,zA,aP,n56,kill_mid1 hb5 n56]
      try simp (disch := omega) only [↓aI,↓zP,aD,zD,aS,simprocAttr,Try.facts,zA,ah,aP,n36,n63,set_flip n36,set_twice]
      first | refine CallK.p (hrt) ?_ | refine CallP.i (hrt) ?_
      simp (disch := omega) only [↓aI,↓zP,aD,zD,aS,simprocAttr,Try.facts,zA,ah,aP,n36,n63,set_flip n36,set_twice]
      first | refine CallK.p (hk) ?_ | refine CallP.i (hk) ?_
      simp (disch := omega) only [↓aI,↓zP,aD,zD,aS,simprocAttr,Try.facts,zA,ah,aP,n36,n63,set_flip n36,set_twice]
      first | refine CallK.p (hhe) ?_ | refine CallP.i (hhe) ?_
      simp (disch := omega) only [↓aI,↓zP,aD,zD,aS,simprocAttr,Try.facts,zA,ah,aP,n36,n63,set_flip n36,set_twice]
      first | refine CallK.p (ho) ?_ | refine CallP.i (ho) ?_
      simp (disch := omega) only [↓aI,↓zP,aD,zD,aS,simprocAttr,Try.facts,zA,ah,aP,n36,n63,set_flip n36,set_twice]
      first | exact ⟨rfl,hsub _ _⟩ | exact hsub _ _ | (trace_state; fail)
end Go.Proofs.Ytaehlpkinbpmbaa
