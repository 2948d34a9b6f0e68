/-
  The document's letters: letters that are made.
  Conditions: none. Lemmas only.
-/
import Derived.Test.YtaehlpkinbpmbaaLtL
import Derived.Test.YtaehlpkinbpmbaaLtH
set_option linter.all false
set_option linter.unusedSimpArgs false
set_option linter.unusedVariables false
set_option maxRecDepth 20000
set_option maxHeartbeats 16000000
namespace Go.Proofs.Ytaehlpkinbpmbaa
open Go Go.Abs Go.Proofs
theorem rmake_bad {N : Nat} (ts : List Term) (d : Nat) (secret epoch : List UInt8) (l : Ltr) (text : List UInt8) (ht : text.length ≤ 3000000) (hbad : secret.length ≠ 32 ∨ epoch.length ≠ 32 ∨ namedL l = false ∨ (padL text).2 ≠ 0) :
    APure Try.prog 27 [vaultV ts d,bytesV secret,bytesV epoch,.agg (ltrC l),bytesV text] (.tup [vaultV (makeL ts secret epoch l text).1 d,.agg (ltrC (makeL ts secret epoch l text).2.1),.sc (.int .i64 (makeL ts secret epoch l text).2.2)]) := by
  have hn := rnamed_pure l
  have hp := rpad_pure text ht
  have hR : makeL ts secret epoch l text = if secret.length ≠ 32 ∨ epoch.length ≠ 32 ∨ namedL l = false then (ts,zeroL,1) else if (padL text).2 ≠ 0 then (ts,zeroL,(padL text).2) else ((madeL ts secret epoch l (padL text).1).ts4,boxed l (madeL ts secret epoch l (padL text).1).box (madeL ts secret epoch l (padL text).1).sig,0) := rfl
  generalize makeL ts secret epoch l text = R at *
  generalize madeL ts secret epoch l (padL text).1 = MD at *
  generalize namedL l = nm at *
  generalize padL text = PD at *
  obtain ⟨p,pe⟩ := PD
  simp only [] at hp hR hbad
  have hz : ltrC zeroL = [.sc (.int .i64 0),.sc (.int .i64 0),.sc (.int .i64 0),.sc (.int .i64 0),.imm 0 [] 0,.imm 0 [] 0,.imm 0 [] 0] := rfl
  obtain ⟨kd,au,ep,nu,pv,bx,sg⟩ := l
  simp only [ltrC,vaultV] at *
  have c1 : ¬ secret.length = 32 ∨ (secret.length = 32 ∧ ¬ epoch.length = 32) ∨ (secret.length = 32 ∧ epoch.length = 32 ∧ nm = false) ∨ (secret.length = 32 ∧ epoch.length = 32 ∧ nm = true ∧ ¬ pe = 0) := by
    cases nm
    · by_cases a : secret.length = 32
      · by_cases b : epoch.length = 32
        · exact .inr (.inr (.inl ⟨a,b,rfl⟩))
        · exact .inr (.inl ⟨a,b⟩)
      · exact .inl a
    · rcases hbad with h | h | h | h
      · exact .inl h
      · omega
      · cases h
      · by_cases a : secret.length = 32
        · by_cases b : epoch.length = 32
          · exact .inr (.inr (.inr ⟨a,b,rfl,h⟩))
          · exact .inr (.inl ⟨a,b⟩)
        · exact .inl a
  rcases c1 with h1 | ⟨h1,h2⟩ | ⟨h1,h2,rfl⟩ | ⟨h1,h2,rfl,h4⟩
  · rw [if_pos (.inl h1)] at hR
    subst hR
    refine az (c := ⟨Try.prog,93,[(8,[1,0,0,1,1,0,0,0,0,0,0,2,0,2]),(10,[1,0,1,0,0,0,0,0,0,0,2,0,2]),(11,[1,0,2,2,0]),(1000000,[8]),(4000011,[10,11,12]),(4000010,[5,10,11,15]),(4000009,[1,5,8,10,11,15,17]),(4000008,[1,5,8,10,11,15]),(4000007,[1,5,8,10,11,13,15,16]),(4000006,[1,2,5,8,10,11,13,15]),(4000005,[10,11,12]),(4000003,[1,2,5,8,10,11,13,14]),(4000002,[10,11,12]),(4000001,[1,2,4,5,8,10,11,30]),(4000000,[1,2,4,5,8,10,11])],[],[(11,(.or (.op 0 2 (.or (.op 1 2 (.op 2 2 (.op 3 2 (.op 4 0 .nil)))) (.op 2 2 (.op 1 2 (.op 3 2 (.op 4 0 .nil)))))) (.op 1 2 (.op 0 2 (.op 2 2 (.op 3 2 (.op 4 0 .nil)))))))]⟩) (rs := [ResultVar.cell 10 54,ResultVar.cell 11 24,ResultVar.tmp 12]) Try.mixed Try.func27 rfl rfl rfl (Nat.le_of_ble_eq_true rfl) (by kernel_rfl) fun H => ?_
    simp (disch := omega) only [↓aI,↓zP,aD,zD,aS,simprocAttr,Try.facts,zA]
    intro b5 hb50 hb5 b8 hb80 hb8 b10 hb100 hb10 b11 hb110 hb11
    have n58 := bK hb8
    have n510 := bK (am hb10)
    have n511 := bK (am (am hb11))
    have n810 := bK hb10
    have n811 := bK (am hb11)
    have n1011 := bK hb11
    have n105 : ¬ b10 = b5 := fun e => n510 e.symm
    have n115 : ¬ b11 = b5 := fun e => n511 e.symm
    have n1110 : ¬ b11 = b10 := fun e => n1011 e.symm
    have f10 := am (am hb10)
    have f11 := am (am (am hb11))
    have hsub : ∀ x y z : AObj,Abs.Sub H (((H.set b5 x).set b10 y).set b11 z) := fun x y z => ((Sub.set_new hb5).set_free f10).set_free f11
    simp (disch := omega) only [↓aI,↓zP,aD,zD,aS,simprocAttr,Try.facts,zA,aP,n58,n510,n511,n810,n811,n1011,n105,n115,n1110,kill_mid2 hb8 n810 n811]
    try simp (disch := omega) only [↓aI,↓zP,aD,zD,aS,simprocAttr,Try.facts,zA,ah,aP,n58,n510,n511,n810,n811,n1011,n105,n115,n1110,set_flip n510,set_flip n511,set_flip n1011,set_twice]
    exact ⟨rfl,hsub _ _ _⟩
  · rw [if_pos (.inr (.inl h2))] at hR
    subst hR
    refine az (c := ⟨Try.prog,93,[(8,[1,0,0,1,1,0,0,0,0,0,0,2,0,2]),(10,[1,0,1,0,0,0,0,0,0,0,2,0,2]),(11,[1,0,2,2,0]),(1000000,[8]),(4000011,[10,11,12]),(4000010,[5,10,11,15]),(4000009,[1,5,8,10,11,15,17]),(4000008,[1,5,8,10,11,15]),(4000007,[1,5,8,10,11,13,15,16]),(4000006,[1,2,5,8,10,11,13,15]),(4000005,[10,11,12]),(4000003,[1,2,5,8,10,11,13,14]),(4000002,[10,11,12]),(4000001,[1,2,4,5,8,10,11,30]),(4000000,[1,2,4,5,8,10,11])],[],[(11,(.or (.op 0 2 (.or (.op 1 2 (.op 2 2 (.op 3 2 (.op 4 0 .nil)))) (.op 2 2 (.op 1 2 (.op 3 2 (.op 4 0 .nil)))))) (.op 1 2 (.op 0 2 (.op 2 2 (.op 3 2 (.op 4 0 .nil)))))))]⟩) (rs := [ResultVar.cell 10 54,ResultVar.cell 11 24,ResultVar.tmp 12]) Try.mixed Try.func27 rfl rfl rfl (Nat.le_of_ble_eq_true rfl) (by kernel_rfl) fun H => ?_
    simp (disch := omega) only [↓aI,↓zP,aD,zD,aS,simprocAttr,Try.facts,zA]
    intro b5 hb50 hb5 b8 hb80 hb8 b10 hb100 hb10 b11 hb110 hb11
    have n58 := bK hb8
    have n510 := bK (am hb10)
    have n511 := bK (am (am hb11))
    have n810 := bK hb10
    have n811 := bK (am hb11)
    have n1011 := bK hb11
    have n105 : ¬ b10 = b5 := fun e => n510 e.symm
    have n115 : ¬ b11 = b5 := fun e => n511 e.symm
    have n1110 : ¬ b11 = b10 := fun e => n1011 e.symm
    have f10 := am (am hb10)
    have f11 := am (am (am hb11))
    have hsub : ∀ x y z : AObj,Abs.Sub H (((H.set b5 x).set b10 y).set b11 z) := fun x y z => ((Sub.set_new hb5).set_free f10).set_free f11
    simp (disch := omega) only [↓aI,↓zP,aD,zD,aS,simprocAttr,Try.facts,zA,aP,n58,n510,n511,n810,n811,n1011,n105,n115,n1110,kill_mid2 hb8 n810 n811]
    try simp (disch := omega) only [↓aI,↓zP,aD,zD,aS,simprocAttr,Try.facts,zA,ah,aP,n58,n510,n511,n810,n811,n1011,n105,n115,n1110,set_flip n510,set_flip n511,set_flip n1011,set_twice]
    exact ⟨rfl,hsub _ _ _⟩
  · rw [if_pos (.inr (.inr rfl))] at hR
    subst hR
    refine az (c := ⟨Try.prog,93,[(8,[1,0,0,1,1,0,0,0,0,0,0,2,0,2]),(10,[1,0,1,0,0,0,0,0,0,0,2,0,2]),(11,[1,0,2,2,0]),(1000000,[8]),(4000011,[10,11,12]),(4000010,[5,10,11,15]),(4000009,[1,5,8,10,11,15,17]),(4000008,[1,5,8,10,11,15]),(4000007,[1,5,8,10,11,13,15,16]),(4000006,[1,2,5,8,10,11,13,15]),(4000005,[10,11,12]),(4000003,[1,2,5,8,10,11,13,14]),(4000002,[10,11,12]),(4000001,[1,2,4,5,8,10,11,30]),(4000000,[1,2,4,5,8,10,11])],[],[(11,(.or (.op 0 2 (.or (.op 1 2 (.op 2 2 (.op 3 2 (.op 4 0 .nil)))) (.op 2 2 (.op 1 2 (.op 3 2 (.op 4 0 .nil)))))) (.op 1 2 (.op 0 2 (.op 2 2 (.op 3 2 (.op 4 0 .nil)))))))]⟩) (rs := [ResultVar.cell 10 54,ResultVar.cell 11 24,ResultVar.tmp 12]) Try.mixed Try.func27 rfl rfl rfl (Nat.le_of_ble_eq_true rfl) (by kernel_rfl) fun H => ?_
    simp (disch := omega) only [↓aI,↓zP,aD,zD,aS,simprocAttr,Try.facts,zA]
    intro b5 hb50 hb5 b8 hb80 hb8 b10 hb100 hb10 b11 hb110 hb11
    have n58 := bK hb8
    have n510 := bK (am hb10)
    have n511 := bK (am (am hb11))
    have n810 := bK hb10
    have n811 := bK (am hb11)
    have n1011 := bK hb11
    have n105 : ¬ b10 = b5 := fun e => n510 e.symm
    have n115 : ¬ b11 = b5 := fun e => n511 e.symm
    have n1110 : ¬ b11 = b10 := fun e => n1011 e.symm
    have f10 := am (am hb10)
    have f11 := am (am (am hb11))
    have hsub : ∀ x y z : AObj,Abs.Sub H (((H.set b5 x).set b10 y).set b11 z) := fun x y z => ((Sub.set_new hb5).set_free f10).set_free f11
    simp (disch := omega) only [↓aI,↓zP,aD,zD,aS,simprocAttr,Try.facts,zA,aP,n58,n510,n511,n810,n811,n1011,n105,n115,n1110,kill_mid2 hb8 n810 n811]
    try simp (disch := omega) only [↓aI,↓zP,aD,zD,aS,simprocAttr,Try.facts,zA,ah,aP,n58,n510,n511,n810,n811,n1011,n105,n115,n1110,set_flip n510,set_flip n511,set_flip n1011,set_twice]
    first | refine CallK.p (hn) ?_ | refine CallP.i (hn) ?_
    simp (disch := omega) only [↓aI,↓zP,aD,zD,aS,simprocAttr,Try.facts,zA,ah,aP,n58,n510,n511,n810,n811,n1011,n105,n115,n1110,set_flip n510,set_flip n511,set_flip n1011,set_twice]
    exact ⟨rfl,hsub _ _ _⟩
  · rw [if_neg (by simp [h1,h2]),if_pos h4] at hR
    subst hR
    refine az (c := ⟨Try.prog,93,[(8,[1,0,0,1,1,0,0,0,0,0,0,2,0,2]),(10,[1,0,1,0,0,0,0,0,0,0,2,0,2]),(11,[1,0,2,2,0]),(1000000,[8]),(4000011,[10,11,12]),(4000010,[5,10,11,15]),(4000009,[1,5,8,10,11,15,17]),(4000008,[1,5,8,10,11,15]),(4000007,[1,5,8,10,11,13,15,16]),(4000006,[1,2,5,8,10,11,13,15]),(4000005,[10,11,12]),(4000003,[1,2,5,8,10,11,13,14]),(4000002,[10,11,12]),(4000001,[1,2,4,5,8,10,11,30]),(4000000,[1,2,4,5,8,10,11])],[],[(11,(.or (.op 0 2 (.or (.op 1 2 (.op 2 2 (.op 3 2 (.op 4 0 .nil)))) (.op 2 2 (.op 1 2 (.op 3 2 (.op 4 0 .nil)))))) (.op 1 2 (.op 0 2 (.op 2 2 (.op 3 2 (.op 4 0 .nil)))))))]⟩) (rs := [ResultVar.cell 10 54,ResultVar.cell 11 24,ResultVar.tmp 12]) Try.mixed Try.func27 rfl rfl rfl (Nat.le_of_ble_eq_true rfl) (by kernel_rfl) fun H => ?_
    simp (disch := omega) only [↓aI,↓zP,aD,zD,aS,simprocAttr,Try.facts,zA]
    intro b5 hb50 hb5 b8 hb80 hb8 b10 hb100 hb10 b11 hb110 hb11
    have n58 := bK hb8
    have n510 := bK (am hb10)
    have n511 := bK (am (am hb11))
    have n810 := bK hb10
    have n811 := bK (am hb11)
    have n1011 := bK hb11
    have n105 : ¬ b10 = b5 := fun e => n510 e.symm
    have n115 : ¬ b11 = b5 := fun e => n511 e.symm
    have n1110 : ¬ b11 = b10 := fun e => n1011 e.symm
    have f10 := am (am hb10)
    have f11 := am (am (am hb11))
    have hsub : ∀ x y z : AObj,Abs.Sub H (((H.set b5 x).set b10 y).set b11 z) := fun x y z => ((Sub.set_new hb5).set_free f10).set_free f11
    simp (disch := omega) only [↓aI,↓zP,aD,zD,aS,simprocAttr,Try.facts,zA,aP,n58,n510,n511,n810,n811,n1011,n105,n115,n1110,kill_mid2 hb8 n810 n811]
    try simp (disch := omega) only [↓aI,↓zP,aD,zD,aS,simprocAttr,Try.facts,zA,ah,aP,n58,n510,n511,n810,n811,n1011,n105,n115,n1110,set_flip n510,set_flip n511,set_flip n1011,set_twice]
    first | refine CallK.p (hn) ?_ | refine CallP.i (hn) ?_
    simp (disch := omega) only [↓aI,↓zP,aD,zD,aS,simprocAttr,Try.facts,zA,ah,aP,n58,n510,n511,n810,n811,n1011,n105,n115,n1110,set_flip n510,set_flip n511,set_flip n1011,set_twice]
    first | refine CallK.p (hp) ?_ | refine CallP.i (hp) ?_
    simp (disch := omega) only [↓aI,↓zP,aD,zD,aS,simprocAttr,Try.facts,zA,ah,aP,n58,n510,n511,n810,n811,n1011,n105,n115,n1110,set_flip n510,set_flip n511,set_flip n1011,set_twice]
    exact ⟨rfl,hsub _ _ _⟩
theorem rmake_good {N : Nat} (ts : List Term) (d : Nat) (secret epoch : List UInt8) (l : Ltr) (text : List UInt8) (ht : text.length ≤ 3000000) (g : GT N ts) (hN : N ≤ 999990) (c1 : secret.length = 32) (c2 : epoch.length = 32) (c3 : namedL l = true) (c4 : (padL text).2 = 0) :
    APure Try.prog 27 [vaultV ts d,bytesV secret,bytesV epoch,.agg (ltrC l),bytesV text] (.tup [vaultV (madeL ts secret epoch l (padL text).1).ts4 d,.agg (ltrC (boxed l (madeL ts secret epoch l (padL text).1).box (madeL ts secret epoch l (padL text).1).sig)),.sc (.int .i64 0)]) := by
  have hn := rnamed_pure l
  have hp := rpad_pure text ht
  obtain ⟨f1,f2,f3,f4,f5,f6,f7,f8,f9⟩ := named_facts c3
  obtain ⟨lp,-⟩ := padL_len c4
  rw [c3] at hn
  rw [c4] at hp
  have hhd := headL_len l
  have hh := rhead_pure [] l (by simp) (by omega)
  have hk := vkey_pure ts d epoch l c2 g hN
  generalize hMD : madeL ts secret epoch l (padL text).1 = MD at *
  generalize hP : (padL text).1 = p at *
  obtain ⟨kd,au,ep,nu,pv,bx,sg⟩ := l
  obtain ⟨w,rfl⟩ : ∃ w : Nat,nu = w := ⟨nu.toNat,by simp only [] at f7; omega⟩
  generalize hHL : headL ⟨kd,au,ep,(w : Int),pv,bx,sg⟩ = HL at *
  have hMD' := hMD
  unfold madeL at hMD'
  simp only [hHL,Int.toNat_natCast] at hMD'
  have hkt : keyTm epoch ⟨kd,au,ep,(w : Int),pv,bx,sg⟩ = MD.kt := by rw [← hMD']
  unfold keyN at hk
  rw [hkt] at hk
  obtain ⟨kt,ts1,bt,ts2,box,hash,ts3,st,ts4,sig⟩ := MD
  simp only [Made.mk.injEq] at hMD'
  obtain ⟨e1,e2,e3,e4,e5,e6,e7,e8,e9,e10⟩ := hMD'
  simp only [] at hk ⊢
  rw [e1] at e2 e3 e4 e5 e6 e7 e8 e9 e10
  generalize hK : nameT kt (numT ts kt).2 = K at *
  rw [e2] at e4 e5 e6 e7 e8 e9 e10
  rw [e3] at e4 e5 e6 e7 e8 e9 e10
  rw [e4] at e6 e7 e8 e9 e10
  rw [e5] at e6 e7 e8 e9 e10
  rw [e6] at e8 e9 e10
  rw [e7] at e9 e10
  rw [e8] at e9 e10
  have e3' : (⟨98,[K,lowL 8 w,HL,p]⟩ : Term) = bt := e3
  have wk : wfT kt := by rw [← e1]; exact wf2 (k := 107) (by decide) (by omega) (by have := keyI_len ⟨kd,au,ep,(w : Int),pv,bx,sg⟩; omega)
  have lK : K.length = 32 := by rw [← hK,nameT_length,← e1]; rfl
  have hHLl : HL.length ≤ 100 := by simp only [] at hhd f9; omega
  have g1 : GT (N + 1) ts1 := by rw [← e2]; exact g.num wk (fun e => by rw [← e1] at e; exact absurd (show (107 : UInt8) = 112 from e) (by decide))
  have wb : wfT bt := by rw [← e3]; exact wf4 (by omega) (by rw [lowL_length]; omega) (by omega) (by omega)
  have g2 : GT (N + 2) ts2 := by rw [← e4]; exact g1.num wb (fun e => by rw [← e3] at e; exact absurd (show (98 : UInt8) = 112 from e) (by decide))
  have lbox : box.length = p.length + 16 := by rw [← e5,nameT_length,← e3]; rfl
  have wh : wfT ⟨104,[box]⟩ := wf1 (by decide) (by omega)
  have g3 : GT (N + 3) ts3 := by rw [← e7]; exact g2.num wh (fun e => absurd (show (104 : UInt8) = 112 from e) (by decide))
  have lhash : hash.length = 32 := by rw [← e6,nameT_length]; rfl
  have hw9 : w < 9223372036854775808 := by simp only [] at f8; omega
  have hs := vseal_pure ts1 d K w HL p hw9 (by rw [e3']; exact wb.1) g1.ok (by have := g1.len; omega)
  have hha := vhash_pure ts2 d box wh.1 g2.ok (by have := g2.len; omega)
  have hsi := vsign_pure ts3 d secret (HL ++ vtext hash) (wf2 (k := 103) (by decide) (by omega) (by rw [List.length_append]; have := vtext_len hash; omega)).1 g3.ok (by have := g3.len; omega)
  rw [e2] at hk
  rw [if_pos lK,e3',e5,e4] at hs
  rw [e6,e7] at hha
  rw [if_pos c1,e8,e9,e10] at hsi
  have eb : bytesV (HL ++ vtext hash) = .imm 0 (bw (HL ++ vtext hash)) (HL.length + (vtext hash).length) := by rw [bytesV,List.length_append]
  rw [eb] at hsi
  have htx := rtext_pure HL hash (by omega) (by omega)
  rw [List.nil_append] at hh
  simp only [boxed,ltrC,vaultV] at *
  refine az (c := ⟨Try.prog,93,[(8,[1,0,0,1,1,0,0,0,0,0,0,2,0,2]),(10,[1,0,1,0,0,0,0,0,0,0,2,0,2]),(11,[1,0,2,2,0]),(1000000,[8]),(4000011,[10,11,12]),(4000010,[5,10,11,15]),(4000009,[1,5,8,10,11,15,17]),(4000008,[1,5,8,10,11,15]),(4000007,[1,5,8,10,11,13,15,16]),(4000006,[1,2,5,8,10,11,13,15]),(4000005,[10,11,12]),(4000003,[1,2,5,8,10,11,13,14]),(4000002,[10,11,12]),(4000001,[1,2,4,5,8,10,11,30]),(4000000,[1,2,4,5,8,10,11])],[],[(11,(.or (.op 0 2 (.or (.op 1 2 (.op 2 2 (.op 3 2 (.op 4 0 .nil)))) (.op 2 2 (.op 1 2 (.op 3 2 (.op 4 0 .nil)))))) (.op 1 2 (.op 0 2 (.op 2 2 (.op 3 2 (.op 4 0 .nil)))))))]⟩) (rs := [ResultVar.cell 10 54,ResultVar.cell 11 24,ResultVar.tmp 12]) Try.mixed Try.func27 rfl rfl rfl (Nat.le_of_ble_eq_true rfl) (by kernel_rfl) fun H => ?_
  simp (disch := omega) only [↓aI,↓zP,aD,zD,aS,simprocAttr,Try.facts,zA]
  intro b5 hb50 hb5 b8 hb80 hb8 b10 hb100 hb10 b11 hb110 hb11
  have n58 := bK hb8
  have n510 := bK (am hb10)
  have n511 := bK (am (am hb11))
  have n810 := bK hb10
  have n811 := bK (am hb11)
  have n1011 := bK hb11
  have n105 : ¬ b10 = b5 := fun e => n510 e.symm
  have n115 : ¬ b11 = b5 := fun e => n511 e.symm
  have n1110 : ¬ b11 = b10 := fun e => n1011 e.symm
  have q10 := am (am hb10)
  have q11 := am (am (am hb11))
  simp (disch := omega) only [↓aI,↓zP,aD,zD,aS,simprocAttr,Try.facts,zA,aP,n58,n510,n511,n810,n811,n1011,n105,n115,n1110,kill_mid2 hb8 n810 n811]
  first | refine CallK.p (hn) ?_ | refine CallP.i (hn) ?_
  simp (disch := omega) only [↓aI,↓zP,aD,zD,aS,simprocAttr,Try.facts,zA]
  first | refine CallK.p (hp) ?_ | refine CallP.i (hp) ?_
  simp (disch := omega) only [↓aI,↓zP,aD,zD,aS,simprocAttr,Try.facts,zA]
  intro b15 hb150 hb15
  have n515 := bK (am (am hb15))
  have n1015 := bK (am hb15)
  have n1115 := bK hb15
  have n155 : ¬ b15 = b5 := fun e => n515 e.symm
  have n1510 : ¬ b15 = b10 := fun e => n1015 e.symm
  have n1511 : ¬ b15 = b11 := fun e => n1115 e.symm
  have q15 := am (am (am hb15))
  have hsub : ∀ x y z u : AObj,Abs.Sub H ((((H.set b5 x).set b10 y).set b11 z).set b15 u) := fun x y z u => (((Sub.set_new hb5).set_free q10).set_free q11).set_free q15
  try simp (disch := omega) only [↓aI,↓zP,aD,zD,aS,simprocAttr,Try.facts,zA,ah,aP,n58,n510,n511,n515,n810,n811,n1011,n1015,n1115,n105,n115,n155,n1110,n1510,n1511,set_flip n510,set_flip n511,set_flip n515,set_flip n1011,set_flip n1015,set_flip n1115,set_twice]
  first | refine CallK.p (hk) ?_ | refine CallP.i (hk) ?_
  simp (disch := omega) only [↓aI,↓zP,aD,zD,aS,simprocAttr,Try.facts,zA,ah,aP,n58,n510,n511,n515,n810,n811,n1011,n1015,n1115,n105,n115,n155,n1110,n1510,n1511,set_flip n510,set_flip n511,set_flip n515,set_flip n1011,set_flip n1015,set_flip n1115,set_twice]
  first | refine CallK.p (hh) ?_ | refine CallP.i (hh) ?_
  simp (disch := omega) only [↓aI,↓zP,aD,zD,aS,simprocAttr,Try.facts,zA,ah,aP,n58,n510,n511,n515,n810,n811,n1011,n1015,n1115,n105,n115,n155,n1110,n1510,n1511,set_flip n510,set_flip n511,set_flip n515,set_flip n1011,set_flip n1015,set_flip n1115,set_twice]
  first | refine CallK.p (hs) ?_ | refine CallP.i (hs) ?_
  simp (disch := omega) only [↓aI,↓zP,aD,zD,aS,simprocAttr,Try.facts,zA,ah,aP,n58,n510,n511,n515,n810,n811,n1011,n1015,n1115,n105,n115,n155,n1110,n1510,n1511,set_flip n510,set_flip n511,set_flip n515,set_flip n1011,set_flip n1015,set_flip n1115,set_twice]
  first | refine CallK.p (hha) ?_ | refine CallP.i (hha) ?_
  simp (disch := omega) only [↓aI,↓zP,aD,zD,aS,simprocAttr,Try.facts,zA,ah,aP,n58,n510,n511,n515,n810,n811,n1011,n1015,n1115,n105,n115,n155,n1110,n1510,n1511,set_flip n510,set_flip n511,set_flip n515,set_flip n1011,set_flip n1015,set_flip n1115,set_twice]
  first | refine CallK.p (hh) ?_ | refine CallP.i (hh) ?_
  simp (disch := omega) only [↓aI,↓zP,aD,zD,aS,simprocAttr,Try.facts,zA,ah,aP,n58,n510,n511,n515,n810,n811,n1011,n1015,n1115,n105,n115,n155,n1110,n1510,n1511,set_flip n510,set_flip n511,set_flip n515,set_flip n1011,set_flip n1015,set_flip n1115,set_twice]
  first | refine CallK.p (htx) ?_ | refine CallP.i (htx) ?_
  simp (disch := omega) only [↓aI,↓zP,aD,zD,aS,simprocAttr,Try.facts,zA,ah,aP,n58,n510,n511,n515,n810,n811,n1011,n1015,n1115,n105,n115,n155,n1110,n1510,n1511,set_flip n510,set_flip n511,set_flip n515,set_flip n1011,set_flip n1015,set_flip n1115,set_twice]
  first | refine CallK.p (hsi) ?_ | refine CallP.i (hsi) ?_
  simp (disch := omega) only [↓aI,↓zP,aD,zD,aS,simprocAttr,Try.facts,zA,ah,aP,n58,n510,n511,n515,n810,n811,n1011,n1015,n1115,n105,n115,n155,n1110,n1510,n1511,set_flip n510,set_flip n511,set_flip n515,set_flip n1011,set_flip n1015,set_flip n1115,set_twice]
  refine eI (fun σ F => F = (((H.set b5 (.cells [.imm 0 (dC ts4) ts4.length,.sc (.int .i64 (d : Nat))] 54 2)).set b10 (.cells [.imm 0 (dC ts4) ts4.length,.sc (.int .i64 (d : Nat))] 54 2)).set b11 (.cells [.sc (.int .i64 kd),.sc (.int .i64 au),.sc (.int .i64 ep),.sc (.int .i64 w),.imm 0 (bw pv) pv.length,.imm 0 (bw box) box.length,.imm 0 (bw sig) sig.length] 24 7)).set b15 (.cells [.sc (.int .i64 kd),.sc (.int .i64 au),.sc (.int .i64 ep),.sc (.int .i64 w),.imm 0 (bw pv) pv.length,.imm 0 (bw box) box.length,.imm 0 (bw sig) sig.length] 24 7) ∧ σ 10 = .ptr b10 0 ∧ σ 11 = .ptr b11 0 ∧ σ 12 = .sc (.int .i64 0)) ?_ ?_
  · simp (disch := omega) only [↓aI,↓zP,aD,zD,aS,simprocAttr,Try.facts,zA,ah,aP,n58,n510,n511,n515,n810,n811,n1011,n1015,n1115,n105,n115,n155,n1110,n1510,n1511,set_flip n510,set_flip n511,set_flip n515,set_flip n1011,set_flip n1015,set_flip n1115,set_twice]
  · rintro σ F ⟨rfl,s10,s11,s12⟩
    simp (disch := omega) only [↓aI,↓zP,aD,zD,aS,simprocAttr,Try.facts,s10,s11,s12,zA,ah,aP,n58,n510,n511,n515,n810,n811,n1011,n1015,n1115,n105,n115,n155,n1110,n1510,n1511,set_flip n510,set_flip n511,set_flip n515,set_flip n1011,set_flip n1015,set_flip n1115,set_twice]
    exact hsub _ _ _ _
theorem rmake_pure {N : Nat} (ts : List Term) (d : Nat) (secret epoch : List UInt8) (l : Ltr) (text : List UInt8) (ht : text.length ≤ 3000000) (g : GT N ts) (hN : N ≤ 999990) :
    APure Try.prog 27 [vaultV ts d,bytesV secret,bytesV epoch,.agg (ltrC l),bytesV text] (.tup [vaultV (makeL ts secret epoch l text).1 d,.agg (ltrC (makeL ts secret epoch l text).2.1),.sc (.int .i64 (makeL ts secret epoch l text).2.2)]) := by
  by_cases c1 : secret.length = 32
  · by_cases c2 : epoch.length = 32
    · by_cases c3 : namedL l = true ∧ (padL text).2 = 0
      · rw [makeL_good c1 c2 c3]
        exact rmake_good ts d secret epoch l text ht g hN c1 c2 c3.1 c3.2
      · refine rmake_bad (N := N) ts d secret epoch l text ht ?_
        by_cases c : namedL l = true
        · exact .inr (.inr (.inr fun e => c3 ⟨c,e⟩))
        · exact .inr (.inr (.inl (by simpa using c)))
    · exact rmake_bad (N := N) ts d secret epoch l text ht (.inr (.inl c2))
  · exact rmake_bad (N := N) ts d secret epoch l text ht (.inl c1)
end Go.Proofs.Ytaehlpkinbpmbaa
