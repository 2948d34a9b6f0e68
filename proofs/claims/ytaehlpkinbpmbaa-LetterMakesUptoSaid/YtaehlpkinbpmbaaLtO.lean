/-
  LetterMakes: the walk.
  Conditions: none. Lemmas only.
-/
import Derived.Test.YtaehlpkinbpmbaaLtN
set_option linter.all false
set_option linter.unusedSimpArgs false
set_option linter.unusedVariables false
set_option maxRecDepth 20000
set_option maxHeartbeats 16000000
namespace Go.Proofs.Ytaehlpkinbpmbaa
open Go Go.Abs Go.Proofs
theorem zeroL_HdS : HdS zeroL := ⟨by simp,by simp,by simp,by simp,by simp⟩
theorem makeL_all {ts : List Term} {x y : List UInt8} {l : Ltr} {text : List UInt8} {N : Nat} (g : GT N ts) : GT (N + 4) (makeL ts x y l text).1 ∧ okL (makeL ts x y l text).2.1 ∧ HdS (makeL ts x y l text).2.1 := by
  by_cases c1 : x.length = 32
  · by_cases c2 : y.length = 32
    · refine ⟨makeL_gt g c1 c2,?_⟩
      by_cases c : namedL l = true ∧ (padL text).2 = 0
      · rw [makeL_good c1 c2 c]
        have hp := (named_facts c.1).2.2.2.2.2.2.2.2
        have hl := (padL_len c.2).1
        have F := made_spec (secret := x) (epoch := y) (l := l) (p := (padL text).1) g c1 c2 hl (by omega)
        have lb := F.lb
        have ls := F.ls
        have hs := named_HdS c.1
        exact ⟨⟨by simp only []; omega,by simp only []; omega,by simp only []; omega⟩,⟨hs.k,hs.a,hs.e,hs.n,hs.p⟩⟩
      · rw [(makeL_bad (ts := ts) c1 c2 c).2.2]
        exact ⟨⟨by simp,by simp,by simp⟩,zeroL_HdS⟩
    · have e : makeL ts x y l text = (ts,zeroL,1) := if_pos (.inr (.inl c2))
      rw [e]
      exact ⟨g.mono (by omega),⟨by simp,by simp,by simp⟩,zeroL_HdS⟩
  · have e : makeL ts x y l text = (ts,zeroL,1) := if_pos (.inl c1)
    rw [e]
    exact ⟨g.mono (by omega),⟨by simp,by simp,by simp⟩,zeroL_HdS⟩
theorem checkL_gt {ts : List Term} {sgn : List UInt8} {l : Ltr} {N : Nat} (g : GT N ts) : GT (N + 1) (checkL ts sgn l).1 := by
  unfold checkL
  split
  · exact g.mono (by omega)
  · rename_i h
    have hr : rightL l = true := by simpa using h
    obtain ⟨-,lb,-⟩ := right_facts hr
    have wh : wfT (hashT l) := wf1 (by decide) (by omega)
    have g1 := g.num wh (fun e => absurd (show (104 : UInt8) = 112 from e) (by decide))
    split <;> exact g1
theorem openL_gt {ts : List Term} {y : List UInt8} {l : Ltr} {N : Nat} (g : GT N ts) : GT (N + 1) (openL ts y l).1 := by
  unfold openL
  split
  · exact g.mono (by omega)
  · rename_i h
    have hy : y.length = 32 := by
      by_cases c : y.length = 32
      · exact c
      · exact absurd (.inr c) h
    have wk : wfT (keyTm y l) := wf2 (k := 107) (by decide) (by omega) (by have := keyI_len l; omega)
    exact g.num wk (fun e => absurd (show (107 : UInt8) = 112 from e) (by decide))
abbrev vC (ts : List Term) (d : Nat) : AObj := .cells [.imm 0 (dC ts) ts.length,.sc (.int .i64 (d : Nat))] 54 2
theorem SS.put1 {H0 F : AH} {h m d b : Nat} {o o' : AObj} {ts : List Term} (s : SS (H0.set b o) F h m d ts) : SS (H0.set b o') (F.set b o') h m d ts := by
  have := s.put (b := b) (o' := o') set_get
  rwa [set_set] at this
theorem kill_back {F : AH} {a b : Nat} {z v c : AObj} (h : F a = none) (n : ¬ a = b) : (((F.set a z).set b v).set a c).kill a = F.set b v := by
  have e : ((F.set a z).set b v).set a c = (F.set a c).set b v := by
    rw [set_flip n,set_twice]
  rw [e,bH h n]
theorem makes_walk (l : Ltr) (text : List UInt8) (sh : Bool) (how : UInt8) (at_ : Int) (ht : text.length ≤ 3000000) (ha : -9223372036854775808 ≤ at_ ∧ at_ < 9223372036854775808) : APure Try.prog 6 [.agg (wishV l text sh how at_)] (.sc (.bool true)) := by
  have haw := lawake_pure
  have hon := lown_pure text (by omega)
  have hsml := lsmall_pure l
  generalize hsm : smallL l = sm at *
  cases sm
  · obtain ⟨kd,au,ep,nu,pv,bx,sg⟩ := l
    simp only [ltrC,wishV] at *
    refine az (c := ⟨Try.prog,178,[(2000010,[0,1,2,3,4,5,6,7,8,9,10,11,12,13,14,17,18,15,16,19,20]),(10,[0,0,0,0,0,0,0,0,0,0,0,0,0,0,0,0,0,2,0,0,0]),(13,[0,0,0,0,0,0]),(14,[0,0,0,0,0,0,0,0,0,2,0,0,0,2,2,0]),(2000025,[0,1,2,3,4,5,6,7,8,9,10,11,12,13,14,15,16,17,18,19,20,21]),(25,[0,0,0,0,0,0,0,0,0,0,0,0,1,0,1,0,0,0,0,2,0,0]),(1000000,[1]),(1000015,[12]),(1000019,[14]),(1000020,[16]),(4000025,[2]),(4000024,[3,4,11,13,18,19]),(4000023,[3,4,8,10,11,18]),(4000021,[3,4,8,10,140]),(4000020,[3,4,8,10,14,15,16,17]),(4000019,[3,4,8,9,10,14,15]),(4000018,[3,4,8,9,10]),(4000016,[1,3,4,8,9,10,12,109]),(4000015,[1,3,4,8,9,10,11,12,13]),(4000014,[1,3,4,7,8,9,10,11]),(4000013,[1,3,4,5,6,7,8,9]),(4000010,[1,3,4,5,6,7,8,9,69]),(4000009,[1,3,4,5,6,7,8,9]),(4000008,[1,3,4,5,6,7,8]),(4000007,[1,3,4,5,6,7]),(4000006,[1,3,4,5,6]),(4000003,[1,3,4])],[],[(14,(.op 0 0 (.op 1 0 (.op 2 0 (.op 3 0 (.op 4 0 (.op 5 0 (.op 6 0 (.op 7 0 (.op 8 0 (.or (.op 9 2 (.op 10 0 (.op 11 0 (.op 12 0 (.op 13 2 (.op 14 2 (.op 15 0 .nil))))))) (.op 13 2 (.op 9 2 (.op 10 0 (.op 11 0 (.op 12 0 (.op 14 2 (.op 15 0 .nil))))))))))))))))))]⟩) (rs := [ResultVar.tmp 2]) Try.mixed Try.func6 rfl rfl rfl (Nat.le_of_ble_eq_true rfl) (by kernel_rfl) fun H => ?_
    simp (disch := omega) only [↓aI,↓zP,aD,zD,aS,simprocAttr,Try.facts,zA]
    intro k1 hk10 hk1
    try simp (disch := omega) only [↓aI,↓zP,aD,zD,aS,simprocAttr,Try.facts,zA,aj hk1]
    first | refine CallK.p (hsml) ?_ | refine CallP.i (hsml) ?_
    simp (disch := omega) only [↓aI,↓zP,aD,zD,aS,simprocAttr,Try.facts,zA]
    first | refine CallK.p (haw) ?_ | refine CallP.i (haw) ?_
    simp (disch := omega) only [↓aI,↓zP,aD,zD,aS,simprocAttr,Try.facts,zA]
    exact Abs.Sub.refl _
  · have hok := smallL_ok hsm
    have hmk := fun (H0 H : AH) h m d N ts (x y : List UInt8) (s : SS H0 H h m d ts) (g : GT N ts) (hN : N ≤ 999990) => make_live x y l text (by omega) s g hN
    have hrm := fun N ts (x y : List UInt8) d (g : GT N ts) (hN : N ≤ 999990) => rmake_pure ts d x y l text ht g hN
    obtain ⟨LL,hLL⟩ : ∃ L : Ltr,L = l := ⟨l,rfl⟩
    obtain ⟨kd,au,ep,nu,pv,bx,sg⟩ := l
    simp only [ltrC,wishV] at *
    rw [← hLL] at hmk hrm
    -- what is drawn
    have hd0 := vdraw_pure [] 0 (by omega) (fun _ h => by cases h) (by simp)
    have hD0 := fun (G F : AH) h m (s : SS G F h m 0 []) => draw_tell (by omega) GT.nil s
    have g1 : GT (0 + 1) (numT [] (drawT 0)).1 := GT.nil.num (wf1 (by decide) (by rw [lowL_length]; omega)) (fun e => absurd (show (115 : UInt8) = 112 from e) (by decide))
    have lx : (nameT (drawT 0) (numT [] (drawT 0)).2).length = 32 := by rw [nameT_length]; rfl
    generalize nameT (drawT 0) (numT [] (drawT 0)).2 = x at *
    generalize (numT [] (drawT 0)).1 = t1 at *
    have hd1 := vdraw_pure t1 1 (by omega) g1.ok (by have := g1.len; omega)
    have hD1 := fun (G F : AH) h m (s : SS G F h m (0 + 1) t1) => draw_tell (by omega) (g1.mono (by omega)) s
    have g2 : GT (0 + 1 + 1) (numT t1 (drawT 1)).1 := g1.num (wf1 (by decide) (by rw [lowL_length]; omega)) (fun e => absurd (show (115 : UInt8) = 112 from e) (by decide))
    have ly : (nameT (drawT 1) (numT t1 (drawT 1)).2).length = 32 := by rw [nameT_length]; rfl
    generalize nameT (drawT 1) (numT t1 (drawT 1)).2 = y at *
    generalize (numT t1 (drawT 1)).1 = t2 at *
    have wsg : wfT ⟨118,[x]⟩ := wf1 (k := 118) (by decide) (by omega)
    have hd2 := vsigner_pure t2 2 x wsg.1 g2.ok (by have := g2.len; omega)
    rw [if_pos lx] at hd2
    have hD2 := fun (G F : AH) h m (s : SS G F h m (0 + 1 + 1) t2) => signer_tell x wsg.1 (g2.mono (by omega)) lx s
    unfold TellR at hD2
    have g3 : GT (0 + 1 + 1 + 1) (numT t2 ⟨118,[x]⟩).1 := g2.num wsg (fun e => absurd (show (118 : UInt8) = 112 from e) (by decide))
    have lsgn : (nameT ⟨118,[x]⟩ (numT t2 ⟨118,[x]⟩).2).length = 32 := by rw [nameT_length]; rfl
    generalize nameT ⟨118,[x]⟩ (numT t2 ⟨118,[x]⟩).2 = sgn at *
    generalize (numT t2 ⟨118,[x]⟩).1 = t3 at *
    simp only [vaultV] at hd0 hd1 hd2
    refine az (c := ⟨Try.prog,178,[(2000010,[0,1,2,3,4,5,6,7,8,9,10,11,12,13,14,17,18,15,16,19,20]),(10,[0,0,0,0,0,0,0,0,0,0,0,0,0,0,0,0,0,2,0,0,0]),(13,[0,0,0,0,0,0]),(14,[0,0,0,0,0,0,0,0,0,2,0,0,0,2,2,0]),(2000025,[0,1,2,3,4,5,6,7,8,9,10,11,12,13,14,15,16,17,18,19,20,21]),(25,[0,0,0,0,0,0,0,0,0,0,0,0,1,0,1,0,0,0,0,2,0,0]),(1000000,[1]),(1000015,[12]),(1000019,[14]),(1000020,[16]),(4000025,[2]),(4000024,[3,4,11,13,18,19]),(4000023,[3,4,8,10,11,18]),(4000021,[3,4,8,10,140]),(4000020,[3,4,8,10,14,15,16,17]),(4000019,[3,4,8,9,10,14,15]),(4000018,[3,4,8,9,10]),(4000016,[1,3,4,8,9,10,12,109]),(4000015,[1,3,4,8,9,10,11,12,13]),(4000014,[1,3,4,7,8,9,10,11]),(4000013,[1,3,4,5,6,7,8,9]),(4000010,[1,3,4,5,6,7,8,9,69]),(4000009,[1,3,4,5,6,7,8,9]),(4000008,[1,3,4,5,6,7,8]),(4000007,[1,3,4,5,6,7]),(4000006,[1,3,4,5,6]),(4000003,[1,3,4])],[],[(14,(.op 0 0 (.op 1 0 (.op 2 0 (.op 3 0 (.op 4 0 (.op 5 0 (.op 6 0 (.op 7 0 (.op 8 0 (.or (.op 9 2 (.op 10 0 (.op 11 0 (.op 12 0 (.op 13 2 (.op 14 2 (.op 15 0 .nil))))))) (.op 13 2 (.op 9 2 (.op 10 0 (.op 11 0 (.op 12 0 (.op 14 2 (.op 15 0 .nil))))))))))))))))))]⟩) (rs := [ResultVar.tmp 2]) Try.mixed Try.func6 rfl rfl rfl (Nat.le_of_ble_eq_true rfl) (by kernel_rfl) fun H => ?_
    simp (disch := omega) only [↓aI,↓zP,aD,zD,aS,simprocAttr,Try.facts,zA]
    intro k1 hk10 hk1
    try simp (disch := omega) only [↓aI,↓zP,aD,zD,aS,simprocAttr,Try.facts,zA,aj hk1]
    first | refine CallK.p (hsml) ?_ | refine CallP.i (hsml) ?_
    simp (disch := omega) only [↓aI,↓zP,aD,zD,aS,simprocAttr,Try.facts,zA]
    refine CallK.i (new_ss H) ?_
    rintro v H1 ⟨h,m,rfl,s1⟩
    simp (disch := omega) only [↓aI,↓zP,aD,zD,aS,simprocAttr,Try.facts,zA]
    intro b4 hb40 hb4
    try simp (disch := omega) only [↓aI,↓zP,aD,zD,aS,simprocAttr,Try.facts,zA,ah]
    have hHb := s1.sub.free hb4
    have sb := s1.box (o := .cells [.sc (.slice none 0 0),.sc (.int .i64 0)] 54 2) hb4
    refine CallK.i (hD0 _ _ _ _ sb) ?_
    rintro v H2 ⟨rfl,s2⟩
    simp (disch := omega) only [↓aI,↓zP,aD,zD,aS,simprocAttr,Try.facts,zA]
    refine CallK.i (hD1 _ _ _ _ s2) ?_
    rintro v H3 ⟨rfl,s3⟩
    have vb := s3.sub _ _ (set_get (H := H))
    simp (disch := omega) only [↓aI,↓zP,aD,zD,aS,simprocAttr,Try.facts,zA,vb]
    first | refine CallK.p (hd0) ?_ | refine CallP.i (hd0) ?_
    simp (disch := omega) only [↓aI,↓zP,aD,zD,aS,simprocAttr,Try.facts,zA,vb,ah]
    first | refine CallK.p (hd1) ?_ | refine CallP.i (hd1) ?_
    simp (disch := omega) only [↓aI,↓zP,aD,zD,aS,simprocAttr,Try.facts,zA,vb,ah,set_twice]
    first | refine CallK.p (hd2) ?_ | refine CallP.i (hd2) ?_
    simp (disch := omega) only [↓aI,↓zP,aD,zD,aS,simprocAttr,Try.facts,zA,vb,ah,set_twice]
    have s4 := s3.put1 (o' := vC t3 2)
    refine CallK.i (hD2 _ _ _ _ s4) ?_
    rintro v H4 ⟨rfl,s5⟩
    have vb := s5.sub _ _ (set_get (H := H))
    have hsl := encB_drop x 1
    have hslB : List.take (x.drop 1).length (List.drop 1 (bw x)) = bw (x.drop 1) := by rw [List.length_drop]; exact hsl
    have hsl2 : (x.drop 1).length = x.length - 1 := List.length_drop
    have hsl3 := encB_len (x.drop 1)
    have hxl := encB_len x
    cases sh
    · simp (disch := omega) only [↓aI,↓zP,aD,zD,aS,simprocAttr,Try.facts,zA,bO,bne_self_eq_false]
      have hM := fun (G F : AH) s => hmk G F h m (0 + 1 + 1) (0 + 1 + 1 + 1) t3 x y s g3 (by omega)
      have hRM := hrm (0 + 1 + 1 + 1) t3 x y 2 g3 (by omega)
      obtain ⟨g4,ok4,hd4⟩ := makeL_all (x := x) (y := y) (l := LL) (text := text) g3
      generalize makeL t3 x y LL text = MK at *
      obtain ⟨t4,L1,er⟩ := MK
      simp only [] at hM hRM g4 ok4 hd4
      have hch := changed_pure L1 how at_ ok4 hd4.r ha
      have hxok := chL_ok how at_ ok4
      have hsame1 := lsame_pure L1 L1 ok4 ok4
      rw [beq_self_eq_true] at hsame1
      generalize chL L1 how at_ = X at *
      have hC := fun (G F : AH) (s : SS G F h m (0 + 1 + 1) t4) => check_live sgn X hxok (by omega) s g4 (by omega)
      have hRC := rcheck_pure t4 2 sgn X hxok g4 (by omega)
      have g5 := checkL_gt (sgn := sgn) (l := X) g4
      generalize checkL t4 sgn X = CK at *
      obtain ⟨t5,LK,e2⟩ := CK
      simp only [] at hC hRC g5
      have hskl := samelink_pure LK LK
      rw [show sameK LK LK = true by simp [sameK]] at hskl
      have hO := fun (G F : AH) (s : SS G F h m (0 + 1 + 1) t5) => open_live2 y X hxok s g5 (by omega)
      have hRO := ropen_pure t5 2 y X hxok g5 (by omega)
      generalize openL t5 y X = OP at *
      obtain ⟨t6,tx,e3⟩ := OP
      simp only [] at hO hRO
      obtain ⟨c1,c2,c3,c4,c5,c6,c7⟩ := L1
      obtain ⟨d1,d2,d3,d4,d5,d6,d7⟩ := X
      obtain ⟨k1',k2',k3',k4',k5'⟩ := LK
      simp only [ltrC,lnkC,vaultV] at hM hRM hch hsame1 hC hRC hskl hO hRO
      refine eI (fun σ F => ∃ b10,σ 10 = .ptr b10 0 ∧ ¬ b4 = b10 ∧ H b10 = none ∧ SS ((H.set b4 (.cells [.imm 0 (dC t3) t3.length,.sc (.int .i64 2)] 54 2)).set b10 (.cells [.sc (.int .i64 c1),.sc (.int .i64 c2),.sc (.int .i64 c3),.sc (.int .i64 c4),bytesV c5,bytesV c6,bytesV c7] 24 7)) F h m (0 + 1 + 1) t4 ∧
        σ 1 = .ip [.sc (.int .i64 kd),.sc (.int .i64 au),.sc (.int .i64 ep),.sc (.int .i64 nu),bytesV pv,bytesV bx,bytesV sg,bytesV text,.sc (.bool false),.sc (.int .u8 how.toNat),.sc (.int .i64 at_)] 0 ∧ σ 3 = .ptr h 0 ∧ σ 4 = .ptr b4 0 ∧ σ 7 = bytesV x ∧ σ 8 = bytesV y ∧ σ 9 = bytesV sgn ∧ σ 11 = .sc (.int .i64 er)) ?_ ?_
      · simp (disch := omega) only [↓aI,↓zP,aD,zD,aS,simprocAttr,Try.facts,zA]
        refine CallP.i hon ?_
        simp (disch := omega) only [↓aI,↓zP,aD,zD,aS,simprocAttr,Try.facts,zA]
        refine ⟨?_,?_⟩
        · refine CallK.i (hM _ _ s5) ?_
          rintro v E ⟨rfl,s6⟩
          try simp (disch := omega) only [↓aI,↓zP,aD,zD,aS,simprocAttr,Try.facts,zA]
          intro b10 hb100 hb10
          try simp (disch := omega) only [↓aI,↓zP,aD,zD,aS,simprocAttr,Try.facts,zA,ah]
          have hbb := s6.sub.free hb10
          first | exact ⟨b10,rfl,bK hbb,am hbb,s6.box hb10,by rw [bytesV,hsl2]⟩ | exact ⟨b10,rfl,bK hbb,am hbb,s6.box hb10⟩
        · intro b10 hb100 hb10
          have hbb := s5.sub.free hb10
          have s5b := s5.box (o := .cells [.sc (.int .i64 0),.sc (.int .i64 0),.sc (.int .i64 0),.sc (.int .i64 0),.sc (.slice none 0 0),.sc (.slice none 0 0),.sc (.slice none 0 0)] 24 7) hb10
          try simp (disch := omega) only [↓aI,↓zP,aD,zD,aS,simprocAttr,Try.facts,zA]
          refine CallK.i (hM _ _ s5b) ?_
          rintro v E ⟨rfl,s6⟩
          have vb0 := s6.sub _ _ set_get
          try simp (disch := omega) only [↓aI,↓zP,aD,zD,aS,simprocAttr,Try.facts,zA,vb0,ah]
          first | exact ⟨b10,rfl,bK hbb,am hbb,s6.put1,by rw [bytesV,hsl2]⟩ | exact ⟨b10,rfl,bK hbb,am hbb,s6.put1⟩
      · rintro σ F ⟨b10,s10,n410,hH10,q,s1',s3',s4',s7',s8',s9',s11'⟩
        have vb := q.sub b4 _ (by rw [aP n410,set_get])
        have vl := q.sub b10 _ set_get
        simp (disch := omega) only [↓aI,↓zP,aD,zD,aS,simprocAttr,Try.facts,s10,s1',s3',s4',s7',s8',s9',s11',vb,vl,zA]
        first | refine CallK.p (hRM) ?_ | refine CallP.i (hRM) ?_
        simp (disch := omega) only [↓aI,↓zP,aD,zD,aS,simprocAttr,Try.facts,s10,s1',s3',s4',s7',s8',s9',s11',vb,vl,zA]
        intro b12 hb120 hb12
        have n412 := bA vb hb12
        have n124 : ¬ b12 = b4 := fun e => n412 e.symm
        have n1012 := bA vl hb12
        have nb104 : ¬ b10 = b4 := fun e => n410 e.symm
        have q2 := q.put (b := b4) (o' := vC t4 2) (by rw [aP n410,set_get])
        rw [set_flip n410,set_twice] at q2
        simp (disch := omega) only [↓aI,↓zP,aD,zD,aS,simprocAttr,Try.facts,s10,s1',s3',s4',s7',s8',s9',s11',vb,vl,zA,ah,aP,n412,n124,n1012,nb104,n410,kill_back hb12 n124]
        first | refine CallK.p (hsame1) ?_ | refine CallP.i (hsame1) ?_
        simp (disch := omega) only [↓aI,↓zP,aD,zD,aS,simprocAttr,Try.facts,s10,s1',s3',s4',s7',s8',s9',s11',vb,vl,zA,ah,aP,n412,n124,n1012,nb104,n410,bne_self_eq_false]
        have vl2 : (F.set b4 (vC t4 2)) b10 = some (.cells [.sc (.int .i64 c1),.sc (.int .i64 c2),.sc (.int .i64 c3),.sc (.int .i64 c4),bytesV c5,bytesV c6,bytesV c7] 24 7) := by rw [aP nb104]; exact vl
        first | refine CallK.p (hch) ?_ | refine CallP.i (hch) ?_
        simp (disch := omega) only [↓aI,↓zP,aD,zD,aS,simprocAttr,Try.facts,s10,s1',s3',s4',s7',s8',s9',s11',vb,vl,vl2,zA,ah,aP,n412,n124,n1012,nb104,n410]
        have q3 := q2.put1 (b := b10) (o' := .cells [.sc (.int .i64 d1),.sc (.int .i64 d2),.sc (.int .i64 d3),.sc (.int .i64 d4),bytesV d5,bytesV d6,bytesV d7] 24 7)
        refine CallK.i (hC _ _ q3) ?_
        rintro v E ⟨rfl,q4⟩
        have vb4 := q4.sub b4 _ (by rw [aP n410,set_get])
        have vl4 := q4.sub b10 _ set_get
        simp (disch := omega) only [↓aI,↓zP,aD,zD,aS,simprocAttr,Try.facts,s10,s1',s3',s4',s7',s8',s9',s11',vb4,vl4,zA,ah]
        intro b14 hb140 hb14
        try simp (disch := omega) only [↓aI,↓zP,aD,zD,aS,simprocAttr,Try.facts,s10,s1',s3',s4',s7',s8',s9',s11',vb4,vl4,zA,ah,aj hb14]
        first | refine CallK.p (hRC) ?_ | refine CallP.i (hRC) ?_
        simp (disch := omega) only [↓aI,↓zP,aD,zD,aS,simprocAttr,Try.facts,s10,s1',s3',s4',s7',s8',s9',s11',vb4,vl4,zA,ah]
        intro b16 hb160 hb16
        have n416 := bA vb4 hb16
        have n164 : ¬ b16 = b4 := fun e => n416 e.symm
        have q5 := q4.put (b := b4) (o' := vC t5 2) (by rw [aP n410,set_get])
        rw [set_flip n410,set_twice] at q5
        try simp (disch := omega) only [↓aI,↓zP,aD,zD,aS,simprocAttr,Try.facts,s10,s1',s3',s4',s7',s8',s9',s11',vb4,vl4,zA,ah,aP,n416,n164,nb104,n410,kill_back hb16 n164]
        first | refine CallK.p (hskl) ?_ | refine CallP.i (hskl) ?_
        simp (disch := omega) only [↓aI,↓zP,aD,zD,aS,simprocAttr,Try.facts,s10,s1',s3',s4',s7',s8',s9',s11',vb4,vl4,aP,nb104,zA,bne_self_eq_false]
        refine CallK.i (hO _ _ q5) ?_
        rintro v E2 ⟨rfl,q6⟩
        have vb6 := q6.sub b4 _ (by rw [aP n410,set_get])
        have vl6 := q6.sub b10 _ set_get
        simp (disch := omega) only [↓aI,↓zP,aD,zD,aS,simprocAttr,Try.facts,s10,s1',s3',s4',s7',s8',s9',s11',vb6,vl6,zA,ah]
        first | refine CallK.p (hRO) ?_ | refine CallP.i (hRO) ?_
        simp (disch := omega) only [↓aI,↓zP,aD,zD,aS,simprocAttr,Try.facts,s10,s1',s3',s4',s7',s8',s9',s11',vb6,vl6,zA,ah,bO,beq_self_eq_true]
        have q7 := q6.put (b := b4) (o' := vC t6 2) (by rw [aP n410,set_get])
        rw [set_flip n410,set_twice] at q7
        refine CallR.i (len_ss q7) ?_
        simp (disch := omega) only [↓aI,↓zP,aD,zD,aS,simprocAttr,Try.facts,s10,s1',s3',s4',s7',s8',s9',s11',zA,bO,beq_self_eq_true]
        first | refine CallK.p (haw) ?_ | refine CallP.i (haw) ?_
        simp (disch := omega) only [↓aI,↓zP,aD,zD,aS,simprocAttr,Try.facts,s10,s1',s3',s4',s7',s8',s9',s11',zA,bO,beq_self_eq_true]
        exact ((Sub.set_new hHb).set_free hH10).trans q7.sub
    · simp (disch := omega) only [↓aI,↓zP,aD,zD,aS,simprocAttr,Try.facts,zA,bO,bne_self_eq_false,hsl,hslB,hxl,hsl2.symm,hsl3]
      have hM := fun (G F : AH) s => hmk G F h m (0 + 1 + 1) (0 + 1 + 1 + 1) t3 (x.drop 1) y s g3 (by omega)
      have hRM := hrm (0 + 1 + 1 + 1) t3 (x.drop 1) y 2 g3 (by omega)
      obtain ⟨g4,ok4,hd4⟩ := makeL_all (x := (x.drop 1)) (y := y) (l := LL) (text := text) g3
      generalize makeL t3 (x.drop 1) y LL text = MK at *
      obtain ⟨t4,L1,er⟩ := MK
      simp only [] at hM hRM g4 ok4 hd4
      have hch := changed_pure L1 how at_ ok4 hd4.r ha
      have hxok := chL_ok how at_ ok4
      have hsame1 := lsame_pure L1 L1 ok4 ok4
      rw [beq_self_eq_true] at hsame1
      generalize chL L1 how at_ = X at *
      have hC := fun (G F : AH) (s : SS G F h m (0 + 1 + 1) t4) => check_live sgn X hxok (by omega) s g4 (by omega)
      have hRC := rcheck_pure t4 2 sgn X hxok g4 (by omega)
      have g5 := checkL_gt (sgn := sgn) (l := X) g4
      generalize checkL t4 sgn X = CK at *
      obtain ⟨t5,LK,e2⟩ := CK
      simp only [] at hC hRC g5
      have hskl := samelink_pure LK LK
      rw [show sameK LK LK = true by simp [sameK]] at hskl
      have hO := fun (G F : AH) (s : SS G F h m (0 + 1 + 1) t5) => open_live2 y X hxok s g5 (by omega)
      have hRO := ropen_pure t5 2 y X hxok g5 (by omega)
      generalize openL t5 y X = OP at *
      obtain ⟨t6,tx,e3⟩ := OP
      simp only [] at hO hRO
      obtain ⟨c1,c2,c3,c4,c5,c6,c7⟩ := L1
      obtain ⟨d1,d2,d3,d4,d5,d6,d7⟩ := X
      obtain ⟨k1',k2',k3',k4',k5'⟩ := LK
      simp only [ltrC,lnkC,vaultV] at hM hRM hch hsame1 hC hRC hskl hO hRO
      refine eI (fun σ F => ∃ b10,σ 10 = .ptr b10 0 ∧ ¬ b4 = b10 ∧ H b10 = none ∧ SS ((H.set b4 (.cells [.imm 0 (dC t3) t3.length,.sc (.int .i64 2)] 54 2)).set b10 (.cells [.sc (.int .i64 c1),.sc (.int .i64 c2),.sc (.int .i64 c3),.sc (.int .i64 c4),bytesV c5,bytesV c6,bytesV c7] 24 7)) F h m (0 + 1 + 1) t4 ∧
        σ 1 = .ip [.sc (.int .i64 kd),.sc (.int .i64 au),.sc (.int .i64 ep),.sc (.int .i64 nu),bytesV pv,bytesV bx,bytesV sg,bytesV text,.sc (.bool true),.sc (.int .u8 how.toNat),.sc (.int .i64 at_)] 0 ∧ σ 3 = .ptr h 0 ∧ σ 4 = .ptr b4 0 ∧ σ 7 = bytesV (x.drop 1) ∧ σ 8 = bytesV y ∧ σ 9 = bytesV sgn ∧ σ 11 = .sc (.int .i64 er)) ?_ ?_
      · simp (disch := omega) only [↓aI,↓zP,aD,zD,aS,simprocAttr,Try.facts,zA]
        refine CallP.i hon ?_
        simp (disch := omega) only [↓aI,↓zP,aD,zD,aS,simprocAttr,Try.facts,zA]
        refine ⟨?_,?_⟩
        · refine CallK.i (hM _ _ s5) ?_
          rintro v E ⟨rfl,s6⟩
          try simp (disch := omega) only [↓aI,↓zP,aD,zD,aS,simprocAttr,Try.facts,zA]
          intro b10 hb100 hb10
          try simp (disch := omega) only [↓aI,↓zP,aD,zD,aS,simprocAttr,Try.facts,zA,ah]
          have hbb := s6.sub.free hb10
          first | exact ⟨b10,rfl,bK hbb,am hbb,s6.box hb10,by rw [bytesV,hsl2]⟩ | exact ⟨b10,rfl,bK hbb,am hbb,s6.box hb10⟩
        · intro b10 hb100 hb10
          have hbb := s5.sub.free hb10
          have s5b := s5.box (o := .cells [.sc (.int .i64 0),.sc (.int .i64 0),.sc (.int .i64 0),.sc (.int .i64 0),.sc (.slice none 0 0),.sc (.slice none 0 0),.sc (.slice none 0 0)] 24 7) hb10
          try simp (disch := omega) only [↓aI,↓zP,aD,zD,aS,simprocAttr,Try.facts,zA]
          refine CallK.i (hM _ _ s5b) ?_
          rintro v E ⟨rfl,s6⟩
          have vb0 := s6.sub _ _ set_get
          try simp (disch := omega) only [↓aI,↓zP,aD,zD,aS,simprocAttr,Try.facts,zA,vb0,ah]
          first | exact ⟨b10,rfl,bK hbb,am hbb,s6.put1,by rw [bytesV,hsl2]⟩ | exact ⟨b10,rfl,bK hbb,am hbb,s6.put1⟩
      · rintro σ F ⟨b10,s10,n410,hH10,q,s1',s3',s4',s7',s8',s9',s11'⟩
        have vb := q.sub b4 _ (by rw [aP n410,set_get])
        have vl := q.sub b10 _ set_get
        simp (disch := omega) only [↓aI,↓zP,aD,zD,aS,simprocAttr,Try.facts,s10,s1',s3',s4',s7',s8',s9',s11',vb,vl,zA]
        first | refine CallK.p (hRM) ?_ | refine CallP.i (hRM) ?_
        simp (disch := omega) only [↓aI,↓zP,aD,zD,aS,simprocAttr,Try.facts,s10,s1',s3',s4',s7',s8',s9',s11',vb,vl,zA]
        intro b12 hb120 hb12
        have n412 := bA vb hb12
        have n124 : ¬ b12 = b4 := fun e => n412 e.symm
        have n1012 := bA vl hb12
        have nb104 : ¬ b10 = b4 := fun e => n410 e.symm
        have q2 := q.put (b := b4) (o' := vC t4 2) (by rw [aP n410,set_get])
        rw [set_flip n410,set_twice] at q2
        simp (disch := omega) only [↓aI,↓zP,aD,zD,aS,simprocAttr,Try.facts,s10,s1',s3',s4',s7',s8',s9',s11',vb,vl,zA,ah,aP,n412,n124,n1012,nb104,n410,kill_back hb12 n124]
        first | refine CallK.p (hsame1) ?_ | refine CallP.i (hsame1) ?_
        simp (disch := omega) only [↓aI,↓zP,aD,zD,aS,simprocAttr,Try.facts,s10,s1',s3',s4',s7',s8',s9',s11',vb,vl,zA,ah,aP,n412,n124,n1012,nb104,n410,bne_self_eq_false]
        have vl2 : (F.set b4 (vC t4 2)) b10 = some (.cells [.sc (.int .i64 c1),.sc (.int .i64 c2),.sc (.int .i64 c3),.sc (.int .i64 c4),bytesV c5,bytesV c6,bytesV c7] 24 7) := by rw [aP nb104]; exact vl
        first | refine CallK.p (hch) ?_ | refine CallP.i (hch) ?_
        simp (disch := omega) only [↓aI,↓zP,aD,zD,aS,simprocAttr,Try.facts,s10,s1',s3',s4',s7',s8',s9',s11',vb,vl,vl2,zA,ah,aP,n412,n124,n1012,nb104,n410]
        have q3 := q2.put1 (b := b10) (o' := .cells [.sc (.int .i64 d1),.sc (.int .i64 d2),.sc (.int .i64 d3),.sc (.int .i64 d4),bytesV d5,bytesV d6,bytesV d7] 24 7)
        refine CallK.i (hC _ _ q3) ?_
        rintro v E ⟨rfl,q4⟩
        have vb4 := q4.sub b4 _ (by rw [aP n410,set_get])
        have vl4 := q4.sub b10 _ set_get
        simp (disch := omega) only [↓aI,↓zP,aD,zD,aS,simprocAttr,Try.facts,s10,s1',s3',s4',s7',s8',s9',s11',vb4,vl4,zA,ah]
        intro b14 hb140 hb14
        try simp (disch := omega) only [↓aI,↓zP,aD,zD,aS,simprocAttr,Try.facts,s10,s1',s3',s4',s7',s8',s9',s11',vb4,vl4,zA,ah,aj hb14]
        first | refine CallK.p (hRC) ?_ | refine CallP.i (hRC) ?_
        simp (disch := omega) only [↓aI,↓zP,aD,zD,aS,simprocAttr,Try.facts,s10,s1',s3',s4',s7',s8',s9',s11',vb4,vl4,zA,ah]
        intro b16 hb160 hb16
        have n416 := bA vb4 hb16
        have n164 : ¬ b16 = b4 := fun e => n416 e.symm
        have q5 := q4.put (b := b4) (o' := vC t5 2) (by rw [aP n410,set_get])
        rw [set_flip n410,set_twice] at q5
        try simp (disch := omega) only [↓aI,↓zP,aD,zD,aS,simprocAttr,Try.facts,s10,s1',s3',s4',s7',s8',s9',s11',vb4,vl4,zA,ah,aP,n416,n164,nb104,n410,kill_back hb16 n164]
        first | refine CallK.p (hskl) ?_ | refine CallP.i (hskl) ?_
        simp (disch := omega) only [↓aI,↓zP,aD,zD,aS,simprocAttr,Try.facts,s10,s1',s3',s4',s7',s8',s9',s11',vb4,vl4,aP,nb104,zA,bne_self_eq_false]
        refine CallK.i (hO _ _ q5) ?_
        rintro v E2 ⟨rfl,q6⟩
        have vb6 := q6.sub b4 _ (by rw [aP n410,set_get])
        have vl6 := q6.sub b10 _ set_get
        simp (disch := omega) only [↓aI,↓zP,aD,zD,aS,simprocAttr,Try.facts,s10,s1',s3',s4',s7',s8',s9',s11',vb6,vl6,zA,ah]
        first | refine CallK.p (hRO) ?_ | refine CallP.i (hRO) ?_
        simp (disch := omega) only [↓aI,↓zP,aD,zD,aS,simprocAttr,Try.facts,s10,s1',s3',s4',s7',s8',s9',s11',vb6,vl6,zA,ah,bO,beq_self_eq_true]
        have q7 := q6.put (b := b4) (o' := vC t6 2) (by rw [aP n410,set_get])
        rw [set_flip n410,set_twice] at q7
        refine CallR.i (len_ss q7) ?_
        simp (disch := omega) only [↓aI,↓zP,aD,zD,aS,simprocAttr,Try.facts,s10,s1',s3',s4',s7',s8',s9',s11',zA,bO,beq_self_eq_true]
        first | refine CallK.p (haw) ?_ | refine CallP.i (haw) ?_
        simp (disch := omega) only [↓aI,↓zP,aD,zD,aS,simprocAttr,Try.facts,s10,s1',s3',s4',s7',s8',s9',s11',zA,bO,beq_self_eq_true]
        exact ((Sub.set_new hHb).set_free hH10).trans q7.sub
end Go.Proofs.Ytaehlpkinbpmbaa
