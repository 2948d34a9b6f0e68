/-
  LetterHides: plain law and walk.
  Conditions: none. Lemmas only.
-/
import Derived.Test.YtaehlpkinbpmbaaLtG
set_option linter.all false
set_option linter.unusedSimpArgs false
set_option linter.unusedVariables false
set_option maxRecDepth 20000
set_option maxHeartbeats 8000000
namespace Go.Proofs.Ytaehlpkinbpmbaa
open Go Go.Abs Go.Proofs
theorem makeL_good {ts : List Term} {x y : List UInt8} {l : Ltr} {text : List UInt8} (c1 : x.length = 32) (c2 : y.length = 32) (c3 : namedL l = true ∧ (padL text).2 = 0) : makeL ts x y l text = ((madeL ts x y l (padL text).1).ts4,boxed l (madeL ts x y l (padL text).1).box (madeL ts x y l (padL text).1).sig,0) := by
  unfold makeL
  rw [if_neg (by rw [c3.1]; simp [c1,c2]),if_neg (by simp [c3.2])]
theorem makeL_bad {ts : List Term} {x y : List UInt8} {l : Ltr} {text : List UInt8} (c1 : x.length = 32) (c2 : y.length = 32) (c3 : ¬ (namedL l = true ∧ (padL text).2 = 0)) : (makeL ts x y l text).2.2 ≠ 0 ∧ (makeL ts x y l text).1 = ts ∧ (makeL ts x y l text).2.1 = zeroL := by
  unfold makeL
  by_cases c : namedL l = true
  · rw [if_neg (by rw [c]; simp [c1,c2]),if_pos (fun e => c3 ⟨c,e⟩)]
    exact ⟨fun e => c3 ⟨c,e⟩,rfl,rfl⟩
  · rw [if_pos (.inr (.inr (by simpa using c)))]
    exact ⟨by simp,rfl,rfl⟩
theorem makeL_gt {ts : List Term} {x y : List UInt8} {l : Ltr} {text : List UInt8} {N : Nat} (g : GT N ts) (c1 : x.length = 32) (c2 : y.length = 32) : GT (N + 4) (makeL ts x y l text).1 := by
  by_cases c : namedL l = true ∧ (padL text).2 = 0
  · rw [makeL_good c1 c2 c]
    have hp := (named_facts c.1).2.2.2.2.2.2.2.2
    exact (made_spec g c1 c2 (padL_len c.2).1 (by omega)).g
  · rw [(makeL_bad c1 c2 c).2.1]
    exact g.mono (by omega)
theorem bkt_vtext {a b : Nat} (ha : (bktL a).2 = 0) (hb : (bktL b).2 = 0) {p q : List UInt8} (hp : p.length = (bktL a).1.toNat + 16) (hq : q.length = (bktL b).1.toNat + 16) : (vtext p).length = (vtext q).length ↔ (bktL a).1 = (bktL b).1 := by
  have key : ∀ n : Nat,(bktL n).2 = 0 → (bktL n).1 = 64 ∨ (bktL n).1 = 128 ∨ (bktL n).1 = 256 ∨ (bktL n).1 = 512 ∨ (bktL n).1 = 1024 ∨ (bktL n).1 = 2048 ∨ (bktL n).1 = 4096 := by
    intro n
    unfold bktL
    repeat' split
    all_goals
      intro h
      first | (exfalso; omega) | simp
  unfold vtext
  rw [List.length_append,List.length_append,hp,hq]
  rcases key a ha with h | h | h | h | h | h | h <;> rcases key b hb with g | g | g | g | g | g | g <;> rw [h,g] <;> decide
theorem put_lens {l : Ltr} {p q s t : List UInt8} (hs : s.length = t.length) : (dq (boxed l p s)).length = (dq (boxed l q t)).length ↔ (vtext p).length = (vtext q).length := by
  have e1 : headL (boxed l p s) = headL l := rfl
  have e2 : headL (boxed l q t) = headL l := rfl
  have e3 : (vtext s).length = (vtext t).length := by unfold vtext; rw [List.length_append,List.length_append,hs]
  unfold dq
  rw [e1,e2]
  simp only [List.length_append,boxed,e3]
  omega
theorem hides_walk (l : Ltr) (a b : List UInt8) (ha : a.length ≤ 3000000) (hb : b.length ≤ 3000000) : APure Try.prog 4 [.agg (ltrC l),bytesV a,bytesV b] (.sc (.bool true)) := by
  have haw := lawake_pure
  have ho1 := lown_pure a (by omega)
  have ho2 := lown_pure b (by omega)
  have hnm := rnamed_pure l
  have hb1 := rbucket_pure a.length
  have hb2 := rbucket_pure b.length
  have hbp1 := bkt_pad a
  have hbp2 := bkt_pad b
  have hmk1 := fun (H0 H : AH) h m d N ts (x y : List UInt8) (s : SS H0 H h m d ts) (g : GT N ts) (hN : N ≤ 999990) => make_live x y l a ha s g hN
  have hmk2 := fun (H0 H : AH) h m d N ts (x y : List UInt8) (s : SS H0 H h m d ts) (g : GT N ts) (hN : N ≤ 999990) => make_live x y l b hb s g hN
  obtain ⟨LL,hLL⟩ : ∃ L : Ltr,L = l := ⟨l,rfl⟩
  obtain ⟨kd,au,ep,nu,pv,bx,sg⟩ := l
  simp only [ltrC] at hnm hmk1 hmk2
  rw [← hLL] at hnm hmk1 hmk2
  simp only [ltrC]
  refine az (c := ⟨Try.prog,101,[(5,[0,0,0,0,0,0,0,2,0,0,0,2,2,0]),(6,[0,0,0,0,0,0,0,2,0,0,0,2,2,0]),(11,[1,0,1,1,0,1,0,0,0,0,0,0,0,1,1,0,0,0,0,0,2,0,0]),(1000000,[3]),(1000005,[10]),(1000006,[12]),(4000011,[6]),(4000010,[6]),(4000009,[3,10,12,14,15,16,17,64]),(4000008,[3,10,11,12,13,14,15,16,17]),(4000007,[2,3,10,11,12,13,14,15]),(4000006,[1,2,3,10,11,12,13]),(4000005,[1,2,3,7,8,9,10,11]),(4000004,[1,2,3,7,8,9])],[],[(5,(.op 0 0 (.op 1 0 (.op 2 0 (.op 3 0 (.op 4 0 (.op 5 0 (.op 6 0 (.or (.op 7 2 (.op 8 0 (.op 9 0 (.op 10 0 (.op 11 2 (.op 12 2 (.op 13 0 .nil))))))) (.op 11 2 (.op 7 2 (.op 8 0 (.op 9 0 (.op 10 0 (.op 12 2 (.op 13 0 .nil)))))))))))))))),(6,(.op 0 0 (.op 1 0 (.op 2 0 (.op 3 0 (.op 4 0 (.op 5 0 (.op 6 0 (.or (.op 7 2 (.op 8 0 (.op 9 0 (.op 10 0 (.op 11 2 (.op 12 2 (.op 13 0 .nil))))))) (.op 11 2 (.op 7 2 (.op 8 0 (.op 9 0 (.op 10 0 (.op 12 2 (.op 13 0 .nil))))))))))))))))]⟩) (rs := [ResultVar.tmp 6]) Try.mixed Try.func4 rfl rfl rfl (Nat.le_of_ble_eq_true rfl) (by kernel_rfl) fun H => ?_
  simp (disch := omega) only [↓aI,↓zP,aD,zD,aS,simprocAttr,Try.facts,zA]
  intro k1 hk10 hk1
  rw [aj hk1]
  refine CallK.i (new_ss H) ?_
  rintro v H1 ⟨h,m,rfl,s1⟩
  simp (disch := omega) only [↓aI,↓zP,aD,zD,aS,simprocAttr,Try.facts,zA]
  refine CallK.i (draw_ansm (N := 0) (by omega) (by omega) GT.nil s1) ?_
  rintro v H2 ⟨x,t1,rfl,e1,s2,n1,p1,g1⟩
  simp (disch := omega) only [↓aI,↓zP,aD,zD,aS,simprocAttr,Try.facts,zA]
  refine CallK.i (draw_ansm (by omega) (by omega) g1 s2) ?_
  rintro v H3 ⟨y,t2,rfl,e2,s3,n2,p2,g2⟩
  have lx : x.length = 32 := n1.len
  have ly : y.length = 32 := n2.len
  simp (disch := omega) only [↓aI,↓zP,aD,zD,aS,simprocAttr,Try.facts,zA]
  have hM1 := fun (G F : AH) s => hmk1 G F h m (0 + 1 + 1) (0 + 1 + 1) t2 x y s g2 (by omega)
  have g3 := makeL_gt (l := LL) (text := a) g2 lx ly
  have hM2 := fun (G F : AH) s => hmk2 G F h m (0 + 1 + 1) (0 + 1 + 1 + 4) (makeL t2 x y LL a).1 x y s g3 (by omega)
  have hA1 : namedL LL = true ∧ (padL a).2 = 0 → _ := fun c => makeL_good (ts := t2) lx ly c
  have hB1 := fun c => makeL_bad (ts := t2) (l := LL) (text := a) lx ly c
  have hA2 : namedL LL = true ∧ (padL b).2 = 0 → _ := fun c => makeL_good (ts := (makeL t2 x y LL a).1) lx ly c
  have hB2 := fun c => makeL_bad (ts := (makeL t2 x y LL a).1) (l := LL) (text := b) lx ly c
  have hS1 := fun (hp : (padL a).1.length ≤ 4096) (hl : LL.prev.length ≤ 100000) => made_spec (secret := x) (epoch := y) (l := LL) (p := (padL a).1) g2 lx ly hp hl
  have hS2 := fun (hp : (padL b).1.length ≤ 4096) (hl : LL.prev.length ≤ 100000) => made_spec (secret := x) (epoch := y) (l := LL) (p := (padL b).1) g3 lx ly hp hl
  generalize madeL t2 x y LL (padL a).1 = M1 at *
  generalize makeL t2 x y LL a = MK1 at *
  obtain ⟨t4,L1,er1⟩ := MK1
  simp only [] at hM1 hM2 hA2 hB2 hS2 hB1
  generalize madeL t4 x y LL (padL b).1 = M2 at *
  generalize makeL t4 x y LL b = MK2 at *
  obtain ⟨t5,L2,er2⟩ := MK2
  simp only [] at hM2 hB2
  have hC1 : ∃ c1 c2 c3 c4 c5 c6 c7,L1 = ⟨c1,c2,c3,c4,c5,c6,c7⟩ := ⟨_,_,_,_,_,_,_,rfl⟩
  obtain ⟨c1,c2,c3,c4,c5,c6,c7,hC1⟩ := hC1
  have hC2 : ∃ d1 d2 d3 d4 d5 d6 d7,L2 = ⟨d1,d2,d3,d4,d5,d6,d7⟩ := ⟨_,_,_,_,_,_,_,rfl⟩
  obtain ⟨d1,d2,d3,d4,d5,d6,d7,hC2⟩ := hC2
  rw [hC1] at hM1
  rw [hC2] at hM2
  simp only [] at hM1 hM2
  refine eI (fun σ F => ∃ b',σ 10 = .ptr b' 0 ∧ F b' = some (.cells [.sc (.int .i64 c1),.sc (.int .i64 c2),.sc (.int .i64 c3),.sc (.int .i64 c4),bytesV c5,bytesV c6,bytesV c7] 24 7) ∧ H b' = none ∧ SS H (F.kill b') h m (0 + 1 + 1) t4 ∧
    σ 3 = .ip [.sc (.int .i64 kd),.sc (.int .i64 au),.sc (.int .i64 ep),.sc (.int .i64 nu),bytesV pv,bytesV bx,bytesV sg] 0 ∧ σ 1 = bytesV a ∧ σ 2 = bytesV b ∧ σ 7 = .ptr h 0 ∧ σ 8 = bytesV x ∧ σ 9 = bytesV y ∧ σ 11 = .sc (.int .i64 er1)) ?_ ?_
  · simp (disch := omega) only [↓aI,↓zP,aD,zD,aS,simprocAttr,Try.facts,zA]
    refine CallP.i ho1 ?_
    simp (disch := omega) only [↓aI,↓zP,aD,zD,aS,simprocAttr,Try.facts,zA]
    refine ⟨?_,?_⟩
    · refine CallK.i (hM1 _ _ s3) ?_
      rintro v E ⟨rfl,s4⟩
      try simp (disch := omega) only [↓aI,↓zP,aD,zD,aS,simprocAttr,Try.facts,zA]
      intro b' hb0 hbb
      try simp (disch := omega) only [↓aI,↓zP,aD,zD,aS,simprocAttr,Try.facts,zA,ah]
      exact ⟨b',rfl,set_get,s4.sub.free hbb,(s4.box hbb).drop (s4.sub.free hbb)⟩
    · intro b' hb0 hbb
      have s3b := s3.box (o := .cells [.sc (.int .i64 0),.sc (.int .i64 0),.sc (.int .i64 0),.sc (.int .i64 0),.sc (.slice none 0 0),.sc (.slice none 0 0),.sc (.slice none 0 0)] 24 7) hbb
      try simp (disch := omega) only [↓aI,↓zP,aD,zD,aS,simprocAttr,Try.facts,zA]
      refine CallK.i (hM1 _ _ s3b) ?_
      rintro v E ⟨rfl,s4⟩
      have vb := s4.sub _ _ (set_get (H := H))
      try simp (disch := omega) only [↓aI,↓zP,aD,zD,aS,simprocAttr,Try.facts,zA,vb,ah]
      exact ⟨b',rfl,set_get,s3.sub.free hbb,(s4.put set_get).drop2 (s3.sub.free hbb)⟩
  · rintro σ F ⟨b',s10,vb,hbb,s4,s3',s1',s2',s7',s8',s9',s11'⟩
    simp (disch := omega) only [↓aI,↓zP,aD,zD,aS,simprocAttr,Try.facts,s10,vb,s3',s1',s2',s7',s8',s9',s11',zA]
    refine eI (fun σ F2 => ∃ b2,σ 12 = .ptr b2 0 ∧ F2 b2 = some (.cells [.sc (.int .i64 d1),.sc (.int .i64 d2),.sc (.int .i64 d3),.sc (.int .i64 d4),bytesV d5,bytesV d6,bytesV d7] 24 7) ∧ H b2 = none ∧ SS H (F2.kill b2) h m (0 + 1 + 1) t5 ∧
      σ 3 = .ip [.sc (.int .i64 kd),.sc (.int .i64 au),.sc (.int .i64 ep),.sc (.int .i64 nu),bytesV pv,bytesV bx,bytesV sg] 0 ∧ σ 1 = bytesV a ∧ σ 2 = bytesV b ∧ σ 10 = .ip [.sc (.int .i64 c1),.sc (.int .i64 c2),.sc (.int .i64 c3),.sc (.int .i64 c4),bytesV c5,bytesV c6,bytesV c7] 0 ∧ σ 11 = .sc (.int .i64 er1) ∧ σ 13 = .sc (.int .i64 er2)) ?_ ?_
    · simp (disch := omega) only [↓aI,↓zP,aD,zD,aS,simprocAttr,Try.facts,s10,vb,s3',s1',s2',s7',s8',s9',s11',zA]
      refine CallP.i ho2 ?_
      simp (disch := omega) only [↓aI,↓zP,aD,zD,aS,simprocAttr,Try.facts,s10,vb,s3',s1',s2',s7',s8',s9',s11',zA]
      refine ⟨?_,?_⟩
      · refine CallK.i (hM2 _ _ s4) ?_
        rintro v E ⟨rfl,s5⟩
        try simp (disch := omega) only [↓aI,↓zP,aD,zD,aS,simprocAttr,Try.facts,zA]
        intro b2 hb0 hb2b
        try simp (disch := omega) only [↓aI,↓zP,aD,zD,aS,simprocAttr,Try.facts,zA,ah]
        exact ⟨b2,rfl,set_get,s5.sub.free hb2b,(s5.box hb2b).drop (s5.sub.free hb2b)⟩
      · intro b2 hb0 hb2b
        have s4b := s4.box (o := .cells [.sc (.int .i64 0),.sc (.int .i64 0),.sc (.int .i64 0),.sc (.int .i64 0),.sc (.slice none 0 0),.sc (.slice none 0 0),.sc (.slice none 0 0)] 24 7) hb2b
        try simp (disch := omega) only [↓aI,↓zP,aD,zD,aS,simprocAttr,Try.facts,zA]
        refine CallK.i (hM2 _ _ s4b) ?_
        rintro v E ⟨rfl,s5⟩
        have vb := s5.sub _ _ (set_get (H := H))
        try simp (disch := omega) only [↓aI,↓zP,aD,zD,aS,simprocAttr,Try.facts,zA,vb,ah]
        exact ⟨b2,rfl,set_get,s4.sub.free hb2b,(s5.put set_get).drop2 (s4.sub.free hb2b)⟩
    · rintro σ F2 ⟨b2,s12,vb2,hb2b,s5,s3',s1',s2',s10,s11',s13'⟩
      have hw : Abs.Sub H (F2.kill b2) := s5.sub
      simp (disch := omega) only [↓aI,↓zP,aD,zD,aS,simprocAttr,Try.facts,s12,vb2,s3',s1',s2',s10,s11',s13',zA]
      generalize hba : bktL (a.length : Int) = za at *
      generalize hbb' : bktL (b.length : Int) = zb at *
      obtain ⟨za1,za2⟩ := za
      obtain ⟨zb1,zb2⟩ := zb
      simp only [] at hb1 hb2 hbp1 hbp2
      generalize hnl : namedL LL = nl at *
      cases nl
      · have hE := (hB1 (fun c => Bool.noConfusion c.1)).1
        first | refine CallK.p (hb1) ?_ | refine CallP.i (hb1) ?_
        simp (disch := omega) only [↓aI,↓zP,aD,zD,aS,simprocAttr,Try.facts,s3',s1',s2',s10,s11',s13',zA]
        first | refine CallK.p (hb2) ?_ | refine CallP.i (hb2) ?_
        simp (disch := omega) only [↓aI,↓zP,aD,zD,aS,simprocAttr,Try.facts,s3',s1',s2',s10,s11',s13',zA]
        first | refine CallK.p (hnm) ?_ | refine CallP.i (hnm) ?_
        simp (disch := omega) only [↓aI,↓zP,aD,zD,aS,simprocAttr,Try.facts,s3',s1',s2',s10,s11',s13',zA]
        first | refine CallK.p (haw) ?_ | refine CallP.i (haw) ?_
        simp (disch := omega) only [↓aI,↓zP,aD,zD,aS,simprocAttr,Try.facts,zA]
        exact hw
      · by_cases ca : (padL a).2 = 0
        · by_cases cb : (padL b).2 = 0
          · have hE1 := hA1 ⟨rfl,ca⟩
            have hE2 := hA2 ⟨rfl,cb⟩
            simp only [Prod.mk.injEq] at hE1 hE2
            obtain ⟨-,hL1,he1⟩ := hE1
            obtain ⟨-,hL2,he2⟩ := hE2
            have hpl := (named_facts hnl).2.2.2.2.2.2.2.2
            have F1 := hS1 (padL_len ca).1 (by omega)
            have F2' := hS2 (padL_len cb).1 (by omega)
            have lb1 := F1.lb
            have lb2 := F2'.lb
            rw [(padL_len ca).2,hba] at lb1
            rw [(padL_len cb).2,hbb'] at lb2
            have zle1 := bkt_le (a.length : Int)
            have zle2 := bkt_le (b.length : Int)
            rw [hba] at zle1
            rw [hbb'] at zle2
            simp only [] at lb1 lb2 zle1 zle2
            have ok1 : okL L1 := by rw [hL1]; exact ⟨by simp only []; omega,by simp only []; omega,by simp only [F1.ls]; omega⟩
            have ok2 : okL L2 := by rw [hL2]; exact ⟨by simp only []; omega,by simp only []; omega,by simp only [F2'.ls]; omega⟩
            have hp1 := put_pure [] L1 (by simp) ok1
            have hp2 := put_pure [] L2 (by simp) ok2
            rw [List.nil_append] at hp1 hp2
            have hq : (dq L1).length = (dq L2).length ↔ za1 = zb1 := by
              rw [hL1,hL2,put_lens (by rw [F1.ls,F2'.ls])]
              have := bkt_vtext (a := a.length) (b := b.length) (by rw [hba]; omega) (by rw [hbb']; omega) (p := M1.box) (q := M2.box) (by rw [hba]; exact lb1) (by rw [hbb']; exact lb2)
              rw [hba,hbb'] at this
              exact this
            have hq2 : ((((dq L1).length : Int) == ((dq L2).length : Int)) == (za1 == zb1)) = true := by
              by_cases c : za1 = zb1
              · have := hq.2 c
                rw [qT (by omega),qT c]; rfl
              · have : ¬ (dq L1).length = (dq L2).length := fun e => c (hq.1 e)
                rw [qF (by omega),qF c]; rfl
            have l6 : (c6.length : Int) = za1 + 16 := by
              have : c6 = M1.box := by rw [hC1] at hL1; exact congrArg Ltr.box hL1
              rw [this]
              omega
            generalize dq L1 = Q1 at *
            generalize dq L2 = Q2 at *
            rw [hC1] at hp1
            rw [hC2] at hp2
            simp only [ltrC] at hp1 hp2
            first | refine CallK.p (hb1) ?_ | refine CallP.i (hb1) ?_
            simp (disch := omega) only [↓aI,↓zP,aD,zD,aS,simprocAttr,Try.facts,s3',s1',s2',s10,s11',s13',zA]
            first | refine CallK.p (hb2) ?_ | refine CallP.i (hb2) ?_
            simp (disch := omega) only [↓aI,↓zP,aD,zD,aS,simprocAttr,Try.facts,s3',s1',s2',s10,s11',s13',zA]
            first | refine CallK.p (hp1) ?_ | refine CallP.i (hp1) ?_
            simp (disch := omega) only [↓aI,↓zP,aD,zD,aS,simprocAttr,Try.facts,s3',s1',s2',s10,s11',s13',zA]
            first | refine CallK.p (hp2) ?_ | refine CallP.i (hp2) ?_
            simp (disch := omega) only [↓aI,↓zP,aD,zD,aS,simprocAttr,Try.facts,s3',s1',s2',s10,s11',s13',zA,hq2,l6]
            first | refine CallK.p (haw) ?_ | refine CallP.i (haw) ?_
            simp (disch := omega) only [↓aI,↓zP,aD,zD,aS,simprocAttr,Try.facts,zA]
            exact hw
          · have hE1 := hA1 ⟨rfl,ca⟩
            simp only [Prod.mk.injEq] at hE1
            have he1 := hE1.2.2
            have hE := (hB2 (fun c => cb c.2)).1
            first | refine CallK.p (hb1) ?_ | refine CallP.i (hb1) ?_
            simp (disch := omega) only [↓aI,↓zP,aD,zD,aS,simprocAttr,Try.facts,s3',s1',s2',s10,s11',s13',zA]
            first | refine CallK.p (hb2) ?_ | refine CallP.i (hb2) ?_
            simp (disch := omega) only [↓aI,↓zP,aD,zD,aS,simprocAttr,Try.facts,s3',s1',s2',s10,s11',s13',zA]
            first | refine CallK.p (hnm) ?_ | refine CallP.i (hnm) ?_
            simp (disch := omega) only [↓aI,↓zP,aD,zD,aS,simprocAttr,Try.facts,s3',s1',s2',s10,s11',s13',zA]
            first | refine CallK.p (haw) ?_ | refine CallP.i (haw) ?_
            simp (disch := omega) only [↓aI,↓zP,aD,zD,aS,simprocAttr,Try.facts,zA]
            exact hw
        · have hE := (hB1 (fun c => ca c.2)).1
          first | refine CallK.p (hb1) ?_ | refine CallP.i (hb1) ?_
          simp (disch := omega) only [↓aI,↓zP,aD,zD,aS,simprocAttr,Try.facts,s3',s1',s2',s10,s11',s13',zA]
          first | refine CallK.p (hb2) ?_ | refine CallP.i (hb2) ?_
          simp (disch := omega) only [↓aI,↓zP,aD,zD,aS,simprocAttr,Try.facts,s3',s1',s2',s10,s11',s13',zA]
          first | refine CallK.p (hnm) ?_ | refine CallP.i (hnm) ?_
          simp (disch := omega) only [↓aI,↓zP,aD,zD,aS,simprocAttr,Try.facts,s3',s1',s2',s10,s11',s13',zA]
          first | refine CallK.p (haw) ?_ | refine CallP.i (haw) ?_
          simp (disch := omega) only [↓aI,↓zP,aD,zD,aS,simprocAttr,Try.facts,zA]
          exact hw
end Go.Proofs.Ytaehlpkinbpmbaa
