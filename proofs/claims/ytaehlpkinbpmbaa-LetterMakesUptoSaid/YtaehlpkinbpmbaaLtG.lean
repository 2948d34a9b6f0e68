/-
  LetterSigned: the walk.
  Conditions: none. Lemmas only.
-/
import Derived.Test.YtaehlpkinbpmbaaLetG8
import Derived.Test.YtaehlpkinbpmbaaLetE
set_option linter.all false
set_option linter.unusedSimpArgs false
set_option linter.unusedVariables false
set_option maxRecDepth 20000
set_option maxHeartbeats 8000000
namespace Go.Proofs.Ytaehlpkinbpmbaa
open Go Go.Abs Go.Proofs
theorem named_HdS {l : Ltr} (h : namedL l = true) : HdS l := by
  obtain ⟨f1,f2,f3,f4,f5,f6,f7,f8,f9⟩ := named_facts h
  exact ⟨by omega,by omega,by omega,by omega,by omega⟩
def AnsM (H0 : AH) (h m d N : Nat) (ts : List Term) (t : Term) (v : AV) (H' : AH) : Prop := ∃ b ts',v = bytesV b ∧ ts' = (numT ts t).1 ∧ SS H0 H' h m d ts' ∧ Nm ts' t b ∧ ts <+: ts' ∧ GT (N + 1) ts'
theorem draw_ansm {H0 H : AH} {h m d N : Nat} {ts : List Term} (hd : d ≤ 1000000) (hN : N ≤ 1000000) (g : GT N ts) (s : SS H0 H h m d ts) : ACalls Try.prog 10 [.ptr h 0] H (AnsM H0 h m (d + 1) N ts (drawT d)) :=
  (draw_tell hd (g.mono hN) s).mono fun v H' r => ⟨_,_,r.1,rfl,r.2,(numT_nm ts _).1,(numT_nm ts _).2,g.num (wf1 (by decide) (by rw [lowL_length]; omega)) (fun e => absurd (show (115 : UInt8) = 112 from e) (by decide))⟩
theorem signer_ansm {H0 H : AH} {h m d N : Nat} {ts : List Term} (a : List UInt8) (ha : a.length = 32) (hN : N ≤ 1000000) (g : GT N ts) (s : SS H0 H h m d ts) : ACalls Try.prog 17 [.ptr h 0,bytesV a] H (AnsM H0 h m d N ts ⟨118,[a]⟩) :=
  have w := wf1 (k := 118) (a := a) (by decide) (by omega)
  (signer_tell a w.1 (g.mono hN) ha s).mono fun v H' r => ⟨_,_,r.1,rfl,r.2,(numT_nm ts _).1,(numT_nm ts _).2,g.num w (fun e => absurd (show (118 : UInt8) = 112 from e) (by decide))⟩
theorem make_live {H0 H : AH} {h m d N : Nat} {ts : List Term} (secret epoch : List UInt8) (l : Ltr) (text : List UInt8) (ht : text.length ≤ 3000000) (s : SS H0 H h m d ts) (g : GT N ts) (hN : N ≤ 999990) :
    ACalls Try.prog 11 [idealV h,bytesV secret,bytesV epoch,.agg (ltrC l),bytesV text] H fun v H' => v = .tup [.agg (ltrC (makeL ts secret epoch l text).2.1),.sc (.int .i64 (makeL ts secret epoch l text).2.2)] ∧ SS H0 H' h m d (makeL ts secret epoch l text).1 := by
  by_cases c1 : secret.length = 32
  · by_cases c2 : epoch.length = 32
    · by_cases c3 : namedL l = true
      · by_cases c4 : (padL text).2 = 0
        · have h := make_good secret epoch l text ht s g hN c1 c2 c3 c4
          have e : makeL ts secret epoch l text = ((madeL ts secret epoch l (padL text).1).ts4,boxed l (madeL ts secret epoch l (padL text).1).box (madeL ts secret epoch l (padL text).1).sig,0) := by
            unfold makeL
            rw [if_neg (by rw [c3]; simp [c1,c2]),if_neg (by simp [c4])]
          rw [e]
          exact h
        · exact make_bad secret epoch l text ht s (.inr (.inr (.inr c4)))
      · exact make_bad secret epoch l text ht s (.inr (.inr (.inl (by simpa using c3))))
    · exact make_bad secret epoch l text ht s (.inr (.inl c2))
  · exact make_bad secret epoch l text ht s (.inl c1)
theorem SS.drop {H0 F : AH} {h m d b : Nat} {o : AObj} {ts : List Term} (s : SS (H0.set b o) F h m d ts) (hb : H0 b = none) : SS H0 (F.kill b) h m d ts := by
  have := s.kill (b := b) set_get
  rwa [aj hb] at this
theorem SS.drop2 {H0 F : AH} {h m d b : Nat} {o o' : AObj} {ts : List Term} (s : SS ((H0.set b o).set b o') F h m d ts) (hb : H0 b = none) : SS H0 (F.kill b) h m d ts := by
  rw [set_set] at s
  exact s.drop hb
theorem bkt_pad (text : List UInt8) : (padL text).2 = (bktL text.length).2 := by
  unfold padL
  split
  · rename_i h; exact h.symm
  · rfl
theorem bkt_err (n : Nat) : (bktL n).2 = 0 ↔ n < 4096 := by
  have key : ∀ q : Int × Int,bktL n = q → (q.2 = 0 ↔ n < 4096) := by
    rintro ⟨a,b⟩ h
    unfold bktL at h
    simp only []
    repeat' split at h
    all_goals
      simp only [Prod.mk.injEq] at h
      obtain ⟨rfl,rfl⟩ := h
      omega
  exact key _ rfl
abbrev wishV (l : Ltr) (text : List UInt8) (sh : Bool) (how : UInt8) (at_ : Int) : List AV := [.sc (.int .i64 l.kind),.sc (.int .i64 l.author),.sc (.int .i64 l.epoch),.sc (.int .i64 l.number),bytesV l.prev,bytesV l.box,bytesV l.sig,bytesV text,.sc (.bool sh),.sc (.int .u8 how.toNat),.sc (.int .i64 at_)]
theorem signed_walk (l : Ltr) (text : List UInt8) (sh : Bool) (how : UInt8) (at_ : Int) (ht : text.length ≤ 3000000) (ha : -9223372036854775808 ≤ at_ ∧ at_ < 9223372036854775808) : APure Try.prog 3 [.agg (wishV l text sh how at_)] (.sc (.bool true)) := by
  have haw := lawake_pure
  have hon := lown_pure text (by omega)
  have hnm := rnamed_pure l
  have hbp := bkt_pad text
  have hbe := bkt_err text.length
  have hmk := fun (H0 H : AH) h m d N ts (x y : List UInt8) (s : SS H0 H h m d ts) (g : GT N ts) (hN : N ≤ 999990) => make_live x y l text (by omega) s g hN
  have hmk2 : ∀ ts x y,x.length = 32 → y.length = 32 → namedL l = true → (padL text).2 = 0 → makeL ts x y l text = ((madeL ts x y l (padL text).1).ts4,boxed l (madeL ts x y l (padL text).1).box (madeL ts x y l (padL text).1).sig,0) := fun ts x y c1 c2 c3 c4 => by
    unfold makeL
    rw [if_neg (by rw [c3]; simp [c1,c2]),if_neg (by simp [c4])]
  have hmk3 : ∀ ts x y,x.length = 32 → y.length = 32 → ¬ (namedL l = true ∧ (padL text).2 = 0) → (makeL ts x y l text).2.2 ≠ 0 := fun ts x y c1 c2 c3 => by
    unfold makeL
    by_cases c : namedL l = true
    · rw [if_neg (by rw [c]; simp [c1,c2]),if_pos (fun e => c3 ⟨c,e⟩)]
      exact fun e => c3 ⟨c,e⟩
    · rw [if_pos (.inr (.inr (by simpa using c)))]
      simp
  obtain ⟨kd,au,ep,nu,pv,bx,sg⟩ := l
  simp only [ltrC,wishV] at *
  refine az (c := ⟨Try.prog,80,[(5,[0,0,0,0,0,0,0,0,0,2,0,0,0,2,2,0]),(9,[0,0,0,0,2,0,2,0,0,0,2,2,0]),(1000000,[1]),(1000005,[6]),(1000008,[8]),(1000009,[9]),(4000012,[2]),(4000011,[2]),(4000009,[6,8,9,10]),(4000008,[3,4,6,8]),(4000007,[2]),(4000005,[1,3,4,6,7]),(4000004,[1,3,4,5])],[],[(5,(.op 0 0 (.op 1 0 (.op 2 0 (.op 3 0 (.op 4 0 (.op 5 0 (.op 6 0 (.op 7 0 (.op 8 0 (.or (.op 9 2 (.op 10 0 (.op 11 0 (.op 12 0 (.op 13 2 (.op 14 2 (.op 15 0 .nil))))))) (.op 13 2 (.op 9 2 (.op 10 0 (.op 11 0 (.op 12 0 (.op 14 2 (.op 15 0 .nil)))))))))))))))))),(9,(.op 0 0 (.op 1 0 (.op 2 0 (.op 3 0 (.op 5 0 (.or (.op 4 2 (.or (.op 6 2 (.op 7 0 (.op 8 0 (.op 9 0 (.op 10 2 (.op 11 2 (.op 12 0 .nil))))))) (.op 10 2 (.op 6 2 (.op 7 0 (.op 8 0 (.op 9 0 (.op 11 2 (.op 12 0 .nil))))))))) (.op 10 2 (.op 4 2 (.op 6 2 (.op 7 0 (.op 8 0 (.op 9 0 (.op 11 2 (.op 12 0 .nil)))))))))))))))]⟩) (rs := [ResultVar.tmp 2]) Try.mixed Try.func3 rfl rfl rfl (Nat.le_of_ble_eq_true rfl) (by kernel_rfl) fun H => ?_
  simp (disch := omega) only [↓aI,↓zP,aD,zD,aS,simprocAttr,Try.facts,zA]
  intro k1 hk10 hk1
  rw [aj hk1]
  refine CallK.i (new_ss H) ?_
  rintro v H1 ⟨h,m,rfl,s1⟩
  simp (disch := omega) only [↓aI,↓zP,aD,zD,aS,simprocAttr,Try.facts,zA]
  refine CallK.i (draw_ansm (N := 0) (by omega) (by omega) GT.nil s1) ?_
  rintro v H2 ⟨x,t1,rfl,e1,s2,n1,p1,g1⟩
  simp (disch := omega) only [↓aI,↓zP,aD,zD,aS,simprocAttr,Try.facts,zA]
  refine CallK.i (draw_ansm (by omega) (by omega) g1 s2) ?_
  rintro v H3 ⟨y,t2,rfl,e2,s3,n2,p2,g2⟩
  have lx : x.length = 32 := n1.len
  have ly : y.length = 32 := n2.len
  have hns : NoS t2 := by
    rw [e2,e1]
    exact (NoS.nil.num (fun e => absurd (show (115 : UInt8) = 103 from e) (by decide))).num (fun e => absurd (show (115 : UInt8) = 103 from e) (by decide))
  simp (disch := omega) only [↓aI,↓zP,aD,zD,aS,simprocAttr,Try.facts,zA]
  have hM := fun (G F : AH) s => hmk G F h m (0 + 1 + 1) (0 + 1 + 1) t2 x y s g2 (by omega)
  have hA2 := hmk2 t2 x y lx ly
  have hA3 := hmk3 t2 x y lx ly
  have hones := made_one (secret := x) (epoch := y) (l := ⟨kd,au,ep,nu,pv,bx,sg⟩) (p := (padL text).1) hns
  have hspec := fun (hp : (padL text).1.length ≤ 4096) (hl : pv.length ≤ 100000) => made_spec (secret := x) (epoch := y) (l := ⟨kd,au,ep,nu,pv,bx,sg⟩) (p := (padL text).1) g2 lx ly hp hl
  generalize madeL t2 x y ⟨kd,au,ep,nu,pv,bx,sg⟩ (padL text).1 = M at *
  generalize makeL t2 x y ⟨kd,au,ep,nu,pv,bx,sg⟩ text = MK at *
  obtain ⟨t4,⟨kd2,au2,ep2,nu2,pv2,bx2,sg2⟩,e⟩ := MK
  simp only at hM
  refine eI (fun σ F => ∃ b,σ 6 = .ptr b 0 ∧ F b = some (.cells [.sc (.int .i64 kd2),.sc (.int .i64 au2),.sc (.int .i64 ep2),.sc (.int .i64 nu2),bytesV pv2,bytesV bx2,bytesV sg2] 24 7) ∧ H b = none ∧ SS H (F.kill b) h m (0 + 1 + 1) t4 ∧
    σ 1 = .ip [.sc (.int .i64 kd),.sc (.int .i64 au),.sc (.int .i64 ep),.sc (.int .i64 nu),bytesV pv,bytesV bx,bytesV sg,bytesV text,.sc (.bool sh),.sc (.int .u8 how.toNat),.sc (.int .i64 at_)] 0 ∧ σ 3 = .ptr h 0 ∧ σ 4 = bytesV x ∧ σ 7 = .sc (.int .i64 e)) ?_ ?_
  · simp (disch := omega) only [↓aI,↓zP,aD,zD,aS,simprocAttr,Try.facts,zA]
    refine CallP.i hon ?_
    simp (disch := omega) only [↓aI,↓zP,aD,zD,aS,simprocAttr,Try.facts,zA]
    refine ⟨?_,?_⟩
    · refine CallK.i (hM _ _ s3) ?_
      rintro v E ⟨rfl,s4⟩
      try simp (disch := omega) only [↓aI,↓zP,aD,zD,aS,simprocAttr,Try.facts,zA]
      intro b hb0 hb
      try simp (disch := omega) only [↓aI,↓zP,aD,zD,aS,simprocAttr,Try.facts,zA,ah]
      exact ⟨b,rfl,set_get,s4.sub.free hb,(s4.box hb).drop (s4.sub.free hb)⟩
    · intro b hb0 hb
      have s3b := s3.box (o := .cells [.sc (.int .i64 0),.sc (.int .i64 0),.sc (.int .i64 0),.sc (.int .i64 0),.sc (.slice none 0 0),.sc (.slice none 0 0),.sc (.slice none 0 0)] 24 7) hb
      try simp (disch := omega) only [↓aI,↓zP,aD,zD,aS,simprocAttr,Try.facts,zA]
      refine CallK.i (hM _ _ s3b) ?_
      rintro v E ⟨rfl,s4⟩
      have vb := s4.sub _ _ (set_get (H := H))
      try simp (disch := omega) only [↓aI,↓zP,aD,zD,aS,simprocAttr,Try.facts,zA,vb,ah]
      exact ⟨b,rfl,set_get,s3.sub.free hb,(s4.put set_get).drop2 (s3.sub.free hb)⟩
  · rintro σ F ⟨b,s6',vb,hb,s4,s1',s3',s4',s7'⟩
    have hvb := vb
    by_cases hgood : namedL ⟨kd,au,ep,nu,pv,bx,sg⟩ = true ∧ (padL text).2 = 0
    · have hE := hA2 hgood.1 hgood.2
      simp only [boxed,Prod.mk.injEq,Ltr.mk.injEq] at hE
      obtain ⟨rfl,⟨rfl,rfl,rfl,rfl,rfl,rfl,rfl⟩,rfl⟩ := hE
      obtain ⟨hpl,-⟩ := padL_len hgood.2
      have hds := named_HdS hgood.1
      have hpv := hds.p
      have F4 := hspec hpl (by simp only [] at hpv; omega)
      have hbx := pad_bx hgood.2
      have lbx := F4.lb
      have lsg := F4.ls
      have hokl : okL ⟨kd2,au2,ep2,nu2,pv2,M.box,M.sig⟩ := ⟨by simp only [] at hpv ⊢; omega,by simp only []; omega,by simp only []; omega⟩
      have hdsl : HdS ⟨kd2,au2,ep2,nu2,pv2,M.box,M.sig⟩ := ⟨hds.k,hds.a,hds.e,hds.n,hds.p⟩
      have hch := changed_pure ⟨kd2,au2,ep2,nu2,pv2,M.box,M.sig⟩ how at_ hokl hdsl.r ha
      have hxok := chL_ok how at_ hokl
      have hxhd := hdsl.ch how at_
      generalize chL ⟨kd2,au2,ep2,nu2,pv2,M.box,M.sig⟩ how at_ = X at *
      have hsm := lsame_pure X ⟨kd2,au2,ep2,nu2,pv2,M.box,M.sig⟩ hxok hokl
      have hchk : ∀ (t5 : List Term) (sgn : List UInt8), M.ts4 <+: t5 → OneS t5 ⟨103, [x, headL ⟨kd2, au2, ep2, nu2, pv2, bx, sg⟩ ++ vtext M.hash]⟩ → GT (0 + 1 + 1 + 4 + 1) t5 → Nm t5 ⟨118, [x]⟩ sgn →
          ∃ (LK : Lnk) (e2 : Int) (t6 : List Term),(∀ G E,SS G E h m (0 + 1 + 1) t5 → ACalls Try.prog 16 [idealV h,bytesV sgn,.agg (ltrC X)] E fun v H' => v = .tup [.agg (lnkC LK),.sc (.int .i64 e2)] ∧ SS G H' h m (0 + 1 + 1) t6) ∧
            ((X = ⟨kd2,au2,ep2,nu2,pv2,M.box,M.sig⟩ ∧ e2 = 0) ∨ (X ≠ ⟨kd2,au2,ep2,nu2,pv2,M.box,M.sig⟩ ∧ e2 ≠ 0 ∧ LK = zeroK)) := by
        intro t5 sgn p5 o5 g5 k5
        have lsgn : sgn.length = 32 := k5.len
        refine ⟨_,_,_,fun G E s5 => check_live sgn X hxok (by omega) s5 g5 (by omega),?_⟩
        by_cases c : X = ⟨kd2,au2,ep2,nu2,pv2,M.box,M.sig⟩
        · left
          refine ⟨c,?_⟩
          have := check_made F4 p5 g5 (by omega) k5 hgood.1 hbx
          rw [c]
          exact congrArg (·.2.2) this
        · right
          exact ⟨c,check_other F4 p5 o5 g5 (by omega) hgood.1 c⟩
      have hinj := fun e => putL_inj hxhd hdsl.r (by have := hxok.2.1; omega) (by simp only []; omega) (by have := hxok.2.2; omega) (by simp only []; omega) (x := X) (y := ⟨kd2,au2,ep2,nu2,pv2,M.box,M.sig⟩) e
      obtain ⟨xk,xa,xe,xn,xp,xb,xs⟩ := X
      simp only [ltrC] at hch hchk hsm
      simp (disch := omega) only [↓aI,↓zP,aD,zD,aS,simprocAttr,Try.facts,s6',vb,s1',s3',s4',s7',zA]
      first | refine CallK.p (hch) ?_ | refine CallP.i (hch) ?_
      simp (disch := omega) only [↓aI,↓zP,aD,zD,aS,simprocAttr,Try.facts,s6',vb,s1',s3',s4',s7',zA,ah]
      intro b8 hb80 hb8
      rw [aj hb8]
      refine eI (fun σ F2 => ∃ (b9 : Nat) (LK : Lnk) (e2 : Int),σ 9 = .ptr b9 0 ∧ F2 b9 = some (.cells [.sc (.int .i64 LK.author),.sc (.int .i64 LK.seq),.sc (.int .i64 LK.epoch),.imm 0 (bw LK.prev) LK.prev.length,.imm 0 (bw LK.body) LK.body.length] 38 5) ∧ H b9 = none ∧ Abs.Sub H F2 ∧
        σ 6 = .ip [.sc (.int .i64 kd2),.sc (.int .i64 au2),.sc (.int .i64 ep2),.sc (.int .i64 nu2),.imm 0 (bw pv2) pv2.length,.imm 0 (bw M.box) M.box.length,.imm 0 (bw M.sig) M.sig.length] 0 ∧ σ 8 = .ip [.sc (.int .i64 xk),.sc (.int .i64 xa),.sc (.int .i64 xe),.sc (.int .i64 xn),.imm 0 (bw xp) xp.length,.imm 0 (bw xb) xb.length,.imm 0 (bw xs) xs.length] 0 ∧ σ 10 = .sc (.int .i64 e2) ∧
        (((⟨xk,xa,xe,xn,xp,xb,xs⟩ : Ltr) = ⟨kd2,au2,ep2,nu2,pv2,M.box,M.sig⟩ ∧ e2 = 0) ∨ ((⟨xk,xa,xe,xn,xp,xb,xs⟩ : Ltr) ≠ ⟨kd2,au2,ep2,nu2,pv2,M.box,M.sig⟩ ∧ e2 ≠ 0 ∧ LK = zeroK))) ?_ ?_
      · have hsg := fun (G E : AH) (s : SS G E h m (0 + 1 + 1) M.ts4) => signer_ansm x lx (by omega) F4.g s
        simp (disch := omega) only [↓aI,↓zP,aD,zD,aS,simprocAttr,Try.facts,zA]
        refine ⟨?_,?_⟩
        · refine CallK.i (hsg _ _ s4) ?_
          rintro v E ⟨sgn,t5,rfl,e5,q5,k5,p5,g5⟩
          obtain ⟨LK,e2,t6,hC,hres⟩ := hchk t5 sgn p5 (by rw [e5]; exact hones.num (fun e => absurd (show (118 : UInt8) = 103 from e) (by decide))) g5 k5
          obtain ⟨k1',k2',k3',k4',k5'⟩ := LK
          simp only [lnkC] at hC
          try simp (disch := omega) only [↓aI,↓zP,aD,zD,aS,simprocAttr,Try.facts,zA]
          refine ⟨?_,?_⟩
          · try simp (disch := omega) only [↓aI,↓zP,aD,zD,aS,simprocAttr,Try.facts,zA]
            refine CallK.i (hC _ _ q5) ?_
            rintro v E2 ⟨rfl,q6⟩
            try simp (disch := omega) only [↓aI,↓zP,aD,zD,aS,simprocAttr,Try.facts,zA]
            intro b9 hb90 hb9
            try simp (disch := omega) only [↓aI,↓zP,aD,zD,aS,simprocAttr,Try.facts,zA,ah]
            exact ⟨b9,⟨k1',k2',k3',k4',k5'⟩,e2,rfl,set_get,q6.sub.free hb9,q6.sub.set_free (q6.sub.free hb9),rfl,hres⟩
          · try simp (disch := omega) only [↓aI,↓zP,aD,zD,aS,simprocAttr,Try.facts,zA]
            intro b9 hb90 hb9
            have q5b := q5.box (o := .cells [.sc (.int .i64 0),.sc (.int .i64 0),.sc (.int .i64 0),.sc (.slice none 0 0),.sc (.slice none 0 0)] 38 5) hb9
            try simp (disch := omega) only [↓aI,↓zP,aD,zD,aS,simprocAttr,Try.facts,zA]
            refine CallK.i (hC _ _ q5b) ?_
            rintro v E2 ⟨rfl,q6⟩
            have vb9 := q6.sub _ _ (set_get (H := H))
            try simp (disch := omega) only [↓aI,↓zP,aD,zD,aS,simprocAttr,Try.facts,zA,vb9,ah]
            exact ⟨b9,⟨k1',k2',k3',k4',k5'⟩,e2,rfl,set_get,q5.sub.free hb9,((Sub.set_new (q5.sub.free hb9)).trans q6.sub).set_free (q5.sub.free hb9),rfl,hres⟩
        · intro b9 hb90 hb9
          have s4b := s4.box (o := .cells [.sc (.int .i64 0),.sc (.int .i64 0),.sc (.int .i64 0),.sc (.slice none 0 0),.sc (.slice none 0 0)] 38 5) hb9
          try simp (disch := omega) only [↓aI,↓zP,aD,zD,aS,simprocAttr,Try.facts,zA]
          refine CallK.i (hsg _ _ s4b) ?_
          rintro v E ⟨sgn,t5,rfl,e5,q5,k5,p5,g5⟩
          obtain ⟨LK,e2,t6,hC,hres⟩ := hchk t5 sgn p5 (by rw [e5]; exact hones.num (fun e => absurd (show (118 : UInt8) = 103 from e) (by decide))) g5 k5
          obtain ⟨k1',k2',k3',k4',k5'⟩ := LK
          simp only [lnkC] at hC
          try simp (disch := omega) only [↓aI,↓zP,aD,zD,aS,simprocAttr,Try.facts,zA]
          refine CallK.i (hC _ _ q5) ?_
          rintro v E2 ⟨rfl,q6⟩
          have vb9 := q6.sub _ _ (set_get (H := H))
          try simp (disch := omega) only [↓aI,↓zP,aD,zD,aS,simprocAttr,Try.facts,zA,vb9,ah]
          exact ⟨b9,⟨k1',k2',k3',k4',k5'⟩,e2,rfl,set_get,s4.sub.free hb9,((Sub.set_new (s4.sub.free hb9)).trans q6.sub).set_free (s4.sub.free hb9),rfl,hres⟩
      · rintro σ F2 ⟨b9,LK,e2,s9,v9,hb9,hs,s6,s8,s10,hres⟩
        have hw : Abs.Sub H (F2.kill b9) := hs.kill_free hb9
        rcases hres with ⟨hXL,rfl⟩ | ⟨hXL,he2,rfl⟩
        · have hbq : (dq ⟨xk,xa,xe,xn,xp,xb,xs⟩ == dq ⟨kd2,au2,ep2,nu2,pv2,M.box,M.sig⟩) = true := by rw [hXL]; exact beq_self_eq_true _
          rw [hbq] at hsm
          simp (disch := omega) only [↓aI,↓zP,aD,zD,aS,simprocAttr,Try.facts,s9,v9,s6,s8,s10,zA]
          first | refine CallK.p (hsm) ?_ | refine CallP.i (hsm) ?_
          simp (disch := omega) only [↓aI,↓zP,aD,zD,aS,simprocAttr,Try.facts,s9,v9,s6,s8,s10,zA]
          first | refine CallK.p (haw) ?_ | refine CallP.i (haw) ?_
          simp (disch := omega) only [↓aI,↓zP,aD,zD,aS,simprocAttr,Try.facts,zA]
          exact hw
        · have hbq : (dq ⟨xk, xa, xe, xn, xp, xb, xs⟩ == dq ⟨kd2, au2, ep2, nu2, pv2, M.box, M.sig⟩) = false := by
            rw [beq_eq_false_iff_ne]
            exact fun e => hXL (hinj e)
          rw [hbq] at hsm
          have hsl := samelink_pure zeroK zeroK
          rw [show sameK zeroK zeroK = true from rfl,show lnkC zeroK = [.sc (.int .i64 0),.sc (.int .i64 0),.sc (.int .i64 0),.imm 0 [] 0,.imm 0 [] 0] from rfl] at hsl
          have v9' : F2 b9 = some (.cells [.sc (.int .i64 0),.sc (.int .i64 0),.sc (.int .i64 0),.imm 0 [] 0,.imm 0 [] 0] 38 5) := v9
          simp (disch := omega) only [↓aI,↓zP,aD,zD,aS,simprocAttr,Try.facts,s9,v9',s6,s8,s10,zA]
          first | refine CallK.p (hsm) ?_ | refine CallP.i (hsm) ?_
          simp (disch := omega) only [↓aI,↓zP,aD,zD,aS,simprocAttr,Try.facts,s9,v9',s6,s8,s10,zA]
          first | refine CallK.p (hsl) ?_ | refine CallP.i (hsl) ?_
          simp (disch := omega) only [↓aI,↓zP,aD,zD,aS,simprocAttr,Try.facts,zA]
          first | refine CallK.p (haw) ?_ | refine CallP.i (haw) ?_
          simp (disch := omega) only [↓aI,↓zP,aD,zD,aS,simprocAttr,Try.facts,zA]
          exact hw
    · have hE := hA3 hgood
      simp only [] at hE
      have hw : Abs.Sub H (F.kill b) := s4.sub
      generalize hnl : namedL ⟨kd,au,ep,nu,pv,bx,sg⟩ = nl at *
      cases nl
      · simp (disch := omega) only [↓aI,↓zP,aD,zD,aS,simprocAttr,Try.facts,s6',vb,s1',s3',s4',s7',zA]
        first | refine CallK.p (hnm) ?_ | refine CallP.i (hnm) ?_
        simp (disch := omega) only [↓aI,↓zP,aD,zD,aS,simprocAttr,Try.facts,zA]
        first | refine CallK.p (haw) ?_ | refine CallP.i (haw) ?_
        simp (disch := omega) only [↓aI,↓zP,aD,zD,aS,simprocAttr,Try.facts,zA]
        exact hw
      · have hlen : ¬ text.length < 4096 := fun h => hgood ⟨rfl,by rw [hbp]; exact hbe.2 h⟩
        simp (disch := omega) only [↓aI,↓zP,aD,zD,aS,simprocAttr,Try.facts,s6',vb,s1',s3',s4',s7',zA]
        first | refine CallK.p (hnm) ?_ | refine CallP.i (hnm) ?_
        simp (disch := omega) only [↓aI,↓zP,aD,zD,aS,simprocAttr,Try.facts,zA]
        first | refine CallK.p (haw) ?_ | refine CallP.i (haw) ?_
        simp (disch := omega) only [↓aI,↓zP,aD,zD,aS,simprocAttr,Try.facts,zA]
        exact hw
end Go.Proofs.Ytaehlpkinbpmbaa
