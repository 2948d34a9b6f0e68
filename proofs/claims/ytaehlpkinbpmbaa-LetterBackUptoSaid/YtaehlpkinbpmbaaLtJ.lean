/-
  LetterBack: the walk.
  Conditions: none. Lemmas only.
-/
import Derived.Test.YtaehlpkinbpmbaaLtH
import Derived.Test.YtaehlpkinbpmbaaLtI
set_option linter.all false
set_option linter.unusedSimpArgs false
set_option linter.unusedVariables false
set_option maxRecDepth 20000
set_option maxHeartbeats 16000000
namespace Go.Proofs.Ytaehlpkinbpmbaa
open Go Go.Abs Go.Proofs
theorem SS.grow {H0 F F2 : AH} {h m d r : Nat} {o : AObj} {ts : List Term} (s : SS H0 F h m d ts) (hr : F r = none) (hs : Abs.Sub F F2) (hv : F2 r = some o) : SS (H0.set r o) F2 h m d ts :=
  (s.box hr).up fun y o' hy => by
    by_cases e : y = r
    · subst e; rw [set_get] at hy; cases hy; exact hv
    · rw [aP e] at hy; exact hs _ _ hy
theorem back_walk22 (l : Ltr) (text : List UInt8) (sh : Bool) (how : UInt8) (at_ : Int) (ht : text.length ≤ 3000000) : APure Try.prog 8 [.agg (wishV l text sh how at_)] (.sc (.bool true)) := by
  have haw := lawake_pure
  have hon := lown_pure text (by omega)
  have hnm := rnamed_pure l
  have hbp := bkt_pad text
  have hbe := bkt_err text.length
  have hmk := fun (H0 H : AH) h m d N ts (x y : List UInt8) (s : SS H0 H h m d ts) (g : GT N ts) (hN : N ≤ 999990) => make_live x y l text (by omega) s g hN
  obtain ⟨LL,hLL⟩ : ∃ L : Ltr,L = l := ⟨l,rfl⟩
  obtain ⟨kd,au,ep,nu,pv,bx,sg⟩ := l
  simp only [ltrC] at hnm hmk
  rw [← hLL] at hnm hmk
  simp only [wishV]
  refine az (c := ⟨Try.prog,165,[(5,[0,0,0,0,0,0,0,0,0,2,0,0,0,2,2,0]),(10,[0,0,0,0,2,0,2,0,0,0,2,2,0]),(13,[0,0,0,0,2,0,2,0,0,0,2,2,0]),(1000000,[1]),(1000005,[7]),(1000009,[10]),(1000010,[11]),(1000013,[17]),(4000014,[2]),(4000013,[1,7,9,10,11,12,13,14,15,16,18]),(4000012,[1,3,6,7,9,10,11,12,13,14,15,16]),(4000011,[1,3,6,7,9,10,11,12,13,14]),(4000010,[1,3,5,6,7,9,10,11,12]),(4000007,[2]),(4000005,[1,3,4,5,6,7,8]),(4000004,[1,3,4,5,6])],[],[(5,(.op 0 0 (.op 1 0 (.op 2 0 (.op 3 0 (.op 4 0 (.op 5 0 (.op 6 0 (.op 7 0 (.op 8 0 (.or (.op 9 2 (.op 10 0 (.op 11 0 (.op 12 0 (.op 13 2 (.op 14 2 (.op 15 0 .nil))))))) (.op 13 2 (.op 9 2 (.op 10 0 (.op 11 0 (.op 12 0 (.op 14 2 (.op 15 0 .nil)))))))))))))))))),(10,(.op 0 0 (.op 1 0 (.op 2 0 (.op 3 0 (.op 5 0 (.or (.op 4 2 (.or (.op 6 2 (.op 7 0 (.op 8 0 (.op 9 0 (.op 10 2 (.op 11 2 (.op 12 0 .nil))))))) (.op 10 2 (.op 6 2 (.op 7 0 (.op 8 0 (.op 9 0 (.op 11 2 (.op 12 0 .nil))))))))) (.op 10 2 (.op 4 2 (.op 6 2 (.op 7 0 (.op 8 0 (.op 9 0 (.op 11 2 (.op 12 0 .nil))))))))))))))),(13,(.op 0 0 (.op 1 0 (.op 2 0 (.op 3 0 (.op 5 0 (.or (.op 4 2 (.or (.op 6 2 (.op 7 0 (.op 8 0 (.op 9 0 (.op 10 2 (.op 11 2 (.op 12 0 .nil))))))) (.op 10 2 (.op 6 2 (.op 7 0 (.op 8 0 (.op 9 0 (.op 11 2 (.op 12 0 .nil))))))))) (.op 10 2 (.op 4 2 (.op 6 2 (.op 7 0 (.op 8 0 (.op 9 0 (.op 11 2 (.op 12 0 .nil)))))))))))))))]⟩) (rs := [ResultVar.tmp 2]) Try.mixed Try.func8 rfl rfl rfl (Nat.le_of_ble_eq_true rfl) (by kernel_rfl) fun H => ?_
  simp (disch := omega) only [↓aI,↓zP,aD,zD,aS,simprocAttr,Try.facts,zA]
  intro k1 hk10 hk1
  rw [aj hk1]
  refine CallK.i (new_ss H) ?_
  rintro v H1 ⟨h,m,rfl,s1⟩
  simp (disch := omega) only [↓aI,↓zP,aD,zD,aS,simprocAttr,Try.facts,zA]
  refine CallK.i (draw_ansm (N := 0) (by omega) (by omega) GT.nil s1) ?_
  rintro v H2 ⟨x,t1,rfl,e1,s2,n1,p1,g1⟩
  simp (disch := omega) only [↓aI,↓zP,aD,zD,aS,simprocAttr,Try.facts,zA]
  refine CallK.i (draw_ansm (by omega) (by omega) g1 s2) ?_
  rintro v H3 ⟨y,t2,rfl,e2,s3,n2,p2,g2⟩
  simp (disch := omega) only [↓aI,↓zP,aD,zD,aS,simprocAttr,Try.facts,zA]
  refine CallK.i (draw_ansm (by omega) (by omega) g2 s3) ?_
  rintro v H3 ⟨z,t3,rfl,e3,s3,n3,p3,g3⟩
  have lx : x.length = 32 := n1.len
  have ly : y.length = 32 := n2.len
  have lz : z.length = 32 := n3.len
  have hzx : z ≠ x := draw_ne n3 (n1.up (p2.trans p3)) (by have := g3.len; omega) (by omega) (by omega) (by omega)
  have hzy : z ≠ y := draw_ne n3 (n2.up p3) (by have := g3.len; omega) (by omega) (by omega) (by omega)
  simp (disch := omega) only [↓aI,↓zP,aD,zD,aS,simprocAttr,Try.facts,zA]
  have hM := fun (G F : AH) s => hmk G F h m (0 + 1 + 1 + 1) (0 + 1 + 1 + 1) t3 x y s g3 (by omega)
  have hA := fun c => makeL_good (ts := t3) (l := LL) (text := text) lx ly c
  have hB := fun c => makeL_bad (ts := t3) (l := LL) (text := text) lx ly c
  have hS := fun (hp : (padL text).1.length ≤ 4096) (hl : LL.prev.length ≤ 100000) => made_spec (secret := x) (epoch := y) (l := LL) (p := (padL text).1) g3 lx ly hp hl
  generalize madeL t3 x y LL (padL text).1 = M at *
  generalize makeL t3 x y LL text = MK at *
  obtain ⟨t4,L1,er⟩ := MK
  simp only [] at hM hB
  obtain ⟨c1,c2,c3,c4,c5,c6,c7,hC1⟩ : ∃ c1 c2 c3 c4 c5 c6 c7,L1 = ⟨c1,c2,c3,c4,c5,c6,c7⟩ := ⟨_,_,_,_,_,_,_,rfl⟩
  rw [hC1] at hM
  simp only [] at hM
  refine eI (fun σ F => ∃ b',σ 7 = .ptr b' 0 ∧ F b' = some (.cells [.sc (.int .i64 c1),.sc (.int .i64 c2),.sc (.int .i64 c3),.sc (.int .i64 c4),bytesV c5,bytesV c6,bytesV c7] 24 7) ∧ H b' = none ∧ SS H (F.kill b') h m (0 + 1 + 1 + 1) t4 ∧
    σ 1 = .ip [.sc (.int .i64 kd),.sc (.int .i64 au),.sc (.int .i64 ep),.sc (.int .i64 nu),bytesV pv,bytesV bx,bytesV sg,bytesV text,.sc (.bool sh),.sc (.int .u8 how.toNat),.sc (.int .i64 at_)] 0 ∧ σ 3 = .ptr h 0 ∧ σ 4 = bytesV x ∧ σ 5 = bytesV y ∧ σ 6 = bytesV z ∧ σ 8 = .sc (.int .i64 er)) ?_ ?_
  · simp (disch := omega) only [↓aI,↓zP,aD,zD,aS,simprocAttr,Try.facts,zA]
    refine CallP.i hon ?_
    simp (disch := omega) only [↓aI,↓zP,aD,zD,aS,simprocAttr,Try.facts,zA]
    refine ⟨?_,?_⟩
    · refine CallK.i (hM _ _ s3) ?_
      rintro v E ⟨rfl,s4⟩
      try simp (disch := omega) only [↓aI,↓zP,aD,zD,aS,simprocAttr,Try.facts,zA]
      intro b' hb0 hbb
      try simp (disch := omega) only [↓aI,↓zP,aD,zD,aS,simprocAttr,Try.facts,zA,ah]
      exact ⟨b',rfl,set_get,s4.sub.free hbb,(s4.box hbb).drop (s4.sub.free hbb)⟩
    · intro b' hb0 hbb
      have s3b := s3.box (o := .cells [.sc (.int .i64 0),.sc (.int .i64 0),.sc (.int .i64 0),.sc (.int .i64 0),.sc (.slice none 0 0),.sc (.slice none 0 0),.sc (.slice none 0 0)] 24 7) hbb
      try simp (disch := omega) only [↓aI,↓zP,aD,zD,aS,simprocAttr,Try.facts,zA]
      refine CallK.i (hM _ _ s3b) ?_
      rintro v E ⟨rfl,s4⟩
      have vb := s4.sub _ _ (set_get (H := H))
      try simp (disch := omega) only [↓aI,↓zP,aD,zD,aS,simprocAttr,Try.facts,zA,vb,ah]
      exact ⟨b',rfl,set_get,s3.sub.free hbb,(s4.put set_get).drop2 (s3.sub.free hbb)⟩
  · rintro σ F ⟨b',s7',vb,hbb,s4,s1',s3',s4',s5',s6',s8'⟩
    have hw : Abs.Sub H (F.kill b') := s4.sub
    generalize hnl : namedL LL = nl at *
    cases nl
    · have hE := (hB (fun c => Bool.noConfusion c.1)).1
      simp (disch := omega) only [↓aI,↓zP,aD,zD,aS,simprocAttr,Try.facts,s7',vb,s1',s3',s4',s5',s6',s8',zA]
      first | refine CallK.p (hnm) ?_ | refine CallP.i (hnm) ?_
      simp (disch := omega) only [↓aI,↓zP,aD,zD,aS,simprocAttr,Try.facts,zA]
      first | refine CallK.p (haw) ?_ | refine CallP.i (haw) ?_
      simp (disch := omega) only [↓aI,↓zP,aD,zD,aS,simprocAttr,Try.facts,zA]
      exact hw
    · by_cases ca : (padL text).2 = 0
      · have hE := hA ⟨rfl,ca⟩
        simp only [Prod.mk.injEq] at hE
        obtain ⟨rfl,hL1,rfl⟩ := hE
        have hpl := (named_facts hnl).2.2.2.2.2.2.2.2
        have F4 := hS (padL_len ca).1 (by omega)
        have hbx := pad_bx ca
        have hrt := made_right F4 hnl hbx
        rw [← hL1] at hrt
        obtain ⟨hrn,hrb,hrs⟩ := right_facts hrt
        have hrp := (named_facts hrn).2.2.2.2.2.2.2.2
        have ok1 : okL L1 := ⟨by omega,by omega,by omega⟩
        have hpu := put_pure [] L1 (by simp) ok1
        rw [List.nil_append] at hpu
        have hpl2 := putL_len ok1
        have hrd := rdLtr_of hrt []
        rw [List.append_nil] at hrd
        have hrgt := ee L1 (by have := ok1.2.1; omega)
        rw [hrt] at hrgt
        have hsm := lsame_pure L1 L1 ok1 ok1
        rw [beq_self_eq_true] at hsm
        have hrdl := fun H2 => read_live H2 (dq L1) (by omega)
        have hget := fun B H2 r k p hr0 => lget_live B H2 r k (dq L1) (dq L1,0) p hr0
        rw [hrd] at hget
        generalize dq L1 = Q at *
        rw [hC1] at hpu hget hrgt hsm
        simp only [ltrC] at hpu hget hrgt hsm
        simp (disch := omega) only [↓aI,↓zP,aD,zD,aS,simprocAttr,Try.facts,s7',vb,s1',s3',s4',s5',s6',s8',zA]
        first | refine CallK.p (hpu) ?_ | refine CallP.i (hpu) ?_
        simp (disch := omega) only [↓aI,↓zP,aD,zD,aS,simprocAttr,Try.facts,zA]
        refine CallK.i (hrdl _) ?_
        rintro v E ⟨r,kk,rfl,hr0,hrf,hrv,hrs2⟩
        simp (disch := omega) only [↓aI,↓zP,aD,zD,aS,simprocAttr,Try.facts,zA]
        have pr : RdS (E.kill r) E r kk Q (Q,0) := ⟨⟨0,Nat.zero_le _,rfl,hrv⟩,Sub.killed,kill_same,by omega⟩
        refine CallK.i (hget _ _ _ _ pr hr0) ?_
        rintro v E2 ⟨rfl,⟨⟨pp,hpp1,hpp2,hpp3⟩,hpp4,-,-⟩⟩
        have hsE2 : Abs.Sub (F.kill b') E2 := fun yy o hy => hpp4 _ _ (by
          have e : yy ≠ r := fun e => by subst e; rw [hrf] at hy; cases hy
          rw [bZ e]
          exact hrs2 _ _ hy)
        have sG := s4.grow hrf hsE2 hpp3
        have hHr : H r = none := s4.sub.free hrf
        have hbase : Abs.Sub H (H.set r (rdB kk Q pp 0)) := Sub.set_new hHr
        have vR : (H.set r (rdB kk Q pp 0)) r = some (rdB kk Q pp 0) := set_get
        generalize hHG : H.set r (rdB kk Q pp 0) = HG at *
        have hchk : ∀ (t5 : List Term) (sgn : List UInt8),M.ts4 <+: t5 → GT (0 + 1 + 1 + 1 + 4 + 1) t5 → Nm t5 ⟨118,[x]⟩ sgn → ∀ G E,SS G E h m (0 + 1 + 1 + 1) t5 → ACalls Try.prog 16 [idealV h,bytesV sgn,.agg [.sc (.int .i64 c1),.sc (.int .i64 c2),.sc (.int .i64 c3),.sc (.int .i64 c4),bytesV c5,bytesV c6,bytesV c7]] E fun v H' => v = .tup [.agg [.sc (.int .i64 LL.author),.sc (.int .i64 LL.number),.sc (.int .i64 LL.epoch),bytesV LL.prev,bytesV M.hash],.sc (.int .i64 0)] ∧ SS G H' h m (0 + 1 + 1 + 1) t5 := by
          intro t5 sgn p5 g5 k5 G E s5
          have lsgn : sgn.length = 32 := k5.len
          have := check_live sgn L1 ok1 (by omega) s5 g5 (by omega)
          have hcm := check_made F4 p5 g5 (by omega) k5 hnl hbx
          rw [hL1,hcm,← hL1,hC1] at this
          exact this
        have hopn : ∀ t5,M.ts4 <+: t5 → GT (0 + 1 + 1 + 1 + 4 + 1) t5 → ∀ G E,SS G E h m (0 + 1 + 1 + 1) t5 → ACalls Try.prog 29 [idealV h,bytesV y,.agg [.sc (.int .i64 c1),.sc (.int .i64 c2),.sc (.int .i64 c3),.sc (.int .i64 c4),bytesV c5,bytesV c6,bytesV c7]] E fun v H' => v = .tup [bytesV text,.sc (.int .i64 0)] ∧ SS G H' h m (0 + 1 + 1 + 1) t5 := by
          intro t5 p5 g5 G E s5
          have := open_live2 y L1 ok1 s5 g5 (by omega)
          have hom := open_made F4 p5 g5 (by omega) hnl ca ly
          rw [hL1,hom,← hL1,hC1] at this
          exact this
        have hopw : ∀ t5,M.ts4 <+: t5 → GT (0 + 1 + 1 + 1 + 4 + 1) t5 → ∀ G E,SS G E h m (0 + 1 + 1 + 1) t5 → ACalls Try.prog 29 [idealV h,bytesV z,.agg [.sc (.int .i64 c1),.sc (.int .i64 c2),.sc (.int .i64 c3),.sc (.int .i64 c4),bytesV c5,bytesV c6,bytesV c7]] E fun v H' => v = .tup [bytesV [],.sc (.int .i64 9)] ∧ SS G H' h m (0 + 1 + 1 + 1) (numT t5 (keyTm z LL)).1 := by
          intro t5 p5 g5 G E s5
          have := open_live2 z L1 ok1 s5 g5 (by omega)
          have hom := open_wrong F4 p5 g5 (by omega) hnl hbx lz hzy
          rw [hL1,hom,← hL1,hC1] at this
          exact this
        have hchw : ∀ (t5 : List Term) (sgn : List UInt8),M.ts4 <+: t5 → GT (0 + 1 + 1 + 1 + 4 + 1 + 1 + 1) t5 → Nm t5 ⟨118,[z]⟩ sgn → ∀ G E,SS G E h m (0 + 1 + 1 + 1) t5 → ACalls Try.prog 16 [idealV h,bytesV sgn,.agg [.sc (.int .i64 c1),.sc (.int .i64 c2),.sc (.int .i64 c3),.sc (.int .i64 c4),bytesV c5,bytesV c6,bytesV c7]] E fun v H' => v = .tup [.agg [.sc (.int .i64 0),.sc (.int .i64 0),.sc (.int .i64 0),bytesV [],bytesV []],.sc (.int .i64 10)] ∧ SS G H' h m (0 + 1 + 1 + 1) t5 := by
          intro t5 sgn p5 g5 k5 G E s5
          have lsgn : sgn.length = 32 := k5.len
          have := check_live sgn L1 ok1 (by omega) s5 g5 (by omega)
          have hcm := check_wrong F4 p5 g5 (by omega) k5 hnl hbx hzx
          rw [hL1,hcm,← hL1,hC1] at this
          exact this
        simp (disch := omega) only [↓aI,↓zP,aD,zD,aS,simprocAttr,Try.facts,zA]
        intro b10 hb100 hb10
        try simp (disch := omega) only [↓aI,↓zP,aD,zD,aS,simprocAttr,Try.facts,zA,aj hb10,ah]
        refine eI (fun σ F2 => ∃ (b9 : Nat) (t5 : List Term),σ 11 = .ptr b9 0 ∧ F2 b9 = some (.cells [.sc (.int .i64 LL.author),.sc (.int .i64 LL.number),.sc (.int .i64 LL.epoch),bytesV LL.prev,bytesV M.hash] 38 5) ∧ HG b9 = none ∧ SS HG (F2.kill b9) h m (0 + 1 + 1 + 1) t5 ∧ M.ts4 <+: t5 ∧ GT (0 + 1 + 1 + 1 + 4 + 1) t5 ∧
          σ 1 = .ip [.sc (.int .i64 kd),.sc (.int .i64 au),.sc (.int .i64 ep),.sc (.int .i64 nu),bytesV pv,bytesV bx,bytesV sg,bytesV text,.sc (.bool sh),.sc (.int .u8 how.toNat),.sc (.int .i64 at_)] 0 ∧ σ 3 = .ptr h 0 ∧ σ 5 = bytesV y ∧ σ 6 = bytesV z ∧ σ 7 = .ip [.sc (.int .i64 c1),.sc (.int .i64 c2),.sc (.int .i64 c3),.sc (.int .i64 c4),bytesV c5,bytesV c6,bytesV c7] 0 ∧ σ 9 = .ptr r 0 ∧ σ 10 = .ip [.sc (.int .i64 c1),.sc (.int .i64 c2),.sc (.int .i64 c3),.sc (.int .i64 c4),bytesV c5,bytesV c6,bytesV c7] 0 ∧ σ 12 = .sc (.int .i64 0)) ?_ ?_
        · have hsg := fun (G E : AH) (s : SS G E h m (0 + 1 + 1 + 1) M.ts4) => signer_ansm x lx (by omega) F4.g s
          try simp (disch := omega) only [↓aI,↓zP,aD,zD,aS,simprocAttr,Try.facts,zA]
          refine ⟨?_,?_⟩
          · refine CallK.i (hsg _ _ sG) ?_
            rintro v E3 ⟨sgn,t5,rfl,e5,q5,k5,p5,g5⟩
            have hC := hchk t5 sgn p5 g5 k5
            try simp (disch := omega) only [↓aI,↓zP,aD,zD,aS,simprocAttr,Try.facts,zA]
            refine ⟨?_,?_⟩
            · try simp (disch := omega) only [↓aI,↓zP,aD,zD,aS,simprocAttr,Try.facts,zA]
              refine CallK.i (hC _ _ q5) ?_
              rintro v E4 ⟨rfl,q6⟩
              try simp (disch := omega) only [↓aI,↓zP,aD,zD,aS,simprocAttr,Try.facts,zA]
              intro b9 hb90 hb9
              try simp (disch := omega) only [↓aI,↓zP,aD,zD,aS,simprocAttr,Try.facts,zA,ah]
              exact ⟨b9,t5,rfl,set_get,q6.sub.free hb9,(q6.box hb9).drop (q6.sub.free hb9),p5,g5⟩
            · try simp (disch := omega) only [↓aI,↓zP,aD,zD,aS,simprocAttr,Try.facts,zA]
              intro b9 hb90 hb9
              have q5b := q5.box (o := .cells [.sc (.int .i64 0),.sc (.int .i64 0),.sc (.int .i64 0),.sc (.slice none 0 0),.sc (.slice none 0 0)] 38 5) hb9
              try simp (disch := omega) only [↓aI,↓zP,aD,zD,aS,simprocAttr,Try.facts,zA]
              refine CallK.i (hC _ _ q5b) ?_
              rintro v E4 ⟨rfl,q6⟩
              have vb9 := q6.sub _ _ (set_get (H := HG))
              try simp (disch := omega) only [↓aI,↓zP,aD,zD,aS,simprocAttr,Try.facts,zA,vb9,ah]
              exact ⟨b9,t5,rfl,set_get,q5.sub.free hb9,(q6.put set_get).drop2 (q5.sub.free hb9),p5,g5⟩
          · intro b9 hb90 hb9
            have s4b := sG.box (o := .cells [.sc (.int .i64 0),.sc (.int .i64 0),.sc (.int .i64 0),.sc (.slice none 0 0),.sc (.slice none 0 0)] 38 5) hb9
            try simp (disch := omega) only [↓aI,↓zP,aD,zD,aS,simprocAttr,Try.facts,zA]
            refine CallK.i (hsg _ _ s4b) ?_
            rintro v E3 ⟨sgn,t5,rfl,e5,q5,k5,p5,g5⟩
            have hC := hchk t5 sgn p5 g5 k5
            try simp (disch := omega) only [↓aI,↓zP,aD,zD,aS,simprocAttr,Try.facts,zA]
            refine CallK.i (hC _ _ q5) ?_
            rintro v E4 ⟨rfl,q6⟩
            have vb9 := q6.sub _ _ (set_get (H := HG))
            try simp (disch := omega) only [↓aI,↓zP,aD,zD,aS,simprocAttr,Try.facts,zA,vb9,ah]
            exact ⟨b9,t5,rfl,set_get,sG.sub.free hb9,(q6.put set_get).drop2 (sG.sub.free hb9),p5,g5⟩
        · rintro σ F2 ⟨b9,t5,s11,v9,hb9,q,p5,g5,s1',s3',s5',s6',s7',s9',s10',s12'⟩
          simp (disch := omega) only [↓aI,↓zP,aD,zD,aS,simprocAttr,Try.facts,s11,v9,s1',s3',s5',s6',s7',s9',s10',s12',zA]
          refine CallK.i (hopn t5 p5 g5 _ _ q) ?_
          rintro v E5 ⟨rfl,q⟩
          simp (disch := omega) only [↓aI,↓zP,aD,zD,aS,simprocAttr,Try.facts,s11,v9,s1',s3',s5',s6',s7',s9',s10',s12',zA]
          refine CallK.i (hopw t5 p5 g5 _ _ q) ?_
          rintro v E6 ⟨rfl,q⟩
          have wk : wfT (keyTm z LL) := wf2 (k := 107) (by decide) (by omega) (by have := keyI_len LL; omega)
          have g6 := g5.num wk (fun e => absurd (show (107 : UInt8) = 112 from e) (by decide))
          have p6 := p5.trans (numT_nm t5 (keyTm z LL)).2
          generalize (numT t5 (keyTm z LL)).1 = t6 at *
          simp (disch := omega) only [↓aI,↓zP,aD,zD,aS,simprocAttr,Try.facts,s11,v9,s1',s3',s5',s6',s7',s9',s10',s12',zA]
          refine eI (fun σ F3 => ∃ (b17 : Nat),σ 17 = .ptr b17 0 ∧ F3 b17 = some (.cells [.sc (.int .i64 0),.sc (.int .i64 0),.sc (.int .i64 0),bytesV [],bytesV []] 38 5) ∧ HG b17 = none ∧ Abs.Sub HG F3 ∧
            σ 1 = .ip [.sc (.int .i64 kd),.sc (.int .i64 au),.sc (.int .i64 ep),.sc (.int .i64 nu),bytesV pv,bytesV bx,bytesV sg,bytesV text,.sc (.bool sh),.sc (.int .u8 how.toNat),.sc (.int .i64 at_)] 0 ∧ σ 7 = .ip [.sc (.int .i64 c1),.sc (.int .i64 c2),.sc (.int .i64 c3),.sc (.int .i64 c4),bytesV c5,bytesV c6,bytesV c7] 0 ∧ σ 9 = .ptr r 0 ∧ σ 10 = .ip [.sc (.int .i64 c1),.sc (.int .i64 c2),.sc (.int .i64 c3),.sc (.int .i64 c4),bytesV c5,bytesV c6,bytesV c7] 0 ∧ σ 11 = .ip [.sc (.int .i64 LL.author),.sc (.int .i64 LL.number),.sc (.int .i64 LL.epoch),bytesV LL.prev,bytesV M.hash] 0 ∧ σ 12 = .sc (.int .i64 0) ∧ σ 13 = bytesV text ∧ σ 14 = .sc (.int .i64 0) ∧ σ 15 = bytesV [] ∧ σ 16 = .sc (.int .i64 9) ∧ σ 18 = .sc (.int .i64 10)) ?_ ?_
          · have hsg := fun (G E : AH) (s : SS G E h m (0 + 1 + 1 + 1) t6) => signer_ansm z lz (by omega) g6 s
            simp (disch := omega) only [↓aI,↓zP,aD,zD,aS,simprocAttr,Try.facts,s11,v9,s1',s3',s5',s6',s7',s9',s10',s12',zA]
            refine ⟨?_,?_⟩
            · refine CallK.i (hsg _ _ q) ?_
              rintro v E3 ⟨sgn,t7,rfl,e7,q5,k7,p7,g7⟩
              have hC := hchw t7 sgn (p6.trans p7) g7 k7
              try simp (disch := omega) only [↓aI,↓zP,aD,zD,aS,simprocAttr,Try.facts,zA]
              refine ⟨?_,?_⟩
              · try simp (disch := omega) only [↓aI,↓zP,aD,zD,aS,simprocAttr,Try.facts,zA]
                refine CallK.i (hC _ _ q5) ?_
                rintro v E4 ⟨rfl,q6⟩
                try simp (disch := omega) only [↓aI,↓zP,aD,zD,aS,simprocAttr,Try.facts,zA]
                intro b17 hb90 hb17
                try simp (disch := omega) only [↓aI,↓zP,aD,zD,aS,simprocAttr,Try.facts,zA,ah]
                exact ⟨b17,rfl,set_get,q6.sub.free hb17,q6.sub.set_free (q6.sub.free hb17)⟩
              · try simp (disch := omega) only [↓aI,↓zP,aD,zD,aS,simprocAttr,Try.facts,zA]
                intro b17 hb90 hb17
                have q5b := q5.box (o := .cells [.sc (.int .i64 0),.sc (.int .i64 0),.sc (.int .i64 0),.sc (.slice none 0 0),.sc (.slice none 0 0)] 38 5) hb17
                try simp (disch := omega) only [↓aI,↓zP,aD,zD,aS,simprocAttr,Try.facts,zA]
                refine CallK.i (hC _ _ q5b) ?_
                rintro v E4 ⟨rfl,q6⟩
                have vb9 := q6.sub _ _ (set_get (H := HG))
                try simp (disch := omega) only [↓aI,↓zP,aD,zD,aS,simprocAttr,Try.facts,zA,vb9,ah]
                exact ⟨b17,rfl,set_get,q5.sub.free hb17,((Sub.set_new (q5.sub.free hb17)).trans q6.sub).set_free (q5.sub.free hb17)⟩
            · intro b17 hb90 hb17
              have s4b := q.box (o := .cells [.sc (.int .i64 0),.sc (.int .i64 0),.sc (.int .i64 0),.sc (.slice none 0 0),.sc (.slice none 0 0)] 38 5) hb17
              try simp (disch := omega) only [↓aI,↓zP,aD,zD,aS,simprocAttr,Try.facts,zA]
              refine CallK.i (hsg _ _ s4b) ?_
              rintro v E3 ⟨sgn,t7,rfl,e7,q5,k7,p7,g7⟩
              have hC := hchw t7 sgn (p6.trans p7) g7 k7
              try simp (disch := omega) only [↓aI,↓zP,aD,zD,aS,simprocAttr,Try.facts,zA]
              refine CallK.i (hC _ _ q5) ?_
              rintro v E4 ⟨rfl,q6⟩
              have vb9 := q6.sub _ _ (set_get (H := HG))
              try simp (disch := omega) only [↓aI,↓zP,aD,zD,aS,simprocAttr,Try.facts,zA,vb9,ah]
              exact ⟨b17,rfl,set_get,q.sub.free hb17,((Sub.set_new (q.sub.free hb17)).trans q6.sub).set_free (q.sub.free hb17)⟩
          · rintro σ F3 ⟨b17,s17,v17,hb17,hsF,s1',s7',s9',s10',s11',s12',s13',s14',s15',s16',s18'⟩
            have hnr : r ≠ b17 := fun e => by subst e; rw [vR] at hb17; cases hb17
            have vr3 : (F3.kill b17) r = some (rdB kk Q pp 0) := by rw [bZ hnr]; exact hsF _ _ vR
            have pr3 : RdS ((F3.kill b17).kill r) (F3.kill b17) r kk Q ([],0) := ⟨⟨pp,hpp1,hpp2,vr3⟩,Sub.killed,kill_same,by omega⟩
            have hend := end_live _ _ r kk Q ([],0) pr3 hr0
            have hw2 : Abs.Sub H (F3.kill b17) := (hbase.trans hsF).kill_free (hbase.free hb17)
            have a1 : LL.author = au := by rw [hLL]
            have a2 : LL.number = nu := by rw [hLL]
            have a3 : LL.epoch = ep := by rw [hLL]
            rw [show endE ([],0) = 0 from rfl] at hend
            simp (disch := omega) only [↓aI,↓zP,aD,zD,aS,simprocAttr,Try.facts,s17,v17,s1',s7',s9',s10',s11',s12',s13',s14',s15',s16',s18',zA]
            refine CallK.i hend ?_
            rintro v E8 ⟨rfl,rfl⟩
            simp (disch := omega) only [↓aI,↓zP,aD,zD,aS,simprocAttr,Try.facts,s17,v17,s1',s7',s9',s10',s11',s12',s13',s14',s15',s16',s18',zA]
            first | refine CallK.p (hrgt) ?_ | refine CallP.i (hrgt) ?_
            simp (disch := omega) only [↓aI,↓zP,aD,zD,aS,simprocAttr,Try.facts,s17,v17,s1',s7',s9',s10',s11',s12',s13',s14',s15',s16',s18',zA]
            first | refine CallK.p (hsm) ?_ | refine CallP.i (hsm) ?_
            simp (disch := omega) only [↓aI,↓zP,aD,zD,aS,simprocAttr,Try.facts,s17,v17,s1',s7',s9',s10',s11',s12',s13',s14',s15',s16',s18',zA,a1,a2,a3,beq_self_eq_true]
            first | refine CallK.p (haw) ?_ | refine CallP.i (haw) ?_
            simp (disch := omega) only [↓aI,↓zP,aD,zD,aS,simprocAttr,Try.facts,zA]
            exact hw2
      · have hE := (hB (fun c => ca c.2)).1
        have hlen : ¬ text.length < 4096 := fun h => ca (by rw [hbp]; exact hbe.2 h)
        simp (disch := omega) only [↓aI,↓zP,aD,zD,aS,simprocAttr,Try.facts,s7',vb,s1',s3',s4',s5',s6',s8',zA]
        first | refine CallK.p (hnm) ?_ | refine CallP.i (hnm) ?_
        simp (disch := omega) only [↓aI,↓zP,aD,zD,aS,simprocAttr,Try.facts,zA]
        first | refine CallK.p (haw) ?_ | refine CallP.i (haw) ?_
        simp (disch := omega) only [↓aI,↓zP,aD,zD,aS,simprocAttr,Try.facts,zA]
        exact hw
end Go.Proofs.Ytaehlpkinbpmbaa
