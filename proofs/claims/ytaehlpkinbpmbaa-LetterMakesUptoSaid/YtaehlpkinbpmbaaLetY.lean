/-
  Letters that are made: the walk, where one is made.
  Conditions: none. Lemmas only.
-/
import Derived.Test.YtaehlpkinbpmbaaLetX
set_option linter.all false
set_option linter.unusedSimpArgs false
set_option linter.unusedVariables false
set_option maxRecDepth 20000
set_option maxHeartbeats 8000000
namespace Go.Proofs.Ytaehlpkinbpmbaa
open Go Go.Abs Go.Proofs
theorem SS.up {H0 H F : AH} {h m d : Nat} {ts : List Term} (s : SS H0 H h m d ts) (f : Abs.Sub H F) : SS H0 F h m d ts := by
  obtain ⟨k,g,n1,n2,n3,hs⟩ := s
  obtain ⟨o,c1,c2⟩ := g.ht
  exact ⟨k,⟨g.k0,f _ _ g.hi,f _ _ g.hm,⟨o,f _ _ c1,c2⟩⟩,n1,n2,n3,hs.trans f⟩
theorem named_facts {l : Ltr} (h : namedL l = true) : 2 ≤ l.kind ∧ l.kind ≤ 4 ∧ 0 ≤ l.author ∧ l.author ≤ 4 ∧ 1 ≤ l.epoch ∧ l.epoch ≤ 65536 ∧ 1 ≤ l.number ∧ l.number ≤ 1048576 ∧ l.prev.length ≤ 32 := by
  unfold namedL at h
  rw [Bool.and_eq_true] at h
  have h1 := of_decide_eq_true h.1
  have ht := tail_cases l.kind l.number l.prev.length
  have h2 := h.2
  rcases ht with ⟨_,a,_⟩ | ⟨_,_,a,_,_⟩ | ⟨_,_,a,_,_⟩ | ⟨_,_,_,c⟩ | ⟨_,a,_⟩ | ⟨_,_,c⟩
  all_goals first | (rw [c] at h2; cases h2) | (refine ⟨h1.1,h1.2.1,h1.2.2.1,h1.2.2.2.1,h1.2.2.2.2.1,h1.2.2.2.2.2.1,h1.2.2.2.2.2.2.1,h1.2.2.2.2.2.2.2,by omega⟩)
theorem padL_len {text : List UInt8} (h : (padL text).2 = 0) : (padL text).1.length ≤ 4096 ∧ (padL text).1.length = (bktL text.length).1.toNat := by
  unfold padL at h ⊢
  by_cases c : (bktL text.length).2 = 0
  · rw [if_pos c]
    obtain ⟨l1,l2,l3⟩ := bkt_lt c
    have : (padN text (bktL text.length).1.toNat).length = (bktL text.length).1.toNat := by
      unfold padN
      rw [List.length_append,List.length_cons,List.length_replicate]
      omega
    simp only []
    rw [this]
    exact ⟨by omega,rfl⟩
  · rw [if_neg c] at h
    exact absurd h c
theorem make_good {H0 H : AH} {h m d N : Nat} {ts : List Term} (secret epoch : List UInt8) (l : Ltr) (text : List UInt8) (ht : text.length ≤ 3000000) (s : SS H0 H h m d ts) (g : GT N ts) (hN : N ≤ 999990) (c1 : secret.length = 32) (c2 : epoch.length = 32) (c3 : namedL l = true) (c4 : (padL text).2 = 0) :
    ACalls Try.prog 11 [idealV h,bytesV secret,bytesV epoch,.agg (ltrC l),bytesV text] H fun v H' => v = .tup [.agg (ltrC (boxed l (madeL ts secret epoch l (padL text).1).box (madeL ts secret epoch l (padL text).1).sig)),.sc (.int .i64 0)] ∧ SS H0 H' h m d (madeL ts secret epoch l (padL text).1).ts4 := by
  have hn := named_pure l
  have hp := pad_pure text ht
  obtain ⟨f1,f2,f3,f4,f5,f6,f7,f8,f9⟩ := named_facts c3
  obtain ⟨lp,-⟩ := padL_len c4
  rw [c3] at hn
  rw [c4] at hp
  have hhd := headL_len l
  have hh := fun bx sg => head_pure [] (boxed l bx sg) (by simp) (by show l.prev.length ≤ _; omega)
  have hk := fun G F bx sg (s : SS G F h m d ts) => key_tell epoch (boxed l bx sg) c2 (g.mono (by omega)) s
  generalize hMD : madeL ts secret epoch l (padL text).1 = MD at *
  generalize hP : (padL text).1 = p at *
  obtain ⟨kd,au,ep,nu,pv,bx,sg⟩ := l
  obtain ⟨w,rfl⟩ : ∃ w : Nat,nu = w := ⟨nu.toNat,by simp only [] at f7; omega⟩
  generalize hHL : headL ⟨kd,au,ep,(w : Int),pv,bx,sg⟩ = HL at *
  have hhe : ∀ bx' sg',headL ⟨kd,au,ep,(w : Int),pv,bx',sg'⟩ = HL := fun _ _ => hHL
  simp only [boxed,hhe,List.nil_append] at hh
  have hMD' := hMD
  unfold madeL at hMD'
  simp only [hHL,Int.toNat_natCast] at hMD'
  have hkt : ∀ bx' sg',keyTm epoch ⟨kd,au,ep,(w : Int),pv,bx',sg'⟩ = MD.kt := fun _ _ => by rw [← hMD']
  simp only [boxed,hkt] at hk
  obtain ⟨kt,ts1,bt,ts2,box,hash,ts3,st,ts4,sig⟩ := MD
  simp only [Made.mk.injEq] at hMD'
  obtain ⟨e1,e2,e3,e4,e5,e6,e7,e8,e9,e10⟩ := hMD'
  simp only [] at hk ⊢
  rw [e1] at e2 e3 e4 e5 e6 e7 e8 e9 e10
  generalize hK : nameT kt (numT ts kt).2 = K at *
  rw [e2] at e4 e5 e6 e7 e8 e9 e10
  rw [e3] at e4 e5 e6 e7 e8 e9 e10
  rw [e4] at e6 e7 e8 e9 e10
  rw [e5] at e6 e7 e8 e9 e10
  rw [e6] at e8 e9 e10
  rw [e7] at e9 e10
  rw [e8] at e9 e10
  have e3' : (⟨98,[K,lowL 8 w,HL,p]⟩ : Term) = bt := e3
  have wk : wfT kt := by rw [← e1]; exact wf2 (k := 107) (by decide) (by omega) (by have := keyI_len ⟨kd,au,ep,(w : Int),pv,bx,sg⟩; omega)
  have lK : K.length = 32 := by rw [← hK,nameT_length,← e1]; rfl
  have hHLl : HL.length ≤ 100 := by simp only [] at hhd f9; omega
  have g1 : GT (N + 1) ts1 := by rw [← e2]; exact g.num wk (fun e => by rw [← e1] at e; exact absurd (show (107 : UInt8) = 112 from e) (by decide))
  have wb : wfT bt := by rw [← e3]; exact wf4 (by omega) (by rw [lowL_length]; omega) (by omega) (by omega)
  have g2 : GT (N + 2) ts2 := by rw [← e4]; exact g1.num wb (fun e => by rw [← e3] at e; exact absurd (show (98 : UInt8) = 112 from e) (by decide))
  have lbox : box.length = p.length + 16 := by rw [← e5,nameT_length,← e3]; rfl
  have wh : wfT ⟨104,[box]⟩ := wf1 (by decide) (by omega)
  have g3 : GT (N + 3) ts3 := by rw [← e7]; exact g2.num wh (fun e => absurd (show (104 : UInt8) = 112 from e) (by decide))
  have lhash : hash.length = 32 := by rw [← e6,nameT_length]; rfl
  have hw9 : w < 9223372036854775808 := by simp only [] at f8; omega
  have hs := fun G F (s : SS G F h m d ts1) => seal_tell K w HL p hw9 (by rw [e3']; exact wb.1) (g1.mono (by omega)) lK s
  have hha := fun G F (s : SS G F h m d ts2) => hash_tell box wh.1 (g2.mono (by omega)) s
  have hsi := fun G F (s : SS G F h m d ts3) => sign_tell secret (HL ++ vtext hash) (wf2 (k := 103) (by decide) (by omega) (by rw [List.length_append]; have := vtext_len hash; omega)).1 (g3.mono (by omega)) c1 s
  unfold TellR at hk hs hha hsi
  rw [hK,e2] at hk
  rw [e3',e5,e4] at hs
  rw [e6,e7] at hha
  rw [e8,e9,e10] at hsi
  have htx := wtext_pure HL hash (by omega) (by omega)
  simp only [boxed,ltrC] at *
  refine ao (c := ⟨Try.prog,81,[(6,[0,0,0,0,0,0,0,0,2,0,0,2,0,2,2]),(7,[0,0,0,1,2,0,0,0,0,0,0,0,0,2,0,2]),(2000008,[0,1,2,3,4,5,6,9,10,11,7,8,12,13,14]),(8,[0,0,1,0,0,0,1,0,0,0,2,0,2,0,2]),(1000000,[8]),(4000008,[10,14]),(4000007,[0,1,10,14]),(4000006,[0,1,2,10,12,14]),(4000003,[0,1,2,8,10,12,13]),(4000001,[0,1,2,4,8,10,27])],[46],[(6,(.op 0 0 (.op 1 0 (.op 2 0 (.op 3 0 (.op 4 0 (.op 5 0 (.op 6 0 (.op 7 0 (.op 9 0 (.op 10 0 (.or (.op 8 2 (.or (.op 11 2 (.op 12 0 (.op 13 2 (.op 14 2 .nil)))) (.op 13 2 (.op 11 2 (.op 12 0 (.op 14 2 .nil)))))) (.op 13 2 (.op 8 2 (.op 11 2 (.op 12 0 (.op 14 2 .nil))))))))))))))))),(7,(.op 0 0 (.op 1 0 (.op 2 0 (.op 5 0 (.op 9 0 (.op 10 0 (.op 11 0 (.op 12 0 (.or (.op 3 2 (.or (.op 4 2 (.or (.op 6 2 (.op 7 2 (.op 8 0 (.op 13 2 (.op 14 0 (.op 15 2 .nil)))))) (.op 7 2 (.op 8 0 (.op 6 2 (.op 13 2 (.op 14 0 (.op 15 2 .nil)))))))) (.or (.op 6 2 (.or (.op 4 2 (.op 7 2 (.op 8 0 (.op 13 2 (.op 14 0 (.op 15 2 .nil)))))) (.op 7 2 (.op 4 2 (.op 8 0 (.op 13 2 (.op 14 0 (.op 15 2 .nil)))))))) (.op 7 2 (.or (.op 4 2 (.op 8 0 (.op 6 2 (.op 13 2 (.op 14 0 (.op 15 2 .nil)))))) (.op 6 2 (.op 4 2 (.op 8 0 (.op 13 2 (.op 14 0 (.op 15 2 .nil))))))))))) (.or (.op 6 2 (.or (.op 3 2 (.or (.op 4 2 (.op 7 2 (.op 8 0 (.op 13 2 (.op 14 0 (.op 15 2 .nil)))))) (.op 7 2 (.op 4 2 (.op 8 0 (.op 13 2 (.op 14 0 (.op 15 2 .nil)))))))) (.op 7 2 (.op 3 2 (.op 4 2 (.op 8 0 (.op 13 2 (.op 14 0 (.op 15 2 .nil))))))))) (.op 7 2 (.or (.op 3 2 (.or (.op 4 2 (.op 8 0 (.op 6 2 (.op 13 2 (.op 14 0 (.op 15 2 .nil)))))) (.op 6 2 (.op 4 2 (.op 8 0 (.op 13 2 (.op 14 0 (.op 15 2 .nil)))))))) (.op 6 2 (.op 3 2 (.op 4 2 (.op 8 0 (.op 13 2 (.op 14 0 (.op 15 2 .nil))))))))))))))))))))]⟩) (rs := [ResultVar.cell 10 24,ResultVar.tmp 11]) Try.mixed Try.func11 rfl rfl rfl (Nat.le_of_ble_eq_true rfl) (by kernel_rfl) ?_
  simp (disch := omega) only [↓aI,↓zP,aD,zD,aS,simprocAttr,Try.facts,zA]
  intro k8 hk80 hk8 k10 hk100 hk10
  have n8 := bK hk10
  have hk10H := am hk10
  simp (disch := omega) only [↓aI,↓zP,aD,zD,aS,simprocAttr,Try.facts,zA,aP,n8,bH hk8 n8]
  first | refine CallK.p (hn) ?_ | refine CallP.i (hn) ?_
  simp (disch := omega) only [↓aI,↓zP,aD,zD,aS,simprocAttr,Try.facts,zA]
  first | refine CallK.p (hp) ?_ | refine CallP.i (hp) ?_
  simp (disch := omega) only [↓aI,↓zP,aD,zD,aS,simprocAttr,Try.facts,zA]
  have sk := s.box (b := k10) (o := .cells [.sc (.int .i64 0),.sc (.int .i64 0),.sc (.int .i64 0),.sc (.int .i64 0),.sc (.slice none 0 0),.sc (.slice none 0 0),.sc (.slice none 0 0)] 24 7) hk10H
  have vk : (H.set k10 (.cells [.sc (.int .i64 0),.sc (.int .i64 0),.sc (.int .i64 0),.sc (.int .i64 0),.sc (.slice none 0 0),.sc (.slice none 0 0),.sc (.slice none 0 0)] 24 7)) k10 = some (.cells [.sc (.int .i64 0),.sc (.int .i64 0),.sc (.int .i64 0),.sc (.int .i64 0),.sc (.slice none 0 0),.sc (.slice none 0 0),.sc (.slice none 0 0)] 24 7) := set_get
  generalize hHk : H.set k10 (.cells [.sc (.int .i64 0),.sc (.int .i64 0),.sc (.int .i64 0),.sc (.int .i64 0),.sc (.slice none 0 0),.sc (.slice none 0 0),.sc (.slice none 0 0)] 24 7) = Hk at *
  have h8 := encB_len pv
  refine eI (fun σ F => ∃ (b14 kp : Nat),Hk b14 = none ∧ F b14 = some (.cells [.sc (.int .i64 kd),.sc (.int .i64 au),.sc (.int .i64 ep),.sc (.int .i64 w),.imm kp (bw pv) pv.length,.sc (.slice none 0 0),.sc (.slice none 0 0)] 24 7) ∧ Abs.Sub Hk F ∧ σ 0 = idealV h ∧ σ 1 = bytesV secret ∧ σ 2 = bytesV epoch ∧ σ 10 = .ptr k10 0 ∧ σ 12 = bytesV p ∧ σ 14 = .ptr b14 0) ?_ ?_
  · simp (disch := omega) only [↓aI,↓zP,aD,zD,aS,simprocAttr,Try.facts,zA,h8]
    refine ⟨?_,?_⟩
    · intro k hk0 hkf
      refine ⟨?_,?_⟩
      · simp (disch := omega) only [↓aI,↓zP,aD,zD,aS,simprocAttr,Try.facts,zA,h8]
        intro k2 o2 hk20 hk2 ho2 b hb0 hb
        have hk2H := am hk2
        exact ⟨b,k2,am hb,by rw [set_get,ah]; rfl,(Sub.set_new hk2H).trans (Sub.set_new hb),rfl⟩
      · intro b hb0 hb
        have n1 : ¬ k = b := bK hb
        have n2 : ¬ b = k := fun e => n1 e.symm
        have hbH := am hb
        simp (disch := omega) only [↓aI,↓zP,aD,zD,aS,simprocAttr,Try.facts,zA,h8,aP,n1,n2]
        intro k2 o2 hk20 hk2 ho2
        have n3 : ¬ b = k2 := bK hk2
        have n4 : ¬ k2 = b := fun e => n3 e.symm
        have hk2H : Hk k2 = none := am (am hk2)
        simp (disch := omega) only [↓aI,↓zP,aD,zD,aS,simprocAttr,Try.facts,zA,h8,aP,bZ,n2,n3,ah]
        exact ⟨b,k2,hbH,by rw [set_get],(((((Abs.Sub.refl Hk).set_free hkf).set_free hbH).kill_free hkf).set_free hk2H).set_free hbH,rfl⟩
    · intro b hb0 hb k hk0 hkf
      have n1 : ¬ b = k := bK hkf
      have hkH : Hk k = none := am hkf
      simp (disch := omega) only [↓aI,↓zP,aD,zD,aS,simprocAttr,Try.facts,zA,h8,aP,n1]
      intro k2 o2 hk20 hk2 ho2
      have n3 : ¬ b = k2 := bK (am hk2)
      have hk2H : Hk k2 = none := am (am hk2)
      simp (disch := omega) only [↓aI,↓zP,aD,zD,aS,simprocAttr,Try.facts,zA,h8,aP,n3,ah]
      exact ⟨b,k2,hb,by rw [set_get],(((Abs.Sub.refl Hk).set_free hb).set_free hk2H).set_free hb,rfl⟩
  · rintro σ F ⟨b14,kp,hb14,v14,hF,s0,s1,s2,s10,s12,s14⟩
    generalize hC : ([.sc (.int .i64 kd),.sc (.int .i64 au),.sc (.int .i64 ep),.sc (.int .i64 w),.imm kp (bw pv) pv.length,.sc (.slice none 0 0),.sc (.slice none 0 0)] : List AV) = C at *
    have sF := (sk.box (o := .cells C 24 7) hb14).up (F := F) (fun y o hy => by
      by_cases e : y = b14
      · subst e; rw [set_get] at hy; cases hy; exact v14
      · rw [aP e] at hy; exact hF y o hy)
    have vG : ((H0.set k10 (.cells [.sc (.int .i64 0),.sc (.int .i64 0),.sc (.int .i64 0),.sc (.int .i64 0),.sc (.slice none 0 0),.sc (.slice none 0 0),.sc (.slice none 0 0)] 24 7)).set b14 (.cells C 24 7)) b14 = some (.cells C 24 7) := set_get
    generalize hG : (H0.set k10 (.cells [.sc (.int .i64 0),.sc (.int .i64 0),.sc (.int .i64 0),.sc (.int .i64 0),.sc (.slice none 0 0),.sc (.slice none 0 0),.sc (.slice none 0 0)] 24 7)).set b14 (.cells C 24 7) = G at *
    have hCC := hC
    subst hC
    simp (disch := omega) only [↓aI,↓zP,aD,zD,aS,simprocAttr,Try.facts,s0,s1,s2,s10,s12,s14,v14,zA]
    refine eI (fun σ F2 => ∃ C2 : List AV,C2 = [.sc (.int .i64 kd),.sc (.int .i64 au),.sc (.int .i64 ep),.sc (.int .i64 w),.imm kp (bw pv) pv.length,bytesV box,.sc (.slice none 0 0)] ∧ SS (G.set b14 (.cells C2 24 7)) F2 h m d ts2 ∧ σ 0 = idealV h ∧ σ 1 = bytesV secret ∧ σ 10 = .ptr k10 0 ∧ σ 14 = .ptr b14 0) ?_ ?_
    · simp (disch := omega) only [↓aI,↓zP,aD,zD,aS,simprocAttr,Try.facts,s0,s1,s2,s10,s12,s14,v14,zA]
      have hk0 := hk G F [] [] sF
      have hh0 := hh [] []
      repeat' first
        | refine And.intro ?_ ?_
        | (refine CallK.i hk0 ?_
           rintro v E ⟨rfl,q1⟩
           have v14E := q1.sub _ _ vG
           simp (disch := omega) only [↓aI,↓zP,aD,zD,aS,simprocAttr,Try.facts,s0,s1,s2,s10,s12,s14,v14,v14E,zA])
        | (refine CallP.i hh0 ?_
           simp (disch := omega) only [↓aI,↓zP,aD,zD,aS,simprocAttr,Try.facts,s0,s1,s2,s10,s12,s14,v14,v14E,zA])
        | (refine CallK.i (hs _ _ q1) ?_
           rintro v E2 ⟨rfl,q2⟩
           have v14E2 := q2.sub _ _ vG
           simp (disch := omega) only [↓aI,↓zP,aD,zD,aS,simprocAttr,Try.facts,s0,s1,s2,s10,s12,s14,v14,v14E2,zA,ah])
      all_goals exact ⟨_,rfl,q2.put vG⟩
    · rintro σ F2 ⟨C2,hC2,q2,s0,s1,s10,s14⟩
      have vG2 : (G.set b14 (.cells C2 24 7)) b14 = some (.cells C2 24 7) := set_get
      have v14 := q2.sub _ _ vG2
      have hh1 := hh box []
      have h9 := encB_len HL
      subst hC2
      simp (disch := omega) only [↓aI,↓zP,aD,zD,aS,simprocAttr,Try.facts,s0,s1,s10,s14,v14,zA]
      first | refine CallK.p (hh1) ?_ | refine CallP.i (hh1) ?_
      simp (disch := omega) only [↓aI,↓zP,aD,zD,aS,simprocAttr,Try.facts,s0,s1,s10,s14,v14,zA]
      refine CallK.i (hha _ _ q2) ?_
      rintro v E3 ⟨rfl,q3⟩
      have v14b := q3.sub _ _ vG2
      simp (disch := omega) only [↓aI,↓zP,aD,zD,aS,simprocAttr,Try.facts,s0,s1,s10,s14,v14b,zA]
      first | refine CallK.p (htx) ?_ | refine CallP.i (htx) ?_
      simp (disch := omega) only [↓aI,↓zP,aD,zD,aS,simprocAttr,Try.facts,s0,s1,s10,s14,v14b,zA]
      have e : bytesV (HL ++ vtext hash) = .imm 0 (bw (HL ++ vtext hash)) (HL.length + (vtext hash).length) := by rw [bytesV,List.length_append]
      have hs5 := hsi _ _ q3
      rw [e] at hs5
      refine CallK.i hs5 ?_
      rintro v E4 ⟨rfl,q4⟩
      have v14c := q4.sub _ _ vG2
      have nkb : ¬ k10 = b14 := bA vk hb14
      have nbk : ¬ b14 = k10 := fun e => nkb e.symm
      have vGk : G k10 = some (.cells [.sc (.int .i64 0),.sc (.int .i64 0),.sc (.int .i64 0),.sc (.int .i64 0),.sc (.slice none 0 0),.sc (.slice none 0 0),.sc (.slice none 0 0)] 24 7) := by rw [← hG,aP nkb,set_get]
      have vk4 := q4.sub k10 _ (by rw [aP nkb]; exact vGk)
      simp (disch := omega) only [↓aI,↓zP,aD,zD,aS,simprocAttr,Try.facts,s0,s1,s10,s14,v14c,vk4,zA,ah,aP,nkb,nbk]
      have h0k := s.sub.free hk10H
      have hbH : H b14 = none := by
        have := hb14
        rw [← hHk,aP nbk] at this
        exact this
      have h0b := s.sub.free hbH
      have hGs : Abs.Sub H0 G := by
        rw [← hG]
        exact ((Abs.Sub.refl H0).set_free h0k).set_free h0b
      refine ⟨_,rfl,_,Abs.Sub.refl _,rfl,?_⟩
      exact ((q4.put vG2).put (by rw [aP nkb,aP nkb]; exact vGk)).less (((hGs.set_free h0b).set_free h0b).set_free h0k)
end Go.Proofs.Ytaehlpkinbpmbaa
