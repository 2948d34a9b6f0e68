/-
  Several texts in one: each says what it proves.
  Conditions: none. Lemmas only.
-/
import Derived.Test.YtaehlpkinbpmbaaLetY
set_option linter.all false
section
set_option linter.unusedSimpArgs false
set_option linter.unusedVariables false
set_option maxRecDepth 20000
set_option maxHeartbeats 8000000
namespace Go.Proofs.Ytaehlpkinbpmbaa
open Go Go.Abs Go.Proofs
structure Lnk where
  author : Int
  seq : Int
  epoch : Int
  prev : List UInt8
  body : List UInt8
def lnkC (x : Lnk) : List AV := [.sc (.int .i64 x.author),.sc (.int .i64 x.seq),.sc (.int .i64 x.epoch),bytesV x.prev,bytesV x.body]
abbrev zeroK : Lnk := ⟨0,0,0,[],[]⟩
abbrev hashT (l : Ltr) : Term := ⟨104,[l.box]⟩
abbrev hashL (ts : List Term) (l : Ltr) : List UInt8 := nameT (hashT l) (numT ts (hashT l)).2
def checkL (ts : List Term) (signer : List UInt8) (l : Ltr) : List Term × Lnk × Int :=
  if rightL l = false then (ts,zeroK,1)
  else if verT (numT ts (hashT l)).1 signer (headL l ++ vtext (hashL ts l)) l.sig = false then ((numT ts (hashT l)).1,zeroK,10)
  else ((numT ts (hashT l)).1,⟨l.author,l.number,l.epoch,l.prev,hashL ts l⟩,0)
theorem right_facts {l : Ltr} (h : rightL l = true) : namedL l = true ∧ l.box.length ≤ 4112 ∧ l.sig.length = 64 := by
  unfold rightL at h
  rw [Bool.and_eq_true,Bool.and_eq_true,bx_iff] at h
  have h2 := of_decide_eq_true h.1.2
  exact ⟨h.1.1,by omega,of_decide_eq_true h.2⟩
theorem check_live {H0 H : AH} {h m d N : Nat} {ts : List Term} (signer : List UInt8) (l : Ltr) (hl : okL l) (hs : signer.length ≤ 100000000) (s : SS H0 H h m d ts) (g : GT N ts) (hN : N ≤ 999990) :
    ACalls Try.prog 16 [idealV h,bytesV signer,.agg (ltrC l)] H fun v H' => v = .tup [.agg (lnkC (checkL ts signer l).2.1),.sc (.int .i64 (checkL ts signer l).2.2)] ∧ SS H0 H' h m d (checkL ts signer l).1 := by
  have hr := ee l (by have := hl.2.1; omega)
  have hR : checkL ts signer l = if rightL l = false then (ts,zeroK,1) else if verT (numT ts (hashT l)).1 signer (headL l ++ vtext (hashL ts l)) l.sig = false then ((numT ts (hashT l)).1,zeroK,10) else ((numT ts (hashT l)).1,⟨l.author,l.number,l.epoch,l.prev,hashL ts l⟩,0) := rfl
  have hz : lnkC zeroK = [.sc (.int .i64 0),.sc (.int .i64 0),.sc (.int .i64 0),.imm 0 [] 0,.imm 0 [] 0] := rfl
  generalize checkL ts signer l = R at *
  cases hrt : rightL l
  · rw [hrt] at hr
    rw [hrt,if_pos rfl] at hR
    subst hR
    rw [hz]
    obtain ⟨kd,au,ep,nu,pv,bx,sg⟩ := l
    simp only [ltrC] at *
    refine ao (c := ⟨Try.prog,43,[(4,[0,0,1,0,0,0,0,1,0,0,0,2,0]),(2000006,[0,1,2,3,4,5,7,8,10,6,9,11,12,13]),(6,[0,0,0,0,0,0,0,0,0,2,2,0,2,0]),(1000000,[5])],[37],[]⟩) (rs := [ResultVar.cell 6 38,ResultVar.tmp 7]) Try.mixed Try.func16 rfl rfl rfl (Nat.le_of_ble_eq_true rfl) (by kernel_rfl) ?_
    simp (disch := omega) only [↓aI,↓zP,aD,zD,aS,simprocAttr,Try.facts,zA]
    intro k5 hk50 hk5 k6 hk60 hk6
    have n5 := bK hk6
    have hk6H := am hk6
    simp (disch := omega) only [↓aI,↓zP,aD,zD,aS,simprocAttr,Try.facts,zA,aP,n5,bH hk5 n5]
    first | refine CallK.p (hr) ?_ | refine CallP.i (hr) ?_
    simp (disch := omega) only [↓aI,↓zP,aD,zD,aS,simprocAttr,Try.facts,zA]
    simp (disch := omega) only [↓aI,↓zP,aD,zD,aS,simprocAttr,Try.facts,zA,ah]
    exact ⟨_,rfl,H,Sub.set_new hk6H,rfl,s⟩
  · rw [hrt] at hr
    rw [hrt,if_neg (by simp)] at hR
    obtain ⟨hnm,lb,lsg⟩ := right_facts hrt
    have lpv := (named_facts hnm).2.2.2.2.2.2.2.2
    have hhd := headL_len l
    have wh : wfT (hashT l) := wf1 (by decide) (by omega)
    have g1 : GT (N + 1) (numT ts (hashT l)).1 := g.num wh (fun e => absurd (show (104 : UInt8) = 112 from e) (by decide))
    have lh : (hashL ts l).length = 32 := by unfold hashL; rw [nameT_length]; rfl
    have hha := fun G F (s : SS G F h m d ts) => (show ACalls Try.prog 51 [.ptr h 0,bytesV l.box] F (fun v H' => v = bytesV (hashL ts l) ∧ SS G H' h m d (numT ts (hashT l)).1) from hash_tell l.box wh.1 (g.mono (by omega)) s)
    have hhe := head_pure [] l (by simp) (by omega)
    have htx := wtext_pure (headL l) (hashL ts l) (by omega) (by omega)
    have hve := fun G F (s : SS G F h m d (numT ts (hashT l)).1) => verify_ans [] (headL l ++ vtext (hashL ts l)) signer l.sig hs (by omega) (by omega) g1 s
    rw [List.nil_append] at hhe
    generalize hashL ts l = hash at *
    generalize (numT ts (hashT l)).1 = ts1 at *
    generalize headL l = HL at *
    have e : bytesV (HL ++ vtext hash) = .imm 0 (bw (HL ++ vtext hash)) (HL.length + (vtext hash).length) := by rw [bytesV,List.length_append]
    rw [e] at hve
    generalize verT ts1 signer (HL ++ vtext hash) l.sig = vt at *
    obtain ⟨kd,au,ep,nu,pv,bx,sg⟩ := l
    have h8 := encB_len pv
    simp only [ltrC] at *
    have h0k := fun k (hk : H k = none) => s.sub.free hk
    refine ao (c := ⟨Try.prog,43,[(4,[0,0,1,0,0,0,0,1,0,0,0,2,0]),(2000006,[0,1,2,3,4,5,7,8,10,6,9,11,12,13]),(6,[0,0,0,0,0,0,0,0,0,2,2,0,2,0]),(1000000,[5])],[37],[]⟩) (rs := [ResultVar.cell 6 38,ResultVar.tmp 7]) Try.mixed Try.func16 rfl rfl rfl (Nat.le_of_ble_eq_true rfl) (by kernel_rfl) ?_
    simp (disch := omega) only [↓aI,↓zP,aD,zD,aS,simprocAttr,Try.facts,zA]
    intro k5 hk50 hk5 k6 hk60 hk6
    have n5 := bK hk6
    have hk6H := am hk6
    simp (disch := omega) only [↓aI,↓zP,aD,zD,aS,simprocAttr,Try.facts,zA,aP,n5,bH hk5 n5]
    first | refine CallK.p (hr) ?_ | refine CallP.i (hr) ?_
    simp (disch := omega) only [↓aI,↓zP,aD,zD,aS,simprocAttr,Try.facts,zA]
    have sk := s.box (b := k6) (o := .cells [.sc (.int .i64 0),.sc (.int .i64 0),.sc (.int .i64 0),.sc (.slice none 0 0),.sc (.slice none 0 0)] 38 5) hk6H
    have vG : (H0.set k6 (.cells [.sc (.int .i64 0),.sc (.int .i64 0),.sc (.int .i64 0),.sc (.slice none 0 0),.sc (.slice none 0 0)] 38 5)) k6 = some (.cells [.sc (.int .i64 0),.sc (.int .i64 0),.sc (.int .i64 0),.sc (.slice none 0 0),.sc (.slice none 0 0)] 38 5) := set_get
    refine CallK.i (hha _ _ sk) ?_
    rintro v E ⟨rfl,q1⟩
    have vE := q1.sub _ _ vG
    simp (disch := omega) only [↓aI,↓zP,aD,zD,aS,simprocAttr,Try.facts,zA]
    first | refine CallK.p (hhe) ?_ | refine CallP.i (hhe) ?_
    simp (disch := omega) only [↓aI,↓zP,aD,zD,aS,simprocAttr,Try.facts,zA]
    first | refine CallK.p (htx) ?_ | refine CallP.i (htx) ?_
    simp (disch := omega) only [↓aI,↓zP,aD,zD,aS,simprocAttr,Try.facts,zA]
    refine CallK.i (hve _ _ q1) ?_
    rintro v E1 ⟨rfl,rfl⟩
    cases vt
    · rw [if_pos rfl] at hR
      subst hR
      rw [hz]
      simp (disch := omega) only [↓aI,↓zP,aD,zD,aS,simprocAttr,Try.facts,zA,vE,ah]
      exact ⟨_,rfl,_,Abs.Sub.refl _,rfl,(q1.put vG).less (((Abs.Sub.refl H0).set_free (h0k _ hk6H)).set_free (h0k _ hk6H))⟩
    · rw [if_neg (by simp)] at hR
      subst hR
      simp (disch := omega) only [↓aI,↓zP,aD,zD,aS,simprocAttr,Try.facts,zA,vE,ah,h8]
      intro k hk0 hkf
      have nk : ¬ k6 = k := bA vE hkf
      simp (disch := omega) only [↓aI,↓zP,aD,zD,aS,simprocAttr,Try.facts,zA,vE,ah,h8]
      intro k2 o2 hk20 hk2 ho2
      have hk2E := am hk2
      have nk2 : ¬ k6 = k2 := bA vE hk2E
      simp (disch := omega) only [↓aI,↓zP,aD,zD,aS,simprocAttr,Try.facts,zA,vE,ah,h8,aP,nk2,bZ,nk]
      exact ⟨_,rfl,_,Abs.Sub.refl _,rfl,((q1.up (Sub.set_new hk2E)).put vG).less (((Abs.Sub.refl H0).set_free (h0k _ hk6H)).set_free (h0k _ hk6H))⟩
end Go.Proofs.Ytaehlpkinbpmbaa
end
section
set_option linter.unusedSimpArgs false
set_option linter.unusedVariables false
set_option maxRecDepth 20000
set_option maxHeartbeats 4000000
namespace Go.Proofs.Ytaehlpkinbpmbaa
open Go Go.Abs Go.Proofs
theorem numT_old {ts : List Term} {t : Term} {b : List UInt8} (n : Nm ts t b) (nd : ts.Nodup) : (numT ts t).1 = ts ∧ nameT t (numT ts t).2 = b := by
  have h1 : (numT ts t).1 = ts := by
    unfold numT
    rw [if_pos n.mem]
  have h2 := (numT_nm ts t).1
  rw [h1] at h2
  exact ⟨h1,h2.one n nd⟩
structure MadeF (ts : List Term) (secret epoch : List UInt8) (l : Ltr) (p : List UInt8) (M : Made) (N : Nat) : Prop where
  k : ∃ K,K.length = 32 ∧ Nm M.ts1 (keyTm epoch l) K ∧ Nm M.ts2 (sealT K l.number.toNat (headL l) p) M.box
  h : Nm M.ts3 ⟨104,[M.box]⟩ M.hash
  s : Nm M.ts4 ⟨103,[secret,headL l ++ vtext M.hash]⟩ M.sig
  p1 : ts <+: M.ts1
  p2 : M.ts1 <+: M.ts2
  p3 : M.ts2 <+: M.ts3
  p4 : M.ts3 <+: M.ts4
  g : GT (N + 4) M.ts4
  lb : M.box.length = p.length + 16
  lh : M.hash.length = 32
  ls : M.sig.length = 64
theorem made_spec {ts : List Term} {secret epoch : List UInt8} {l : Ltr} {p : List UInt8} {N : Nat} (g : GT N ts) (c1 : secret.length = 32) (c2 : epoch.length = 32) (hp : p.length ≤ 4096) (hl : l.prev.length ≤ 100000) : MadeF ts secret epoch l p (madeL ts secret epoch l p) N := by
  have hhd := headL_len l
  have wk : wfT (keyTm epoch l) := wf2 (k := 107) (by decide) (by omega) (by have := keyI_len l; omega)
  have g1 := g.num wk (fun e => absurd (show (107 : UInt8) = 112 from e) (by decide))
  have n1 := numT_nm ts (keyTm epoch l)
  have lK : (nameT (keyTm epoch l) (numT ts (keyTm epoch l)).2).length = 32 := by rw [nameT_length]; rfl
  have wb : wfT (sealT (nameT (keyTm epoch l) (numT ts (keyTm epoch l)).2) l.number.toNat (headL l) p) := wf4 (by omega) (by rw [lowL_length]; omega) (by omega) (by omega)
  have g2 := g1.num wb (fun e => absurd (show (98 : UInt8) = 112 from e) (by decide))
  have n2 := numT_nm (numT ts (keyTm epoch l)).1 (sealT (nameT (keyTm epoch l) (numT ts (keyTm epoch l)).2) l.number.toNat (headL l) p)
  have lb : (madeL ts secret epoch l p).box.length = p.length + 16 := by
    show (nameT _ _).length = _
    rw [nameT_length]; rfl
  have wh : wfT ⟨104,[(madeL ts secret epoch l p).box]⟩ := wf1 (by decide) (by omega)
  have g3 := g2.num wh (fun e => absurd (show (104 : UInt8) = 112 from e) (by decide))
  have n3 := numT_nm (madeL ts secret epoch l p).ts2 ⟨104,[(madeL ts secret epoch l p).box]⟩
  have lh : (madeL ts secret epoch l p).hash.length = 32 := by
    show (nameT _ _).length = _
    rw [nameT_length]; rfl
  have ws : wfT ⟨103,[secret,headL l ++ vtext (madeL ts secret epoch l p).hash]⟩ := wf2 (k := 103) (by decide) (by omega) (by rw [List.length_append]; have := vtext_len (madeL ts secret epoch l p).hash; omega)
  have g4 := g3.num ws (fun e => absurd (show (103 : UInt8) = 112 from e) (by decide))
  have n4 := numT_nm (madeL ts secret epoch l p).ts3 ⟨103,[secret,headL l ++ vtext (madeL ts secret epoch l p).hash]⟩
  have ls : (madeL ts secret epoch l p).sig.length = 64 := by
    show (nameT _ _).length = _
    rw [nameT_length]; rfl
  exact ⟨⟨_,lK,n1.1,n2.1⟩,n3.1,n4.1,n1.2,n2.2,n3.2,n4.2,g4,lb,lh,ls⟩
theorem pad_bx {text : List UInt8} (h : (padL text).2 = 0) : bxR ((padL text).1.length + 16) = true := by
  have hl := (padL_len h).2
  have c : (bktL text.length).2 = 0 := by
    unfold padL at h
    by_cases c : (bktL text.length).2 = 0
    · exact c
    · rw [if_neg c] at h
      exact absurd h c
  rw [hl,bx_iff,decide_eq_true_eq]
  have key : ∀ q : Int × Int,bktL text.length = q → q.2 = 0 → (q.1.toNat + 16 = 80 ∨ q.1.toNat + 16 = 144 ∨ q.1.toNat + 16 = 272 ∨ q.1.toNat + 16 = 528 ∨ q.1.toNat + 16 = 1040 ∨ q.1.toNat + 16 = 2064 ∨ q.1.toNat + 16 = 4112) := by
    rintro ⟨a,b⟩ h h2
    unfold bktL at h
    simp only [] at h2 ⊢
    repeat' split at h
    all_goals
      simp only [Prod.mk.injEq] at h
      obtain ⟨rfl,rfl⟩ := h
      omega
  exact key _ rfl c
theorem check_made {ts ts' : List Term} {secret epoch : List UInt8} {l : Ltr} {p sgn : List UInt8} {M : Made} {N N' : Nat} (F : MadeF ts secret epoch l p M N) (hp : M.ts4 <+: ts') (g : GT N' ts') (hN : N' ≤ 1000000) (ks : Nm ts' ⟨118, [secret]⟩ sgn) (hn : namedL l = true) (hb : bxR (p.length + 16) = true) :
    checkL ts' sgn (boxed l M.box M.sig) = (ts',⟨l.author,l.number,l.epoch,l.prev,M.hash⟩,0) := by
  have hr : rightL (boxed l M.box M.sig) = true := by
    show (namedL l && bxR M.box.length && decide (M.sig.length = 64)) = true
    rw [hn,F.lb,hb,F.ls]; rfl
  have ho := numT_old (F.h.up (F.p4.trans hp)) g.nd
  have hv := ver_yes (by have := g.len; omega) ks (F.s.up hp)
  unfold checkL hashL hashT
  simp only [boxed] at *
  rw [hr,ho.1,ho.2,if_neg (by simp)]
  rw [show headL ({ kind := l.kind,author := l.author,epoch := l.epoch,number := l.number,prev := l.prev,box := M.box,sig := M.sig } : Ltr) = headL l from rfl,hv,if_neg (by simp)]
end Go.Proofs.Ytaehlpkinbpmbaa
end
