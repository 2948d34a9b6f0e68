/-
  Rosters: what is made, in bytes, is read as it was, taken by every log with the same entries, and opened by its members alone.
  Conditions: none. Lemmas only.
-/
import Derived.Test.YtjlnpngaiphnmaaGreatRzG4
set_option linter.all false
set_option linter.unusedSimpArgs false
set_option linter.unusedVariables false
set_option maxRecDepth 20000
set_option maxHeartbeats 16000000
namespace Go.Proofs.YtjlnpngaiphnmaaGreat
open Go Go.Abs Go.Proofs
abbrev j1 (w : UInt8) : DoM := ⟨w ||| 1,false,true,[],0,false,0,0⟩
theorem back_walk21 (l : List DoM) (who : UInt8) (hl : l.length ≤ 2000000) (he : ∀ t ∈ l, t.ends.length ≤ 2000000) :
    APure Tryz.prog 4 [dosV l,.sc (.int .u8 who.toNat)] (.sc (.bool true)) := by
  have hs := small_pure l hl he
  have haw := rawake_pure
  cases hsm : smallM l
  · rw [hsm] at hs
    refine az (c := ⟨Tryz.prog,195,[(9,[0,1,2,0,0,2,0,0]),(10,[0,0,0,0,0,0,0,0,0,0,0,0,0,2,0,0,0,2,2,0]),(15,[0,2,0,0,0,0,0,0,0,0,0,0,0,2,0,0,0,0,0,0,0,0,0,2,0,0,0,0,2,0,0,2,0,0,0,0,0,2,2,0,0,0,0,2,2,0,0,0]),(20,[0,1,0,1,0,0,1,0,0,1,2,0,0,0,0,0]),(26,[0,1,0,1,0,0,1,0,0,1,2,0,0,0,0,0]),(1000003,[5]),(1000006,[7]),(1000010,[13]),(1000014,[16]),(1000021,[20]),(4000027,[5,12,16,131,192]),(4000026,[5,12,16,23,24,131]),(4000022,[5,12,16,17,21,131,167]),(4000021,[5,12,16,17,18,19,21,131]),(4000020,[5,12,16,17,18,19,131]),(4000015,[5,12,16,130]),(4000012,[4]),(4000010,[5,10,12,13,14]),(4000009,[5,8,9,10,11,12]),(4000007,[5,8,9]),(4000006,[5,7]),(4000003,[1,5,6])],[],[(9,(.op 0 0 (.op 1 0 (.op 3 0 (.op 4 0 (.op 2 2 (.op 5 2 (.op 6 0 (.op 7 0 .nil))))))))),(10,(.op 0 0 (.op 1 0 (.op 2 0 (.op 3 0 (.op 4 0 (.op 5 0 (.op 6 0 (.op 7 0 (.op 8 0 (.op 9 0 (.op 10 0 (.op 11 0 (.op 12 0 (.or (.op 13 2 (.op 14 0 (.op 15 0 (.op 16 0 (.op 17 3 (.op 18 2 (.op 19 0 .nil))))))) (.op 17 3 (.op 13 2 (.op 14 0 (.op 15 0 (.op 16 0 (.op 18 2 (.op 19 0 .nil)))))))))))))))))))))),(15,(.op 0 0 (.op 1 5 (.op 2 0 (.op 3 0 (.op 4 0 (.op 5 0 (.op 6 0 (.op 7 0 (.op 8 0 (.op 9 0 (.op 10 0 (.op 11 0 (.op 12 0 (.op 13 2 (.op 14 0 (.op 15 0 (.op 16 0 (.op 17 0 (.op 18 0 (.op 19 0 (.op 20 0 (.op 21 0 (.op 22 0 (.op 23 2 (.op 24 0 (.op 25 0 (.op 26 0 (.op 27 0 (.op 29 0 (.op 30 0 (.op 28 5 (.op 31 5 (.op 32 0 (.op 33 0 (.op 34 0 (.op 35 0 (.op 36 0 (.op 40 0 (.op 41 0 (.op 42 0 (.op 37 5 (.op 38 5 (.op 39 0 (.op 43 5 (.op 44 5 (.op 45 0 (.op 46 0 (.op 47 0 .nil)))))))))))))))))))))))))))))))))))))))))))))))))]⟩) (rs := [ResultVar.tmp 4]) Tryz.mixed Tryz.func4 rfl rfl rfl (Nat.le_of_ble_eq_true rfl) (by kernel_rfl) fun H => ?_
    simp (disch := omega) only [↓aI,↓zP,aD,zD,aS,simprocAttr,Tryz.facts,zA]
    first | refine CallK.p (hs) ?_ | refine CallP.i (hs) ?_
    simp (disch := omega) only [↓aI,↓zP,aD,zD,aS,simprocAttr,Tryz.facts,zA]
    first | refine CallK.p (haw) ?_ | refine CallP.i (haw) ?_
    simp (disch := omega) only [↓aI,↓zP,aD,zD,aS,simprocAttr,Tryz.facts,zA]
    exact Abs.Sub.refl _
  rw [hsm] at hs
  have h12 := small_len hsm
  have hpl := fun G => played_live G l (by omega) (fun t h => by have := small_ends hsm t h; omega)
  have hok := play_ok (c := fQ 5) (ad := ad5) l begB_ok (by omega)
  have hpre := play_pre (c := fQ 5) (ad := ad5) l begB_ok (by omega)
  change OkB _ (j9 l) at hok
  change begB.ts <+: (j9 l).ts ∧ (j9 l).g.L.length ≤ _ at hpre
  rw [Nat.zero_add] at hok
  have hc := beg_ok
  have hF := begM_facts 5
  have had := ad5_len
  have hadN : Nm (fQ 5).ts ⟨118,[(fQ 5).G.getD 0 []]⟩ ad5 := (hF 0 (by omega)).2.2.1
  have hbg : begB.ts = (fQ 5).ts := rfl
  have hbl : begB.g.L.length = 0 := rfl
  have hcl : (fQ 5).ts.length ≤ 1000000 := by have := (begM_gt 5).len; omega
  rw [hbg,hbl] at hpre
  clear hsm hbg hbl
  generalize j9 l = B at *
  generalize ad5 = ad at *
  generalize fQ 5 = c at *
  have hg := hok.g
  have hd := hok.d
  obtain ⟨ts,d,g,made⟩ := B
  simp only [] at *
  obtain ⟨hp1,hp2⟩ := hpre
  have gt0 := hok.gt
  simp only [] at gt0 hd
  -- what is chosen
  have hch := fun h r => choice_pure h r ts d ad g c.S c.G c.M made (j1 who) hg hc.ml (fun x hx => by have := hc.m32 x hx; omega)
  have hms5 := choMs_len c.M (j1 who)
  have hns5 := choNs_len hg c.M (j1 who) (show ([] : List Nd).length ≤ _ by decide)
  have hmsP : iL c.M (j1 who) = iV c.M (who ||| 1) 5 := rfl
  obtain ⟨hsecN,hsecS⟩ := sec_of hF hmsP
  -- two draws
  have hw : ∀ k,wfT (fJ k) := fun k => wf1 (by decide) (by rw [fe]; omega)
  have g1 := gt0.num (hw d) fun e => absurd (show (115 : UInt8) = 112 from e) (by decide)
  have g2 := g1.num (hw (d + 1)) fun e => absurd (show (115 : UInt8) = 112 from e) (by decide)
  have hd1 := fun (G E : AH) (h m : Nat) (s : SS G E h m d ts) => ja (by omega) (gt0.mono (by omega)) s
  have hd2 := fun (G E : AH) (h m : Nat) (s : SS G E h m (d + 1) (fC ts (fJ d)).1) => ja (by omega) (g1.mono (by omega)) s
  change ∀ G E h m,_ → ACalls _ _ _ _ fun v H' => v = eu (fP ts (fJ d)) ∧ SS G H' h m (d + 1) (fC ts (fJ d)).1 at hd1
  change ∀ G E h m,_ → ACalls _ _ _ _ fun v H' => v = eu (fP (fC ts (fJ d)).1 (fJ (d + 1))) ∧ SS G H' h m (d + 1 + 1) (fC (fC ts (fJ d)).1 (fJ (d + 1))).1 at hd2
  have p2 := ((hp1.trans (gX ts (fJ d)).2).trans (gX _ (fJ (d + 1))).2)
  have lx : (fP ts (fJ d)).length = 32 := gW _ _
  have ly : (fP (fC ts (fJ d)).1 (fJ (d + 1))).length = 32 := gW _ _
  generalize fP (fC ts (fJ d)).1 (fJ (d + 1)) = y at *
  generalize (fC (fC ts (fJ d)).1 (fJ (d + 1))).1 = ts2 at *
  generalize fP ts (fJ d) = x at *
  generalize (fC ts (fJ d)).1 = ts1 at *
  have hG0l : (c.G.getD 0 []).length = 32 := by
    simp only [List.getD,List.getElem?_eq_getElem (show 0 < c.G.length by rw [hc.gl]; omega),Option.getD_some]
    exact hc.g32 _ (List.getElem_mem _)
  have hgG : (c.G.map eu)[0]? = some (eu (c.G.getD 0 [])) := by
    have h := hc.gl
    simp [List.getD,List.getElem?_eq_getElem (show 0 < c.G.length by omega)]
  have hgl : (c.G.map eu).length = 5 := by rw [List.length_map]; exact hc.gl
  have hgl5 := hc.gl
  have hsl5 := hc.sl
  have hS32 : ∀ i,i < 5 → (c.S.getD i []).length = 32 := fun i hi => by
    simp only [List.getD,List.getElem?_eq_getElem (show i < c.S.length by omega),Option.getD_some]
    exact hc.s32 _ (List.getElem_mem _)
  have hSg : ∀ i,i < 5 → (c.S.map eu)[i]? = some (eu (c.S.getD i [])) := fun i hi => by
    simp [List.getD,List.getElem?_eq_getElem (show i < c.S.length by omega)]
  have hSl : (c.S.map eu).length = 5 := by rw [List.length_map]; exact hsl5
  have hSne := fun i j hi hj hij => sec_ne hF hcl (i := i) (j := j) hi hj hij
  -- the entry
  have hmy := make_yes (ns := ic c.M g (j1 who)) (key := y) (secOf c.S) hg g2 (by omega) (by omega) hG0l lx ly (hadN.up p2) (by omega) (fun m hm => (hsecN m hm).up p2)
  obtain ⟨q1,q2,q3,q4⟩ := kJ (ad := ad) (secret := c.G.getD 0 []) (once := x) (key := y) (ms := iL c.M (j1 who)) (ns := ic c.M g (j1 who)) hg g2
  have hM : ∀ (H0 E : AH) (h m r k kd : Nat) (bs : List (Nat × AObj)), r ≠ 0 → FS H0 E r (lgP ad g k kd) bs h m (d + 1 + 1) ts2 → ACalls Tryz.prog 21 [.ptr r 0, iT h, eu (c.G.getD 0 []), eu x, eu y, fE (iL c.M (j1 who)), fY (ic c.M g (j1 who))] E
      fun v H' => v = .tup [.agg (fX (gq ts2 ad g (c.G.getD 0 []) x y (iL c.M (j1 who)) (ic c.M g (j1 who))).2.1),.sc (.int .i64 (gq ts2 ad g (c.G.getD 0 []) x y (iL c.M (j1 who)) (ic c.M g (j1 who))).2.2)] ∧ FS H0 H' r (lgP ad g k kd) bs h m (d + 1 + 1) (gq ts2 ad g (c.G.getD 0 []) x y (iL c.M (j1 who)) (ic c.M g (j1 who))).1 := by
    rintro H0 E h m r k kd bs hr0 ⟨D,fr,s⟩
    refine (make_live hg g2 (by omega) s hr0 fr.log (by omega) (by omega)).mono ?_
    rintro v H' ⟨rfl,s'⟩
    exact ⟨rfl,D,fr,s'⟩
  generalize gq ts2 ad g (c.G.getD 0 []) x y (iL c.M (j1 who)) (ic c.M g (j1 who)) = K at *
  obtain ⟨T,e,K3⟩ := K
  simp only [] at *
  generalize iL c.M (j1 who) = ms at *
  generalize ic c.M g (j1 who) = ns at *
  have hoe : OkE e := by
    by_cases h0 : K3 = 0
    · exact right_ok (q3 h0)
    · rw [q4 h0]
      exact ⟨by decide,by decide,(fun m h => by cases h),by decide,by decide,by decide,(fun b h => by cases h),by decide⟩
  clear q3 q4 hms5 hns5 hmsP hok hsecN hF hw hd hp1 hp2 hcl g1
  have hput := putR_pure [] e (by decide) hoe
  have hpl2 : ([] ++ jy e).length ≤ 2000000 := by
    have h1 := iM hoe
    have h2 := iH e.sig
    have h3 := hoe.sig
    simp only [jy,List.nil_append,List.length_append]
    omega
  have hrd := fun H => read_live H ([] ++ jy e) hpl2
  have hget := fun B H2 r k p hr0 => rget_live B H2 r k ([] ++ jy e) ([] ++ jy e,0) p hr0
  refine az (c := ⟨Tryz.prog,195,[(9,[0,1,2,0,0,2,0,0]),(10,[0,0,0,0,0,0,0,0,0,0,0,0,0,2,0,0,0,2,2,0]),(15,[0,2,0,0,0,0,0,0,0,0,0,0,0,2,0,0,0,0,0,0,0,0,0,2,0,0,0,0,2,0,0,2,0,0,0,0,0,2,2,0,0,0,0,2,2,0,0,0]),(20,[0,1,0,1,0,0,1,0,0,1,2,0,0,0,0,0]),(26,[0,1,0,1,0,0,1,0,0,1,2,0,0,0,0,0]),(1000003,[5]),(1000006,[7]),(1000010,[13]),(1000014,[16]),(1000021,[20]),(4000027,[5,12,16,131,192]),(4000026,[5,12,16,23,24,131]),(4000022,[5,12,16,17,21,131,167]),(4000021,[5,12,16,17,18,19,21,131]),(4000020,[5,12,16,17,18,19,131]),(4000015,[5,12,16,130]),(4000012,[4]),(4000010,[5,10,12,13,14]),(4000009,[5,8,9,10,11,12]),(4000007,[5,8,9]),(4000006,[5,7]),(4000003,[1,5,6])],[],[(9,(.op 0 0 (.op 1 0 (.op 3 0 (.op 4 0 (.op 2 2 (.op 5 2 (.op 6 0 (.op 7 0 .nil))))))))),(10,(.op 0 0 (.op 1 0 (.op 2 0 (.op 3 0 (.op 4 0 (.op 5 0 (.op 6 0 (.op 7 0 (.op 8 0 (.op 9 0 (.op 10 0 (.op 11 0 (.op 12 0 (.or (.op 13 2 (.op 14 0 (.op 15 0 (.op 16 0 (.op 17 3 (.op 18 2 (.op 19 0 .nil))))))) (.op 17 3 (.op 13 2 (.op 14 0 (.op 15 0 (.op 16 0 (.op 18 2 (.op 19 0 .nil)))))))))))))))))))))),(15,(.op 0 0 (.op 1 5 (.op 2 0 (.op 3 0 (.op 4 0 (.op 5 0 (.op 6 0 (.op 7 0 (.op 8 0 (.op 9 0 (.op 10 0 (.op 11 0 (.op 12 0 (.op 13 2 (.op 14 0 (.op 15 0 (.op 16 0 (.op 17 0 (.op 18 0 (.op 19 0 (.op 20 0 (.op 21 0 (.op 22 0 (.op 23 2 (.op 24 0 (.op 25 0 (.op 26 0 (.op 27 0 (.op 29 0 (.op 30 0 (.op 28 5 (.op 31 5 (.op 32 0 (.op 33 0 (.op 34 0 (.op 35 0 (.op 36 0 (.op 40 0 (.op 41 0 (.op 42 0 (.op 37 5 (.op 38 5 (.op 39 0 (.op 43 5 (.op 44 5 (.op 45 0 (.op 46 0 (.op 47 0 .nil)))))))))))))))))))))))))))))))))))))))))))))))))]⟩) (rs := [ResultVar.tmp 4]) Tryz.mixed Tryz.func4 rfl rfl rfl (Nat.le_of_ble_eq_true rfl) (by kernel_rfl) fun H => ?_
  simp (disch := omega) only [↓aI,↓zP,aD,zD,aS,simprocAttr,Tryz.facts,zA]
  first | refine CallK.p (hs) ?_ | refine CallP.i (hs) ?_
  simp (disch := omega) only [↓aI,↓zP,aD,zD,aS,simprocAttr,Tryz.facts,zA]
  refine CallK.i (hpl _) ?_
  rintro v E ⟨h,m,r,k,kd,rfl,hr0,hk,hkd,hr,s⟩
  have f0 : FS H E r (lgP ad g k kd) [] h m d ts := ⟨_,⟨set_get,fun p hp => (by cases hp),List.nodup_nil,fun x o hx hn => (aP hn).trans hx⟩,s⟩
  have hch := hch h r
  have hor : bits .or .u8 (who.toNat : Int) 1 = ((who ||| 1).toNat : Int) := n8or who 1
  try simp (disch := omega) only [↓aI,↓zP,aD,zD,aS,simprocAttr,Tryz.facts,zA,ah,hor]
  intro b5 hb50 hb5 b7 hb70 hb7
  rw [aj hb5] at hb7 ⊢
  rw [aj hb7]
  have hchV : doC (j1 who) = [.sc (.int .u8 (who ||| 1).toNat),.sc (.bool false),.sc (.bool true),.imm 0 [] 0,.sc (.int .u8 0),.sc (.bool false),.sc (.int .i64 0),.sc (.int .u8 0)] := rfl
  rw [hchV] at hch
  try simp (disch := omega) only [↓aI,↓zP,aD,zD,aS,simprocAttr,Tryz.facts,zA,ah,hor]
  first | refine CallK.p (hch) ?_ | refine CallP.i (hch) ?_
  simp (disch := omega) only [↓aI,↓zP,aD,zD,aS,simprocAttr,Tryz.facts,zA,ah,hor]
  have hcl := lclone_live hg hr0 hk hkd f0.log
  refine CallK.i hcl ?_
  rintro v E2 ⟨q,k2,kd2,rfl,hq0,hk20,hkd20,hq,hqv,hqs⟩
  have f1 := f0.grow hq hqs hqv
  try simp (disch := omega) only [↓aI,↓zP,aD,zD,aS,simprocAttr,Tryz.facts,zA,ah]
  refine jk ?_
  simp (disch := omega) only [↓aI,↓zP,aD,zD,aS,simprocAttr,Tryz.facts,zA,ah]
  refine CallK.i (f1.call fun D s => hd1 D _ _ _ s) ?_
  rintro v EA ⟨rfl,fA⟩
  try simp (disch := omega) only [↓aI,↓zP,aD,zD,aS,simprocAttr,Tryz.facts,zA,ah]
  refine CallK.i (fA.call fun D s => hd2 D _ _ _ s) ?_
  rintro v EB ⟨rfl,fB⟩
  obtain ⟨n1,pr1,ms1,ns1,on1,bs1,sg1⟩ := e
  have hMB := hM _ EB h m r k kd _ hr0 fB
  simp only [fX] at hMB hput
  try simp (disch := omega) only [↓aI,↓zP,aD,zD,aS,simprocAttr,Tryz.facts,zA,ah]
  refine eI (fun σ F => ∃ b13,F b13 = some (.cells [.sc (.int .i64 n1),eu pr1,fE ms1,fY ns1,eu on1,fZ bs1,eu sg1] 27 7) ∧ FS H (F.kill b13) r (lgP ad g k kd) [(q,lgP ad g k2 kd2)] h m (d + 1 + 1) T ∧
    σ 13 = .ptr b13 0 ∧ σ 14 = .sc (.int .i64 K3) ∧ σ 5 = .ip (iD h r ts d ad g c.S c.G c.M made) 0 ∧ σ 10 = .ptr q 0 ∧ σ 12 = eu y) ?_ ?_
  · simp (disch := omega) only [↓aI,↓zP,aD,zD,aS,simprocAttr,Tryz.facts,zA,ah,hgG,hgl,hgl5]
    refine And.intro ?_ ?_
    · refine CallK.i hMB ?_
      rintro v E3 ⟨rfl,f3⟩
      try simp (disch := omega) only [↓aI,↓zP,aD,zD,aS,simprocAttr,Tryz.facts,zA,ah]
      intro b13 hb130 hb13
      try simp (disch := omega) only [↓aI,↓zP,aD,zD,aS,simprocAttr,Tryz.facts,zA,ah,ey]
      exact ⟨b13,set_get,by rw [aj hb13]; exact f3,rfl⟩
    · intro b13 hb130 hb13
      have f4 := fB.box ii hb13
      have hMC := hM _ _ h m r k kd _ hr0 f4
      simp only [fX] at hMC
      refine CallK.i hMC ?_
      rintro v E3 ⟨rfl,f5⟩
      have v5 := f5.at 1 rfl
      try simp (disch := omega) only [↓aI,↓zP,aD,zD,aS,simprocAttr,Tryz.facts,zA,ah,v5,ey]
      exact ⟨b13,set_get,by rw [gU]; exact f5.drop,rfl⟩
  rintro σ F ⟨b13,v13,f3,s13,s14,s5,s10,s12⟩
  rcases hmy with h19 | ⟨h0,hmem,MR⟩
  · subst h19
    simp (disch := omega) only [↓aI,↓zP,aD,zD,aS,simprocAttr,Tryz.facts,zA,ah,v13,s13,s14,s5,s10,s12]
    first | refine CallK.p (haw) ?_ | refine CallP.i (haw) ?_
    simp (disch := omega) only [↓aI,↓zP,aD,zD,aS,simprocAttr,Tryz.facts,zA]
    exact f3.base hr
  subst h0
  have hre : jq ([] ++ jy ⟨n1,pr1,ms1,ns1,on1,bs1,sg1⟩,0) = (([],0),⟨n1,pr1,ms1,ns1,on1,bs1,sg1⟩) := by
    have := rdEnt_of MR.right []
    simpa using this
  simp only [hre,fX] at hget
  generalize [] ++ jy ⟨n1,pr1,ms1,ns1,on1,bs1,sg1⟩ = P at *
  clear hre
  simp (disch := omega) only [↓aI,↓zP,aD,zD,aS,simprocAttr,Tryz.facts,zA,ah,v13,s13,s14,s5,s10,s12]
  generalize hF : F.kill b13 = F3 at *
  clear hF
  first | refine CallK.p (hput) ?_ | refine CallP.i (hput) ?_
  simp (disch := omega) only [↓aI,↓zP,aD,zD,aS,simprocAttr,Tryz.facts,zA,s5,s10,s12]
  refine CallK.i (hrd _) ?_
  rintro v E4 ⟨rr,kk,rfl,hrr0,hrrf,hrrv,hrrs⟩
  try simp (disch := omega) only [↓aI,↓zP,aD,zD,aS,simprocAttr,Tryz.facts,zA,s5,s10,s12]
  have pr : RdS (E4.kill rr) E4 rr kk P (P,0) := ⟨⟨0,Nat.zero_le _,rfl,hrrv⟩,Sub.killed,kill_same,hpl2⟩
  refine CallK.i (hget _ _ _ _ pr hrr0) ?_
  rintro v E5 ⟨rfl,pr2⟩
  have hsE5 : Abs.Sub F3 E5 := fun yy o hy => pr2.2.1 _ _ (by
    have e : yy ≠ rr := fun e => by subst e; rw [hrrf] at hy; cases hy
    rw [bZ e]
    exact hrrs _ _ hy)
  have f5 := f3.up hsE5
  try simp (disch := omega) only [↓aI,↓zP,aD,zD,aS,simprocAttr,Tryz.facts,zA,s5,s10,s12,ah]
  intro b16 hb160 hb16
  have hend := end_live _ _ rr kk P ([],0) pr2 hrr0
  rw [show endE ([],0) = 0 from rfl] at hend
  try simp (disch := omega) only [↓aI,↓zP,aD,zD,aS,simprocAttr,Tryz.facts,zA,s5,s10,s12,ah,aj hb16]
  -- both logs take it
  have hT := take_yes MR List.prefix_rfl q1 (by omega)
  have hG2 : OkG (gO T ad g ⟨n1,pr1,ms1,ns1,on1,bs1,sg1⟩).2.1 := hg.take
  have gT := take_gt (ad := ad) (g := g) (e := ⟨n1,pr1,ms1,ns1,on1,bs1,sg1⟩) q1
  have nT := gX T (gQ ⟨n1,pr1,ms1,ns1,on1,bs1,sg1⟩)
  change Nm _ _ (fP T (gQ ⟨n1,pr1,ms1,ns1,on1,bs1,sg1⟩)) ∧ _ at nT
  rw [hT] at hG2 gT
  simp only [] at hG2 gT
  have hT2 := take_yes MR nT.2 gT (by omega)
  rw [(numT_old nT.1 gT.nd).1,(numT_old nT.1 gT.nd).2] at hT2
  have tk1 := f5.takeAt 0 rfl hg hoe q1 (by omega) hq0 hk20 hkd20 (by omega)
  have tk2 := fun (E : AH) (bs : List (Nat × AObj)) (f : FS H E r (lgP ad g k kd) bs h m (d + 1 + 1) (fC T (gQ ⟨n1,pr1,ms1,ns1,on1,bs1,sg1⟩)).1) => f.take hg hoe gT (by omega) hr0 hk hkd (by omega)
  rw [hT] at tk1
  rw [hT2] at tk2
  have pT : T <+: (fC T (gQ ⟨n1,pr1,ms1,ns1,on1,bs1,sg1⟩)).1 := nT.2
  simp only [fX] at tk1 tk2
  clear hT hT2 nT
  generalize hts3 : (fC T (gQ ⟨n1,pr1,ms1,ns1,on1,bs1,sg1⟩)).1 = ts3 at *
  generalize hg2 : (⟨g.L ++ [⟨n1,pr1,ms1,ns1,on1,bs1,sg1⟩],g.D ++ [fP T (gQ ⟨n1,pr1,ms1,ns1,on1,bs1,sg1⟩)]⟩ : LogM) = g2 at *
  clear hts3 hg2 hM hMB hd1 hd2 hrd hget hput hs hpl hch fA fB f1 f0 f3 pr pr2
  refine eI (fun σ F => ∃ k' kd' kq kdq,FS H F r (lgP ad g2 k' kd') [(q,lgP ad g2 kq kdq)] h m (d + 1 + 1) ts3 ∧ σ 5 = .ip (iD h r ts d ad g c.S c.G c.M made) 0 ∧ σ 12 = eu y ∧ σ 16 = .ip [.sc (.int .i64 n1),eu pr1,fE ms1,fY ns1,eu on1,fZ bs1,eu sg1] 0 ∧ σ 130 = .sc (.bool false)) ?_ ?_
  · simp (disch := omega) only [↓aI,↓zP,aD,zD,aS,simprocAttr,Tryz.facts,zA,s5,s10,s12,ah]
    refine CallK.i hend ?_
    rintro v F' ⟨rfl,rfl⟩
    try refine ⟨SubC.refl,?_⟩
    try simp (disch := omega) only [↓aI,↓zP,aD,zD,aS,simprocAttr,Tryz.facts,zA,ah]
    refine CallK.i tk1 ?_
    rintro v E6 ⟨rfl,kq,kdq,hkq,hkdq,f6⟩
    try simp (disch := omega) only [↓aI,↓zP,aD,zD,aS,simprocAttr,Tryz.facts,zA,ah]
    refine CallK.i (tk2 _ _ f6) ?_
    rintro v E7 ⟨rfl,k',kd',hk',hkd',f7⟩
    have vq := f7.at 0 rfl
    have lq := last_any hq0 vq
    have lr := last_any hr0 f7.log
    have dq := dig_any hG2 hq0 vq
    have dr := dig_any hG2 hr0 f7.log
    try simp (disch := omega) only [↓aI,↓zP,aD,zD,aS,simprocAttr,Tryz.facts,zA,ah]
    first | refine CallK.i lq ?_ | refine CallK.i lr ?_ | refine CallK.i (dq _) ?_ | refine CallK.i (dr _) ?_
    rintro v F' ⟨rfl,rfl⟩
    try refine ⟨SubC.refl,?_⟩
    try simp (disch := omega) only [↓aI,↓zP,aD,zD,aS,simprocAttr,Tryz.facts,zA,ah]
    first | refine CallK.i lq ?_ | refine CallK.i lr ?_ | refine CallK.i (dq _) ?_ | refine CallK.i (dr _) ?_
    rintro v F' ⟨rfl,rfl⟩
    try refine ⟨SubC.refl,?_⟩
    try simp (disch := omega) only [↓aI,↓zP,aD,zD,aS,simprocAttr,Tryz.facts,zA,ah]
    first | refine CallK.i lq ?_ | refine CallK.i lr ?_ | refine CallK.i (dq _) ?_ | refine CallK.i (dr _) ?_
    rintro v F' ⟨rfl,rfl⟩
    try refine ⟨SubC.refl,?_⟩
    try simp (disch := omega) only [↓aI,↓zP,aD,zD,aS,simprocAttr,Tryz.facts,zA,ah]
    first | refine CallK.i lq ?_ | refine CallK.i lr ?_ | refine CallK.i (dq _) ?_ | refine CallK.i (dr _) ?_
    rintro v F' ⟨rfl,rfl⟩
    try refine ⟨SubC.refl,?_⟩
    try simp (disch := omega) only [↓aI,↓zP,aD,zD,aS,simprocAttr,Tryz.facts,zA,ah]
    first | refine CallK.i lq ?_ | refine CallK.i lr ?_ | refine CallK.i (dq _) ?_ | refine CallK.i (dr _) ?_
    rintro v F' ⟨rfl,rfl⟩
    try refine ⟨SubC.refl,?_⟩
    try simp (disch := omega) only [↓aI,↓zP,aD,zD,aS,simprocAttr,Tryz.facts,zA,ah]
    first | refine CallK.i lq ?_ | refine CallK.i lr ?_ | refine CallK.i (dq _) ?_ | refine CallK.i (dr _) ?_
    rintro v F' ⟨rfl,rfl⟩
    try refine ⟨SubC.refl,?_⟩
    try simp (disch := omega) only [↓aI,↓zP,aD,zD,aS,simprocAttr,Tryz.facts,zA,ah]
    exact ⟨k',kd',kq,kdq,f7⟩
  · rintro σ F ⟨k',kd',kq,kdq,f6,s5,s12,s16,s130⟩
    simp (disch := omega) only [↓aI,↓zP,aD,zD,aS,simprocAttr,Tryz.facts,zA,s5,s12,s16,s130]
    refine br (c := ⟨Tryz.prog,195,[(9,[0,1,2,0,0,2,0,0]),(10,[0,0,0,0,0,0,0,0,0,0,0,0,0,2,0,0,0,2,2,0]),(15,[0,2,0,0,0,0,0,0,0,0,0,0,0,2,0,0,0,0,0,0,0,0,0,2,0,0,0,0,2,0,0,2,0,0,0,0,0,2,2,0,0,0,0,2,2,0,0,0]),(20,[0,1,0,1,0,0,1,0,0,1,2,0,0,0,0,0]),(26,[0,1,0,1,0,0,1,0,0,1,2,0,0,0,0,0]),(1000003,[5]),(1000006,[7]),(1000010,[13]),(1000014,[16]),(1000021,[20]),(4000027,[5,12,16,131,192]),(4000026,[5,12,16,23,24,131]),(4000022,[5,12,16,17,21,131,167]),(4000021,[5,12,16,17,18,19,21,131]),(4000020,[5,12,16,17,18,19,131]),(4000015,[5,12,16,130]),(4000012,[4]),(4000010,[5,10,12,13,14]),(4000009,[5,8,9,10,11,12]),(4000007,[5,8,9]),(4000006,[5,7]),(4000003,[1,5,6])],[],[(9,(.op 0 0 (.op 1 0 (.op 3 0 (.op 4 0 (.op 2 2 (.op 5 2 (.op 6 0 (.op 7 0 .nil))))))))),(10,(.op 0 0 (.op 1 0 (.op 2 0 (.op 3 0 (.op 4 0 (.op 5 0 (.op 6 0 (.op 7 0 (.op 8 0 (.op 9 0 (.op 10 0 (.op 11 0 (.op 12 0 (.or (.op 13 2 (.op 14 0 (.op 15 0 (.op 16 0 (.op 17 3 (.op 18 2 (.op 19 0 .nil))))))) (.op 17 3 (.op 13 2 (.op 14 0 (.op 15 0 (.op 16 0 (.op 18 2 (.op 19 0 .nil)))))))))))))))))))))),(15,(.op 0 0 (.op 1 5 (.op 2 0 (.op 3 0 (.op 4 0 (.op 5 0 (.op 6 0 (.op 7 0 (.op 8 0 (.op 9 0 (.op 10 0 (.op 11 0 (.op 12 0 (.op 13 2 (.op 14 0 (.op 15 0 (.op 16 0 (.op 17 0 (.op 18 0 (.op 19 0 (.op 20 0 (.op 21 0 (.op 22 0 (.op 23 2 (.op 24 0 (.op 25 0 (.op 26 0 (.op 27 0 (.op 29 0 (.op 30 0 (.op 28 5 (.op 31 5 (.op 32 0 (.op 33 0 (.op 34 0 (.op 35 0 (.op 36 0 (.op 40 0 (.op 41 0 (.op 42 0 (.op 37 5 (.op 38 5 (.op 39 0 (.op 43 5 (.op 44 5 (.op 45 0 (.op 46 0 (.op 47 0 .nil)))))))))))))))))))))))))))))))))))))))))))))))))]⟩) Tryz.mixed (by kernel_rfl) (fun mm σ F => ∃ (id : Nat) (ts' : List Term),id + mm = 5 ∧ GT (2000 + 4 * id) ts' ∧ T <+: ts' ∧ FS H F r (lgP ad g2 k' kd') [(q,lgP ad g2 kq kdq)] h m (d + 1 + 1) ts' ∧
      σ 5 = .ip (iD h r ts d ad g c.S c.G c.M made) 0 ∧ σ 12 = eu y ∧ σ 16 = .ip [.sc (.int .i64 n1),eu pr1,fE ms1,fY ns1,eu on1,fZ bs1,eu sg1] 0 ∧ σ 131 = .sc (.int .i64 (id : Nat))) 5 ?_ ?_
    · refine ⟨0,ts3,by omega,gT.mono (by omega),pT,f6,?_⟩
      simp (disch := omega) only [↓aI,↓zP,aD,zD,aS,simprocAttr,Tryz.facts,zA,s5,s12,s16]
      try rfl
    clear f6 s5 s12 s16 s130 gT tk1 tk2 f5 hend
    rintro mm σ F ⟨id,ts',hid,gt',pt',f6,s5,s12,s16,s131⟩
    by_cases hlt : id < 5
    rotate_left
    · obtain rfl : id = 5 := by omega
      simp (disch := omega) only [↓aI,↓zP,aD,zD,aS,simprocAttr,Tryz.facts,zA,s5,s12,s16,s131]
      first | refine CallK.p (haw) ?_ | refine CallP.i (haw) ?_
      simp (disch := omega) only [↓aI,↓zP,aD,zD,aS,simprocAttr,Tryz.facts,zA]
      exact f6.base hr
    have hkl := fun (D : AH) (S : List UInt8) (hS : S.length = 32) (s : SS D F h m (d + 1 + 1) ts') => key_live hoe gt' (by omega) s (id : Nat) S (by omega)
    have his := jU (.sc (.int .i64 n1)) (eu pr1) ms1 (fY ns1) (eu on1) (fZ bs1) (eu sg1) (id : Nat) (by have h := hoe.ml; simp only [] at h; omega)
    have hSi := hSg id hlt
    have hSi32 := hS32 id hlt
    have hmod : ((id + 1 : Nat) : Int).tmod 5 = (((id + 1) % 5 : Nat) : Int) := jd _ 5
    have hoth : (id + 1) % 5 < 5 := Nat.mod_lt _ (by omega)
    have hSo := hSg _ hoth
    have hSo32 := hS32 _ hoth
    have hne := hSne ((id + 1) % 5) id hoth hlt (by omega)
    have hmm : ms1 = ms := hmem
    have hsec : ∀ x ∈ ms1,x.id = (id : Int) → secOf c.S x = c.S.getD id [] := by rw [hmm]; exact hsecS id hlt
    cases hmb : gG ms1 (id : Nat)
    · have hk := key_none (ts := ts') (e := ⟨n1,pr1,ms1,ns1,on1,bs1,sg1⟩) (S := c.S.getD id []) hmb
      have hk1 := fun D => hkl D _ hSi32
      rw [hk] at hk1
      unfold gG at hmb
      rw [hmb] at his
      simp only [fX] at hk1
      generalize (fu ms1 (id : Nat)).1 = fm at *
      obtain ⟨fi,fp,fg⟩ := fm
      simp only [fL] at his
      simp (disch := omega) only [↓aI,↓zP,aD,zD,aS,simprocAttr,Tryz.facts,zA,s5,s12,s16,s131,hSi,hSl,hsl5]
      refine CallK.i (f6.call hk1) ?_
      rintro v F2 ⟨rfl,f7⟩
      try simp (disch := omega) only [↓aI,↓zP,aD,zD,aS,simprocAttr,Tryz.facts,zA,s5,s12,s16,s131,hSi,hSl,hsl5]
      first | refine CallK.p (his) ?_ | refine CallP.i (his) ?_
      simp (disch := omega) only [↓aI,↓zP,aD,zD,aS,simprocAttr,Tryz.facts,zA,s5,s12,s16,s131,hSi,hSl,hsl5]
      intro b20 hb200 hb20
      try simp (disch := omega) only [↓aI,↓zP,aD,zD,aS,simprocAttr,Tryz.facts,zA,s5,s12,s16,s131,hSi,hSl,hsl5,aj hb20,ah]
      exact ⟨mm - 1,by omega,id + 1,ts',by omega,gt'.mono (by omega),pt',f7,rfl⟩
    · have hk := key_yes MR pt' gt' (by omega) ly hSi32 hmb hsec
      have hk2 := key_gt (e := ⟨n1,pr1,ms1,ns1,on1,bs1,sg1⟩) (id := (id : Nat)) (S := c.S.getD ((id + 1) % 5) []) gt'
      have hk3 := key_no MR pt' gt' (by omega) ly hSo32 lx hmb hsec hne
      have c1 := fun D => hkl D _ hSi32
      have c2 := fun (D E : AH) (s : SS D E h m (d + 1 + 1) ts') => key_live hoe gt' (by omega) s (id : Nat) (c.S.getD ((id + 1) % 5) []) (by omega)
      rw [hk] at c1
      generalize keyM ts' ⟨n1,pr1,ms1,ns1,on1,bs1,sg1⟩ (id : Nat) (c.S.getD ((id + 1) % 5) []) = KO at *
      obtain ⟨ts4,KO⟩ := KO
      simp only [] at hk2 hk3 c2
      subst hk3
      unfold gG at hmb
      rw [hmb] at his
      simp only [fX] at c1 c2
      generalize (fu ms1 (id : Nat)).1 = fm at *
      obtain ⟨fi,fp,fg⟩ := fm
      simp only [fL] at his
      simp (disch := omega) only [↓aI,↓zP,aD,zD,aS,simprocAttr,Tryz.facts,zA,s5,s12,s16,s131,hSi,hSl,hsl5]
      refine CallK.i (f6.call c1) ?_
      rintro v F2 ⟨rfl,f7⟩
      try simp (disch := omega) only [↓aI,↓zP,aD,zD,aS,simprocAttr,Tryz.facts,zA,s5,s12,s16,s131,hSi,hSl,hsl5]
      first | refine CallK.p (his) ?_ | refine CallP.i (his) ?_
      simp (disch := omega) only [↓aI,↓zP,aD,zD,aS,simprocAttr,Tryz.facts,zA,s5,s12,s16,s131,hSi,hSl,hsl5]
      intro b20 hb200 hb20
      try simp (disch := omega) only [↓aI,↓zP,aD,zD,aS,simprocAttr,Tryz.facts,zA,s5,s12,s16,s131,hSi,hSl,hsl5,aj hb20,ah,hmod,hoth,hSo]
      refine CallK.i (f7.call fun D s => c2 D _ s) ?_
      rintro v F3 ⟨rfl,f8⟩
      try simp (disch := omega) only [↓aI,↓zP,aD,zD,aS,simprocAttr,Tryz.facts,zA,s5,s12,s16,s131,hSi,hSl,hsl5]
      exact ⟨mm - 1,by omega,id + 1,ts4,by omega,hk2.1.mono (by omega),pt'.trans hk2.2,f8,rfl⟩
end Go.Proofs.YtjlnpngaiphnmaaGreat
