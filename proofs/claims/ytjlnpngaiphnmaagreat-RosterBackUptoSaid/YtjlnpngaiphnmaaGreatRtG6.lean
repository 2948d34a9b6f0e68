/-
  Rosters: a step that makes an entry, the walk.
  Conditions: none. Lemmas only.
-/
import Derived.Test.YtjlnpngaiphnmaaGreatRtG5
set_option linter.all false
set_option linter.unusedSimpArgs false
set_option linter.unusedVariables false
set_option maxRecDepth 20000
set_option maxHeartbeats 16000000
namespace Go.Proofs.YtjlnpngaiphnmaaGreat
open Go Go.Abs Go.Proofs
variable {H0 H : AH} {h m n r k kd : Nat} {c : BegS} {ad : List UInt8} {b : BM}
theorem choMs_len (mem : List Mem) (t : DoM) : (iL mem t).length ≤ 5 := by
  have hp := pickA_len mem t.who 5
  unfold iL
  split
  · unfold strangeM
    split
    · simp
    · rw [List.length_append,List.length_dropLast,List.length_singleton]
      omega
  · exact hp
theorem goneNs_len (ms : List Mem) (q : Int) : ∀ l : List Mem,(iU ms q l).length ≤ l.length
  | [] => by simp [iU]
  | m :: l => by
    have := goneNs_len ms q l
    unfold iU
    split
    · rw [List.length_cons]; omega
    · rw [List.length_cons,List.length_cons]; omega
theorem choNs_len {g : LogM} (hg : OkG g) (mem : List Mem) (t : DoM) (ht : t.ends.length ≤ 100000) : (ic mem g t).length ≤ 100000 := by
  unfold ic
  split
  · have h1 := goneNs_len (iL mem t) ((t.by_.toNat % 4 : Nat) : Int) (jN g g.L.length)
    have h2 := memsM_len hg (g.L.length : Nat)
    omega
  · exact ht
theorem does_make (hc : OkC c) (hb : OkB n b) (hn : n ≤ 100) (t : DoM) (hte : t.ends.length ≤ 100000) (hnt : ¬ (t.take = false ∧ b.made ≠ [])) (s : SS H0 H h m b.d b.ts) (hr0 : r ≠ 0) (hk : k ≠ 0) (hkd : kd ≠ 0) (hr : H0 r = some (lgP ad b.g k kd)) (had : ad.length = 32) :
    ACalls Tryz.prog 48 [.agg (iD h r b.ts b.d ad b.g c.S c.G c.M b.made),.agg (doC t)] H fun v H' =>
      v = .tup [.agg (iD h r (i8 c ad b t).ts (i8 c ad b t).d ad (i8 c ad b t).g c.S c.G c.M (i8 c ad b t).made),.sc (.bool true)] ∧
      ∃ k' kd',k' ≠ 0 ∧ kd' ≠ 0 ∧ SS (H0.set r (lgP ad (i8 c ad b t).g k' kd')) H' h m (i8 c ad b t).d (i8 c ad b t).ts := by
  have hd := hb.d
  have hml := hb.ml
  have hmc : (b.made.flatMap fX).length = b.made.length * 7 := fF i7 _
  have hms := choMs_len c.M t
  have hns := choNs_len hb.g c.M t hte
  have hch := choice_pure h r b.ts b.d ad b.g c.S c.G c.M b.made t hb.g hc.ml (fun x hx => by have := hc.m32 x hx; omega)
  have hw : ∀ k,wfT (fJ k) := fun k => wf1 (by decide) (by rw [fe]; omega)
  have g1 := hb.gt.num (hw b.d) fun e => absurd (show (115 : UInt8) = 112 from e) (by decide)
  have g2 := hb.two (by omega)
  have hsl := hc.sec t
  have hd1 := fun (G E : AH) (s : SS G E h m b.d b.ts) => ja (by omega) (hb.gt.mono (by omega)) s
  have hd2 := fun (G E : AH) (s : SS G E h m (b.d + 1) (fC b.ts (fJ b.d)).1) => ja (by omega) (g1.mono (by omega)) s
  have hv1 := kT b.ts b.d (by omega) hb.gt.ok (by have := hb.gt.len; omega)
  have hv2 := kT (fC b.ts (fJ b.d)).1 (b.d + 1) (by omega) g1.ok (by have := g1.len; omega)
  have hgl : (c.G.map eu).length = 5 := by rw [List.length_map]; exact hc.gl
  have hR : i8 c ad b t = if ¬ (iq c ad b t).2.2 = 0 then ⟨(iq c ad b t).1,b.d + 2,b.g,b.made⟩
    else ⟨(gO (iq c ad b t).1 ad b.g (iq c ad b t).2.1).1,b.d + 2,(gO (iq c ad b t).1 ad b.g (iq c ad b t).2.1).2.1,b.made ++ [(iq c ad b t).2.1]⟩ := if_neg hnt
  have hM1 := fun (G E : AH) (s : SS G E h m (b.d + 2) (fC (fC b.ts (fJ b.d)).1 (fJ (b.d + 1))).1) (hl : G r = some (lgP ad b.g k kd)) =>
    make_live (ms := iL c.M t) (ns := ic c.M b.g t) (secret := secM c.G t) (once := fP b.ts (fJ b.d)) (key := fP (fC b.ts (fJ b.d)).1 (fJ (b.d + 1))) hb.g g2 (by omega) s hr0 hl (by omega) (by omega)
  have hM2 := rmake_pure (d := b.d + 2) (ad := ad) (ms := iL c.M t) (ns := ic c.M b.g t) (secret := secM c.G t) (once := fP b.ts (fJ b.d)) (key := fP (fC b.ts (fJ b.d)).1 (fJ (b.d + 1))) hb.g g2 (by omega) (by omega) (by omega)
  obtain ⟨p1,p2,p3,p4⟩ := kJ (ad := ad) (secret := secM c.G t) (once := fP b.ts (fJ b.d)) (key := fP (fC b.ts (fJ b.d)).1 (fJ (b.d + 1))) (ms := iL c.M t) (ns := ic c.M b.g t) hb.g g2
  rw [show gq (fC (fC b.ts (fJ b.d)).1 (fJ (b.d + 1))).1 ad b.g (secM c.G t) (fP b.ts (fJ b.d)) (fP (fC b.ts (fJ b.d)).1 (fJ (b.d + 1))) (iL c.M t) (ic c.M b.g t) = iq c ad b t from rfl] at *
  have hok : OkE (iq c ad b t).2.1 := by
    by_cases h0 : (iq c ad b t).2.2 = 0
    · exact right_ok (p3 h0)
    · rw [p4 h0]
      exact ⟨by decide,by decide,(fun m h => by cases h),by decide,by decide,by decide,(fun b h => by cases h),by decide⟩
  have hP1 := putR_pure [] (iq c ad b t).2.1 (by decide) hok
  have hP2 := rputR_pure [] (iq c ad b t).2.1 (by decide) hok
  have hT1 := fun (E : AH) (bs : List (Nat × AObj)) (f : FS H0 E r (lgP ad b.g k kd) bs h m (b.d + 2) (iq c ad b t).1) => f.take (e := (iq c ad b t).2.1) hb.g hok p1 (by omega) hr0 hk hkd (by omega)
  have hT2 := rtake_pure (d := b.d + 2) (ad := ad) hb.g hok p1 (by omega)
  have f0 := FS.start s hr
  have hM : ∀ (E : AH) (bs : List (Nat × AObj)), FS H0 E r (lgP ad b.g k kd) bs h m (b.d + 1 + 1) (fC (fC b.ts (fJ b.d)).1 (fJ (b.d + 1))).1 → ACalls Tryz.prog 21 [.ptr r 0, iT h, eu (secM c.G t), eu (fP b.ts (fJ b.d)), eu (fP (fC b.ts (fJ b.d)).1 (fJ (b.d + 1))), fE (iL c.M t), fY (ic c.M b.g t)] E
      fun v H' => v = .tup [.agg (fX (iq c ad b t).2.1),.sc (.int .i64 (iq c ad b t).2.2)] ∧ FS H0 H' r (lgP ad b.g k kd) bs h m (b.d + 2) (iq c ad b t).1 := by
    rintro E bs ⟨D,fr,s⟩
    refine (hM1 D E s fr.log).mono ?_
    rintro v H' ⟨rfl,s'⟩
    exact ⟨rfl,D,fr,s'⟩
  clear hM1
  have hsec : secM c.G t = if 1 < t.by_.toNat % 7 then c.G.getD 0 [] else c.G.getD (t.by_.toNat % 5) [] := rfl
  change ∀ G E,_ → ACalls _ _ _ _ fun v H' => v = eu (fP b.ts (fJ b.d)) ∧ SS G H' h m (b.d + 1) (fC b.ts (fJ b.d)).1 at hd1
  change ∀ G E,_ → ACalls _ _ _ _ fun v H' => v = eu (fP (fC b.ts (fJ b.d)).1 (fJ (b.d + 1))) ∧ SS G H' h m (b.d + 1 + 1) (fC (fC b.ts (fJ b.d)).1 (fJ (b.d + 1))).1 at hd2
  rw [show fW ⟨115,[fh 8 (b.d + 1)]⟩ (fC b.ts ⟨115,[fh 8 (b.d + 1)]⟩).2 = fP b.ts (fJ b.d) from rfl] at hv1
  rw [show fW ⟨115,[fh 8 (b.d + 1 + 1)]⟩ (fC (fC b.ts (fJ b.d)).1 ⟨115,[fh 8 (b.d + 1 + 1)]⟩).2 = fP (fC b.ts (fJ b.d)).1 (fJ (b.d + 1)) from rfl] at hv2
  rw [show (fC b.ts ⟨115,[fh 8 (b.d + 1)]⟩).1 = (fC b.ts (fJ b.d)).1 from rfl] at hv1
  rw [show (fC (fC b.ts (fJ b.d)).1 ⟨115,[fh 8 (b.d + 1 + 1)]⟩).1 = (fC (fC b.ts (fJ b.d)).1 (fJ (b.d + 1))).1 from rfl] at hv2
  clear p1 p2 p3 p4 hok g1 g2
  generalize gO (iq c ad b t).1 ad b.g (iq c ad b t).2.1 = T at *
  generalize iq c ad b t = K at *
  generalize i8 c ad b t = R at *
  generalize fP (fC b.ts (fJ b.d)).1 (fJ (b.d + 1)) = y at *
  generalize (fC (fC b.ts (fJ b.d)).1 (fJ (b.d + 1))).1 = ts2 at *
  generalize fP b.ts (fJ b.d) = x at *
  generalize (fC b.ts (fJ b.d)).1 = ts1 at *
  have h50 : t.by_.toNat % 5 < 5 := Nat.mod_lt _ (by omega)
  have hs0 : (c.G.map eu)[0]? = some (eu (c.G.getD 0 [])) := by
    have h := hc.gl
    simp [List.getD,List.getElem?_eq_getElem (show 0 < c.G.length by omega)]
  have hs5 : (c.G.map eu)[t.by_.toNat % 5]? = some (eu (c.G.getD (t.by_.toNat % 5) [])) := by
    have h := hc.gl
    simp [List.getD,List.getElem?_eq_getElem (show t.by_.toNat % 5 < c.G.length by omega)]
  have hgl5 := hc.gl
  generalize secM c.G t = sec at *
  generalize c.G.getD 0 [] = z0 at *
  generalize c.G.getD (t.by_.toNat % 5) [] = z5 at *
  have hw5 : (IntKind.i64.wrap (t.by_.toNat : Int)).tmod 5 = ((t.by_.toNat % 5 : Nat) : Int) := by
    have := t.by_.toNat_lt
    rw [iw (by omega)]
    exact jd _ 5
  have hw7 : ((t.by_.toNat : Int)).tmod 7 = ((t.by_.toNat % 7 : Nat) : Int) := jd _ 7
  generalize iL c.M t = ms at *
  generalize ic c.M b.g t = ns at *
  generalize [] ++ jy K.2.1 = pe at *
  have hmc7 : (ms.flatMap fL).length = ms.length * 3 := fF fU _
  have hnc7 : (ns.flatMap ndC).length = ns.length * 2 := fF gZ _
  obtain ⟨K1,⟨n1,pr1,ms1,ns1,on1,bs1,sg1⟩,K3⟩ := K
  obtain ⟨ts,d,g,made⟩ := b
  obtain ⟨who,strange,auto,ends,by_,take,at_,change⟩ := t
  simp only [doC,fX] at *
  have hcnd : take = true ∨ (take = false ∧ made.length = 0) := by
    cases take
    · refine .inr ⟨rfl,?_⟩
      cases made with
      | nil => rfl
      | cons a l => exact absurd ⟨rfl,by simp⟩ hnt
    · exact .inl rfl
  clear hnt hb
  rcases hcnd with rfl | ⟨rfl,hm0⟩
  all_goals by_cases h7 : 1 < by_.toNat % 7
  all_goals
    first
      | rw [if_pos h7] at hsec
      | rw [if_neg h7] at hsec
    subst hsec
    refine ao (c := ⟨Tryz.prog,205,[(2,[0,0,0,0,0,0,0,0,0,0,0,0,0,0,0,2,2,2]),(4,[1,0,0,2,0,2]),(5,[0,0,1,0,1,0,1,2,0,0,2,0]),(10,[0,1,2,0,0,2,0,0]),(16,[0,0,0,0,0,2,0,2,0,0,0,0,2,0,0,0,2,2,0]),(18,[0,0,0,0,1,0,0,1,0,0,0,0]),(22,[2,0,0,2,0,0,2,0,2]),(24,[1,0,0,2,0,2]),(25,[0,0,1,0,1,0,1,2,0,0,2,0]),(1000000,[3]),(1000002,[6]),(1000003,[8,7]),(1000015,[19]),(1000016,[21]),(1000023,[23]),(4000025,[4,5]),(4000024,[2,4,21,24]),(4000023,[2,4,18,21,23,24]),(4000022,[2,4,18,19,21]),(4000018,[2,4,18,19,21,22,168]),(4000016,[2,4,18,19,20,21,22]),(4000015,[2,4,10,11,12,13,14,18,19,20]),(4000013,[2,4,10,11,12,13,14,15,16,17,124]),(4000012,[2,4,10,11,12,13,14,15,16,17]),(4000011,[2,4,10,11,12,13,14,15,16]),(4000010,[2,4,10,11,12,13,14]),(4000009,[2,4,10,11,12]),(4000007,[2,3,4,10,11,12]),(4000006,[2,3,4,10,11]),(4000005,[4,5]),(4000004,[2,4,6,9]),(4000003,[2,4,6,7,8,9]),(4000002,[2,4,6]),(4000001,[2,3,4,33])],[145,173],[(2,(.op 0 0 (.op 2 0 (.op 3 0 (.op 4 0 (.op 5 0 (.op 13 0 (.op 14 0 (.op 1 4 (.op 6 4 (.op 7 0 (.op 8 0 (.op 9 0 (.op 10 0 (.op 11 0 (.op 12 0 (.or (.op 15 2 (.op 16 3 (.op 17 2 .nil))) (.op 16 3 (.op 15 2 (.op 17 2 .nil)))))))))))))))))))),(5,(.op 1 0 (.op 3 0 (.op 6 0 (.op 8 0 (.op 2 4 (.op 4 4 (.op 5 0 (.or (.op 0 3 (.op 7 2 (.op 9 0 (.op 10 2 (.op 11 0 .nil))))) (.op 7 2 (.op 9 0 (.op 0 3 (.op 10 2 (.op 11 0 .nil)))))))))))))),(10,(.op 0 0 (.op 3 0 (.op 1 4 (.or (.op 2 2 (.op 4 3 (.op 5 2 (.op 6 0 (.op 7 0 .nil))))) (.op 4 3 (.op 2 2 (.op 5 2 (.op 6 0 (.op 7 0 .nil)))))))))),(16,(.op 0 0 (.op 2 0 (.op 6 0 (.op 8 0 (.op 9 0 (.op 10 0 (.op 11 0 (.op 1 4 (.op 3 4 (.op 4 0 (.or (.op 5 3 (.or (.op 7 3 (.or (.op 12 2 (.op 13 0 (.op 14 0 (.op 15 0 (.op 16 3 (.op 17 2 (.op 18 0 .nil))))))) (.op 16 3 (.op 12 2 (.op 13 0 (.op 14 0 (.op 15 0 (.op 17 2 (.op 18 0 .nil))))))))) (.op 16 3 (.op 7 3 (.op 12 2 (.op 13 0 (.op 14 0 (.op 15 0 (.op 17 2 (.op 18 0 .nil)))))))))) (.op 16 3 (.op 5 3 (.op 7 3 (.op 12 2 (.op 13 0 (.op 14 0 (.op 15 0 (.op 17 2 (.op 18 0 .nil))))))))))))))))))))),(22,(.op 1 0 (.op 4 0 (.op 5 0 (.op 2 4 (.op 0 3 (.op 3 3 (.op 6 3 (.op 7 0 (.op 8 2 .nil)))))))))),(24,(.op 0 0 (.op 2 0 (.or (.op 1 3 (.op 3 2 (.op 4 0 (.op 5 2 .nil)))) (.op 3 2 (.op 1 3 (.op 4 0 (.op 5 2 .nil)))))))),(25,(.op 1 0 (.op 3 0 (.op 6 0 (.op 8 0 (.op 2 4 (.op 4 4 (.op 5 0 (.or (.op 0 3 (.op 7 2 (.op 9 0 (.op 10 2 (.op 11 0 .nil))))) (.op 7 2 (.op 9 0 (.op 0 3 (.op 10 2 (.op 11 0 .nil))))))))))))))]⟩) (rs := [ResultVar.cell 4 56,ResultVar.tmp 5]) Tryz.mixed Tryz.func48 rfl rfl rfl (Nat.le_of_ble_eq_true rfl) (by kernel_rfl) ?_
    simp (disch := omega) only [↓aI,↓zP,aD,zD,aS,simprocAttr,Tryz.facts,zA,hmc]
    intro b0 hb00 hb0 b1 hb10 hb1 b2 hb20 hb2
    have n12 := bK hb2
    have hb2' := am hb2
    try simp (disch := omega) only [↓aI,↓zP,aD,zD,aS,simprocAttr,Tryz.facts,zA,hmc,aP,n12,i6 hb1 n12]
    have f := (f0.box (jm (iD h r ts d ad g c.S c.G c.M made)) hb0).box zObjB hb2'
    generalize hE1 : (H.set b0 _).set b2 _ = E1 at *
    have v0 := f.at 0 rfl
    have v2 := f.at 1 rfl
    have n02 := f.ne 0 1 rfl rfl (by decide)
    have n20 : ¬ b2 = b0 := fun e => n02 e.symm
    try simp (disch := omega) only [↓aI,↓zP,aD,zD,aS,simprocAttr,Tryz.facts,zA,hmc,v0,v2]
    first | refine CallK.p (hch) ?_ | refine CallP.i (hch) ?_
    simp (disch := omega) only [↓aI,↓zP,aD,zD,aS,simprocAttr,Tryz.facts,zA,hmc,v0,v2,hw5,hgl5,h50,hs5,hs0,hw7,h7]
    refine eI (fun σ F => FS H0 F r (lgP ad g k kd) [(b0,jm (iD h r ts d ad g c.S c.G c.M made)),(b2,zObjB)] h m (d + 1 + 1) ts2 ∧ σ 13 = eu x ∧ σ 14 = eu y ∧ σ 2 = .ptr b0 0 ∧ σ 4 = .ptr b2 0 ∧ σ 10 = fE ms ∧ σ 11 = fY ns ∧ σ 12 = eu sec) ?_ ?_
    · simp (disch := omega) only [↓aI,↓zP,aD,zD,aS,simprocAttr,Tryz.facts,zA,v0,v2]
      refine And.intro ?_ ?_
      all_goals
        try simp (disch := omega) only [↓aI,↓zP,aD,zD,aS,simprocAttr,Tryz.facts,zA,v0,v2]
        refine CallK.i (f.call fun D s => hd1 D _ s) ?_
        rintro v EA ⟨rfl,fA⟩
        have v0A := fA.at 0 rfl
        try simp (disch := omega) only [↓aI,↓zP,aD,zD,aS,simprocAttr,Tryz.facts,zA,v0,v2,v0A]
        refine CallK.i (fA.call fun D s => hd2 D _ s) ?_
        rintro v EB ⟨rfl,fB⟩
        have v0B := fB.at 0 rfl
        try simp (disch := omega) only [↓aI,↓zP,aD,zD,aS,simprocAttr,Tryz.facts,zA,v0,v2,v0A,v0B]
        exact fB
    · clear f v0 v2 hE1
      rintro σ F ⟨f,s13,s14,s2,s4,s10,s11,s12⟩
      have v0 := f.at 0 rfl
      have v2 := f.at 1 rfl
      simp (disch := omega) only [↓aI,↓zP,aD,zD,aS,simprocAttr,Tryz.facts,zA,v0,v2,s13,s14,s2,s4,s10,s11,s12]
      first | refine CallK.p (hv1) ?_ | refine CallP.i (hv1) ?_
      simp (disch := omega) only [↓aI,↓zP,aD,zD,aS,simprocAttr,Tryz.facts,zA,v0,v2,s13,s14,s2,s4,s10,s11,s12]
      intro b15 hb150 hb15
      have n0F := bA v0 hb15
      have n2F := bA v2 hb15
      have f5 := f.box (.cells [.imm 0 (dC ts2) ts2.length,.sc (.int .i64 ((d + 1 + 1 : Nat) : Int))] 51 2) hb15
      try simp (disch := omega) only [↓aI,↓zP,aD,zD,aS,simprocAttr,Tryz.facts,zA,v0,v2,s13,s14,s2,s4,s10,s11,s12,aP,n0F,n2F,ah,ey]
      first | refine CallK.p (hv2) ?_ | refine CallP.i (hv2) ?_
      simp (disch := omega) only [↓aI,↓zP,aD,zD,aS,simprocAttr,Tryz.facts,zA,v0,v2,s13,s14,s2,s4,s10,s11,s12,aP,n0F,n2F,ah,ey]
      generalize hF5 : F.set b15 (.cells [.imm 0 (dC ts2) ts2.length,.sc (.int .i64 ((d + 1 + 1 : Nat) : Int))] 51 2) = F5 at f5 ⊢
      have v0 := f5.at 0 rfl
      have v2 := f5.at 1 rfl
      have v15 := f5.at 2 rfl
      try simp (disch := omega) only [↓aI,↓zP,aD,zD,aS,simprocAttr,Tryz.facts,zA,v0,v2,v15,s13,s14,s2,s4,s10,s11,s12]
      first | refine CallK.p (hM2) ?_ | refine CallP.i (hM2) ?_
      simp (disch := omega) only [↓aI,↓zP,aD,zD,aS,simprocAttr,Tryz.facts,zA,v0,v2,v15,s13,s14,s2,s4,s10,s11,s12]
      intro b18 hb180 hb18 b19 hb190 hb19
      have n89 := bK hb19
      have n98 : ¬ b19 = b18 := fun e => n89 e.symm
      have hb19' := am hb19
      try simp (disch := omega) only [↓aI,↓zP,aD,zD,aS,simprocAttr,Tryz.facts,zA,v0,v2,v15,s13,s14,s2,s4,s10,s11,s12,aP,n89,n98,ah,fD n89,ey,gU,gj,gI hb18,gI hb19']
      have f6 := f5.box (.cells [.imm 0 (dC K1) K1.length,.sc (.int .i64 ((d + 2 : Nat) : Int))] 51 2) hb18
      generalize hF6 : F5.set b18 (.cells [.imm 0 (dC K1) K1.length,.sc (.int .i64 ((d + 2 : Nat) : Int))] 51 2) = F6 at f6 ⊢
      have v0 := f6.at 0 rfl
      have v2 := f6.at 1 rfl
      have v18 := f6.at 3 rfl
      refine eI (fun σ F => ∃ b21,F b21 = some (.cells [.sc (.int .i64 n1),eu pr1,fE ms1,fY ns1,eu on1,fZ bs1,eu sg1] 27 7) ∧ FS H0 (F.kill b21) r (lgP ad g k kd) [(b0,jm (iD h r ts d ad g c.S c.G c.M made)),(b2,zObjB),(b15,.cells [.imm 0 (dC ts2) ts2.length,.sc (.int .i64 ((d + 1 + 1 : Nat) : Int))] 51 2),(b18,.cells [.imm 0 (dC K1) K1.length,.sc (.int .i64 ((d + 2 : Nat) : Int))] 51 2)] h m (d + 2) K1 ∧
        σ 21 = .ptr b21 0 ∧ σ 22 = .sc (.int .i64 K3) ∧ σ 2 = .ptr b0 0 ∧ σ 4 = .ptr b2 0 ∧ σ 18 = .ptr b18 0 ∧ σ 19 = .ip [.sc (.int .i64 n1),eu pr1,fE ms1,fY ns1,eu on1,fZ bs1,eu sg1] 0 ∧ σ 20 = .sc (.int .i64 K3)) ?_ ?_
      · simp (disch := omega) only [↓aI,↓zP,aD,zD,aS,simprocAttr,Tryz.facts,zA,v0,v2,v18,s13,s14,s2,s4,s10,s11,s12]
        refine And.intro ?_ ?_
        · intro t1 ht10 ht1
          try simp (disch := omega) only [↓aI,↓zP,aD,zD,aS,simprocAttr,Tryz.facts,zA,v0,v2,v18,s13,s14,s2,s4,s10,s11,s12,aj ht1]
          refine And.intro ?_ ?_
          · intro k1 o1 hk10 hk1 ho1
            have f7 := f6.up (Sub.set_new (o := o1) (am hk1))
            refine And.intro ?_ ?_
            · refine CallK.i (hM _ _ f7) ?_
              rintro v E2 ⟨rfl,f8⟩
              try simp (disch := omega) only [↓aI,↓zP,aD,zD,aS,simprocAttr,Tryz.facts,zA,s13,s14,s2,s4,s10,s11,s12]
              intro u1 hu10 hu1
              try simp (disch := omega) only [↓aI,↓zP,aD,zD,aS,simprocAttr,Tryz.facts,zA,s13,s14,s2,s4,s10,s11,s12,ah,ey]
              exact ⟨u1,set_get,by rw [aj hu1]; exact f8,rfl⟩
            · intro u1 hu10 hu1
              have f8 := f7.box ii hu1
              try simp (disch := omega) only [↓aI,↓zP,aD,zD,aS,simprocAttr,Tryz.facts,zA,s13,s14,s2,s4,s10,s11,s12]
              refine CallK.i (hM _ _ f8) ?_
              rintro v E2 ⟨rfl,f9⟩
              have v9 := f9.at 4 rfl
              try simp (disch := omega) only [↓aI,↓zP,aD,zD,aS,simprocAttr,Tryz.facts,zA,s13,s14,s2,s4,s10,s11,s12,v9,ah,ey]
              exact ⟨u1,set_get,by rw [gU]; exact f9.drop,rfl⟩
          · intro u1 hu10 hu1
            have ntu := bK hu1
            have f7 := f6.box ii (am hu1)
            try simp (disch := omega) only [↓aI,↓zP,aD,zD,aS,simprocAttr,Tryz.facts,zA,s13,s14,s2,s4,s10,s11,s12,aP,ntu,i6 ht1 ntu]
            intro k1 o1 hk10 hk1 ho1
            have hk1' := (aP (H := F6) (o := ii) (fun e => bK hk1 e.symm)).trans (am (am hk1))
            have f8 := f7.up (Sub.set_new (o := o1) hk1')
            refine CallK.i (hM _ _ f8) ?_
            rintro v E2 ⟨rfl,f9⟩
            have v9 := f9.at 4 rfl
            try simp (disch := omega) only [↓aI,↓zP,aD,zD,aS,simprocAttr,Tryz.facts,zA,s13,s14,s2,s4,s10,s11,s12,v9,ah,ey]
            exact ⟨u1,set_get,by rw [gU]; exact f9.drop,rfl⟩
        · intro u1 hu10 hu1
          have nu0 := bA v0 hu1
          have f7 := f6.box ii hu1
          try simp (disch := omega) only [↓aI,↓zP,aD,zD,aS,simprocAttr,Tryz.facts,zA,v0,v2,v18,s13,s14,s2,s4,s10,s11,s12,aP,nu0]
          intro t1 ht10 ht1
          try simp (disch := omega) only [↓aI,↓zP,aD,zD,aS,simprocAttr,Tryz.facts,zA,v0,v2,v18,s13,s14,s2,s4,s10,s11,s12,aP,nu0,aj ht1]
          intro k1 o1 hk10 hk1 ho1
          have hk1' := am hk1
          have f8 := f7.up (Sub.set_new (o := o1) hk1')
          refine CallK.i (hM _ _ f8) ?_
          rintro v E2 ⟨rfl,f9⟩
          have v9 := f9.at 4 rfl
          try simp (disch := omega) only [↓aI,↓zP,aD,zD,aS,simprocAttr,Tryz.facts,zA,s13,s14,s2,s4,s10,s11,s12,v9,ah,ey]
          exact ⟨u1,set_get,by rw [gU]; exact f9.drop,rfl⟩
      · rintro σ F ⟨b21,v21,f7,s21,s22,s2,s4,s18,s19,s20⟩
        have v0 := f7.at 0 rfl
        have v2 := f7.at 1 rfl
        have v18 := f7.at 3 rfl
        simp (disch := omega) only [↓aI,↓zP,aD,zD,aS,simprocAttr,Tryz.facts,zA,v0,v2,v18,s21,s22,s2,s4,s18,s19,s20,v21,ah,ey]
        generalize hF7 : F.kill b21 = F7 at *
        first | refine CallK.p (hP1) ?_ | refine CallP.i (hP1) ?_
        simp (disch := omega) only [↓aI,↓zP,aD,zD,aS,simprocAttr,Tryz.facts,zA,v0,v2,v18,s21,s22,s2,s4,s18,s19,s20]
        first | refine CallK.p (hP2) ?_ | refine CallP.i (hP2) ?_
        simp (disch := omega) only [↓aI,↓zP,aD,zD,aS,simprocAttr,Tryz.facts,zA,v0,v2,v18,s21,s22,s2,s4,s18,s19,s20]
        by_cases hK3 : K3 = 0
        · subst hK3
          rw [if_neg (by simp)] at hR
          subst hR
          have f8 := f7.put 0 (jm [.ptr h 0,.ptr r 0,.imm 0 (dC K1) K1.length,.sc (.int .i64 ((d + 2 : Nat) : Int)),eu ad,.imm 0 (g.L.flatMap fX) g.L.length,.imm 0 (g.D.map eu) g.D.length,fZ c.S,fZ c.G,fE c.M,.imm 0 (made.flatMap fX) made.length]) rfl
          try simp (disch := omega) only [↓aI,↓zP,aD,zD,aS,simprocAttr,Tryz.facts,zA,v0,v2,v18,s21,s22,s2,s4,s18,s19,s20,ey,ah]
          generalize hF8 : F7.set b0 _ = F8 at *
          have v0 := f8.at 0 rfl
          have v2 := f8.at 1 rfl
          have v18 := f8.at 3 rfl
          refine eI (fun σ F => ∃ kx,FS H0 F r (lgP ad g k kd) [(b0,jm [.ptr h 0,.ptr r 0,.imm 0 (dC K1) K1.length,.sc (.int .i64 ((d + 2 : Nat) : Int)),eu ad,.imm 0 (g.L.flatMap fX) g.L.length,.imm 0 (g.D.map eu) g.D.length,fZ c.S,fZ c.G,fE c.M,.imm kx (made.flatMap fX ++ [.sc (.int .i64 n1),eu pr1,fE ms1,fY ns1,eu on1,fZ bs1,eu sg1]) (made.length + 1)]),(b2,zObjB),(b15,.cells [.imm 0 (dC ts2) ts2.length,.sc (.int .i64 ((d + 1 + 1 : Nat) : Int))] 51 2),(b18,.cells [.imm 0 (dC K1) K1.length,.sc (.int .i64 ((d + 2 : Nat) : Int))] 51 2)] h m (d + 2) K1 ∧
            σ 21 = .ip [.sc (.int .i64 n1),eu pr1,fE ms1,fY ns1,eu on1,fZ bs1,eu sg1] 0 ∧ σ 2 = .ptr b0 0 ∧ σ 4 = .ptr b2 0 ∧ σ 18 = .ptr b18 0 ∧ σ 19 = .ip [.sc (.int .i64 n1),eu pr1,fE ms1,fY ns1,eu on1,fZ bs1,eu sg1] 0) ?_ ?_
          · simp (disch := omega) only [↓aI,↓zP,aD,zD,aS,simprocAttr,Tryz.facts,zA,v0,v2,v18,s21,s22,s2,s4,s18,s19,s20,hmc]
            intro t1 ht10 ht1
            try simp (disch := omega) only [↓aI,↓zP,aD,zD,aS,simprocAttr,Tryz.facts,zA,v0,v2,v18,s21,s22,s2,s4,s18,s19,s20,hmc,aj ht1]
            intro k1 o1 hk10 hk1 ho1
            have hk1' := am hk1
            have n0k := bA v0 hk1'
            try simp (disch := omega) only [↓aI,↓zP,aD,zD,aS,simprocAttr,Tryz.facts,zA,v0,v2,v18,s21,s22,s2,s4,s18,s19,s20,hmc,ho1,aP,n0k,aj ht1,aj hk1']
            intro k2 o2 hk20 hk2 ho2
            have hk2' := am hk2
            have n0k2 := bA v0 hk2'
            try simp (disch := omega) only [↓aI,↓zP,aD,zD,aS,simprocAttr,Tryz.facts,zA,v0,v2,v18,s21,s22,s2,s4,s18,s19,s20,hmc,ho1,aP,n0k,n0k2,aj ht1,aj hk1',ah]
            exact ⟨k2,(f8.up (Sub.set_new (o := o2) hk2')).put 0 _ rfl⟩
          · rintro σ F ⟨kx,f9,s21,s2,s4,s18,s19⟩
            have v0 := f9.at 0 rfl
            have v2 := f9.at 1 rfl
            have v18 := f9.at 3 rfl
            simp (disch := omega) only [↓aI,↓zP,aD,zD,aS,simprocAttr,Tryz.facts,zA,v0,v2,v18,s21,s2,s4,s18,s19]
            first | refine CallK.p (hT2) ?_ | refine CallP.i (hT2) ?_
            simp (disch := omega) only [↓aI,↓zP,aD,zD,aS,simprocAttr,Tryz.facts,zA,v0,v2,v18,s21,s2,s4,s18,s19]
            intro b23 hb230 hb23
            have n023 := bA v0 hb23
            have n1823 := bA v18 hb23
            have n2318 : ¬ b23 = b18 := fun e => n1823 e.symm
            try simp (disch := omega) only [↓aI,↓zP,aD,zD,aS,simprocAttr,Tryz.facts,zA,v0,v2,v18,s21,s2,s4,s18,s19,aP,n023,n1823,n2318,ah,ey,gU,gj,gI hb23]
            have fa := (f9.put 3 (.cells [.imm 0 (dC T.1) T.1.length,.sc (.int .i64 ((d + 2 : Nat) : Int))] 51 2) rfl).put 0 (jm [.ptr h 0,.ptr r 0,.imm 0 (dC T.1) T.1.length,.sc (.int .i64 ((d + 2 : Nat) : Int)),eu ad,.imm 0 (T.2.1.L.flatMap fX) T.2.1.L.length,.imm 0 (T.2.1.D.map eu) T.2.1.D.length,fZ c.S,fZ c.G,fE c.M,.imm kx (made.flatMap fX ++ [.sc (.int .i64 n1),eu pr1,fE ms1,fY ns1,eu on1,fZ bs1,eu sg1]) (made.length + 1)]) rfl
            have n180 := f9.ne 3 0 rfl rfl (by decide)
            have n018 : ¬ b0 = b18 := fun e => n180 e.symm
            have hme : ∀ e : Ent,(made ++ [e]).flatMap fX = made.flatMap fX ++ fX e := fun e => by rw [List.flatMap_append]; simp
            refine eI (fun σ E => E = (F.set b18 (.cells [.imm 0 (dC T.1) T.1.length,.sc (.int .i64 ((d + 2 : Nat) : Int))] 51 2)).set b0 (jm [.ptr h 0,.ptr r 0,.imm 0 (dC T.1) T.1.length,.sc (.int .i64 ((d + 2 : Nat) : Int)),eu ad,.imm 0 (T.2.1.L.flatMap fX) T.2.1.L.length,.imm 0 (T.2.1.D.map eu) T.2.1.D.length,fZ c.S,fZ c.G,fE c.M,.imm kx (made.flatMap fX ++ [.sc (.int .i64 n1),eu pr1,fE ms1,fY ns1,eu on1,fZ bs1,eu sg1]) (made.length + 1)]) ∧
              σ 21 = .ip [.sc (.int .i64 n1),eu pr1,fE ms1,fY ns1,eu on1,fZ bs1,eu sg1] 0 ∧ σ 2 = .ptr b0 0 ∧ σ 4 = .ptr b2 0 ∧ σ 24 = .sc (.int .i64 T.2.2)) ?_ ?_
            · simp (disch := omega) only [↓aI,↓zP,aD,zD,aS,simprocAttr,Tryz.facts,zA,v0,v2,v18,s21,s2,s4,s18,s19,aP,n023,n1823,n2318,n180,n018,ah,ey,gU,gj,gI hb23]
            rintro σ F' ⟨rfl,s21,s2,s4,s24⟩
            generalize hFa : (F.set b18 (.cells [.imm 0 (dC T.1) T.1.length,.sc (.int .i64 ((d + 2 : Nat) : Int))] 51 2)).set b0 _ = Fa at fa ⊢
            have v0 := fa.at 0 rfl
            have v2 := fa.at 1 rfl
            simp (disch := omega) only [↓aI,↓zP,aD,zD,aS,simprocAttr,Tryz.facts,zA,v0,v2,s21,s2,s4,s24]
            refine eI (fun σ F => σ 5 = .sc (.bool true) ∧ σ 4 = .ptr b2 0 ∧ F b2 = some (jm [.ptr h 0,.ptr r 0,.imm 0 (dC T.1) T.1.length,.sc (.int .i64 ((d + 2 : Nat) : Int)),eu ad,.imm 0 (T.2.1.L.flatMap fX) T.2.1.L.length,.imm 0 (T.2.1.D.map eu) T.2.1.D.length,fZ c.S,fZ c.G,fE c.M,.imm kx (made.flatMap fX ++ [.sc (.int .i64 n1),eu pr1,fE ms1,fY ns1,eu on1,fZ bs1,eu sg1]) (made.length + 1)]) ∧ ∃ k' kd',k' ≠ 0 ∧ kd' ≠ 0 ∧ SS (H0.set r (lgP ad T.2.1 k' kd')) F h m (d + 2) T.1) ?_ ?_
            · simp (disch := omega) only [↓aI,↓zP,aD,zD,aS,simprocAttr,Tryz.facts,zA,v0,v2,s21,s2,s4,s24]
              refine And.intro ?_ ?_
              all_goals
                try simp (disch := omega) only [↓aI,↓zP,aD,zD,aS,simprocAttr,Tryz.facts,zA,v0,v2,s21,s2,s4,s24]
                refine CallK.i (hT1 _ _ fa) ?_
                rintro v E2 ⟨rfl,k',kd',hk',hkd',f4⟩
                have v04 := f4.at 0 rfl
                have v24 := f4.at 1 rfl
                try simp (disch := omega) only [↓aI,↓zP,aD,zD,aS,simprocAttr,Tryz.facts,zA,v04,v24,ah]
                exact ⟨k',kd',hk',hkd',(f4.put 1 _ rfl).less⟩
            · rintro σ F ⟨s5,s4,w2,k',kd',hk',hkd',sF⟩
              simp (disch := omega) only [↓aI,↓zP,aD,zD,aS,simprocAttr,Tryz.facts,zA,s5,s4,w2]
              refine ⟨_,rfl,_,Abs.Sub.refl _,?_,k',kd',hk',hkd',sF⟩
              simp [iD,hme,fX]
        · rw [if_pos hK3] at hR
          subst hR
          have n20 := f7.ne 1 0 rfl rfl (by decide)
          have f8 := (f7.put 0 (jm (iD h r K1 (d + 2) ad g c.S c.G c.M made)) rfl).put 1 (jm (iD h r K1 (d + 2) ad g c.S c.G c.M made)) rfl
          try simp (disch := omega) only [↓aI,↓zP,aD,zD,aS,simprocAttr,Tryz.facts,zA,v0,v2,v18,s21,s22,s2,s4,s18,s19,s20,hK3,ey,aP,n20,ah]
          exact ⟨_,rfl,_,Abs.Sub.refl _,rfl,k,kd,hk,hkd,f8.less⟩
theorem does_live (hc : OkC c) (hb : OkB n b) (hn : n ≤ 100) (t : DoM) (hte : t.ends.length ≤ 100000) (s : SS H0 H h m b.d b.ts) (hr0 : r ≠ 0) (hk : k ≠ 0) (hkd : kd ≠ 0) (hr : H0 r = some (lgP ad b.g k kd)) (had : ad.length = 32) :
    ACalls Tryz.prog 48 [.agg (iD h r b.ts b.d ad b.g c.S c.G c.M b.made),.agg (doC t)] H fun v H' =>
      v = .tup [.agg (iD h r (i8 c ad b t).ts (i8 c ad b t).d ad (i8 c ad b t).g c.S c.G c.M (i8 c ad b t).made),.sc (.bool true)] ∧
      ∃ k' kd',k' ≠ 0 ∧ kd' ≠ 0 ∧ SS (H0.set r (lgP ad (i8 c ad b t).g k' kd')) H' h m (i8 c ad b t).d (i8 c ad b t).ts := by
  by_cases ht : t.take = false ∧ b.made ≠ []
  · have hR : i8 c ad b t = ⟨(gO b.ts ad b.g (pickE b.made t)).1,b.d,(gO b.ts ad b.g (pickE b.made t)).2.1,b.made⟩ := if_pos ht
    rw [hR]
    exact does_again hc hb hn t ht.1 ht.2 s hr0 hk hkd hr had
  · exact does_make hc hb hn t hte ht s hr0 hk hkd hr had
theorem FS.does {bs : List (Nat × AObj)} {E : AH} (g : FS H0 E r (lgP ad b.g k kd) bs h m b.d b.ts) (hc : OkC c) (hb : OkB n b) (hn : n ≤ 100) (t : DoM) (hte : t.ends.length ≤ 100000) (hr0 : r ≠ 0) (hk : k ≠ 0) (hkd : kd ≠ 0) (had : ad.length = 32) :
    ACalls Tryz.prog 48 [.agg (iD h r b.ts b.d ad b.g c.S c.G c.M b.made),.agg (doC t)] E fun v H' =>
      v = .tup [.agg (iD h r (i8 c ad b t).ts (i8 c ad b t).d ad (i8 c ad b t).g c.S c.G c.M (i8 c ad b t).made),.sc (.bool true)] ∧
      ∃ k' kd',k' ≠ 0 ∧ kd' ≠ 0 ∧ FS H0 H' r (lgP ad (i8 c ad b t).g k' kd') bs h m (i8 c ad b t).d (i8 c ad b t).ts := by
  obtain ⟨D,fr,s⟩ := g
  refine (does_live hc hb hn t hte s hr0 hk hkd fr.log had).mono ?_
  rintro v H' ⟨rfl,k',kd',h1,h2,s'⟩
  exact ⟨rfl,k',kd',h1,h2,_,fr.putr _,s'⟩
end Go.Proofs.YtjlnpngaiphnmaaGreat
