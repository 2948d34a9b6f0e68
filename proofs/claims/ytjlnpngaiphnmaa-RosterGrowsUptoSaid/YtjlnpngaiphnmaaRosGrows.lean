/-
  Rosters: a log never becomes shorter, no entry changes, and who went never comes back.
  Conditions: none. Lemmas only.
-/
import Derived.Test.YtjlnpngaiphnmaaRtR
set_option linter.all false
set_option linter.unusedSimpArgs false
set_option linter.unusedVariables false
set_option maxRecDepth 20000
set_option maxHeartbeats 16000000
namespace Go.Proofs.Ytjlnpngaiphnmaa
open Go Go.Abs Go.Proofs
section
variable {H0 E F : AH} {r h m d : Nat} {L : AObj} {bs : List (Nat × AObj)} {ts : List Term}
theorem FS.grow (f : FS H0 E r L bs h m d ts) {x : Nat} {o : AObj} (hx : E x = none) (u : Abs.Sub E F) (hv : F x = some o) : FS H0 F r L (bs ++ [(x,o)]) h m d ts :=
  (f.box o hx).up fun y o' hy => by
    by_cases e : y = x
    · subst e; rw [set_get] at hy; cases hy; exact hv
    · rw [aP e] at hy; exact u _ _ hy
theorem FS.forget {x : Nat} {o : AObj} (f : FS H0 E r L (bs ++ [(x,o)]) h m d ts) : FS H0 E r L bs h m d ts := by
  obtain ⟨D,g,s⟩ := f
  have hn := g.nd
  rw [List.map_append,List.nodup_append] at hn
  exact ⟨D,⟨g.log,fun p hp => g.own p (List.mem_append_left _ hp),hn.1,g.keep⟩,s⟩
theorem FS.base (f : FS H0 E r L bs h m d ts) (hr : H0 r = none) : Abs.Sub H0 E := (Sub.set_new hr).trans f.less.sub
end
abbrev goneC (l : List Bool) : List AV := l.map fun b => .sc (.bool b)
theorem gone_get {l : List Bool} {i : Nat} (h : i < l.length) : (goneC l)[i]? = some (.sc (.bool (l.getD i false))) := by
  simp [goneC,List.getD,h]
theorem gone_put {l : List Bool} {i : Nat} (h : i < l.length) (b : Bool) : bG (goneC l) i [.sc (.bool b)] = goneC (l.set i b) := by
  unfold bG goneC
  rw [List.set_eq_take_append_cons_drop,if_pos h,List.map_append,List.map_cons,List.map_take,List.map_drop,List.append_assoc]
  rfl
theorem grows_walk (l : List DoM) (hl : l.length ≤ 2000000) (he : ∀ t ∈ l, t.ends.length ≤ 2000000) :
    APure Try.prog 4 [dosV l] (.sc (.bool true)) := by
  have hs := small_pure l hl he
  have haw := rawake_pure
  cases hsm : smallM l
  · rw [hsm] at hs
    refine az (c := ⟨Try.prog,151,[(18,[0,0,2,0,0,0,0,2,0,0,0,0,0,2,0,0,0,2,0,0,0]),(20,[0,0,0,1,2,2,0]),(1000007,[7]),(1000024,[13]),(1000025,[15]),(4000034,[2]),(4000030,[3,4,5,8,9,11,27,28,29,96,144]),(4000029,[3,4,5,8,9,11,12,18,27,28,29,96]),(4000028,[3,4,5,8,9,11,12,14,16,18,27,28,29,96]),(4000026,[3,4,5,8,9,11,12,14,16,27,28,29,96,120]),(4000025,[3,4,5,8,9,11,12,14,16,27,28,29,96]),(4000024,[3,4,5,8,9,11,12,14,27,28,29,96]),(4000020,[3,4,5,8,9,11,27,28,29]),(4000018,[3,4,5,8,9,10,27,28,29,89]),(4000013,[3,4,5,8,9,27,28,29,63]),(4000012,[3,4,5,8,9,27,28,29]),(4000003,[0,3,4])],[],[(18,(.op 0 0 (.op 1 0 (.op 4 0 (.op 6 0 (.op 5 4 (.op 2 5 (.op 3 0 (.op 7 5 (.op 8 0 (.op 9 0 (.op 10 0 (.op 11 0 (.op 12 0 (.op 14 0 (.op 16 0 (.op 15 4 (.op 13 5 (.op 17 5 (.op 18 0 (.op 19 0 (.op 20 0 .nil)))))))))))))))))))))),(20,(.op 0 0 (.op 2 0 (.op 1 4 (.op 3 4 (.op 4 5 (.op 5 5 (.op 6 0 .nil))))))))]⟩) (rs := [ResultVar.tmp 2]) Try.mixed Try.func4 rfl rfl rfl (Nat.le_of_ble_eq_true rfl) (by kernel_rfl) fun H => ?_
    simp (disch := omega) only [↓aI,↓zP,aD,zD,aS,simprocAttr,Try.facts,zA]
    first | refine CallK.p (hs) ?_ | refine CallP.i (hs) ?_
    simp (disch := omega) only [↓aI,↓zP,aD,zD,aS,simprocAttr,Try.facts,zA]
    first | refine CallK.p (haw) ?_ | refine CallP.i (haw) ?_
    simp (disch := omega) only [↓aI,↓zP,aD,zD,aS,simprocAttr,Try.facts,zA]
    exact Abs.Sub.refl _
  · rw [hsm] at hs
    have h12 := small_len hsm
    have he2 : ∀ t ∈ l,t.ends.length ≤ 100000 := fun t h => by have := small_ends hsm t h; omega
    have hbg := fun G => begun_B G
    have hc := beg_ok
    have h0 := begB_ok
    have had := ad5_len
    have hlc : (l.flatMap doC).length = l.length * 8 := flat_len doC_len l
    have hld := fun i (h : i < l.length) => do_load h
    have hG0 : GoneI begB.g [false,false,false,false,false] := gone_new
    clear hsm
    generalize ad5 = ad at *
    generalize begM 5 = c at *
    generalize begB = B at *
    have hB0 : playM c ad B (l.take 0) = B := by rw [List.take_zero]; rfl
    have hBs : ∀ i (h : i < l.length),playM c ad B (l.take (i + 1)) = doesM c ad (playM c ad B (l.take i)) l[i] := fun i h => by rw [take_snoc h,playM_snoc]
    have hok : ∀ i,i ≤ l.length → OkB i (playM c ad B (l.take i)) := fun i h => by
      have hx : (l.take i).length = i := by rw [List.length_take]; omega
      have := play_ok (c := c) (ad := ad) (l.take i) h0 (by omega)
      rw [hx,Nat.zero_add] at this
      exact this
    generalize hP : (fun i => playM c ad B (l.take i)) = P at *
    have hP' : ∀ i,playM c ad B (l.take i) = P i := fun i => by rw [← hP]
    simp only [hP'] at *
    clear hP hP' h0
    rw [← hB0] at hbg hG0
    refine az (c := ⟨Try.prog,151,[(18,[0,0,2,0,0,0,0,2,0,0,0,0,0,2,0,0,0,2,0,0,0]),(20,[0,0,0,1,2,2,0]),(1000007,[7]),(1000024,[13]),(1000025,[15]),(4000034,[2]),(4000030,[3,4,5,8,9,11,27,28,29,96,144]),(4000029,[3,4,5,8,9,11,12,18,27,28,29,96]),(4000028,[3,4,5,8,9,11,12,14,16,18,27,28,29,96]),(4000026,[3,4,5,8,9,11,12,14,16,27,28,29,96,120]),(4000025,[3,4,5,8,9,11,12,14,16,27,28,29,96]),(4000024,[3,4,5,8,9,11,12,14,27,28,29,96]),(4000020,[3,4,5,8,9,11,27,28,29]),(4000018,[3,4,5,8,9,10,27,28,29,89]),(4000013,[3,4,5,8,9,27,28,29,63]),(4000012,[3,4,5,8,9,27,28,29]),(4000003,[0,3,4])],[],[(18,(.op 0 0 (.op 1 0 (.op 4 0 (.op 6 0 (.op 5 4 (.op 2 5 (.op 3 0 (.op 7 5 (.op 8 0 (.op 9 0 (.op 10 0 (.op 11 0 (.op 12 0 (.op 14 0 (.op 16 0 (.op 15 4 (.op 13 5 (.op 17 5 (.op 18 0 (.op 19 0 (.op 20 0 .nil)))))))))))))))))))))),(20,(.op 0 0 (.op 2 0 (.op 1 4 (.op 3 4 (.op 4 5 (.op 5 5 (.op 6 0 .nil))))))))]⟩) (rs := [ResultVar.tmp 2]) Try.mixed Try.func4 rfl rfl rfl (Nat.le_of_ble_eq_true rfl) (by kernel_rfl) fun H => ?_
    simp (disch := omega) only [↓aI,↓zP,aD,zD,aS,simprocAttr,Try.facts,zA]
    first | refine CallK.p (hs) ?_ | refine CallP.i (hs) ?_
    simp (disch := omega) only [↓aI,↓zP,aD,zD,aS,simprocAttr,Try.facts,zA]
    refine CallK.i (hbg _) ?_
    rintro v E ⟨h,m,r,k,kd,rfl,hr0,hk,hkd,hr,s⟩
    have f0 : FS H E r (lgP ad (P 0).g k kd) [] h m (P 0).d (P 0).ts := ⟨_,⟨set_get,fun p hp => (by cases hp),List.nodup_nil,fun x o hx hn => (aP hn).trans hx⟩,s⟩
    try simp (disch := omega) only [↓aI,↓zP,aD,zD,aS,simprocAttr,Try.facts,zA]
    intro b3 hb30 hb3
    have f1 := f0.box (bObj (bothC h r (P 0).ts (P 0).d ad (P 0).g c.S c.G c.M (P 0).made)) hb3
    try simp (disch := omega) only [↓aI,↓zP,aD,zD,aS,simprocAttr,Try.facts,zA,ah,set_twice]
    intro b5 hb50 hb5
    have f2 := f1.box (.cells [.sc (.bool false),.sc (.bool false),.sc (.bool false),.sc (.bool false),.sc (.bool false)] 48 5) hb5
    try simp (disch := omega) only [↓aI,↓zP,aD,zD,aS,simprocAttr,Try.facts,zA,ah,set_twice]
    generalize hE : (E.set b3 (bObj (bothC h r (P 0).ts (P 0).d ad (P 0).g c.S c.G c.M (P 0).made))).set b5 (.cells [.sc (.bool false),.sc (.bool false),.sc (.bool false),.sc (.bool false),.sc (.bool false)] 48 5) = E1 at f2 ⊢
    refine br (c := ⟨Try.prog,151,[(18,[0,0,2,0,0,0,0,2,0,0,0,0,0,2,0,0,0,2,0,0,0]),(20,[0,0,0,1,2,2,0]),(1000007,[7]),(1000024,[13]),(1000025,[15]),(4000034,[2]),(4000030,[3,4,5,8,9,11,27,28,29,96,144]),(4000029,[3,4,5,8,9,11,12,18,27,28,29,96]),(4000028,[3,4,5,8,9,11,12,14,16,18,27,28,29,96]),(4000026,[3,4,5,8,9,11,12,14,16,27,28,29,96,120]),(4000025,[3,4,5,8,9,11,12,14,16,27,28,29,96]),(4000024,[3,4,5,8,9,11,12,14,27,28,29,96]),(4000020,[3,4,5,8,9,11,27,28,29]),(4000018,[3,4,5,8,9,10,27,28,29,89]),(4000013,[3,4,5,8,9,27,28,29,63]),(4000012,[3,4,5,8,9,27,28,29]),(4000003,[0,3,4])],[],[(18,(.op 0 0 (.op 1 0 (.op 4 0 (.op 6 0 (.op 5 4 (.op 2 5 (.op 3 0 (.op 7 5 (.op 8 0 (.op 9 0 (.op 10 0 (.op 11 0 (.op 12 0 (.op 14 0 (.op 16 0 (.op 15 4 (.op 13 5 (.op 17 5 (.op 18 0 (.op 19 0 (.op 20 0 .nil)))))))))))))))))))))),(20,(.op 0 0 (.op 2 0 (.op 1 4 (.op 3 4 (.op 4 5 (.op 5 5 (.op 6 0 .nil))))))))]⟩) Try.mixed (by kernel_rfl) (fun mm σ E => ∃ (i k kd : Nat) (gone : List Bool),i + mm = l.length ∧ k ≠ 0 ∧ kd ≠ 0 ∧ GoneI (P i).g gone ∧ FS H E r (lgP ad (P i).g k kd) [(b3,bObj (bothC h r (P i).ts (P i).d ad (P i).g c.S c.G c.M (P i).made)),(b5,.cells (goneC gone) 48 5)] h m (P i).d (P i).ts ∧
      σ 3 = .ptr b3 0 ∧ σ 4 = .sc (.bool true) ∧ σ 5 = .ptr b5 0 ∧ σ 27 = dosV l ∧ σ 28 = .sc (.int .i64 (l.length : Nat)) ∧ σ 29 = .sc (.int .i64 (i : Nat))) l.length ?_ ?_
    · refine ⟨0,k,kd,[false,false,false,false,false],by omega,hk,hkd,hG0,f2,?_⟩
      simp (disch := omega) only [↓aI,↓zP,aD,zD,aS,simprocAttr,Try.facts,zA]
      try rfl
    clear f0 f1 f2 hE s hk hkd hG0 hs
    rintro mm σ E ⟨i,k,kd,gone,him,hk,hkd,hG,f,s3,s4,s5,s27,s28,s29⟩
    have v3 := f.at 0 rfl
    have v5 := f.at 1 rfl
    by_cases hlt : i < l.length
    rotate_left
    · obtain rfl : i = l.length := by omega
      have hsub := f.base hr
      generalize P l.length = Q at *
      simp (disch := omega) only [↓aI,↓zP,aD,zD,aS,simprocAttr,Try.facts,zA,s3,s4,s5,s27,s28,s29]
      first | refine CallK.p (haw) ?_ | refine CallP.i (haw) ?_
      simp (disch := omega) only [↓aI,↓zP,aD,zD,aS,simprocAttr,Try.facts,zA,s4]
      exact hsub
    have hld := hld i hlt
    have hcx : i * 8 + 8 ≤ l.length * 8 := by omega
    have ht := he2 _ (List.getElem_mem hlt)
    have hoki := hok i (by omega)
    have hoki1 := hok (i + 1) (by omega)
    have hgr := does_grow c ad (P i) l[i]
    have hD := fun (E : AH) (bs : List (Nat × AObj)) (f : FS H E r (lgP ad (P i).g k kd) bs h m (P i).d (P i).ts) => f.does hc hoki (by omega) l[i] ht hr0 hk hkd had
    rw [← hBs i hlt] at hD hgr
    unfold doC at hD
    have hla := fun (E : AH) (hE : E r = some (lgP ad (P i).g k kd)) => last_any hr0 hE
    have hcl := fun (E : AH) (hE : E r = some (lgP ad (P i).g k kd)) => clone_live hoki.g hr0 hk hkd hE
    generalize hti : l[i] = t at *
    generalize hQ : P (i + 1) = Q at *
    generalize hPi : P i = Pi at *
    obtain ⟨who,strange,auto,ends,by_,take,at_,change⟩ := t
    simp only [] at *
    simp (disch := omega) only [↓aI,↓zP,aD,zD,aS,simprocAttr,Try.facts,zA,s3,s4,s5,s27,s28,s29,hlc,hld,hcx,v3,v5]
    intro b7 hb70 hb7
    have n37 := bA v3 hb7
    try simp (disch := omega) only [↓aI,↓zP,aD,zD,aS,simprocAttr,Try.facts,zA,s3,s4,s5,s27,s28,s29,hlc,hld,hcx,v3,v5,aj hb7,ah]
    refine CallK.i (hla _ f.log) ?_
    rintro v E' ⟨rfl,rfl⟩
    try simp (disch := omega) only [↓aI,↓zP,aD,zD,aS,simprocAttr,Try.facts,zA,s3,s4,s5,s27,s28,s29,v3,v5,ah]
    refine CallK.i (hcl _ f.log) ?_
    rintro v E2 ⟨q,k2,kd2,rfl,hq0,hk20,hkd20,hq,hqv,hqs⟩
    have f2 := f.grow hq hqs hqv
    have v3 := f2.at 0 rfl
    try simp (disch := omega) only [↓aI,↓zP,aD,zD,aS,simprocAttr,Try.facts,zA,s3,s4,s5,s27,s28,s29,v3,ah]
    refine CallK.i (hD _ _ f2) ?_
    rintro v E3 ⟨rfl,k',kd',hk',hkd',f3⟩
    have v3 := f3.at 0 rfl
    have f4 := f3.put 0 (bObj (bothC h r Q.ts Q.d ad Q.g c.S c.G c.M Q.made)) rfl
    try simp (disch := omega) only [↓aI,↓zP,aD,zD,aS,simprocAttr,Try.facts,zA,s3,s4,s5,s27,s28,s29,v3,ah]
    generalize hE4 : E3.set b3 _ = E4 at f4 ⊢
    have hlq := last_any hr0 f4.log
    have hgl := grow_len hgr
    have hfew := hoki.g.few
    have hfew2 := hoki1.g.few
    have v3 := f4.at 0 rfl
    have vq := f4.at 2 rfl
    refine CallK.i hlq ?_
    rintro v E' ⟨rfl,rfl⟩
    try simp (disch := omega) only [↓aI,↓zP,aD,zD,aS,simprocAttr,Try.facts,zA,s3,s4,s5,s27,s28,s29,v3,ah]
    refine CallK.i hlq ?_
    rintro v E' ⟨rfl,rfl⟩
    try simp (disch := omega) only [↓aI,↓zP,aD,zD,aS,simprocAttr,Try.facts,zA,s3,s4,s5,s27,s28,s29,v3,ah]
    have hdq := fun n => dig_any hoki.g hq0 vq n
    have hdr := fun n => dig_any hoki1.g hr0 f4.log n
    have hmq := fun n h1 h2 => mems_live hoki.g hq0 vq n h1 h2
    have hmr := fun n h1 h2 => mems_live hoki1.g hr0 f4.log n h1 h2
    have hgd := fun k h => grow_dig hoki.g hgr k h
    have hgm := fun k h => grow_mems hgr k h
    refine br (c := ⟨Try.prog,151,[(18,[0,0,2,0,0,0,0,2,0,0,0,0,0,2,0,0,0,2,0,0,0]),(20,[0,0,0,1,2,2,0]),(1000007,[7]),(1000024,[13]),(1000025,[15]),(4000034,[2]),(4000030,[3,4,5,8,9,11,27,28,29,96,144]),(4000029,[3,4,5,8,9,11,12,18,27,28,29,96]),(4000028,[3,4,5,8,9,11,12,14,16,18,27,28,29,96]),(4000026,[3,4,5,8,9,11,12,14,16,27,28,29,96,120]),(4000025,[3,4,5,8,9,11,12,14,16,27,28,29,96]),(4000024,[3,4,5,8,9,11,12,14,27,28,29,96]),(4000020,[3,4,5,8,9,11,27,28,29]),(4000018,[3,4,5,8,9,10,27,28,29,89]),(4000013,[3,4,5,8,9,27,28,29,63]),(4000012,[3,4,5,8,9,27,28,29]),(4000003,[0,3,4])],[],[(18,(.op 0 0 (.op 1 0 (.op 4 0 (.op 6 0 (.op 5 4 (.op 2 5 (.op 3 0 (.op 7 5 (.op 8 0 (.op 9 0 (.op 10 0 (.op 11 0 (.op 12 0 (.op 14 0 (.op 16 0 (.op 15 4 (.op 13 5 (.op 17 5 (.op 18 0 (.op 19 0 (.op 20 0 .nil)))))))))))))))))))))),(20,(.op 0 0 (.op 2 0 (.op 1 4 (.op 3 4 (.op 4 5 (.op 5 5 (.op 6 0 .nil))))))))]⟩) Try.mixed (by kernel_rfl) (fun mm σ F => F = E' ∧ ∃ k0 : Nat,k0 + mm = Pi.g.L.length + 1 ∧ 1 ≤ k0 ∧ σ 3 = .ptr b3 0 ∧ σ 4 = .sc (.bool true) ∧ σ 5 = .ptr b5 0 ∧ σ 8 = .sc (.int .i64 (Pi.g.L.length : Nat)) ∧ σ 9 = .ptr q 0 ∧ σ 10 = .sc (.int .i64 (k0 : Nat)) ∧ σ 27 = dosV l ∧ σ 28 = .sc (.int .i64 (l.length : Nat)) ∧ σ 29 = .sc (.int .i64 (i : Nat))) Pi.g.L.length ?_ ?_
    · refine ⟨rfl,1,by omega,by omega,?_⟩
      simp (disch := omega) only [↓aI,↓zP,aD,zD,aS,simprocAttr,Try.facts,zA,s3,s4,s5,s27,s28,s29]
      try rfl
    rintro mm2 σ F ⟨rfl,k0,hk0,hk1,s3,s4,s5,s8,s9,s10,s27,s28,s29⟩
    by_cases hlt2 : k0 ≤ Pi.g.L.length
    · have hgd := hgd k0 ⟨hk1,hlt2⟩
      have hgm := hgm k0 hlt2
      have hdr := hdr (k0 : Nat)
      have hdq := hdq (k0 : Nat)
      have hmr := hmr (k0 : Nat) (by omega) (by omega)
      have hmq := hmq (k0 : Nat) (by omega) (by omega)
      have hsa := samem_pure (memsM Pi.g (k0 : Nat)) (by have := memsM_len hoki.g (k0 : Nat); omega) (memsM_b hoki.g (k0 : Nat))
      rw [hgd] at hdr
      rw [hgm] at hmr
      generalize memsM Pi.g (k0 : Nat) = mk at *
      generalize digM Pi.g.D (k0 : Nat) = dk at *
      simp (disch := omega) only [↓aI,↓zP,aD,zD,aS,simprocAttr,Try.facts,zA,s3,s4,s5,s8,s9,s10,s27,s28,s29]
      refine eI (fun σ E => E = F ∧ σ 3 = .ptr b3 0 ∧ σ 4 = .sc (.bool true) ∧ σ 5 = .ptr b5 0 ∧ σ 8 = .sc (.int .i64 (Pi.g.L.length : Nat)) ∧ σ 9 = .ptr q 0 ∧ σ 10 = .sc (.int .i64 (k0 : Nat)) ∧ σ 27 = dosV l ∧ σ 28 = .sc (.int .i64 (l.length : Nat)) ∧ σ 29 = .sc (.int .i64 (i : Nat)) ∧ σ 89 = .sc (.bool false)) ?_ ?_
      · simp (disch := omega) only [↓aI,↓zP,aD,zD,aS,simprocAttr,Try.facts,zA,s3,s4,s5,s8,s9,s10,s27,s28,s29,v3,ah]
        refine CallK.i hdq ?_
        rintro v F' ⟨rfl,rfl⟩
        try refine ⟨SubC.refl,?_⟩
        try simp (disch := omega) only [↓aI,↓zP,aD,zD,aS,simprocAttr,Try.facts,zA,s3,s4,s5,s8,s9,s10,s27,s28,s29,v3,ah]
        refine CallK.i hdr ?_
        rintro v F' ⟨rfl,rfl⟩
        try refine ⟨SubC.refl,?_⟩
        try simp (disch := omega) only [↓aI,↓zP,aD,zD,aS,simprocAttr,Try.facts,zA,s3,s4,s5,s8,s9,s10,s27,s28,s29,v3,ah]
        refine CallK.i hmq ?_
        rintro v F' ⟨rfl,rfl⟩
        try refine ⟨SubC.refl,?_⟩
        try simp (disch := omega) only [↓aI,↓zP,aD,zD,aS,simprocAttr,Try.facts,zA,s3,s4,s5,s8,s9,s10,s27,s28,s29,v3,ah]
        refine CallK.i hmr ?_
        rintro v F' ⟨rfl,rfl⟩
        try refine ⟨SubC.refl,?_⟩
        try simp (disch := omega) only [↓aI,↓zP,aD,zD,aS,simprocAttr,Try.facts,zA,s3,s4,s5,s8,s9,s10,s27,s28,s29,v3,ah]
        first | refine CallK.p (hsa) ?_ | refine CallP.i (hsa) ?_
        simp (disch := omega) only [↓aI,↓zP,aD,zD,aS,simprocAttr,Try.facts,zA,s3,s4,s5,s8,s9,s10,s27,s28,s29,v3,ah]
      · rintro σ F' ⟨rfl,s3,s4,s5,s8,s9,s10,s27,s28,s29,s89⟩
        simp (disch := omega) only [↓aI,↓zP,aD,zD,aS,simprocAttr,Try.facts,zA,s3,s4,s5,s8,s9,s10,s27,s28,s29,s89]
        exact ⟨mm2 - 1,by omega,k0 + 1,by omega,by omega,rfl⟩
    · obtain rfl : k0 = Pi.g.L.length + 1 := by omega
      have hmlq := hmr (Q.g.L.length : Nat) (by omega) (by omega)
      rw [mems_last] at hmlq
      simp (disch := omega) only [↓aI,↓zP,aD,zD,aS,simprocAttr,Try.facts,zA,s3,s4,s5,s8,s9,s10,s27,s28,s29]
      refine eI (fun σ E => E = F ∧ σ 3 = .ptr b3 0 ∧ σ 4 = .sc (.bool true) ∧ σ 5 = .ptr b5 0 ∧ σ 8 = .sc (.int .i64 (Pi.g.L.length : Nat)) ∧ σ 9 = .ptr q 0 ∧ σ 11 = memsV (lastM Q.g.L) ∧ σ 27 = dosV l ∧ σ 28 = .sc (.int .i64 (l.length : Nat)) ∧ σ 29 = .sc (.int .i64 (i : Nat))) ?_ ?_
      · simp (disch := omega) only [↓aI,↓zP,aD,zD,aS,simprocAttr,Try.facts,zA,s3,s4,s5,s8,s9,s10,s27,s28,s29,v3,ah]
        refine CallK.i hlq ?_
        rintro v F' ⟨rfl,rfl⟩
        try refine ⟨SubC.refl,?_⟩
        try simp (disch := omega) only [↓aI,↓zP,aD,zD,aS,simprocAttr,Try.facts,zA,s3,s4,s5,s8,s9,s10,s27,s28,s29,v3,ah]
        refine CallK.i hmlq ?_
        rintro v F' ⟨rfl,rfl⟩
        try refine ⟨SubC.refl,?_⟩
        try simp (disch := omega) only [↓aI,↓zP,aD,zD,aS,simprocAttr,Try.facts,zA,s3,s4,s5,s8,s9,s10,s27,s28,s29,v3,ah]
      · rintro σ F' ⟨rfl,s3,s4,s5,s8,s9,s11,s27,s28,s29⟩
        simp (disch := omega) only [↓aI,↓zP,aD,zD,aS,simprocAttr,Try.facts,zA,s3,s4,s5,s8,s9,s11,s27,s28,s29]
        clear hlq hdq hdr hmq hmr hgd hgm hla hcl hD v3 v5 vq hmlq
        refine br (c := ⟨Try.prog,151,[(18,[0,0,2,0,0,0,0,2,0,0,0,0,0,2,0,0,0,2,0,0,0]),(20,[0,0,0,1,2,2,0]),(1000007,[7]),(1000024,[13]),(1000025,[15]),(4000034,[2]),(4000030,[3,4,5,8,9,11,27,28,29,96,144]),(4000029,[3,4,5,8,9,11,12,18,27,28,29,96]),(4000028,[3,4,5,8,9,11,12,14,16,18,27,28,29,96]),(4000026,[3,4,5,8,9,11,12,14,16,27,28,29,96,120]),(4000025,[3,4,5,8,9,11,12,14,16,27,28,29,96]),(4000024,[3,4,5,8,9,11,12,14,27,28,29,96]),(4000020,[3,4,5,8,9,11,27,28,29]),(4000018,[3,4,5,8,9,10,27,28,29,89]),(4000013,[3,4,5,8,9,27,28,29,63]),(4000012,[3,4,5,8,9,27,28,29]),(4000003,[0,3,4])],[],[(18,(.op 0 0 (.op 1 0 (.op 4 0 (.op 6 0 (.op 5 4 (.op 2 5 (.op 3 0 (.op 7 5 (.op 8 0 (.op 9 0 (.op 10 0 (.op 11 0 (.op 12 0 (.op 14 0 (.op 16 0 (.op 15 4 (.op 13 5 (.op 17 5 (.op 18 0 (.op 19 0 (.op 20 0 .nil)))))))))))))))))))))),(20,(.op 0 0 (.op 2 0 (.op 1 4 (.op 3 4 (.op 4 5 (.op 5 5 (.op 6 0 .nil))))))))]⟩) Try.mixed (by kernel_rfl) (fun mm σ F => ∃ (id : Nat) (gn : List Bool),id + mm = 5 ∧ gn.length = 5 ∧ (∀ j,j < 5 → gn.getD j false = if j < id then (gone.getD j false || (memb (lastM Pi.g.L) (j : Nat) && !memb (lastM Q.g.L) (j : Nat))) else gone.getD j false) ∧
          FS H F r (lgP ad Q.g k' kd') [(b3,bObj (bothC h r Q.ts Q.d ad Q.g c.S c.G c.M Q.made)),(b5,.cells (goneC gn) 48 5),(q,lgP ad Pi.g k2 kd2)] h m Q.d Q.ts ∧
          σ 3 = .ptr b3 0 ∧ σ 4 = .sc (.bool true) ∧ σ 5 = .ptr b5 0 ∧ σ 8 = .sc (.int .i64 (Pi.g.L.length : Nat)) ∧ σ 9 = .ptr q 0 ∧ σ 11 = memsV (lastM Q.g.L) ∧ σ 27 = dosV l ∧ σ 28 = .sc (.int .i64 (l.length : Nat)) ∧ σ 29 = .sc (.int .i64 (i : Nat)) ∧ σ 96 = .sc (.int .i64 (id : Nat))) 5 ?_ ?_
        · refine ⟨0,gone,by omega,hG.1,fun j hj => by rw [if_neg (by omega)],f4,?_⟩
          simp (disch := omega) only [↓aI,↓zP,aD,zD,aS,simprocAttr,Try.facts,zA,s3,s4,s5,s8,s9,s11,s27,s28,s29]
          try rfl
        clear f4
        rintro mm3 σ F ⟨id,gn,hid,hgl5,hgn,f4,s3,s4,s5,s8,s9,s11,s27,s28,s29,s96⟩
        by_cases hlt3 : id < 5
        · have v3 := f4.at 0 rfl
          have v5 := f4.at 1 rfl
          have vq := f4.at 2 rfl
          have hen := end_any hoki1.g hr0 f4.log (id : Nat)
          have hmq := mems_live hoki.g hq0 vq (Pi.g.L.length : Nat) (by omega) (by omega)
          rw [mems_last] at hmq
          have hlp := last_right hoki.g
          have hlr := last_right hoki1.g
          have hi1 := is_pure (.sc (.int .i64 0)) (.imm 0 [] 0) (lastM Pi.g.L) (.imm 0 [] 0) (.imm 0 [] 0) (.imm 0 [] 0) (.imm 0 [] 0) (id : Nat) (by omega)
          have hi2 := is_pure (.sc (.int .i64 0)) (.imm 0 [] 0) (lastM Q.g.L) (.imm 0 [] 0) (.imm 0 [] 0) (.imm 0 [] 0) (.imm 0 [] 0) (id : Nat) (by omega)
          obtain ⟨w1,w2,-⟩ := grow_one hgr hG id hlt3
          have hgid := hgn id hlt3
          rw [if_neg (by omega)] at hgid
          have hnext : ∀ j,j < 5 → (gn.set id (gone.getD id false || (memb (lastM Pi.g.L) (id : Nat) && !memb (lastM Q.g.L) (id : Nat)))).getD j false = if j < id + 1 then (gone.getD j false || (memb (lastM Pi.g.L) (j : Nat) && !memb (lastM Q.g.L) (j : Nat))) else gone.getD j false := fun j hj => by
            by_cases e : id = j
            · subst e
              rw [if_pos (by omega)]
              simp [List.getD,hgl5,hlt3]
            · have := hgn j hj
              simp only [List.getD,List.getElem?_set_ne e] at this ⊢
              rw [this]
              by_cases e2 : j < id
              · rw [if_pos e2,if_pos (by omega)]
              · rw [if_neg e2,if_neg (by omega)]
          have hg1 := gone_get (l := gn) (i := id) (by omega)
          have hg2 : ∀ b : Bool,(goneC (gn.set id b))[id]? = some (.sc (.bool b)) := fun b => by
            rw [gone_get (by rw [List.length_set]; omega)]
            simp [List.getD,hgl5,hlt3]
          have hput : ∀ b : Bool,bG (goneC gn) id [.sc (.bool b)] = goneC (gn.set id b) := fun b => gone_put (by omega) b
          have hgcl : (goneC gn).length = 5 := by simp [goneC,hgl5]
          have hgcl2 : ∀ b,(goneC (gn.set id b)).length = 5 := fun b => by simp [goneC,hgl5]
          rw [hgid] at hg1
          unfold memb at *
          generalize endM Q.g.L (id : Nat) = en at *
          generalize (findM (lastM Q.g.L) (id : Nat)).2 = z at *
          generalize (findM (lastM Pi.g.L) (id : Nat)).2 = w at *
          generalize gone.getD id false = g0 at *
          generalize (findM (lastM Q.g.L) (id : Nat)).1 = mc2 at *
          generalize (findM (lastM Pi.g.L) (id : Nat)).1 = mc1 at *
          obtain ⟨mi1,mp1,mg1⟩ := mc1
          obtain ⟨mi2,mp2,mg2⟩ := mc2
          simp only [memC] at hi1 hi2
          simp (disch := omega) only [↓aI,↓zP,aD,zD,aS,simprocAttr,Try.facts,zA,s3,s4,s5,s8,s9,s11,s27,s28,s29,s96]
          refine CallK.i hmq ?_
          rintro v F' ⟨rfl,rfl⟩
          try simp (disch := omega) only [↓aI,↓zP,aD,zD,aS,simprocAttr,Try.facts,zA,s3,s4,s5,s8,s9,s11,s27,s28,s29,s96]
          first | refine CallK.p (hi1) ?_ | refine CallP.i (hi1) ?_
          simp (disch := omega) only [↓aI,↓zP,aD,zD,aS,simprocAttr,Try.facts,zA,s3,s4,s5,s8,s9,s11,s27,s28,s29,s96,ah]
          intro b13 hb130 hb13
          try simp (disch := omega) only [↓aI,↓zP,aD,zD,aS,simprocAttr,Try.facts,zA,s3,s4,s5,s8,s9,s11,s27,s28,s29,s96,aj hb13,ah]
          first | refine CallK.p (hi2) ?_ | refine CallP.i (hi2) ?_
          simp (disch := omega) only [↓aI,↓zP,aD,zD,aS,simprocAttr,Try.facts,zA,s3,s4,s5,s8,s9,s11,s27,s28,s29,s96,ah]
          intro b15 hb150 hb15
          have hb15' := hb15
          simp only [endV,w2] at hen
          generalize hnb : (g0 || (w && !z)) = nb at *
          cases g0 <;> cases w <;> cases z
          all_goals first | (exact absurd w1 (by decide)) | skip
          all_goals
            simp only [Bool.false_or,Bool.true_or,Bool.false_and,Bool.true_and,Bool.not_false,Bool.not_true,Bool.or_false] at hnb
            subst hnb
            try simp (disch := omega) only [↓aI,↓zP,aD,zD,aS,simprocAttr,Try.facts,zA,s3,s4,s5,s8,s9,s11,s27,s28,s29,s96,aj hb15,v3,v5,hg1,hgcl]
            refine CallK.i hen ?_
            rintro v F' ⟨rfl,rfl⟩
            try simp (disch := omega) only [↓aI,↓zP,aD,zD,aS,simprocAttr,Try.facts,zA,s3,s4,s5,s8,s9,s11,s27,s28,s29,s96,v3,v5,hg1,hg2,hput,hgcl,hgcl2,set_get]
            exact ⟨mm3 - 1,by omega,id + 1,gn.set id _,by omega,by simp [hgl5],hnext,f4.put 1 _ rfl,rfl⟩
        · obtain rfl : id = 5 := by omega
          have hG' : GoneI Q.g gn := ⟨hgl5,fun j hj => by
            obtain ⟨w1,w2,w3⟩ := grow_one hgr hG j hj
            have := hgn j hj
            rw [if_pos hj] at this
            rw [this]
            exact ⟨w2.symm,w3⟩⟩
          simp (disch := omega) only [↓aI,↓zP,aD,zD,aS,simprocAttr,Try.facts,zA,s3,s4,s5,s8,s9,s11,s27,s28,s29,s96]
          refine ⟨mm - 1,by omega,i + 1,k',kd',gn,by omega,hk',hkd',by rw [hQ]; exact hG',by rw [hQ]; exact FS.forget (bs := [(b3,bObj (bothC h r Q.ts Q.d ad Q.g c.S c.G c.M Q.made)),(b5,.cells (goneC gn) 48 5)]) f4,rfl⟩
end Go.Proofs.Ytjlnpngaiphnmaa
