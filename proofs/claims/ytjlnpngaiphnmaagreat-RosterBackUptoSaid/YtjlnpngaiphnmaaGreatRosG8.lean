/-
  Several texts in one: each says what it proves.
  Conditions: none. Lemmas only.
-/
import Derived.Test.YtjlnpngaiphnmaaGreatRosG7
import Derived.Test.YtjlnpngaiphnmaaGreatAbsG6
import Derived.Test.YtjlnpngaiphnmaaGreatRosG6
set_option linter.all false
section
set_option linter.unusedSimpArgs false
set_option linter.unusedVariables false
set_option maxRecDepth 20000
set_option maxHeartbeats 16000000
namespace Go.Abs
open Go Go.RowKit
theorem tok_c {c : Cfg} {Q : Exit → Sg → AH → Prop} {σ : Sg} {H : AH} {a : Code} {t : Tie a} {t' : Tie Q} (b j : Nat) {cs : List AV} {e s : Nat} (hb : H b = some (.cells cs e s)) (hj : cs[j]? = some (.sc (.slice none 0 0)))
    (h : ∀ k,k ≠ 0 → H k = none → LoopT c a Q σ ((H.set k .nilt).set b (.cells (cs.set j (.imm k [] 0)) e s)) ⟨⟩ ⟨⟩) : LoopT c a Q σ H t t' := by
  intro Γ ro ok B a' w gg
  obtain ⟨n,i,cc,g1,g2,g3,g4,g5⟩ := gg
  obtain ⟨n',i',c',k1,k2⟩ := Go.Abs.tokCell g1 hb hj
  exact h n (Nat.ne_of_gt g1.pos) (bh g1) Γ ro ok B a' w ⟨n',i',c',k1,g2.trans k2,g3,g4.ext k2,fun x => (g5 x).ext k2⟩
end Go.Abs
namespace Go.Proofs.YtjlnpngaiphnmaaGreat
open Go Go.Abs Go.Proofs
variable {H0 H : AH} {h m d N : Nat} {ts : List Term} {ad secret once key : List UInt8} {g : LogM} {ms : List Mem} {ns : List Nd} {r k kd : Nat}
abbrev zeroC : List AV := [.sc (.int .i64 0),.imm 0 [] 0,.imm 0 [] 0,.imm 0 [] 0,.imm 0 [] 0,.imm 0 [] 0,.imm 0 [] 0]
abbrev ii : AObj := .cells [.sc (.int .i64 0),.sc (.slice none 0 0),.sc (.slice none 0 0),.sc (.slice none 0 0),.sc (.slice none 0 0),.sc (.slice none 0 0),.sc (.slice none 0 0)] 27 7
theorem iu : fX i9 = zeroC := by simp [fX,i9,bw]
def sgnM (ts : List Term) (secret : List UInt8) (e : Ent) : List Term × Ent × Int := ((fC ts ⟨103,[secret,fV e]⟩).1,{ e with sig := fP ts ⟨103,[secret,fV e]⟩ },0)
theorem make_arg (hr0 : r ≠ 0) (hbad : ¬ secret.length = 32 ∨ ¬ once.length = 32 ∨ ¬ key.length = 32) : ACalls Tryz.prog 21 [.ptr r 0,iT h,eu secret,eu once,eu key,fE ms,fY ns] H fun v H' => v = .tup [.agg zeroC,.sc (.int .i64 1)] ∧ H' = H := by
  have hc : ¬ secret.length = 32 ∨ (secret.length = 32 ∧ ¬ once.length = 32) ∨ (secret.length = 32 ∧ once.length = 32 ∧ ¬ key.length = 32) := by omega
  rcases hc with h1 | ⟨h1,h2⟩ | ⟨h1,h2,h3⟩
  all_goals
    refine ao (c := ⟨Tryz.prog,133,[(3,[0,0,2,0,0,0,0,0,0]),(18,[0,0,0,0,1,0,0,0,0,0,2,0,2,0,2]),(20,[0,0,1,0,0,0,0,2,0,2]),(1000014,[19]),(4000020,[14,17]),(4000018,[1,2,3,4,14,17,86,87,88]),(4000015,[1,2,3,4,14,17,20,21,86,87,88]),(4000011,[1,2,3,4,5,14,17]),(4000009,[1,2,3,4,5,6,14,17,77]),(4000008,[0,1,2,3,4,5,6,14,17]),(4000005,[0,1,2,3,4,5,6,14,16]),(4000003,[0,1,2,3,4,5,6,14,48]),(4000001,[0,1,2,3,4,5,6,14,38])],[81],[(3,(.op 0 0 (.op 1 0 (.op 3 0 (.op 4 0 (.op 5 0 (.or (.op 2 2 (.op 6 3 (.op 7 0 (.op 8 0 .nil)))) (.op 6 3 (.op 2 2 (.op 7 0 (.op 8 0 .nil))))))))))),(18,(.op 0 0 (.op 2 0 (.op 3 0 (.op 6 0 (.op 7 0 (.op 8 0 (.op 9 0 (.op 4 4 (.op 5 0 (.or (.op 1 3 (.op 10 2 (.op 11 0 (.op 12 3 (.op 13 0 (.op 14 2 .nil)))))) (.op 10 2 (.op 11 0 (.op 1 3 (.op 12 3 (.op 13 0 (.op 14 2 .nil)))))))))))))))))]⟩) (rs := [ResultVar.cell 14 27,ResultVar.tmp 15]) Tryz.mixed Tryz.func21 rfl rfl rfl (Nat.le_of_ble_eq_true rfl) (by kernel_rfl) ?_
    simp (disch := omega) only [↓aI,↓zP,aD,zD,aS,simprocAttr,Tryz.facts,zA]
    intro b14 hb140 hb14
    try simp (disch := omega) only [↓aI,↓zP,aD,zD,aS,simprocAttr,Tryz.facts,zA,ah]
    exact ⟨_,rfl,_,Sub.set_new hb14,rfl,rfl⟩
theorem sig_live (hN : N ≤ 999990) (gt : GT N ts) (h1 : secret.length = 32) (s : SS H0 H h m d ts) : ACalls Tryz.prog 76 [.ptr h 0,eu secret] H fun v H' => v = eu (fP ts ⟨118,[secret]⟩) ∧ SS H0 H' h m d (fC ts ⟨118,[secret]⟩).1 :=
  signer_tell secret (wf1 (k := 118) (a := secret) (by decide) (by omega)).1 (gt.mono (by omega)) h1 s
theorem pub_live (hN : N ≤ 999990) (gt : GT N ts) (h1 : once.length = 32) (s : SS H0 H h m d ts) : ACalls Tryz.prog 75 [.ptr h 0,eu once] H fun v H' => v = eu (fP ts ⟨112,[once]⟩) ∧ SS H0 H' h m d (fC ts ⟨112,[once]⟩).1 :=
  public_tell once (wf1 (k := 112) (a := once) (by decide) (by omega)).1 (gt.mono (by omega)) h1 s
theorem make_admin (gt : GT N ts) (hN : N ≤ 999990) (s : SS H0 H h m d ts) (hr0 : r ≠ 0) (hr : H0 r = some (lgP ad g k kd)) (h1 : secret.length = 32) (h2 : once.length = 32) (h3 : key.length = 32) (hbad : ¬ fP ts ⟨118, [secret]⟩ = ad) :
    ACalls Tryz.prog 21 [.ptr r 0,iT h,eu secret,eu once,eu key,fE ms,fY ns] H fun v H' => v = .tup [.agg zeroC,.sc (.int .i64 23)] ∧ SS H0 H' h m d (fC ts ⟨118,[secret]⟩).1 := by
  have hs := fun (G E : AH) (s : SS G E h m d ts) => sig_live hN gt h1 s
  have hq := iX (fP ts ⟨118,[secret]⟩) ad
  have hq' : (fP ts ⟨118,[secret]⟩ == ad) = false := by simpa using hbad
  rw [hq'] at hq
  generalize fP ts ⟨118,[secret]⟩ = y at *
  generalize (fC ts ⟨118,[secret]⟩).1 = ts1 at *
  refine ao (c := ⟨Tryz.prog,133,[(3,[0,0,2,0,0,0,0,0,0]),(18,[0,0,0,0,1,0,0,0,0,0,2,0,2,0,2]),(20,[0,0,1,0,0,0,0,2,0,2]),(1000014,[19]),(4000020,[14,17]),(4000018,[1,2,3,4,14,17,86,87,88]),(4000015,[1,2,3,4,14,17,20,21,86,87,88]),(4000011,[1,2,3,4,5,14,17]),(4000009,[1,2,3,4,5,6,14,17,77]),(4000008,[0,1,2,3,4,5,6,14,17]),(4000005,[0,1,2,3,4,5,6,14,16]),(4000003,[0,1,2,3,4,5,6,14,48]),(4000001,[0,1,2,3,4,5,6,14,38])],[81],[(3,(.op 0 0 (.op 1 0 (.op 3 0 (.op 4 0 (.op 5 0 (.or (.op 2 2 (.op 6 3 (.op 7 0 (.op 8 0 .nil)))) (.op 6 3 (.op 2 2 (.op 7 0 (.op 8 0 .nil))))))))))),(18,(.op 0 0 (.op 2 0 (.op 3 0 (.op 6 0 (.op 7 0 (.op 8 0 (.op 9 0 (.op 4 4 (.op 5 0 (.or (.op 1 3 (.op 10 2 (.op 11 0 (.op 12 3 (.op 13 0 (.op 14 2 .nil)))))) (.op 10 2 (.op 11 0 (.op 1 3 (.op 12 3 (.op 13 0 (.op 14 2 .nil)))))))))))))))))]⟩) (rs := [ResultVar.cell 14 27,ResultVar.tmp 15]) Tryz.mixed Tryz.func21 rfl rfl rfl (Nat.le_of_ble_eq_true rfl) (by kernel_rfl) ?_
  simp (disch := omega) only [↓aI,↓zP,aD,zD,aS,simprocAttr,Tryz.facts,zA]
  intro b14 hb140 hb14
  have s1 := s.box (o := ii) hb14
  have n14 := bA hr (s.sub.free hb14)
  have r1 := s1.sub r (lgP ad g k kd) (by rw [aP n14]; exact hr)
  try simp (disch := omega) only [↓aI,↓zP,aD,zD,aS,simprocAttr,Tryz.facts,zA]
  refine eI (fun σ F => SS (H0.set b14 ii) F h m d ts1 ∧ σ 48 = .sc (.bool true) ∧ σ 14 = .ptr b14 0) ?_ ?_
  · simp (disch := omega) only [↓aI,↓zP,aD,zD,aS,simprocAttr,Tryz.facts,zA,r1]
    refine And.intro ?_ ?_
    · refine CallK.i (hs _ _ s1) ?_
      rintro v E ⟨rfl,s2⟩
      have r2 := s2.sub r (lgP ad g k kd) (by rw [aP n14]; exact hr)
      try simp (disch := omega) only [↓aI,↓zP,aD,zD,aS,simprocAttr,Tryz.facts,zA,r2]
      first | refine CallK.p (hq) ?_ | refine CallP.i (hq) ?_
      simp (disch := omega) only [↓aI,↓zP,aD,zD,aS,simprocAttr,Tryz.facts,zA]
      exact s2
    · try simp (disch := omega) only [↓aI,↓zP,aD,zD,aS,simprocAttr,Tryz.facts,zA,r1]
      refine CallK.i (hs _ _ s1) ?_
      rintro v E ⟨rfl,s2⟩
      try simp (disch := omega) only [↓aI,↓zP,aD,zD,aS,simprocAttr,Tryz.facts,zA]
      first | refine CallK.p (hq) ?_ | refine CallP.i (hq) ?_
      simp (disch := omega) only [↓aI,↓zP,aD,zD,aS,simprocAttr,Tryz.facts,zA]
      exact s2
  · rintro σ F ⟨s2,s48,s14⟩
    have v14 := s2.sub _ _ set_get
    simp (disch := omega) only [↓aI,↓zP,aD,zD,aS,simprocAttr,Tryz.facts,zA,s48,s14,v14,ah]
    exact ⟨_,rfl,_,Abs.Sub.refl _,rfl,s2.put1.less (Sub.set_new (s.sub.free hb14))⟩
abbrev jV (n : Int) (prev : List UInt8) (ms ns : AV) (once boxes : AV) : AObj := .cells [.sc (.int .i64 n),eu prev,ms,ns,once,boxes,.sc (.slice none 0 0)] 27 7
theorem core_at {f n : _} {v : AV} {prev : List UInt8} {ms : List Mem} {ns : List Nd} {ob : List UInt8} {acc : List (List UInt8)} (h : APure Tryz.prog f [eu [],v] (eu ([] ++ gE ⟨n,prev,ms,ns,ob,acc,[]⟩))) : APure Tryz.prog f [eu [],v] (eu (gE ⟨n,prev,ms,ns,ob,[],[]⟩)) := by
  rw [List.nil_append,show (⟨n,prev,ms,ns,ob,acc,[]⟩ : Ent) = { (⟨n,prev,ms,ns,ob,[],[]⟩ : Ent) with boxes := acc,sig := [] } from rfl,core_boxes] at h
  exact h
theorem digM_le {g : LogM} (hg : OkG g) (n : Int) : (iZ g.D n).length ≤ 32 := by
  unfold iZ
  split
  · simp
  · rename_i h
    have hi : n.toNat - 1 < g.D.length := by omega
    simp only [List.getD,List.getElem?_eq_getElem hi,Option.getD_some]
    exact Nat.le_of_eq (hg.dig _ (List.getElem_mem hi))
theorem make_rest (hg : OkG g) (gt : GT N ts) (hN : N ≤ 999900) (s : SS H0 H h m d ts) (hr0 : r ≠ 0) (hr : H0 r = some (lgP ad g k kd)) (h1 : secret.length = 32) (h2 : once.length = 32) (h3 : key.length = 32) (hgood : fP ts ⟨118, [secret]⟩ = ad) (hms : ms.length ≤ 100000) (hns : ns.length ≤ 100000) :
    ACalls Tryz.prog 21 [.ptr r 0,iT h,eu secret,eu once,eu key,fE ms,fY ns] H fun v H' => v = .tup [.agg (fX (gq ts ad g secret once key ms ns).2.1),.sc (.int .i64 (gq ts ad g secret once key ms ns).2.2)] ∧ SS H0 H' h m d (gq ts ad g secret once key ms ns).1 := by
  have hlen := hg.len
  have hfew := hg.few
  have hs := fun (G E : AH) (s : SS G E h m d ts) => sig_live (N := N) (by omega) gt h1 s
  have g1 := gt.num (wf1 (k := 118) (a := secret) (by decide) (by omega)) fun e => absurd (show (118 : UInt8) = 112 from e) (by decide)
  have hR : gq ts ad g secret once key ms ns = if g.L.length = 65536 then ((fC ts ⟨118, [secret]⟩).1, i9, 14)
      else if (gV ms ns && kM g ms ns) = false then ((fC (fC ts ⟨118,[secret]⟩).1 ⟨112,[once]⟩).1,i9,19)
      else if ¬ (iE (gS (fC ts ⟨118,[secret]⟩).1 g once ms ns) once key (fC (fC ts ⟨118,[secret]⟩).1 ⟨112,[once]⟩).1 ms []).2.2 = 0 then
        ((iE (gS (fC ts ⟨118,[secret]⟩).1 g once ms ns) once key (fC (fC ts ⟨118,[secret]⟩).1 ⟨112,[once]⟩).1 ms []).1,i9,(iE (gS (fC ts ⟨118,[secret]⟩).1 g once ms ns) once key (fC (fC ts ⟨118,[secret]⟩).1 ⟨112,[once]⟩).1 ms []).2.2)
      else sgnM (iE (gS (fC ts ⟨118,[secret]⟩).1 g once ms ns) once key (fC (fC ts ⟨118,[secret]⟩).1 ⟨112,[once]⟩).1 ms []).1 secret { gS (fC ts ⟨118,[secret]⟩).1 g once ms ns with boxes := (iE (gS (fC ts ⟨118,[secret]⟩).1 g once ms ns) once key (fC (fC ts ⟨118,[secret]⟩).1 ⟨112,[once]⟩).1 ms []).2.1 } := by
    unfold gq
    rw [if_neg (by simp [h1,h2,h3]),if_neg (by simp [hgood])]
    rfl
  have hen : ∀ t,(gS t g once ms ns) = ⟨((g.L.length + 1 : Nat) : Int),iZ g.D g.L.length,ms,ns,fP t ⟨112,[once]⟩,[],[]⟩ := fun _ => rfl
  simp only [hen] at hR
  clear hen
  have hdgl := digM_le hg (g.L.length : Nat)
  have hon : (fP (fC ts ⟨118,[secret]⟩).1 ⟨112,[once]⟩).length ≤ 32 := Nat.le_of_eq (gW _ _)
  generalize gq ts ad g secret once key ms ns = R at hR ⊢
  have hq := iX (fP ts ⟨118,[secret]⟩) ad
  have hq' : (fP ts ⟨118,[secret]⟩ == ad) = true := by simpa using hgood
  rw [hq'] at hq
  generalize fP ts ⟨118,[secret]⟩ = y at hs hgood hq hq'
  generalize (fC ts ⟨118,[secret]⟩).1 = ts1 at hs g1 hR hon
  have hpu := fun (G E : AH) (s : SS G E h m d ts1) => pub_live (N := N + 1) (by omega) g1 h2 s
  have g2 := g1.num (wf1 (k := 112) (a := once) (by decide) (by omega)) fun e => by simp [fv]; omega
  have hdl := fun (E : AH) (hE : E r = some (lgP ad g k kd)) => dig_live hg hr0 hE g.L.length (by omega)
  generalize iZ g.D (g.L.length : Nat) = dg at hR hdgl hdl
  generalize fP ts1 ⟨112,[once]⟩ = ob at hR hon hpu
  generalize (fC ts1 ⟨112,[once]⟩).1 = ts2 at hR hpu g2
  have hpp := parts_pure ms ns (by omega) (by omega)
  have hme : ∀ x ∈ g.L.map iF,x.members.length ≤ 1000000 := fun x hx => by
    obtain ⟨y,hy,rfl⟩ := List.mem_map.1 hx
    have := (gH (fy (hg.ent y hy)).2.2.2.1).1
    show y.members.length ≤ _
    omega
  have hfo := fun (hp : gV ms ns = true) (E : AH) (hE : E r = some (lgP ad g k kd)) => by
    have := follows_live E r k (eu ad) (.imm kd (g.D.map eu) g.D.length) (g.L.map iF) ms ns (by rw [List.length_map]; omega) hme (by omega) (by omega) (by rw [← lgP_B]; exact hE)
    rw [fol_both hg hp] at this
    exact this
  have hcp := fun (hp : gV ms ns = true) => copied_pure ms (by omega) (fun x hx => by have := (gH hp).2.2.2.2.1 x hx; omega)
  refine ao (c := ⟨Tryz.prog,133,[(3,[0,0,2,0,0,0,0,0,0]),(18,[0,0,0,0,1,0,0,0,0,0,2,0,2,0,2]),(20,[0,0,1,0,0,0,0,2,0,2]),(1000014,[19]),(4000020,[14,17]),(4000018,[1,2,3,4,14,17,86,87,88]),(4000015,[1,2,3,4,14,17,20,21,86,87,88]),(4000011,[1,2,3,4,5,14,17]),(4000009,[1,2,3,4,5,6,14,17,77]),(4000008,[0,1,2,3,4,5,6,14,17]),(4000005,[0,1,2,3,4,5,6,14,16]),(4000003,[0,1,2,3,4,5,6,14,48]),(4000001,[0,1,2,3,4,5,6,14,38])],[81],[(3,(.op 0 0 (.op 1 0 (.op 3 0 (.op 4 0 (.op 5 0 (.or (.op 2 2 (.op 6 3 (.op 7 0 (.op 8 0 .nil)))) (.op 6 3 (.op 2 2 (.op 7 0 (.op 8 0 .nil))))))))))),(18,(.op 0 0 (.op 2 0 (.op 3 0 (.op 6 0 (.op 7 0 (.op 8 0 (.op 9 0 (.op 4 4 (.op 5 0 (.or (.op 1 3 (.op 10 2 (.op 11 0 (.op 12 3 (.op 13 0 (.op 14 2 .nil)))))) (.op 10 2 (.op 11 0 (.op 1 3 (.op 12 3 (.op 13 0 (.op 14 2 .nil)))))))))))))))))]⟩) (rs := [ResultVar.cell 14 27,ResultVar.tmp 15]) Tryz.mixed Tryz.func21 rfl rfl rfl (Nat.le_of_ble_eq_true rfl) (by kernel_rfl) ?_
  simp (disch := omega) only [↓aI,↓zP,aD,zD,aS,simprocAttr,Tryz.facts,zA]
  intro b14 hb140 hb14
  have s1 := s.box (o := ii) hb14
  have f14 := s.sub.free hb14
  have n14 := bA hr f14
  obtain ⟨B,hB⟩ : ∃ B,B = H0.set b14 ii := ⟨_,rfl⟩
  have hBs : Abs.Sub H0 B := by rw [hB]; exact Sub.set_new f14
  have hBr : B r = some (lgP ad g k kd) := hBs r _ hr
  have hB14 : B b14 = some ii := by rw [hB,set_get]
  have hBz : ∀ o,Abs.Sub H0 (B.set b14 o) := fun o => hBs.set_free f14
  rw [← hB] at s1
  clear hB
  have r1 := s1.sub r _ hBr
  generalize H.set b14 _ = E1 at s1 r1 ⊢
  try simp (disch := omega) only [↓aI,↓zP,aD,zD,aS,simprocAttr,Tryz.facts,zA]
  refine eI (fun σ F => SS B F h m d ts1 ∧ σ 48 = .sc (.bool false) ∧ σ 0 = .ptr r 0 ∧ σ 1 = iT h ∧ σ 2 = eu secret ∧ σ 3 = eu once ∧ σ 4 = eu key ∧ σ 5 = fE ms ∧ σ 6 = fY ns ∧ σ 14 = .ptr b14 0) ?_ ?_
  · simp (disch := omega) only [↓aI,↓zP,aD,zD,aS,simprocAttr,Tryz.facts,zA,r1]
    refine And.intro ?_ ?_
    · refine CallK.i (hs _ _ s1) ?_
      rintro v E ⟨rfl,s2⟩
      have r2 := s2.sub r _ hBr
      try simp (disch := omega) only [↓aI,↓zP,aD,zD,aS,simprocAttr,Tryz.facts,zA,r2]
      first | refine CallK.p (hq) ?_ | refine CallP.i (hq) ?_
      simp (disch := omega) only [↓aI,↓zP,aD,zD,aS,simprocAttr,Tryz.facts,zA]
      exact s2
    · try simp (disch := omega) only [↓aI,↓zP,aD,zD,aS,simprocAttr,Tryz.facts,zA,r1]
      refine CallK.i (hs _ _ s1) ?_
      rintro v E ⟨rfl,s2⟩
      try simp (disch := omega) only [↓aI,↓zP,aD,zD,aS,simprocAttr,Tryz.facts,zA]
      first | refine CallK.p (hq) ?_ | refine CallP.i (hq) ?_
      simp (disch := omega) only [↓aI,↓zP,aD,zD,aS,simprocAttr,Tryz.facts,zA]
      exact s2
  · rintro σ F ⟨s2,s48,s0,s1',s2',s3,s4,s5,s6,s14⟩
    have v14 := s2.sub _ _ hB14
    have r2 := s2.sub r _ hBr
    by_cases hfull : g.L.length = 65536
    · rw [if_pos hfull] at hR
      subst hR
      simp (disch := omega) only [↓aI,↓zP,aD,zD,aS,simprocAttr,Tryz.facts,zA,s48,s0,s1',s2',s3,s4,s5,s6,s14,v14,r2,ah]
      rw [iu]
      exact ⟨_,rfl,_,Abs.Sub.refl _,rfl,(s2.put hB14).less (hBz _)⟩
    rw [if_neg hfull] at hR
    simp (disch := omega) only [↓aI,↓zP,aD,zD,aS,simprocAttr,Tryz.facts,zA,s48,s0,s1',s2',s3,s4,s5,s6,s14,v14,r2]
    refine CallK.i (hdl _ r2) ?_
    rintro v E2 ⟨rfl,rfl⟩
    try simp (disch := omega) only [↓aI,↓zP,aD,zD,aS,simprocAttr,Tryz.facts,zA]
    refine CallK.i (hpu _ _ s2) ?_
    rintro v E3 ⟨rfl,q3⟩
    try simp (disch := omega) only [↓aI,↓zP,aD,zD,aS,simprocAttr,Tryz.facts,zA]
    intro b17 hb170 hb17
    have q4 := q3.box (o := jV ((g.L.length + 1 : Nat) : Int) dg (.sc (.slice none 0 0)) (.sc (.slice none 0 0)) (eu ob) (.sc (.slice none 0 0))) hb17
    have fB17 := q3.sub.free hb17
    have f17 := hBs.free fB17
    have n17 := bA hBr fB17
    have n1417 := bA hB14 fB17
    obtain ⟨C,hC⟩ : ∃ C,C = B.set b17 (jV ((g.L.length + 1 : Nat) : Int) dg (.sc (.slice none 0 0)) (.sc (.slice none 0 0)) (eu ob) (.sc (.slice none 0 0))) := ⟨_,rfl⟩
    have hCs : Abs.Sub H0 C := by rw [hC]; exact hBs.set_free f17
    have hCr : C r = some (lgP ad g k kd) := by rw [hC,aP n17]; exact hBr
    have hC14 : C b14 = some ii := by rw [hC,aP n1417]; exact hB14
    have hC17 : C b17 = some (jV ((g.L.length + 1 : Nat) : Int) dg (.sc (.slice none 0 0)) (.sc (.slice none 0 0)) (eu ob) (.sc (.slice none 0 0))) := by rw [hC,set_get]
    rw [← hC] at q4
    clear hC
    have r4 := q4.sub r _ hCr
    have v4 := q4.sub _ _ hC14
    have w4 := q4.sub _ _ hC17
    try simp (disch := omega) only [↓aI,↓zP,aD,zD,aS,simprocAttr,Tryz.facts,zA,ah]
    generalize hE4 : E3.set b17 _ = E4 at q4 r4 v4 w4 ⊢
    clear hE4 hb17 hpu hdl hs hq hq' s s2 v14 r2 r1 s1 s48 s0 s1' s2' s3 s4 s5 s6 s14
    first | refine CallK.p (hpp) ?_ | refine CallP.i (hpp) ?_
    simp (disch := omega) only [↓aI,↓zP,aD,zD,aS,simprocAttr,Tryz.facts,zA]
    by_cases hp : gV ms ns = true
    rotate_left
    · have hp' : gV ms ns = false := by simpa using hp
      rw [hp',Bool.false_and,if_pos rfl] at hR
      subst hR
      rw [hp']
      try simp (disch := omega) only [↓aI,↓zP,aD,zD,aS,simprocAttr,Tryz.facts,zA,v4,ah]
      rw [iu]
      exact ⟨_,rfl,_,Abs.Sub.refl _,rfl,(q4.put hC14).less (hCs.set_free f14)⟩
    rw [hp,Bool.true_and] at hR
    rw [hp]
    have hfo' := hfo hp E4 r4
    have hcp' := hcp hp
    try simp (disch := omega) only [↓aI,↓zP,aD,zD,aS,simprocAttr,Tryz.facts,zA]
    refine CallK.i hfo' ?_
    rintro v E5 ⟨rfl,rfl⟩
    by_cases hf : kM g ms ns = true
    rotate_left
    · have hf' : kM g ms ns = false := by simpa using hf
      rw [hf',if_pos rfl] at hR
      subst hR
      rw [hf']
      try simp (disch := omega) only [↓aI,↓zP,aD,zD,aS,simprocAttr,Tryz.facts,zA,v4,ah]
      rw [iu]
      exact ⟨_,rfl,_,Abs.Sub.refl _,rfl,(q4.put hC14).less (hCs.set_free f14)⟩
    rw [hf,if_neg (by simp)] at hR
    rw [hf]
    try simp (disch := omega) only [↓aI,↓zP,aD,zD,aS,simprocAttr,Tryz.facts,zA]
    first | refine CallK.p (hcp') ?_ | refine CallP.i (hcp') ?_
    simp (disch := omega) only [↓aI,↓zP,aD,zD,aS,simprocAttr,Tryz.facts,zA]
    intro k1 hk10 hk1
    have hnl : (ns.flatMap ndC).length = ns.length * 2 := fF gZ ns
    try simp (disch := omega) only [↓aI,↓zP,aD,zD,aS,simprocAttr,Tryz.facts,zA,hnl,aj hk1]
    intro k2 o2 hk20 hk2 ho2
    have hk2 := am hk2
    have m17 := bA w4 hk2
    have q5 := (q4.up (Sub.set_new (o := o2) hk2)).put (o' := jV ((g.L.length + 1 : Nat) : Int) dg (fE ms) (.imm k2 (ns.flatMap ndC) ns.length) (eu ob) (.sc (.slice none 0 0))) hC17
    try simp (disch := omega) only [↓aI,↓zP,aD,zD,aS,simprocAttr,Tryz.facts,zA,hnl,aj hk1,aP,m17,w4,ah,ey]
    have hmd := fun i (hi : i < ms.length) => iJ hi
    have hml : (ms.flatMap fL).length = ms.length * 3 := fF fU ms
    obtain ⟨q1,q2,p3,p4,p5,p6⟩ := gH hp
    have hel : ns.length ≤ 1000 := by omega
    have okE : ∀ acc : List (List UInt8),acc.length ≤ 5 → (∀ b ∈ acc,b.length = 48) → OkE ⟨((g.L.length + 1 : Nat) : Int),dg,ms,ns,ob,acc,[]⟩ := fun acc ha hb => ⟨by show dg.length ≤ 5000; omega,by show ms.length ≤ 100; omega,fun m hm => by have := p5 m hm; omega,hel,by show ob.length ≤ 5000; omega,by show acc.length ≤ 100; omega,fun b hb' => by have := hb b hb'; omega,by simp⟩
    have hcl := iz (okE [] (by simp) (by simp))
    have hco := fun acc ha hb => core_at (core_pure [] ⟨((g.L.length + 1 : Nat) : Int),dg,ms,ns,ob,acc,[]⟩ (by simp) (okE acc ha hb))
    have hwh := fun acc ha hb => kQ [] ⟨((g.L.length + 1 : Nat) : Int),dg,ms,ns,ob,acc,[]⟩ (by simp) (okE acc ha hb)
    have hwl := fun acc ha hb => iM (okE acc ha hb)
    simp only [List.nil_append] at hwh
    have e17 : (C.set b17 (jV ((g.L.length + 1 : Nat) : Int) dg (fE ms) (.imm k2 (ns.flatMap ndC) ns.length) (eu ob) (.sc (.slice none 0 0)))) b14 = some ii := by rw [aP n1417]; exact hC14
    have hbk := fun (nn id : Int) (p : List UInt8) (hp : p.length = 32) (N' : Nat) (t : List Term) (hN' : N' ≤ 999980) (G E : AH) (gt : GT N' t) (s : SS G E h m d t) => bky_tell nn id once p (by omega) (by omega) (by omega) gt s
    have hbs := fun (nn id : Int) (p : List UInt8) (N' : Nat) (t : List Term) (gt : GT N' t) => jl gt (n := nn) (id := id) (s := once) (p := p)
    generalize hNN : ((g.L.length + 1 : Nat) : Int) = nn at hR okE hcl hco hwh hwl e17 q5 ⊢
    generalize hcc : gE ⟨nn,dg,ms,ns,ob,[],[]⟩ = CC at hcl hco
    clear okE hfo hfo' hcp hcp' hpp r4 v4
    have hse := fun (key' : List UInt8) (hk : key'.length = 32) (N' : Nat) (t : List Term) (hN' : N' ≤ 999980) (G E : AH) (gt : GT N' t) (s : SS G E h m d t) => seal_tell key' 1 CC key (by omega) (wf4 (a := key') (b := fh 8 1) (c := CC) (e := key) (k := 98) (by omega) (by rw [fe]; omega) (by omega) (by omega)).1 (gt.mono (by omega)) hk s
    unfold TellR at hse
    generalize hE6 : (E5.set k2 o2).set b17 _ = E6 at q5 ⊢
    clear hE6
    have w6 := q5.sub b17 _ set_get
    refine tok_c b17 5 w6 rfl fun kt hkt0 hkt => ?_
    have mt := bA w6 hkt
    have fCk := am (q5.sub.free hkt)
    have fkt := hCs.free fCk
    have q6 := (q5.box (o := .nilt) hkt).put (b := b17) (o' := jV nn dg (fE ms) (.imm k2 (ns.flatMap ndC) ns.length) (eu ob) (.imm kt [] 0)) (by rw [aP mt]; exact set_get)
    obtain ⟨RB,hRB⟩ : ∃ RB,iE ⟨nn,dg,ms,ns,ob,[],[]⟩ once key ts2 ms [] = RB := ⟨_,rfl⟩
    rw [hRB] at hR
    refine br (c := ⟨Tryz.prog,133,[(3,[0,0,2,0,0,0,0,0,0]),(18,[0,0,0,0,1,0,0,0,0,0,2,0,2,0,2]),(20,[0,0,1,0,0,0,0,2,0,2]),(1000014,[19]),(4000020,[14,17]),(4000018,[1,2,3,4,14,17,86,87,88]),(4000015,[1,2,3,4,14,17,20,21,86,87,88]),(4000011,[1,2,3,4,5,14,17]),(4000009,[1,2,3,4,5,6,14,17,77]),(4000008,[0,1,2,3,4,5,6,14,17]),(4000005,[0,1,2,3,4,5,6,14,16]),(4000003,[0,1,2,3,4,5,6,14,48]),(4000001,[0,1,2,3,4,5,6,14,38])],[81],[(3,(.op 0 0 (.op 1 0 (.op 3 0 (.op 4 0 (.op 5 0 (.or (.op 2 2 (.op 6 3 (.op 7 0 (.op 8 0 .nil)))) (.op 6 3 (.op 2 2 (.op 7 0 (.op 8 0 .nil))))))))))),(18,(.op 0 0 (.op 2 0 (.op 3 0 (.op 6 0 (.op 7 0 (.op 8 0 (.op 9 0 (.op 4 4 (.op 5 0 (.or (.op 1 3 (.op 10 2 (.op 11 0 (.op 12 3 (.op 13 0 (.op 14 2 .nil)))))) (.op 10 2 (.op 11 0 (.op 1 3 (.op 12 3 (.op 13 0 (.op 14 2 .nil)))))))))))))))))]⟩) Tryz.mixed (by kernel_rfl) (fun mm σ E => ∃ (i kt : Nat) (o : AObj) (D : AH) (t : List Term) (acc : List (List UInt8)),i + mm = ms.length ∧ acc.length = i ∧ (∀ b ∈ acc,b.length = 48) ∧ SS D E h m d t ∧ GT (N + 2 + 3 * i) t ∧ Abs.Sub H0 D ∧ D b14 = some ii ∧ D b17 = some (jV nn dg (fE ms) (.imm k2 (ns.flatMap ndC) ns.length) (eu ob) (.imm kt (acc.map eu) acc.length)) ∧
      D kt = some o ∧ kt ≠ 0 ∧ H0 kt = none ∧ cy 22 1 o acc.length ∧ iE ⟨nn,dg,ms,ns,ob,[],[]⟩ once key t (ms.drop i) acc = RB ∧
      σ 1 = iT h ∧ σ 2 = eu secret ∧ σ 3 = eu once ∧ σ 4 = eu key ∧ σ 14 = .ptr b14 0 ∧ σ 17 = .ptr b17 0 ∧ σ 86 = fE ms ∧ σ 87 = .sc (.int .i64 (ms.length : Nat)) ∧ σ 88 = .sc (.int .i64 (i : Nat))) ms.length ?_ ?_
    · refine ⟨0,kt,.nilt,_,ts2,[],by omega,rfl,by simp,q6,g2,?_,?_,set_get,?_,hkt0,?_,.inr ⟨rfl,rfl⟩,hRB,?_⟩
      · exact ((hCs.set_free f17).set_free fkt).set_free f17
      · rw [aP n1417,aP (bA hC14 fCk),aP n1417]; exact hC14
      · rw [aP (fun e => mt e.symm),set_get]
      · exact fkt
      · simp (disch := omega) only [↓aI,↓zP,aD,zD,aS,simprocAttr,Tryz.facts,zA]
    · rintro mm σ E ⟨i,kt,o,D,t,acc,him,hac,hab,sD,gD,hDs,hD14,hD17,hDk,hk0,hHk,ho,hrb,s1,s2,s3,s4,s14,s17,s86,s87,s88⟩
      have w := sD.sub _ _ hD17
      have v := sD.sub _ _ hD14
      have tk := sD.sub _ _ hDk
      by_cases hlt : i < ms.length
      · have hd : ms.drop i = ms[i] :: ms.drop (i + 1) := List.drop_eq_getElem_cons hlt
        have hl := hmd i hlt
        have hc3 : i * 3 + 3 ≤ ms.length * 3 := by omega
        have hm5 := p5 _ (List.getElem_mem hlt)
        have hb1 := fun (E : AH) (s : SS D E h m d t) => hbk nn (ms[i]).id (ms[i]).pub hm5.1 _ t (by omega) D E gD s
        have hb2 := hbs nn (ms[i]).id (ms[i]).pub _ t gD
        rw [hd] at hrb
        unfold iE at hrb
        simp only [] at hrb
        generalize gR t nn (ms[i]).id once (ms[i]).pub = BK at hb1 hb2 hrb
        generalize ms[i] = mb at hl hm5 hb1
        obtain ⟨mi,mp,mg⟩ := mb
        obtain ⟨t1,bk,be⟩ := BK
        simp only [] at hb1 hb2 hrb hl
        obtain ⟨gB,pB,lB,eB⟩ := hb2
        simp (disch := omega) only [↓aI,↓zP,aD,zD,aS,simprocAttr,Tryz.facts,zA,s1,s2,s3,s4,s14,s17,s86,s87,s88,hml,hl,hc3]
        intro b19 hb190 hb19
        rw [aj hb19]
        try simp (disch := omega) only [↓aI,↓zP,aD,zD,aS,simprocAttr,Tryz.facts,zA,s1,s2,s3,s4,s14,s17,s86,s87,s88,w,ah]
        refine CallK.i (hb1 E sD) ?_
        rintro vv E1 ⟨rfl,sD1⟩
        have w1 := sD1.sub _ _ hD17
        have v1 := sD1.sub _ _ hD14
        generalize hbz : (be != 0) = bz
        simp (disch := omega) only [↓aI,↓zP,aD,zD,aS,simprocAttr,Tryz.facts,hbz]
        refine condT.both (fun hb => ?_) (fun hb => ?_)
        · have hz : ¬ be = 0 := by rw [hb] at hbz; simpa using hbz
          rw [if_pos hz] at hrb
          subst hrb
          rw [if_pos hz] at hR
          subst hR
          simp (disch := omega) only [↓aI,↓zP,aD,zD,aS,simprocAttr,Tryz.facts,zA,s1,s2,s3,s4,s14,s17,s86,s87,s88,w1,v1,ah]
          rw [iu]
          exact ⟨_,rfl,_,Abs.Sub.refl _,rfl,(sD1.put hD14).less (hDs.set_free f14)⟩
        · have hz : be = 0 := by rw [hb] at hbz; simpa using hbz
          rw [if_neg (by simp [hz])] at hrb
          have lk := lB hz
          have hs1 := fun (G E : AH) (s : SS G E h m d t1) => hse bk lk _ t1 (by omega) G E gB s
          have hbx : (fP t1 (il bk 1 CC key)).length = 48 := by rw [gW]; show key.length + 16 = 48; omega
          have g3 := gB.num (wf4 (a := bk) (b := fh 8 1) (c := CC) (e := key) (k := 98) (by omega) (by rw [fe]; omega) (by omega) (by omega)) fun e => absurd (show (98 : UInt8) = 112 from e) (by decide)
          rw [hcc] at hrb
          rw [show fW ⟨98,[bk,fh 8 1,CC,key]⟩ (fC t1 ⟨98,[bk,fh 8 1,CC,key]⟩).2 = fP t1 (il bk 1 CC key) from rfl] at hs1
          generalize fP t1 (il bk 1 CC key) = bx at hs1 hbx hrb
          rw [show (⟨98,[bk,fh 8 1,CC,key]⟩ : Term) = il bk 1 CC key from rfl] at hs1 g3
          generalize (fC t1 (il bk 1 CC key)).1 = t3 at hs1 g3 hrb
          have hco1 := hco acc (by omega) hab
          simp (disch := omega) only [↓aI,↓zP,aD,zD,aS,simprocAttr,Tryz.facts,zA]
          have nk17 : ¬ b17 = kt := by
            rintro rfl
            rw [hD17] at hDk
            cases hDk
            rcases ho.cases3 with h | ⟨_,h⟩ | ⟨_,_,h⟩ <;> cases h
          have nk14 : ¬ b14 = kt := by
            rintro rfl
            rw [hD14] at hDk
            cases hDk
            rcases ho.cases3 with h | ⟨_,h⟩ | ⟨_,_,h⟩ <;> cases h
          have fin : ∀ (F E2 : AH) (k3 : Nat) (o3 : AObj),SS D E2 h m d t3 → ¬ k3 = 0 → E2 k3 = none → cy 22 1 o3 (acc.length + 1) →
            F = (((E2.kill kt).set k3 o3).set b17 (jV nn dg (fE ms) (.imm k2 (ns.flatMap ndC) ns.length) (eu ob) (.imm k3 (acc.map eu ++ [eu bx]) (acc.length + 1)))) → (∃ (kt' : Nat) (o' : AObj) (D' : AH),SS D' F h m d t3 ∧ Abs.Sub H0 D' ∧ D' b14 = some ii ∧ D' b17 = some (jV nn dg (fE ms) (.imm k2 (ns.flatMap ndC) ns.length) (eu ob) (.imm kt' (acc.map eu ++ [eu bx]) (acc.length + 1))) ∧
              D' kt' = some o' ∧ kt' ≠ 0 ∧ H0 kt' = none ∧ cy 22 1 o' (acc.length + 1)) := fun F E2 k3 o3 sE h30 hf ht3 hF => by
            have fk := sE.sub.free hf
            have n1 := bA hD17 fk
            have n2 := bA hD14 fk
            have n3 : ¬ k3 = b17 := fun e => n1 e.symm
            have q1 := (sE.kill hDk).box (o := o3) (b := k3) (by simp [AH.kill,hf])
            have q2 := q1.put (b := b17) (o' := jV nn dg (fE ms) (.imm k2 (ns.flatMap ndC) ns.length) (eu ob) (.imm k3 (acc.map eu ++ [eu bx]) (acc.length + 1))) (by rw [aP n1,bZ nk17]; exact hD17)
            rw [← hF] at q2
            refine ⟨k3,o3,_,q2,((hDs.kill_free hHk).set_free (hDs.free fk)).set_free f17,?_,set_get,?_,h30,hDs.free fk,ht3⟩
            · rw [aP n1417,aP n2,bZ nk14]; exact hD14
            · rw [aP n3,set_get]
          refine eI (fun σ F => (∃ (kt' : Nat) (o' : AObj) (D' : AH), SS D' F h m d t3 ∧ Abs.Sub H0 D' ∧ D' b14 = some ii ∧ D' b17 = some (jV nn dg (fE ms) (.imm k2 (ns.flatMap ndC) ns.length) (eu ob) (.imm kt' (acc.map eu ++ [eu bx]) (acc.length + 1))) ∧
              D' kt' = some o' ∧ kt' ≠ 0 ∧ H0 kt' = none ∧ cy 22 1 o' (acc.length + 1)) ∧ σ 1 = iT h ∧ σ 2 = eu secret ∧ σ 3 = eu once ∧ σ 4 = eu key ∧ σ 14 = .ptr b14 0 ∧ σ 17 = .ptr b17 0 ∧ σ 86 = fE ms ∧ σ 87 = .sc (.int .i64 (ms.length : Nat)) ∧ σ 88 = .sc (.int .i64 (i : Nat))) ?_ ?_
          · have hal : (acc.map eu).length = acc.length := List.length_map _
            simp (disch := omega) only [↓aI,↓zP,aD,zD,aS,simprocAttr,Tryz.facts,zA,s1,s2,s3,s4,s14,s17,s86,s87,s88,w1,v1]
            first | refine CallK.p (hco1) ?_ | refine CallP.i (hco1) ?_
            simp (disch := omega) only [↓aI,↓zP,aD,zD,aS,simprocAttr,Tryz.facts,zA,s1,s2,s3,s4,s14,s17,s86,s87,s88,w1,v1]
            refine And.intro ?_ ?_
            · try simp (disch := omega) only [↓aI,↓zP,aD,zD,aS,simprocAttr,Tryz.facts,zA,w1,s17]
              refine CallK.i (hs1 _ _ sD1) ?_
              rintro vv E2 ⟨rfl,sE2⟩
              have w2 := sE2.sub _ _ hD17
              have tk2 := sE2.sub _ _ hDk
              try simp (disch := omega) only [↓aI,↓zP,aD,zD,aS,simprocAttr,Tryz.facts,zA,tk2,ho,hal]
              intro k3 o3 hk30 hk3 ho3
              have nb3 := bA w2 hk3
              try simp (disch := omega) only [↓aI,↓zP,aD,zD,aS,simprocAttr,Tryz.facts,zA,tk2,ho,hal,aP,nb3,bZ,nk17,w2,ah,s17,s1,s2,s3,s4,s14,s86,s87,s88]
              exact fin _ E2 k3 o3 sE2 hk30 hk3 ho3 rfl
            · refine CallK.i (hs1 _ _ sD1) ?_
              rintro vv E2 ⟨rfl,sE2⟩
              have w2 := sE2.sub _ _ hD17
              have tk2 := sE2.sub _ _ hDk
              try simp (disch := omega) only [↓aI,↓zP,aD,zD,aS,simprocAttr,Tryz.facts,zA,w2,s17]
              try simp (disch := omega) only [↓aI,↓zP,aD,zD,aS,simprocAttr,Tryz.facts,zA,tk2,ho,hal]
              intro k3 o3 hk30 hk3 ho3
              have nb3 := bA w2 hk3
              try simp (disch := omega) only [↓aI,↓zP,aD,zD,aS,simprocAttr,Tryz.facts,zA,tk2,ho,hal,aP,nb3,bZ,nk17,w2,ah,s17,s1,s2,s3,s4,s14,s86,s87,s88]
              exact fin _ E2 k3 o3 sE2 hk30 hk3 ho3 rfl
          · rintro σ' F ⟨⟨kt',o',D',p1,p2,p3,p4,p5,p6,p7,p8⟩,s1,s2,s3,s4,s14,s17,s86,s87,s88⟩
            simp (disch := omega) only [↓aI,↓zP,aD,zD,aS,simprocAttr,Tryz.facts,zA,s1,s2,s3,s4,s14,s17,s86,s87,s88]
            have hab' : ∀ b ∈ acc ++ [bx],b.length = 48 := fun b hb => by
              rcases List.mem_append.1 hb with hb | hb
              · exact hab b hb
              · rw [List.mem_singleton.1 hb]; exact hbx
            refine ⟨mm - 1,by omega,i + 1,kt',o',D',t3,acc ++ [bx],by omega,by simp [hac],hab',p1,g3.mono (by omega),p2,p3,?_,p5,p6,p7,?_,hrb,?_⟩
            · rw [p4]; simp
            · simpa using p8
            · rfl
      · obtain rfl : i = ms.length := by omega
        rw [List.drop_length] at hrb
        unfold iE at hrb
        subst hrb
        rw [if_neg (by simp)] at hR
        subst hR
        have hwh1 := hwh acc (by omega) hab
        have hwl1 := hwl acc (by omega) hab
        have hsg := fun (G E : AH) (s : SS G E h m d t) => sign_tell secret (fV ⟨nn,dg,ms,ns,ob,acc,[]⟩) (wf2 (k := 103) (a := secret) (b := fV ⟨nn,dg,ms,ns,ob,acc,[]⟩) (by decide) (by omega) (by omega)).1 (gD.mono (by omega)) h1 s
        unfold TellR at hsg
        rw [show fW ⟨103,[secret,fV ⟨nn,dg,ms,ns,ob,acc,[]⟩]⟩ (fC t ⟨103,[secret,fV ⟨nn,dg,ms,ns,ob,acc,[]⟩]⟩).2 = fP t ⟨103,[secret,fV ⟨nn,dg,ms,ns,ob,acc,[]⟩]⟩ from rfl] at hsg
        unfold sgnM
        generalize fP t ⟨103,[secret,fV ⟨nn,dg,ms,ns,ob,acc,[]⟩]⟩ = sg at hsg ⊢
        generalize (fC t ⟨103,[secret,fV ⟨nn,dg,ms,ns,ob,acc,[]⟩]⟩).1 = t5 at hsg ⊢
        generalize fV ⟨nn,dg,ms,ns,ob,acc,[]⟩ = W at hsg hwh1 hwl1 ⊢
        simp (disch := omega) only [↓aI,↓zP,aD,zD,aS,simprocAttr,Tryz.facts,zA,s1,s2,s3,s4,s14,s17,s86,s87,s88,w]
        first | refine CallK.p (hwh1) ?_ | refine CallP.i (hwh1) ?_
        simp (disch := omega) only [↓aI,↓zP,aD,zD,aS,simprocAttr,Tryz.facts,zA,s1,s2,s3,s4,s14,s17,s86,s87,s88,w]
        refine CallK.i (hsg _ _ sD) ?_
        rintro vv E2 ⟨rfl,sE2⟩
        have w2 := sE2.sub _ _ hD17
        have v2 := sE2.sub _ _ hD14
        have n1714 : ¬ b17 = b14 := fun e => n1417 e.symm
        try simp (disch := omega) only [↓aI,↓zP,aD,zD,aS,simprocAttr,Tryz.facts,zA,w2,v2,aP,n1417,n1714,ah,s14,s17]
        exact ⟨_,rfl,_,Abs.Sub.refl _,rfl,((sE2.put hD17).put (by rw [aP n1417]; exact hD14)).less ((hDs.set_free f17).set_free f14)⟩
theorem make_live (hg : OkG g) (gt : GT N ts) (hN : N ≤ 999900) (s : SS H0 H h m d ts) (hr0 : r ≠ 0) (hr : H0 r = some (lgP ad g k kd)) (hms : ms.length ≤ 100000) (hns : ns.length ≤ 100000) :
    ACalls Tryz.prog 21 [.ptr r 0,iT h,eu secret,eu once,eu key,fE ms,fY ns] H fun v H' => v = .tup [.agg (fX (gq ts ad g secret once key ms ns).2.1),.sc (.int .i64 (gq ts ad g secret once key ms ns).2.2)] ∧ SS H0 H' h m d (gq ts ad g secret once key ms ns).1 := by
  by_cases hbad : ¬ secret.length = 32 ∨ ¬ once.length = 32 ∨ ¬ key.length = 32
  · have hR : gq ts ad g secret once key ms ns = (ts,i9,1) := if_pos hbad
    rw [hR,iu]
    refine (make_arg hr0 hbad).mono ?_
    rintro v H' ⟨rfl,rfl⟩
    exact ⟨rfl,s⟩
  · have h1 : secret.length = 32 := by omega
    have h2 : once.length = 32 := by omega
    have h3 : key.length = 32 := by omega
    by_cases hgood : fP ts ⟨118,[secret]⟩ = ad
    · exact make_rest hg gt hN s hr0 hr h1 h2 h3 hgood hms hns
    · have hR : gq ts ad g secret once key ms ns = ((fC ts ⟨118, [secret]⟩).1, i9, 23) := by
        unfold gq
        rw [if_neg hbad,if_pos hgood]
      rw [hR,iu]
      refine (make_admin gt (by omega) s hr0 hr h1 h2 h3 hgood).mono ?_
      rintro v H' ⟨rfl,s1⟩
      exact ⟨rfl,s1⟩
end Go.Proofs.YtjlnpngaiphnmaaGreat
end
section
set_option linter.unusedSimpArgs false
set_option linter.unusedVariables false
set_option maxRecDepth 20000
set_option maxHeartbeats 16000000
namespace Go.Proofs.YtjlnpngaiphnmaaGreat
open Go Go.Abs Go.Proofs
abbrev lgM (ad : List UInt8) (g : LogM) : List AV := [eu ad,.imm 0 (g.L.flatMap fX) g.L.length,.imm 0 (g.D.map eu) g.D.length]
theorem rdig_pure {ad : List UInt8} {g : LogM} (hg : OkG g) (n : Int) (hn : n ≤ 100000) : APure Tryz.prog 91 [.agg (lgM ad g),.sc (.int .i64 n)] (eu (iZ g.D n)) := by
  have hlen := hg.len
  have hfew := hg.few
  by_cases h1 : 1 ≤ n ∧ n ≤ g.D.length
  · obtain ⟨i,rfl⟩ : ∃ i : Nat,n = (i : Int) + 1 := ⟨(n - 1).toNat,by omega⟩
    have hi : i < g.D.length := by omega
    have e : iZ g.D ((i : Int) + 1) = g.D[i] := digM_get hi
    have hb := box_get' hi
    have ei : ((i : Int) + 1 - 1).toNat = i := by omega
    rw [e]
    generalize g.D[i] = x at *
    refine az (c := ⟨Tryz.prog,20,[(1000000,[2])],[],[]⟩) (rs := [ResultVar.tmp 4]) Tryz.mixed Tryz.func91 rfl rfl rfl (Nat.le_of_ble_eq_true rfl) (by kernel_rfl) fun H => ?_
    simp (disch := omega) only [↓aI,↓zP,aD,zD,aS,simprocAttr,Tryz.facts,zA]
    intro k2 hk20 hk2
    rw [aj hk2]
    try simp (disch := omega) only [↓aI,↓zP,aD,zD,aS,simprocAttr,Tryz.facts,zA,hb,ei]
    exact Abs.Sub.refl _
  · have hz : iZ g.D n = [] := by unfold iZ; rw [if_pos (by omega)]
    rw [hz]
    by_cases h3 : n < 1
    · refine az (c := ⟨Tryz.prog,20,[(1000000,[2])],[],[]⟩) (rs := [ResultVar.tmp 4]) Tryz.mixed Tryz.func91 rfl rfl rfl (Nat.le_of_ble_eq_true rfl) (by kernel_rfl) fun H => ?_
      simp (disch := omega) only [↓aI,↓zP,aD,zD,aS,simprocAttr,Tryz.facts,zA]
      intro k2 hk20 hk2
      rw [aj hk2]
      try simp (disch := omega) only [↓aI,↓zP,aD,zD,aS,simprocAttr,Tryz.facts,zA]
      exact ⟨rfl,Abs.Sub.refl _⟩
    · refine az (c := ⟨Tryz.prog,20,[(1000000,[2])],[],[]⟩) (rs := [ResultVar.tmp 4]) Tryz.mixed Tryz.func91 rfl rfl rfl (Nat.le_of_ble_eq_true rfl) (by kernel_rfl) fun H => ?_
      simp (disch := omega) only [↓aI,↓zP,aD,zD,aS,simprocAttr,Tryz.facts,zA]
      intro k2 hk20 hk2
      rw [aj hk2]
      try simp (disch := omega) only [↓aI,↓zP,aD,zD,aS,simprocAttr,Tryz.facts,zA]
      exact ⟨rfl,Abs.Sub.refl _⟩
variable {N d : Nat} {ts : List Term} {ad : List UInt8} {g : LogM} {e : Ent}
theorem rtake_pure (hg : OkG g) (he : OkE e) (gt : GT N ts) (hN : N ≤ 999990) : APure Tryz.prog 79 [.agg (lgM ad g), fw ts d, .agg (fX e)]
    (.tup [.agg (lgM ad (gO ts ad g e).2.1),fw (gO ts ad g e).1 d,.sc (.int .i64 (gO ts ad g e).2.2)]) := by
  have hrp := jx e (by have := he.ml; omega) (by have := he.el; omega) (by have := he.bl; omega)
  have hw := rwhole_pure [] e (by simp) he
  rw [List.nil_append] at hw
  have hwl := iM he
  have hh := vhash_pure ts d (fV e) (wf_hash he).1 gt.ok (by have := gt.len; omega)
  rw [show fW ⟨104,[fV e]⟩ (fC ts ⟨104,[fV e]⟩).2 = fP ts (gQ e) from rfl] at hh
  have hlen := hg.len
  have hfew := hg.few
  have hv := vverify_pure ts d ad (fV e) e.sig gt.wf (by have := gt.len; omega)
  have hml : e.members.length ≤ 100 := he.ml
  have hel : e.ends.length ≤ 1000 := he.el
  have hme : ∀ x ∈ g.L,x.members.length ≤ 1000000 := fun x hx => by
    have := (gH (fy (hg.ent x hx)).2.2.2.1).1
    omega
  have hfo := rfollows_pure (eu ad) g.L (.imm 0 (g.D.map eu) g.D.length) e.members e.ends (by omega) hme (by omega) (by omega)
  have hd1 := rdig_pure (ad := ad) hg g.L.length (by omega)
  have hd2 := fun h => rdig_pure (ad := ad) hg e.n h
  have hn2 : gK e = true → 1 ≤ e.n ∧ e.n ≤ 65536 := fun h => ⟨(fy h).1,(fy h).2.1⟩
  have hLe : ((g.L ++ [e])).flatMap fX = g.L.flatMap fX ++ fX e := by
    rw [List.flatMap_append]; simp
  have hDe : ∀ y,(g.D ++ [y]).map eu = g.D.map eu ++ [eu y] := fun y => by rw [List.map_append]; rfl
  have hLc : (g.L.flatMap fX).length = g.L.length * 7 := fF i7 _
  have hDc : (g.D.map eu).length = g.D.length := List.length_map _
  have hR : gO ts ad g e = if gK e = false then (ts, g, 1) else if e.n ≤ (g.L.length : Int) then ((fC ts (gQ e)).1, g, if fP ts (gQ e) = iZ g.D e.n then 16 else 18)
      else if ¬ e.n = (g.L.length : Int) + 1 then (ts,g,15) else if ¬ e.prev = iZ g.D g.L.length then (ts,g,17) else if verT ts ad (fV e) e.sig = false then (ts,g,10)
      else if kM g e.members e.ends = false then (ts,g,19) else ((fC ts (gQ e)).1,⟨g.L ++ [e],g.D ++ [fP ts (gQ e)]⟩,0) := rfl
  rw [show folD (iK g.L) e.members (j6 (List.map Ent.members g.L)) [0,1,2,3,4] e.ends = kM g e.members e.ends from rfl] at hfo
  unfold fw lgM at *
  generalize gO ts ad g e = R at *
  generalize gK e = rt at *
  generalize fP ts (gQ e) = y at *
  generalize (fC ts (gQ e)).1 = ts1 at *
  generalize fV e = W at *
  generalize verT ts ad W e.sig = vq at *
  generalize kM g e.members e.ends = fq at *
  generalize iZ g.D g.L.length = dg at *
  generalize iZ g.D e.n = dn at *
  obtain ⟨n,prev,ms,ns,once,bs,sig⟩ := e
  simp only [fX] at *
  refine az (c := ⟨Tryz.prog,113,[(2,[1,0,2,2,0]),(5,[0,0,0,0,0,0,0,2,2,0]),(6,[0,0,1,0,1,0,0,0]),(7,[1,0,2,2,0]),(8,[1,0,2,2,0]),(10,[1,0,2,2,0]),(11,[0,1,0,1,0,0,0,0]),(12,[1,0,2,2,0]),(13,[1,0,1,1,0,0,1,0,0]),(14,[1,0,2,2,0]),(16,[1,0,2,2,0]),(17,[0,0,0,0,0,0,0,2,2,0]),(19,[0,1,0,1,2,0,0,2,0,2]),(21,[1,0,2,2,0]),(1000000,[5,4,3]),(1000005,[10]),(1000017,[12]),(4000021,[6,7,8]),(4000020,[6,7,12,14]),(4000019,[3,6,7,12,13,14]),(4000018,[3,5,6,7,12,13,14]),(4000017,[3,5,6,7,12,13]),(4000016,[6,7,8]),(4000015,[3,4,5,6,7,80]),(4000014,[6,7,8]),(4000013,[3,4,5,6,7,71]),(4000012,[6,7,8]),(4000011,[3,4,5,6,7,60]),(4000010,[6,7,8]),(4000009,[3,4,5,6,7,9,50]),(4000008,[6,7,8]),(4000007,[6,7,8]),(4000006,[3,6,7,10,41]),(4000005,[3,5,6,7,10,11]),(4000002,[6,7,8]),(4000000,[3,4,5,6,7])],[],[(19,(.op 0 0 (.op 2 0 (.op 3 0 (.op 5 0 (.op 6 0 (.op 1 4 (.op 4 3 (.op 7 3 (.op 8 0 (.op 9 2 .nil)))))))))))]⟩) (rs := [ResultVar.cell 6 54,ResultVar.cell 7 51,ResultVar.tmp 8]) Tryz.mixed Tryz.func79 rfl rfl rfl (Nat.le_of_ble_eq_true rfl) (by kernel_rfl) fun H => ?_
  simp (disch := omega) only [↓aI,↓zP,aD,zD,aS,simprocAttr,Tryz.facts,zA]
  intro b3 hb30 hb3 b4 hb40 hb4 b5 hb50 hb5 b6 hb60 hb6 b7 hb70 hb7
  have n67 := bK hb7
  have n76 : ¬ b7 = b6 := fun e => n67 e.symm
  have n36 := bK (am (am hb6))
  have n46 := bK (am hb6)
  have n56 := bK hb6
  have n37 := bK (am (am (am hb7)))
  have n47 := bK (am (am hb7))
  have n57 := bK (am hb7)
  have f6 := am (am (am hb6))
  have f7 := am (am (am (am hb7)))
  have hsub : ∀ x y : AObj,Abs.Sub H ((H.set b6 x).set b7 y) := fun x y => ((Abs.Sub.refl H).set_free f6).set_free f7
  simp (disch := omega) only [↓aI,↓zP,aD,zD,aS,simprocAttr,Tryz.facts,zA,aP,n67,n76,ah,fD n67,ey,gU,gj,n36,n37,n46,n47,n56,n57,gI hb3,gI hb4,gI hb5]
  clear hb6 hb7
  cases rt
  · rw [if_pos rfl] at hR
    subst hR
    first | refine CallK.p (hrp) ?_ | refine CallP.i (hrp) ?_
    simp (disch := omega) only [↓aI,↓zP,aD,zD,aS,simprocAttr,Tryz.facts,zA,aP,n67,n76,ah,fD n67,ey]
    exact hsub _ _
  rw [if_neg (by simp)] at hR
  first | refine CallK.p (hrp) ?_ | refine CallP.i (hrp) ?_
  simp (disch := omega) only [↓aI,↓zP,aD,zD,aS,simprocAttr,Tryz.facts,zA,aP,n67,n76,ah,fD n67,ey,bO]
  obtain ⟨m1,m2⟩ := hn2 rfl
  by_cases c0 : n ≤ (g.L.length : Int)
  · rw [if_pos c0] at hR
    subst hR
    try simp (disch := omega) only [↓aI,↓zP,aD,zD,aS,simprocAttr,Tryz.facts,zA,aP,n67,n76,ah,fD n67,ey,bO]
    first | refine CallK.p (hw) ?_ | refine CallP.i (hw) ?_
    simp (disch := omega) only [↓aI,↓zP,aD,zD,aS,simprocAttr,Tryz.facts,zA,aP,n67,n76,ah,fD n67,ey,bO]
    first | refine CallK.p (hh) ?_ | refine CallP.i (hh) ?_
    simp (disch := omega) only [↓aI,↓zP,aD,zD,aS,simprocAttr,Tryz.facts,zA,aP,n67,n76,ah,fD n67,ey,bO]
    intro b10 hb100 hb10
    have m610 := bK (am hb10)
    have m106 : ¬ b10 = b6 := fun e => m610 e.symm
    have m710 := bK hb10
    have m107 : ¬ b10 = b7 := fun e => m710 e.symm
    have f10 := am (am hb10)
    try simp (disch := omega) only [↓aI,↓zP,aD,zD,aS,simprocAttr,Tryz.facts,zA,aP,n67,n76,ah,fD n67,ey,bO,m610,m106,m710,m107,gU,gj,gI f10]
    first | refine CallK.p (hd2 (by omega)) ?_ | refine CallP.i (hd2 (by omega)) ?_
    simp (disch := omega) only [↓aI,↓zP,aD,zD,aS,simprocAttr,Tryz.facts,zA,aP,n67,n76,ah,fD n67,ey,bO,m610,m106,m710,m107,gU,gj,gI f10]
    by_cases c : y = dn
    · have cb : (y == dn) = true := by simpa using c
      rw [if_pos c]
      try simp (disch := omega) only [↓aI,↓zP,aD,zD,aS,simprocAttr,Tryz.facts,zA,aP,n67,n76,ah,fD n67,ey,bO,m610,m106,m710,m107,gU,gj,gI f10,cb]
      exact hsub _ _
    · have cb : (y == dn) = false := by simpa using c
      rw [if_neg c]
      try simp (disch := omega) only [↓aI,↓zP,aD,zD,aS,simprocAttr,Tryz.facts,zA,aP,n67,n76,ah,fD n67,ey,bO,m610,m106,m710,m107,gU,gj,gI f10,cb]
      exact hsub _ _
  rw [if_neg c0] at hR
  by_cases c1 : n = (g.L.length : Int) + 1
  rotate_left
  · rw [if_pos c1] at hR
    subst hR
    try simp (disch := omega) only [↓aI,↓zP,aD,zD,aS,simprocAttr,Tryz.facts,zA,aP,n67,n76,ah,fD n67,ey,bO]
    exact hsub _ _
  rw [if_neg (by omega)] at hR
  subst c1
  try simp (disch := omega) only [↓aI,↓zP,aD,zD,aS,simprocAttr,Tryz.facts,zA,aP,n67,n76,ah,fD n67,ey,bO]
  first | refine CallK.p (hd1) ?_ | refine CallP.i (hd1) ?_
  simp (disch := omega) only [↓aI,↓zP,aD,zD,aS,simprocAttr,Tryz.facts,zA,aP,n67,n76,ah,fD n67,ey,bO]
  by_cases c2 : prev = dg
  rotate_left
  · rw [if_pos c2] at hR
    subst hR
    have cb : (prev == dg) = false := by simpa using c2
    have cb2 : (prev != dg) = true := by simpa using c2
    try simp (disch := omega) only [↓aI,↓zP,aD,zD,aS,simprocAttr,Tryz.facts,zA,aP,n67,n76,ah,fD n67,ey,bO,cb,cb2]
    exact hsub _ _
  rw [if_neg (by simpa using c2)] at hR
  have cb : (prev == dg) = true := by simpa using c2
  have cb2 : (prev != dg) = false := by simpa using c2
  try simp (disch := omega) only [↓aI,↓zP,aD,zD,aS,simprocAttr,Tryz.facts,zA,aP,n67,n76,ah,fD n67,ey,bO,cb,cb2]
  first | refine CallK.p (hw) ?_ | refine CallP.i (hw) ?_
  simp (disch := omega) only [↓aI,↓zP,aD,zD,aS,simprocAttr,Tryz.facts,zA,aP,n67,n76,ah,fD n67,ey,bO]
  first | refine CallK.p (hv) ?_ | refine CallP.i (hv) ?_
  simp (disch := omega) only [↓aI,↓zP,aD,zD,aS,simprocAttr,Tryz.facts,zA,aP,n67,n76,ah,fD n67,ey,bO]
  cases vq
  · rw [if_pos rfl] at hR
    subst hR
    try simp (disch := omega) only [↓aI,↓zP,aD,zD,aS,simprocAttr,Tryz.facts,zA,aP,n67,n76,ah,fD n67,ey,bO]
    exact hsub _ _
  rw [if_neg (by simp)] at hR
  try simp (disch := omega) only [↓aI,↓zP,aD,zD,aS,simprocAttr,Tryz.facts,zA,aP,n67,n76,ah,fD n67,ey,bO]
  first | refine CallK.p (hfo) ?_ | refine CallP.i (hfo) ?_
  simp (disch := omega) only [↓aI,↓zP,aD,zD,aS,simprocAttr,Tryz.facts,zA,aP,n67,n76,ah,fD n67,ey,bO]
  cases fq
  · rw [if_pos rfl] at hR
    subst hR
    try simp (disch := omega) only [↓aI,↓zP,aD,zD,aS,simprocAttr,Tryz.facts,zA,aP,n67,n76,ah,fD n67,ey,bO]
    exact hsub _ _
  rw [if_neg (by simp)] at hR
  subst hR
  try simp (disch := omega) only [↓aI,↓zP,aD,zD,aS,simprocAttr,Tryz.facts,zA,aP,n67,n76,ah,fD n67,ey,bO]
  first | refine CallK.p (hw) ?_ | refine CallP.i (hw) ?_
  simp (disch := omega) only [↓aI,↓zP,aD,zD,aS,simprocAttr,Tryz.facts,zA,aP,n67,n76,ah,fD n67,ey,bO]
  first | refine CallK.p (hh) ?_ | refine CallP.i (hh) ?_
  simp (disch := omega) only [↓aI,↓zP,aD,zD,aS,simprocAttr,Tryz.facts,zA,aP,n67,n76,ah,fD n67,ey,bO]
  intro b12 hb120 hb12
  have m612 := bK (am hb12)
  have m126 : ¬ b12 = b6 := fun e => m612 e.symm
  have m712 := bK hb12
  have m127 : ¬ b12 = b7 := fun e => m712 e.symm
  have f12 := am (am hb12)
  try simp (disch := omega) only [↓aI,↓zP,aD,zD,aS,simprocAttr,Tryz.facts,zA,aP,n67,n76,ah,fD n67,ey,bO,m612,m126,m712,m127,gU,gj,gI f12]
  intro b14 hb140 hb14
  have m614 := bK (am hb14)
  have m146 : ¬ b14 = b6 := fun e => m614 e.symm
  have m714 := bK hb14
  have m147 : ¬ b14 = b7 := fun e => m714 e.symm
  have f14 := am (am hb14)
  try simp (disch := omega) only [↓aI,↓zP,aD,zD,aS,simprocAttr,Tryz.facts,zA,aP,n67,n76,ah,fD n67,ey,bO,m614,m146,m714,m147,fD m614,fD m714]
  refine jk ?_
  try simp (disch := omega) only [↓aI,↓zP,aD,zD,aS,simprocAttr,Tryz.facts,zA,aP,n67,n76,ah,fD n67,ey,bO,m614,m146,m714,m147,fD m614,fD m714,hLc]
  intro k1 o1 hk10 hk1 ho1
  try simp (disch := omega) only [↓aI,↓zP,aD,zD,aS,simprocAttr,Tryz.facts,zA,aP,n67,n76,ah,fD n67,ey,bO,m614,m146,m714,m147,fD m614,fD m714,gU,gj,hLc,ho1,gI hk1]
  intro k2 o2 hk20 hk2 ho2
  have p14 := bK (am hk2)
  have p7 := bK (am (am hk2))
  have p6 := bK (am (am (am hk2)))
  have g2 := am (am (am (am hk2)))
  try simp (disch := omega) only [↓aI,↓zP,aD,zD,aS,simprocAttr,Tryz.facts,zA,aP,n67,n76,ah,fD n67,ey,bO,m614,m146,m714,m147,fD m614,fD m714,gU,gj,hLc,ho1,gI hk1,p14,fD p14]
  intro k3 o3 hk30 hk3 ho3
  try simp (disch := omega) only [↓aI,↓zP,aD,zD,aS,simprocAttr,Tryz.facts,zA,aP,n67,n76,ah,fD n67,ey,bO,m614,m146,m714,m147,fD m614,fD m714,gU,gj,hDc,ho3,gI hk3]
  intro k4 o4 hk40 hk4 ho4
  have r2 := bK (am hk4)
  have r14 := bK (am (am hk4))
  have r7 := bK (am (am (am hk4)))
  have r6 := bK (am (am (am (am hk4))))
  have g4 := am (am (am (am (am hk4))))
  try simp (disch := omega) only [↓aI,↓zP,aD,zD,aS,simprocAttr,Tryz.facts,zA,aP,n67,n76,ah,fD n67,ey,bO,m614,m146,m714,m147,fD m614,fD m714,gU,gj,hDc,ho3,gI hk3,p14,r14,fD p14,fD r14]
  try simp (disch := omega) only [↓aI,↓zP,aD,zD,aS,simprocAttr,Tryz.facts,zA,aP,n67,n76,ah,fD n67,ey,bO,m614,m146,m714,m147,fD m614,fD m714,gU,gj,hDc,ho3,gI hk3,p14,r14,p6,p7,r6,r7,fD p14,fD r14,fD p6,fD p7,fD r6,fD r7,List.length_append]
  refine ⟨?_,((((hsub _ _).set_free f14).set_free g2).set_free g4)⟩
  rw [hLe,hDe]
end Go.Proofs.YtjlnpngaiphnmaaGreat
end
