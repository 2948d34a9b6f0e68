/-
  Several texts in one: each says what it proves.
  Conditions: none. Lemmas only.
-/
import Derived.Test.YtjlnpngaiphnmaaGreatRosG6
set_option linter.all false
section
set_option linter.unusedSimpArgs false
set_option linter.unusedVariables false
set_option maxRecDepth 20000
set_option maxHeartbeats 16000000
namespace Go.Proofs.YtjlnpngaiphnmaaGreat
open Go Go.Abs Go.Proofs
abbrev lgP (ad : List UInt8) (g : LogM) (k kd : Nat) : AObj := .cells [eu ad,.imm k ((g.L.map iF).flatMap fX) g.L.length,.imm kd (g.D.map eu) g.D.length] 97 3
theorem lgP_B (ad : List UInt8) (g : LogM) (k kd : Nat) : lgP ad g k kd = lgB (eu ad) k (g.L.map iF) (.imm kd (g.D.map eu) g.D.length) := by
  unfold lgB lgP
  rw [List.length_map]
theorem set_same {H : AH} {r : Nat} {o : AObj} (h : H r = some o) : H.set r o = H := by
  funext x
  simp only [AH.set]
  split
  · rename_i e; rw [e,h]
  · rfl
theorem dig_live {H : AH} {ad : List UInt8} {g : LogM} {r k kd : Nat} (hg : OkG g) (hr0 : r ≠ 0) (hr : H r = some (lgP ad g k kd)) (n : Nat) (hn : n ≤ 100000) : ACalls Tryz.prog 25 [.ptr r 0,.sc (.int .i64 (n : Nat))] H fun v H' => v = eu (iZ g.D (n : Nat)) ∧ H' = H := by
  have hlen := hg.len
  have hfew := hg.few
  by_cases h1 : 1 ≤ n ∧ n ≤ g.D.length
  · obtain ⟨i,rfl⟩ : ∃ i,n = i + 1 := ⟨n - 1,by omega⟩
    have := digest_live H r k kd (eu ad) (g.L.map iF) g.D i (by omega) (by rw [List.length_map]; omega) (fun x hx => by have := hg.dig x hx; omega) (by omega) hr0 (by rw [← lgP_B]; exact hr)
    rw [digM_get (by omega)]
    exact this
  · have hz : iZ g.D (n : Nat) = [] := by unfold iZ; rw [if_pos (by omega)]
    rw [hz]
    have h2 := kL H r k (eu ad) (.imm kd (g.D.map eu) g.D.length) (g.L.map iF) hr0 (by rw [← lgP_B]; exact hr)
    rw [List.length_map] at h2
    by_cases h3 : n < 1
    · refine ao (c := ⟨Tryz.prog,23,[],[13],[]⟩) (rs := [ResultVar.tmp 4]) Tryz.mixed Tryz.func25 rfl rfl rfl (Nat.le_of_ble_eq_true rfl) (by kernel_rfl) ?_
      simp (disch := omega) only [↓aI,↓zP,aD,zD,aS,simprocAttr,Tryz.facts,zA,hr]
      exact ⟨_,rfl,_,Abs.Sub.refl _,rfl,rfl⟩
    · refine ao (c := ⟨Tryz.prog,23,[],[13],[]⟩) (rs := [ResultVar.tmp 4]) Tryz.mixed Tryz.func25 rfl rfl rfl (Nat.le_of_ble_eq_true rfl) (by kernel_rfl) ?_
      simp (disch := omega) only [↓aI,↓zP,aD,zD,aS,simprocAttr,Tryz.facts,zA,hr]
      refine CallK.i h2 ?_
      rintro v E ⟨rfl,rfl⟩
      simp (disch := omega) only [↓aI,↓zP,aD,zD,aS,simprocAttr,Tryz.facts,zA,hr]
      exact ⟨_,rfl,_,Abs.Sub.refl _,rfl,rfl⟩
variable {H0 H : AH} {h m d N : Nat} {ts : List Term} {ad : List UInt8} {g : LogM} {e : Ent} {r k kd : Nat}
theorem take_arg (he : OkE e) (hr0 : r ≠ 0) (hrt : gK e = false) : ACalls Tryz.prog 23 [.ptr r 0,iT h,.agg (fX e)] H fun v H' => v = .sc (.int .i64 1) ∧ H' = H := by
  have hr := ie e (by have := he.ml; omega) (by have := he.el; omega) (by have := he.bl; omega)
  rw [hrt] at hr
  obtain ⟨n,prev,ms,ns,once,bs,sig⟩ := e
  simp only [fX] at *
  refine ao (c := ⟨Tryz.prog,117,[(5,[0,0,0,0,0,0,0,0,0,0,1,0,0,0,0,2,0]),(10,[0,0,0,0,2,0,0]),(12,[0,0,0,0,1,1,0,0,1,0,0,0,2,0]),(16,[0,0,0,0,0,2,0,0,2,0,2,2]),(17,[0,0,0,0,1,0,0,2,0,0,2,0,0,2]),(18,[0,0,0,0,0,0,0,2,0,0,0,0,0,0,2,0,2,0,0,2]),(1000000,[5]),(1000016,[8]),(4000017,[0,1,5,7]),(4000016,[0,1,5,7,8]),(4000014,[0,1,5,7,74]),(4000012,[0,1,5,7,67]),(4000010,[0,1,5,7,53]),(4000008,[0,1,5,7,46]),(4000005,[41]),(4000003,[0,1,5,7]),(4000001,[0,1,5,15])],[80,2000092,2000105],[(5,(.op 0 0 (.op 1 0 (.op 2 0 (.op 4 0 (.op 5 0 (.op 6 0 (.op 9 0 (.op 10 0 (.op 11 0 (.op 12 0 (.op 13 0 (.op 14 0 (.or (.op 3 3 (.op 7 0 (.op 8 0 (.op 15 2 (.op 16 0 .nil))))) (.op 15 2 (.op 3 3 (.op 7 0 (.op 8 0 (.op 16 0 .nil))))))))))))))))))),(16,(.op 0 0 (.op 1 0 (.op 2 0 (.op 3 0 (.op 4 0 (.op 6 0 (.op 7 0 (.or (.op 5 3 (.or (.op 8 3 (.op 9 0 (.op 10 3 (.op 11 2 .nil)))) (.op 10 3 (.op 8 3 (.op 9 0 (.op 11 2 .nil)))))) (.op 10 3 (.op 5 3 (.op 8 3 (.op 9 0 (.op 11 2 .nil)))))))))))))),(17,(.op 0 0 (.op 1 0 (.op 2 0 (.op 3 0 (.op 5 0 (.op 6 0 (.op 8 0 (.op 9 0 (.op 4 4 (.op 7 3 (.op 10 3 (.op 11 0 (.op 12 0 (.op 13 2 .nil))))))))))))))),(18,(.op 0 0 (.op 1 0 (.op 2 0 (.op 3 0 (.op 5 0 (.op 6 0 (.op 8 0 (.op 9 0 (.op 10 0 (.op 11 0 (.op 12 0 (.op 13 0 (.or (.op 4 3 (.or (.op 7 3 (.op 14 2 (.op 15 0 (.op 16 3 (.op 17 0 (.op 18 0 (.op 19 2 .nil))))))) (.op 14 2 (.op 15 0 (.op 7 3 (.op 16 3 (.op 17 0 (.op 18 0 (.op 19 2 .nil))))))))) (.op 14 2 (.op 15 0 (.op 4 3 (.op 7 3 (.op 16 3 (.op 17 0 (.op 18 0 (.op 19 2 .nil))))))))))))))))))))))]⟩) (rs := [ResultVar.tmp 6]) Tryz.mixed Tryz.func23 rfl rfl rfl (Nat.le_of_ble_eq_true rfl) (by kernel_rfl) ?_
  simp (disch := omega) only [↓aI,↓zP,aD,zD,aS,simprocAttr,Tryz.facts,zA]
  intro b5 hb50 hb5
  rw [aj hb5]
  try simp (disch := omega) only [↓aI,↓zP,aD,zD,aS,simprocAttr,Tryz.facts,zA]
  first | refine CallK.p (hr) ?_ | refine CallP.i (hr) ?_
  simp (disch := omega) only [↓aI,↓zP,aD,zD,aS,simprocAttr,Tryz.facts,zA]
  exact ⟨_,rfl,_,Abs.Sub.refl _,rfl,rfl⟩
theorem take_old (hg : OkG g) (he : OkE e) (gt : GT N ts) (hN : N ≤ 999990) (s : SS H0 H h m d ts) (hr0 : r ≠ 0) (hk : k ≠ 0) (hr : H0 r = some (lgP ad g k kd)) (hrt : gK e = true) (hn : e.n ≤ (g.L.length : Int)) :
    ACalls Tryz.prog 23 [.ptr r 0,iT h,.agg (fX e)] H fun v H' => v = .sc (.int .i64 (if fP ts (gQ e) = iZ g.D e.n then 16 else 18)) ∧ SS H0 H' h m d (fC ts (gQ e)).1 := by
  have hrp := ie e (by have := he.ml; omega) (by have := he.el; omega) (by have := he.bl; omega)
  rw [hrt] at hrp
  obtain ⟨n1,n2,-⟩ := fy hrt
  have hw := kQ [] e (by simp) he
  rw [List.nil_append] at hw
  have hwl := iM he
  have hh := fun (E : AH) (s : SS H0 E h m d ts) => hash_tell (fV e) (wf_hash he).1 (gt.mono (by omega)) s
  unfold TellR at hh
  rw [show fW ⟨104,[fV e]⟩ (fC ts ⟨104,[fV e]⟩).2 = fP ts (gQ e) from rfl] at hh
  have hlen := hg.len
  obtain ⟨i,hi⟩ : ∃ i : Nat,e.n = (i : Int) + 1 := ⟨(e.n - 1).toNat,by omega⟩
  have hil : i < g.D.length := by omega
  have hdg : iZ g.D e.n = g.D[i] := by rw [hi,← digM_get hil]; rfl
  rw [hdg]
  have hbx := box_get' hil
  have hrH := s.sub r _ hr
  have hq := iX g.D[i] (fP ts (gQ e))
  have hsz : g.D.length ≤ 100000 := by have := hg.few; omega
  generalize g.D[i] = x at *
  generalize fP ts (gQ e) = y at *
  generalize (fC ts (gQ e)).1 = ts1 at *
  generalize fV e = W at *
  have hrS : ∀ E,SS H0 E h m d ts1 → E r = some (lgP ad g k kd) := fun E s => s.sub r _ hr
  obtain ⟨n,prev,ms,ns,once,bs,sig⟩ := e
  simp only [fX] at *
  subst hi
  have hif : (if y = x then (16 : Int) else 18) = if (x == y) = true then 16 else 18 := by
    by_cases c : x = y
    · simp [c]
    · rw [if_neg (fun e => c e.symm),if_neg (by simp [c])]
  rw [hif]
  generalize (x == y) = q at *
  refine ao (c := ⟨Tryz.prog,117,[(5,[0,0,0,0,0,0,0,0,0,0,1,0,0,0,0,2,0]),(10,[0,0,0,0,2,0,0]),(12,[0,0,0,0,1,1,0,0,1,0,0,0,2,0]),(16,[0,0,0,0,0,2,0,0,2,0,2,2]),(17,[0,0,0,0,1,0,0,2,0,0,2,0,0,2]),(18,[0,0,0,0,0,0,0,2,0,0,0,0,0,0,2,0,2,0,0,2]),(1000000,[5]),(1000016,[8]),(4000017,[0,1,5,7]),(4000016,[0,1,5,7,8]),(4000014,[0,1,5,7,74]),(4000012,[0,1,5,7,67]),(4000010,[0,1,5,7,53]),(4000008,[0,1,5,7,46]),(4000005,[41]),(4000003,[0,1,5,7]),(4000001,[0,1,5,15])],[80,2000092,2000105],[(5,(.op 0 0 (.op 1 0 (.op 2 0 (.op 4 0 (.op 5 0 (.op 6 0 (.op 9 0 (.op 10 0 (.op 11 0 (.op 12 0 (.op 13 0 (.op 14 0 (.or (.op 3 3 (.op 7 0 (.op 8 0 (.op 15 2 (.op 16 0 .nil))))) (.op 15 2 (.op 3 3 (.op 7 0 (.op 8 0 (.op 16 0 .nil))))))))))))))))))),(16,(.op 0 0 (.op 1 0 (.op 2 0 (.op 3 0 (.op 4 0 (.op 6 0 (.op 7 0 (.or (.op 5 3 (.or (.op 8 3 (.op 9 0 (.op 10 3 (.op 11 2 .nil)))) (.op 10 3 (.op 8 3 (.op 9 0 (.op 11 2 .nil)))))) (.op 10 3 (.op 5 3 (.op 8 3 (.op 9 0 (.op 11 2 .nil)))))))))))))),(17,(.op 0 0 (.op 1 0 (.op 2 0 (.op 3 0 (.op 5 0 (.op 6 0 (.op 8 0 (.op 9 0 (.op 4 4 (.op 7 3 (.op 10 3 (.op 11 0 (.op 12 0 (.op 13 2 .nil))))))))))))))),(18,(.op 0 0 (.op 1 0 (.op 2 0 (.op 3 0 (.op 5 0 (.op 6 0 (.op 8 0 (.op 9 0 (.op 10 0 (.op 11 0 (.op 12 0 (.op 13 0 (.or (.op 4 3 (.or (.op 7 3 (.op 14 2 (.op 15 0 (.op 16 3 (.op 17 0 (.op 18 0 (.op 19 2 .nil))))))) (.op 14 2 (.op 15 0 (.op 7 3 (.op 16 3 (.op 17 0 (.op 18 0 (.op 19 2 .nil))))))))) (.op 14 2 (.op 15 0 (.op 4 3 (.op 7 3 (.op 16 3 (.op 17 0 (.op 18 0 (.op 19 2 .nil))))))))))))))))))))))]⟩) (rs := [ResultVar.tmp 6]) Tryz.mixed Tryz.func23 rfl rfl rfl (Nat.le_of_ble_eq_true rfl) (by kernel_rfl) ?_
  simp (disch := omega) only [↓aI,↓zP,aD,zD,aS,simprocAttr,Tryz.facts,zA]
  intro b5 hb50 hb5
  rw [aj hb5]
  try simp (disch := omega) only [↓aI,↓zP,aD,zD,aS,simprocAttr,Tryz.facts,zA]
  first | refine CallK.p (hrp) ?_ | refine CallP.i (hrp) ?_
  simp (disch := omega) only [↓aI,↓zP,aD,zD,aS,simprocAttr,Tryz.facts,zA,hrH]
  have ei : ((i : Int) + 1 - 1).toNat = i := by omega
  refine eI (fun σ F => SS H0 F h m d ts1 ∧ σ 41 = .sc (.bool q)) ?_ ?_
  · simp (disch := omega) only [↓aI,↓zP,aD,zD,aS,simprocAttr,Tryz.facts,zA,hrH]
    first | refine CallK.p (hw) ?_ | refine CallP.i (hw) ?_
    simp (disch := omega) only [↓aI,↓zP,aD,zD,aS,simprocAttr,Tryz.facts,zA,hrH,hbx,ei]
    refine And.intro ?_ ?_
    · refine CallK.i (hh _ s) ?_
      rintro v E ⟨rfl,s1⟩
      try simp (disch := omega) only [↓aI,↓zP,aD,zD,aS,simprocAttr,Tryz.facts,zA]
      first | refine CallK.p (hq) ?_ | refine CallP.i (hq) ?_
      simp (disch := omega) only [↓aI,↓zP,aD,zD,aS,simprocAttr,Tryz.facts,zA]
      exact s1
    · refine CallK.i (hh _ s) ?_
      rintro v E ⟨rfl,s1⟩
      have hrE := hrS E s1
      try simp (disch := omega) only [↓aI,↓zP,aD,zD,aS,simprocAttr,Tryz.facts,zA,hrE,hbx,ei]
      first | refine CallK.p (hq) ?_ | refine CallP.i (hq) ?_
      simp (disch := omega) only [↓aI,↓zP,aD,zD,aS,simprocAttr,Tryz.facts,zA]
      exact s1
  · rintro σ F ⟨s1,s41⟩
    cases q
    · simp (disch := omega) only [↓aI,↓zP,aD,zD,aS,simprocAttr,Tryz.facts,zA,s41]
      exact ⟨_,rfl,_,Abs.Sub.refl _,rfl,s1⟩
    · simp (disch := omega) only [↓aI,↓zP,aD,zD,aS,simprocAttr,Tryz.facts,zA,s41]
      exact ⟨_,rfl,_,Abs.Sub.refl _,rfl,s1⟩
end Go.Proofs.YtjlnpngaiphnmaaGreat
end
section
set_option linter.unusedSimpArgs false
set_option linter.unusedVariables false
set_option maxRecDepth 20000
set_option maxHeartbeats 16000000
namespace Go.Proofs.YtjlnpngaiphnmaaGreat
open Go Go.Abs Go.Proofs
variable {H0 H : AH} {h m d N : Nat} {ts : List Term} {ad : List UInt8} {g : LogM} {e : Ent} {r k kd : Nat}
theorem SS.drop {H0 F : AH} {h m d b : Nat} {o : AObj} {ts : List Term} (s : SS (H0.set b o) F h m d ts) (hb : H0 b = none) : SS H0 (F.kill b) h m d ts := by
  have := s.kill set_get
  rwa [aj hb] at this
theorem SS.put1 {H0 F : AH} {h m d b : Nat} {o o' : AObj} {ts : List Term} (s : SS (H0.set b o) F h m d ts) : SS (H0.set b o') (F.set b o') h m d ts := by
  have := s.put (o' := o') set_get
  rwa [ey] at this
theorem take_new (hg : OkG g) (he : OkE e) (gt : GT N ts) (hN : N ≤ 999990) (s : SS H0 H h m d ts) (hr0 : r ≠ 0) (hk : k ≠ 0) (hkd : kd ≠ 0) (hr : H0 r = some (lgP ad g k kd)) (had : ad.length ≤ 100000000) (hrt : gK e = true) (hn : ¬ e.n ≤ (g.L.length : Int)) :
    ACalls Tryz.prog 23 [.ptr r 0,iT h,.agg (fX e)] H fun v H' => v = .sc (.int .i64 (gO ts ad g e).2.2) ∧ ∃ k' kd',k' ≠ 0 ∧ kd' ≠ 0 ∧ SS (H0.set r (lgP ad (gO ts ad g e).2.1 k' kd')) H' h m d (gO ts ad g e).1 := by
  have hrp := ie e (by have := he.ml; omega) (by have := he.el; omega) (by have := he.bl; omega)
  rw [hrt] at hrp
  obtain ⟨n1,n2,hpv,hpt,hbl,hol,hbml,hsl⟩ := fy hrt
  obtain ⟨q1,q2,q3,q4,q5,q6⟩ := gH hpt
  have hw := kQ [] e (by simp) he
  rw [List.nil_append] at hw
  have hwl := iM he
  have hh := fun (G E : AH) (s : SS G E h m d ts) => hash_tell (fV e) (wf_hash he).1 (gt.mono (by omega)) s
  unfold TellR at hh
  rw [show fW ⟨104,[fV e]⟩ (fC ts ⟨104,[fV e]⟩).2 = fP ts (gQ e) from rfl] at hh
  have hlen := hg.len
  have hfew := hg.few
  have hv := fun (E : AH) (s : SS H0 E h m d ts) => verify_ss ad (fV e) e.sig (by omega) (by omega) (gt.mono (by omega)) s
  have hlast := last_right hg
  have hme : ∀ x ∈ g.L.map iF,x.members.length ≤ 1000000 := fun x hx => by
    obtain ⟨y,hy,rfl⟩ := List.mem_map.1 hx
    have := (gH (fy (hg.ent y hy)).2.2.2.1).1
    show y.members.length ≤ _
    omega
  have hfo := fun (E : AH) (hE : E r = some (lgP ad g k kd)) => follows_live E r k (eu ad) (.imm kd (g.D.map eu) g.D.length) (g.L.map iF) e.members e.ends (by rw [List.length_map]; omega) hme (by omega) (by omega) (by rw [← lgP_B]; exact hE)
  rw [fol_both hg hpt] at hfo
  have hdl := fun (E : AH) (hE : E r = some (lgP ad g k kd)) => dig_live hg hr0 hE g.L.length (by omega)
  have hcp := copied_pure e.members (by omega) (fun x hx => by have := q5 x hx; omega)
  have hq := iX e.prev (iZ g.D g.L.length)
  have hR : gO ts ad g e = if ¬ e.n = (g.L.length : Int) + 1 then (ts, g, 15) else if ¬ e.prev = iZ g.D g.L.length then (ts, g, 17) else if verT ts ad (fV e) e.sig = false then (ts, g, 10)
      else if kM g e.members e.ends = false then (ts,g,19) else ((fC ts (gQ e)).1,⟨g.L ++ [e],g.D ++ [fP ts (gQ e)]⟩,0) := by
    unfold gO
    rw [if_neg (by rw [hrt]; decide),if_neg hn]
  have hsame : H0.set r (lgP ad g k kd) = H0 := set_same hr
  have hLe : ((g.L ++ [e]).map iF).flatMap fX = (g.L.map iF).flatMap fX ++ [.sc (.int .i64 e.n),.imm 0 [] 0,fE e.members,fY e.ends,.imm 0 [] 0,.imm 0 [] 0,.imm 0 [] 0] := by
    rw [List.map_append,List.flatMap_append]; simp [fX,iF,bw]
  have hDe : ∀ y,(g.D ++ [y]).map eu = g.D.map eu ++ [eu y] := fun y => by rw [List.map_append]; rfl
  have hLc : ((g.L.map iF).flatMap fX).length = g.L.length * 7 := by rw [fF i7,List.length_map]
  have hDc : (g.D.map eu).length = g.D.length := List.length_map _
  have hLl : (g.L.map iF).length = g.L.length := List.length_map _
  have hLl2 : ((g.L ++ [e]).map iF).length = g.L.length + 1 := by rw [List.length_map,List.length_append]; rfl
  have hrH : ∀ E ts',SS H0 E h m d ts' → E r = some (lgP ad g k kd) := fun E ts' s => s.sub r _ hr
  unfold lgP at *
  generalize gO ts ad g e = R at *
  generalize hy : fP ts (gQ e) = y at *
  generalize ht1 : (fC ts (gQ e)).1 = ts1 at *
  generalize hW : fV e = W at *
  generalize verT ts ad W e.sig = vq at *
  generalize kM g e.members e.ends = fq at *
  generalize iZ g.D g.L.length = dg at *
  have hL2 : ∀ l : List Ent,((⟨l,g.D⟩ : LogM).L) = l := fun _ => rfl
  obtain ⟨n,prev,ms,ns,once,bs,sig⟩ := e
  simp only [fX] at *
  have hnl : (ns.flatMap ndC).length = ns.length * 2 := fF gZ ns
  by_cases c1 : n = (g.L.length : Int) + 1
  rotate_left
  · rw [if_pos c1] at hR
    subst hR
    refine ao (c := ⟨Tryz.prog,117,[(5,[0,0,0,0,0,0,0,0,0,0,1,0,0,0,0,2,0]),(10,[0,0,0,0,2,0,0]),(12,[0,0,0,0,1,1,0,0,1,0,0,0,2,0]),(16,[0,0,0,0,0,2,0,0,2,0,2,2]),(17,[0,0,0,0,1,0,0,2,0,0,2,0,0,2]),(18,[0,0,0,0,0,0,0,2,0,0,0,0,0,0,2,0,2,0,0,2]),(1000000,[5]),(1000016,[8]),(4000017,[0,1,5,7]),(4000016,[0,1,5,7,8]),(4000014,[0,1,5,7,74]),(4000012,[0,1,5,7,67]),(4000010,[0,1,5,7,53]),(4000008,[0,1,5,7,46]),(4000005,[41]),(4000003,[0,1,5,7]),(4000001,[0,1,5,15])],[80,2000092,2000105],[(5,(.op 0 0 (.op 1 0 (.op 2 0 (.op 4 0 (.op 5 0 (.op 6 0 (.op 9 0 (.op 10 0 (.op 11 0 (.op 12 0 (.op 13 0 (.op 14 0 (.or (.op 3 3 (.op 7 0 (.op 8 0 (.op 15 2 (.op 16 0 .nil))))) (.op 15 2 (.op 3 3 (.op 7 0 (.op 8 0 (.op 16 0 .nil))))))))))))))))))),(16,(.op 0 0 (.op 1 0 (.op 2 0 (.op 3 0 (.op 4 0 (.op 6 0 (.op 7 0 (.or (.op 5 3 (.or (.op 8 3 (.op 9 0 (.op 10 3 (.op 11 2 .nil)))) (.op 10 3 (.op 8 3 (.op 9 0 (.op 11 2 .nil)))))) (.op 10 3 (.op 5 3 (.op 8 3 (.op 9 0 (.op 11 2 .nil)))))))))))))),(17,(.op 0 0 (.op 1 0 (.op 2 0 (.op 3 0 (.op 5 0 (.op 6 0 (.op 8 0 (.op 9 0 (.op 4 4 (.op 7 3 (.op 10 3 (.op 11 0 (.op 12 0 (.op 13 2 .nil))))))))))))))),(18,(.op 0 0 (.op 1 0 (.op 2 0 (.op 3 0 (.op 5 0 (.op 6 0 (.op 8 0 (.op 9 0 (.op 10 0 (.op 11 0 (.op 12 0 (.op 13 0 (.or (.op 4 3 (.or (.op 7 3 (.op 14 2 (.op 15 0 (.op 16 3 (.op 17 0 (.op 18 0 (.op 19 2 .nil))))))) (.op 14 2 (.op 15 0 (.op 7 3 (.op 16 3 (.op 17 0 (.op 18 0 (.op 19 2 .nil))))))))) (.op 14 2 (.op 15 0 (.op 4 3 (.op 7 3 (.op 16 3 (.op 17 0 (.op 18 0 (.op 19 2 .nil))))))))))))))))))))))]⟩) (rs := [ResultVar.tmp 6]) Tryz.mixed Tryz.func23 rfl rfl rfl (Nat.le_of_ble_eq_true rfl) (by kernel_rfl) ?_
    simp (disch := omega) only [↓aI,↓zP,aD,zD,aS,simprocAttr,Tryz.facts,zA]
    intro b5 hb50 hb5
    rw [aj hb5]
    try simp (disch := omega) only [↓aI,↓zP,aD,zD,aS,simprocAttr,Tryz.facts,zA]
    first | refine CallK.p (hrp) ?_ | refine CallP.i (hrp) ?_
    simp (disch := omega) only [↓aI,↓zP,aD,zD,aS,simprocAttr,Tryz.facts,zA,hrH _ _ s]
    exact ⟨_,rfl,_,Abs.Sub.refl _,rfl,k,kd,hk,hkd,by rw [hsame]; exact s⟩
  subst c1
  rw [if_neg (by simp)] at hR
  by_cases c2 : prev = dg
  rotate_left
  · rw [if_pos c2] at hR
    subst hR
    have hq' : (prev == dg) = false := by simpa using c2
    rw [hq'] at hq
    refine ao (c := ⟨Tryz.prog,117,[(5,[0,0,0,0,0,0,0,0,0,0,1,0,0,0,0,2,0]),(10,[0,0,0,0,2,0,0]),(12,[0,0,0,0,1,1,0,0,1,0,0,0,2,0]),(16,[0,0,0,0,0,2,0,0,2,0,2,2]),(17,[0,0,0,0,1,0,0,2,0,0,2,0,0,2]),(18,[0,0,0,0,0,0,0,2,0,0,0,0,0,0,2,0,2,0,0,2]),(1000000,[5]),(1000016,[8]),(4000017,[0,1,5,7]),(4000016,[0,1,5,7,8]),(4000014,[0,1,5,7,74]),(4000012,[0,1,5,7,67]),(4000010,[0,1,5,7,53]),(4000008,[0,1,5,7,46]),(4000005,[41]),(4000003,[0,1,5,7]),(4000001,[0,1,5,15])],[80,2000092,2000105],[(5,(.op 0 0 (.op 1 0 (.op 2 0 (.op 4 0 (.op 5 0 (.op 6 0 (.op 9 0 (.op 10 0 (.op 11 0 (.op 12 0 (.op 13 0 (.op 14 0 (.or (.op 3 3 (.op 7 0 (.op 8 0 (.op 15 2 (.op 16 0 .nil))))) (.op 15 2 (.op 3 3 (.op 7 0 (.op 8 0 (.op 16 0 .nil))))))))))))))))))),(16,(.op 0 0 (.op 1 0 (.op 2 0 (.op 3 0 (.op 4 0 (.op 6 0 (.op 7 0 (.or (.op 5 3 (.or (.op 8 3 (.op 9 0 (.op 10 3 (.op 11 2 .nil)))) (.op 10 3 (.op 8 3 (.op 9 0 (.op 11 2 .nil)))))) (.op 10 3 (.op 5 3 (.op 8 3 (.op 9 0 (.op 11 2 .nil)))))))))))))),(17,(.op 0 0 (.op 1 0 (.op 2 0 (.op 3 0 (.op 5 0 (.op 6 0 (.op 8 0 (.op 9 0 (.op 4 4 (.op 7 3 (.op 10 3 (.op 11 0 (.op 12 0 (.op 13 2 .nil))))))))))))))),(18,(.op 0 0 (.op 1 0 (.op 2 0 (.op 3 0 (.op 5 0 (.op 6 0 (.op 8 0 (.op 9 0 (.op 10 0 (.op 11 0 (.op 12 0 (.op 13 0 (.or (.op 4 3 (.or (.op 7 3 (.op 14 2 (.op 15 0 (.op 16 3 (.op 17 0 (.op 18 0 (.op 19 2 .nil))))))) (.op 14 2 (.op 15 0 (.op 7 3 (.op 16 3 (.op 17 0 (.op 18 0 (.op 19 2 .nil))))))))) (.op 14 2 (.op 15 0 (.op 4 3 (.op 7 3 (.op 16 3 (.op 17 0 (.op 18 0 (.op 19 2 .nil))))))))))))))))))))))]⟩) (rs := [ResultVar.tmp 6]) Tryz.mixed Tryz.func23 rfl rfl rfl (Nat.le_of_ble_eq_true rfl) (by kernel_rfl) ?_
    simp (disch := omega) only [↓aI,↓zP,aD,zD,aS,simprocAttr,Tryz.facts,zA]
    intro b5 hb50 hb5
    rw [aj hb5]
    try simp (disch := omega) only [↓aI,↓zP,aD,zD,aS,simprocAttr,Tryz.facts,zA]
    first | refine CallK.p (hrp) ?_ | refine CallP.i (hrp) ?_
    simp (disch := omega) only [↓aI,↓zP,aD,zD,aS,simprocAttr,Tryz.facts,zA,hrH _ _ s]
    refine CallK.i (hdl _ (hrH _ _ s)) ?_
    rintro v E ⟨rfl,rfl⟩
    try simp (disch := omega) only [↓aI,↓zP,aD,zD,aS,simprocAttr,Tryz.facts,zA]
    first | refine CallK.p (hq) ?_ | refine CallP.i (hq) ?_
    simp (disch := omega) only [↓aI,↓zP,aD,zD,aS,simprocAttr,Tryz.facts,zA]
    exact ⟨_,rfl,_,Abs.Sub.refl _,rfl,k,kd,hk,hkd,by rw [hsame]; exact s⟩
  subst c2
  rw [if_neg (by simp)] at hR
  rw [beq_self_eq_true] at hq
  cases vq
  · rw [if_pos rfl] at hR
    subst hR
    refine ao (c := ⟨Tryz.prog,117,[(5,[0,0,0,0,0,0,0,0,0,0,1,0,0,0,0,2,0]),(10,[0,0,0,0,2,0,0]),(12,[0,0,0,0,1,1,0,0,1,0,0,0,2,0]),(16,[0,0,0,0,0,2,0,0,2,0,2,2]),(17,[0,0,0,0,1,0,0,2,0,0,2,0,0,2]),(18,[0,0,0,0,0,0,0,2,0,0,0,0,0,0,2,0,2,0,0,2]),(1000000,[5]),(1000016,[8]),(4000017,[0,1,5,7]),(4000016,[0,1,5,7,8]),(4000014,[0,1,5,7,74]),(4000012,[0,1,5,7,67]),(4000010,[0,1,5,7,53]),(4000008,[0,1,5,7,46]),(4000005,[41]),(4000003,[0,1,5,7]),(4000001,[0,1,5,15])],[80,2000092,2000105],[(5,(.op 0 0 (.op 1 0 (.op 2 0 (.op 4 0 (.op 5 0 (.op 6 0 (.op 9 0 (.op 10 0 (.op 11 0 (.op 12 0 (.op 13 0 (.op 14 0 (.or (.op 3 3 (.op 7 0 (.op 8 0 (.op 15 2 (.op 16 0 .nil))))) (.op 15 2 (.op 3 3 (.op 7 0 (.op 8 0 (.op 16 0 .nil))))))))))))))))))),(16,(.op 0 0 (.op 1 0 (.op 2 0 (.op 3 0 (.op 4 0 (.op 6 0 (.op 7 0 (.or (.op 5 3 (.or (.op 8 3 (.op 9 0 (.op 10 3 (.op 11 2 .nil)))) (.op 10 3 (.op 8 3 (.op 9 0 (.op 11 2 .nil)))))) (.op 10 3 (.op 5 3 (.op 8 3 (.op 9 0 (.op 11 2 .nil)))))))))))))),(17,(.op 0 0 (.op 1 0 (.op 2 0 (.op 3 0 (.op 5 0 (.op 6 0 (.op 8 0 (.op 9 0 (.op 4 4 (.op 7 3 (.op 10 3 (.op 11 0 (.op 12 0 (.op 13 2 .nil))))))))))))))),(18,(.op 0 0 (.op 1 0 (.op 2 0 (.op 3 0 (.op 5 0 (.op 6 0 (.op 8 0 (.op 9 0 (.op 10 0 (.op 11 0 (.op 12 0 (.op 13 0 (.or (.op 4 3 (.or (.op 7 3 (.op 14 2 (.op 15 0 (.op 16 3 (.op 17 0 (.op 18 0 (.op 19 2 .nil))))))) (.op 14 2 (.op 15 0 (.op 7 3 (.op 16 3 (.op 17 0 (.op 18 0 (.op 19 2 .nil))))))))) (.op 14 2 (.op 15 0 (.op 4 3 (.op 7 3 (.op 16 3 (.op 17 0 (.op 18 0 (.op 19 2 .nil))))))))))))))))))))))]⟩) (rs := [ResultVar.tmp 6]) Tryz.mixed Tryz.func23 rfl rfl rfl (Nat.le_of_ble_eq_true rfl) (by kernel_rfl) ?_
    simp (disch := omega) only [↓aI,↓zP,aD,zD,aS,simprocAttr,Tryz.facts,zA]
    intro b5 hb50 hb5
    rw [aj hb5]
    try simp (disch := omega) only [↓aI,↓zP,aD,zD,aS,simprocAttr,Tryz.facts,zA]
    first | refine CallK.p (hrp) ?_ | refine CallP.i (hrp) ?_
    simp (disch := omega) only [↓aI,↓zP,aD,zD,aS,simprocAttr,Tryz.facts,zA,hrH _ _ s]
    refine CallK.i (hdl _ (hrH _ _ s)) ?_
    rintro v E ⟨rfl,rfl⟩
    try simp (disch := omega) only [↓aI,↓zP,aD,zD,aS,simprocAttr,Tryz.facts,zA]
    first | refine CallK.p (hq) ?_ | refine CallP.i (hq) ?_
    simp (disch := omega) only [↓aI,↓zP,aD,zD,aS,simprocAttr,Tryz.facts,zA]
    try simp (disch := omega) only [↓aI,↓zP,aD,zD,aS,simprocAttr,Tryz.facts,zA,hrH _ _ s]
    first | refine CallK.p (hw) ?_ | refine CallP.i (hw) ?_
    simp (disch := omega) only [↓aI,↓zP,aD,zD,aS,simprocAttr,Tryz.facts,zA]
    refine CallK.i (hv _ s) ?_
    rintro v E ⟨rfl,rfl⟩
    try simp (disch := omega) only [↓aI,↓zP,aD,zD,aS,simprocAttr,Tryz.facts,zA]
    exact ⟨_,rfl,_,Abs.Sub.refl _,rfl,k,kd,hk,hkd,by rw [hsame]; exact s⟩
  rw [if_neg (by simp)] at hR
  cases fq
  · rw [if_pos rfl] at hR
    subst hR
    refine ao (c := ⟨Tryz.prog,117,[(5,[0,0,0,0,0,0,0,0,0,0,1,0,0,0,0,2,0]),(10,[0,0,0,0,2,0,0]),(12,[0,0,0,0,1,1,0,0,1,0,0,0,2,0]),(16,[0,0,0,0,0,2,0,0,2,0,2,2]),(17,[0,0,0,0,1,0,0,2,0,0,2,0,0,2]),(18,[0,0,0,0,0,0,0,2,0,0,0,0,0,0,2,0,2,0,0,2]),(1000000,[5]),(1000016,[8]),(4000017,[0,1,5,7]),(4000016,[0,1,5,7,8]),(4000014,[0,1,5,7,74]),(4000012,[0,1,5,7,67]),(4000010,[0,1,5,7,53]),(4000008,[0,1,5,7,46]),(4000005,[41]),(4000003,[0,1,5,7]),(4000001,[0,1,5,15])],[80,2000092,2000105],[(5,(.op 0 0 (.op 1 0 (.op 2 0 (.op 4 0 (.op 5 0 (.op 6 0 (.op 9 0 (.op 10 0 (.op 11 0 (.op 12 0 (.op 13 0 (.op 14 0 (.or (.op 3 3 (.op 7 0 (.op 8 0 (.op 15 2 (.op 16 0 .nil))))) (.op 15 2 (.op 3 3 (.op 7 0 (.op 8 0 (.op 16 0 .nil))))))))))))))))))),(16,(.op 0 0 (.op 1 0 (.op 2 0 (.op 3 0 (.op 4 0 (.op 6 0 (.op 7 0 (.or (.op 5 3 (.or (.op 8 3 (.op 9 0 (.op 10 3 (.op 11 2 .nil)))) (.op 10 3 (.op 8 3 (.op 9 0 (.op 11 2 .nil)))))) (.op 10 3 (.op 5 3 (.op 8 3 (.op 9 0 (.op 11 2 .nil)))))))))))))),(17,(.op 0 0 (.op 1 0 (.op 2 0 (.op 3 0 (.op 5 0 (.op 6 0 (.op 8 0 (.op 9 0 (.op 4 4 (.op 7 3 (.op 10 3 (.op 11 0 (.op 12 0 (.op 13 2 .nil))))))))))))))),(18,(.op 0 0 (.op 1 0 (.op 2 0 (.op 3 0 (.op 5 0 (.op 6 0 (.op 8 0 (.op 9 0 (.op 10 0 (.op 11 0 (.op 12 0 (.op 13 0 (.or (.op 4 3 (.or (.op 7 3 (.op 14 2 (.op 15 0 (.op 16 3 (.op 17 0 (.op 18 0 (.op 19 2 .nil))))))) (.op 14 2 (.op 15 0 (.op 7 3 (.op 16 3 (.op 17 0 (.op 18 0 (.op 19 2 .nil))))))))) (.op 14 2 (.op 15 0 (.op 4 3 (.op 7 3 (.op 16 3 (.op 17 0 (.op 18 0 (.op 19 2 .nil))))))))))))))))))))))]⟩) (rs := [ResultVar.tmp 6]) Tryz.mixed Tryz.func23 rfl rfl rfl (Nat.le_of_ble_eq_true rfl) (by kernel_rfl) ?_
    simp (disch := omega) only [↓aI,↓zP,aD,zD,aS,simprocAttr,Tryz.facts,zA]
    intro b5 hb50 hb5
    rw [aj hb5]
    try simp (disch := omega) only [↓aI,↓zP,aD,zD,aS,simprocAttr,Tryz.facts,zA]
    first | refine CallK.p (hrp) ?_ | refine CallP.i (hrp) ?_
    simp (disch := omega) only [↓aI,↓zP,aD,zD,aS,simprocAttr,Tryz.facts,zA,hrH _ _ s]
    refine CallK.i (hdl _ (hrH _ _ s)) ?_
    rintro v E ⟨rfl,rfl⟩
    try simp (disch := omega) only [↓aI,↓zP,aD,zD,aS,simprocAttr,Tryz.facts,zA]
    first | refine CallK.p (hq) ?_ | refine CallP.i (hq) ?_
    simp (disch := omega) only [↓aI,↓zP,aD,zD,aS,simprocAttr,Tryz.facts,zA]
    try simp (disch := omega) only [↓aI,↓zP,aD,zD,aS,simprocAttr,Tryz.facts,zA,hrH _ _ s]
    first | refine CallK.p (hw) ?_ | refine CallP.i (hw) ?_
    simp (disch := omega) only [↓aI,↓zP,aD,zD,aS,simprocAttr,Tryz.facts,zA]
    refine CallK.i (hv _ s) ?_
    rintro v E ⟨rfl,rfl⟩
    try simp (disch := omega) only [↓aI,↓zP,aD,zD,aS,simprocAttr,Tryz.facts,zA]
    refine CallK.i (hfo _ (hrH _ _ s)) ?_
    rintro v E ⟨rfl,rfl⟩
    try simp (disch := omega) only [↓aI,↓zP,aD,zD,aS,simprocAttr,Tryz.facts,zA]
    exact ⟨_,rfl,_,Abs.Sub.refl _,rfl,k,kd,hk,hkd,by rw [hsame]; exact s⟩
  rw [if_neg (by simp)] at hR
  subst hR
  simp only [hLe,hDe]
  refine ao (c := ⟨Tryz.prog,117,[(5,[0,0,0,0,0,0,0,0,0,0,1,0,0,0,0,2,0]),(10,[0,0,0,0,2,0,0]),(12,[0,0,0,0,1,1,0,0,1,0,0,0,2,0]),(16,[0,0,0,0,0,2,0,0,2,0,2,2]),(17,[0,0,0,0,1,0,0,2,0,0,2,0,0,2]),(18,[0,0,0,0,0,0,0,2,0,0,0,0,0,0,2,0,2,0,0,2]),(1000000,[5]),(1000016,[8]),(4000017,[0,1,5,7]),(4000016,[0,1,5,7,8]),(4000014,[0,1,5,7,74]),(4000012,[0,1,5,7,67]),(4000010,[0,1,5,7,53]),(4000008,[0,1,5,7,46]),(4000005,[41]),(4000003,[0,1,5,7]),(4000001,[0,1,5,15])],[80,2000092,2000105],[(5,(.op 0 0 (.op 1 0 (.op 2 0 (.op 4 0 (.op 5 0 (.op 6 0 (.op 9 0 (.op 10 0 (.op 11 0 (.op 12 0 (.op 13 0 (.op 14 0 (.or (.op 3 3 (.op 7 0 (.op 8 0 (.op 15 2 (.op 16 0 .nil))))) (.op 15 2 (.op 3 3 (.op 7 0 (.op 8 0 (.op 16 0 .nil))))))))))))))))))),(16,(.op 0 0 (.op 1 0 (.op 2 0 (.op 3 0 (.op 4 0 (.op 6 0 (.op 7 0 (.or (.op 5 3 (.or (.op 8 3 (.op 9 0 (.op 10 3 (.op 11 2 .nil)))) (.op 10 3 (.op 8 3 (.op 9 0 (.op 11 2 .nil)))))) (.op 10 3 (.op 5 3 (.op 8 3 (.op 9 0 (.op 11 2 .nil)))))))))))))),(17,(.op 0 0 (.op 1 0 (.op 2 0 (.op 3 0 (.op 5 0 (.op 6 0 (.op 8 0 (.op 9 0 (.op 4 4 (.op 7 3 (.op 10 3 (.op 11 0 (.op 12 0 (.op 13 2 .nil))))))))))))))),(18,(.op 0 0 (.op 1 0 (.op 2 0 (.op 3 0 (.op 5 0 (.op 6 0 (.op 8 0 (.op 9 0 (.op 10 0 (.op 11 0 (.op 12 0 (.op 13 0 (.or (.op 4 3 (.or (.op 7 3 (.op 14 2 (.op 15 0 (.op 16 3 (.op 17 0 (.op 18 0 (.op 19 2 .nil))))))) (.op 14 2 (.op 15 0 (.op 7 3 (.op 16 3 (.op 17 0 (.op 18 0 (.op 19 2 .nil))))))))) (.op 14 2 (.op 15 0 (.op 4 3 (.op 7 3 (.op 16 3 (.op 17 0 (.op 18 0 (.op 19 2 .nil))))))))))))))))))))))]⟩) (rs := [ResultVar.tmp 6]) Tryz.mixed Tryz.func23 rfl rfl rfl (Nat.le_of_ble_eq_true rfl) (by kernel_rfl) ?_
  simp (disch := omega) only [↓aI,↓zP,aD,zD,aS,simprocAttr,Tryz.facts,zA]
  intro b5 hb50 hb5
  rw [aj hb5]
  try simp (disch := omega) only [↓aI,↓zP,aD,zD,aS,simprocAttr,Tryz.facts,zA]
  first | refine CallK.p (hrp) ?_ | refine CallP.i (hrp) ?_
  simp (disch := omega) only [↓aI,↓zP,aD,zD,aS,simprocAttr,Tryz.facts,zA,hrH _ _ s]
  refine CallK.i (hdl _ (hrH _ _ s)) ?_
  rintro v E ⟨rfl,rfl⟩
  try simp (disch := omega) only [↓aI,↓zP,aD,zD,aS,simprocAttr,Tryz.facts,zA]
  first | refine CallK.p (hq) ?_ | refine CallP.i (hq) ?_
  simp (disch := omega) only [↓aI,↓zP,aD,zD,aS,simprocAttr,Tryz.facts,zA]
  try simp (disch := omega) only [↓aI,↓zP,aD,zD,aS,simprocAttr,Tryz.facts,zA,hrH _ _ s]
  first | refine CallK.p (hw) ?_ | refine CallP.i (hw) ?_
  simp (disch := omega) only [↓aI,↓zP,aD,zD,aS,simprocAttr,Tryz.facts,zA]
  refine CallK.i (hv _ s) ?_
  rintro v E ⟨rfl,rfl⟩
  try simp (disch := omega) only [↓aI,↓zP,aD,zD,aS,simprocAttr,Tryz.facts,zA]
  refine CallK.i (hfo _ (hrH _ _ s)) ?_
  rintro v E ⟨rfl,rfl⟩
  try simp (disch := omega) only [↓aI,↓zP,aD,zD,aS,simprocAttr,Tryz.facts,zA]
  refine eI (fun σ F => ∃ (b8 kx : Nat),F b8 = some (.cells [.sc (.int .i64 ((g.L.length : Int) + 1)),.sc (.slice none 0 0),.imm 0 (ms.flatMap fL) ms.length,.imm kx (ns.flatMap ndC) ns.length,.sc (.slice none 0 0),.sc (.slice none 0 0),.sc (.slice none 0 0)] 27 7) ∧ E b8 = none ∧ Abs.Sub E F ∧
    σ 0 = .ptr r 0 ∧ σ 1 = iT h ∧ σ 5 = .ip [.sc (.int .i64 ((g.L.length : Int) + 1)),eu prev,fE ms,fY ns,eu once,fZ bs,eu sig] 0 ∧ σ 7 = .sc (.int .i64 (g.L.length : Nat)) ∧ σ 8 = .ptr b8 0) ?_ ?_
  · simp (disch := omega) only [↓aI,↓zP,aD,zD,aS,simprocAttr,Tryz.facts,zA]
    first | refine CallK.p (hcp) ?_ | refine CallP.i (hcp) ?_
    simp (disch := omega) only [↓aI,↓zP,aD,zD,aS,simprocAttr,Tryz.facts,zA]
    refine And.intro ?_ ?_
    · intro k1 hk10 hk1
      try simp (disch := omega) only [↓aI,↓zP,aD,zD,aS,simprocAttr,Tryz.facts,zA,hnl]
      refine And.intro ?_ ?_
      · intro k2 o2 hk20 hk2 ho2
        try simp (disch := omega) only [↓aI,↓zP,aD,zD,aS,simprocAttr,Tryz.facts,zA,hnl,aj hk1]
        intro b8 hb80 hb8
        have hk2 := am hk2
        try simp (disch := omega) only [↓aI,↓zP,aD,zD,aS,simprocAttr,Tryz.facts,zA,hnl,aj hk1,ah]
        exact ⟨b8,k2,set_get,am hb8,((Abs.Sub.refl E).set_free hk2).set_free (am hb8),rfl⟩
      · intro b8 hb80 hb8
        have n1 := bK hb8
        try simp (disch := omega) only [↓aI,↓zP,aD,zD,aS,simprocAttr,Tryz.facts,zA,hnl,aP,n1]
        intro k2 o2 hk20 hk2 ho2
        have n8 := bK hk2
        have hk2 := am (am hk2)
        try simp (disch := omega) only [↓aI,↓zP,aD,zD,aS,simprocAttr,Tryz.facts,zA,hnl,aP,n1,n8,i6 hk1 n1,ah]
        exact ⟨b8,k2,set_get,am hb8,(((Abs.Sub.refl E).set_free (am hb8)).set_free hk2).set_free (am hb8),rfl⟩
    · intro b8 hb80 hb8
      try simp (disch := omega) only [↓aI,↓zP,aD,zD,aS,simprocAttr,Tryz.facts,zA,hnl]
      intro k1 hk10 hk1
      try simp (disch := omega) only [↓aI,↓zP,aD,zD,aS,simprocAttr,Tryz.facts,zA,hnl]
      intro k2 o2 hk20 hk2 ho2
      have n8 := bK (am hk2)
      have hk2 := am (am hk2)
      try simp (disch := omega) only [↓aI,↓zP,aD,zD,aS,simprocAttr,Tryz.facts,zA,hnl,aP,n8,aj hk1,ah]
      exact ⟨b8,k2,set_get,hb8,(((Abs.Sub.refl E).set_free hb8).set_free hk2).set_free hb8,rfl⟩
  · rintro σ F ⟨b8,kx,v8,hb8,hs8,s0,s1,s5,s7,s8⟩
    have sF := s.up (hs8.kill_free hb8)
    simp (disch := omega) only [↓aI,↓zP,aD,zD,aS,simprocAttr,Tryz.facts,zA,s0,s1,s5,s7,s8,v8]
    generalize hF' : F.kill b8 = F1 at *
    have r1 := hrH _ _ sF
    refine jk ?_
    have ht1 : cy 27 7 (.full g.L.length) (g.L.length * 7) = True := TokO_full rfl
    have ht2 : cy 22 1 (.full g.D.length) g.D.length = True := TokO_full (Nat.mul_one _).symm
    simp (disch := omega) only [↓aI,↓zP,aD,zD,aS,simprocAttr,Tryz.facts,zA,r1,hLc]
    intro g1 hg10 hg1
    have nr1 := bA r1 hg1
    try simp (disch := omega) only [↓aI,↓zP,aD,zD,aS,simprocAttr,Tryz.facts,zA,r1,hLc,ht1]
    intro k1 o1 hk10 hk1 ho1
    have hk1 := am hk1
    have nrk := bA r1 hk1
    try simp (disch := omega) only [↓aI,↓zP,aD,zD,aS,simprocAttr,Tryz.facts,zA,r1,hLc,ht1,aj hg1,aP,nr1,nrk,ah]
    have s2 := (sF.up (Sub.set_new (o := o1) hk1)).put (o' := .cells [eu ad,.imm k1 ((g.L.map iF).flatMap fX ++ [.sc (.int .i64 ((g.L.length : Int) + 1)),.imm 0 [] 0,fE ms,fY ns,.imm 0 [] 0,.imm 0 [] 0,.imm 0 [] 0]) (g.L.length + 1),.imm kd (g.D.map eu) g.D.length] 97 3) hr
    generalize hE2 : (F1.set k1 o1).set r _ = E2 at *
    have r2 := s2.sub r _ set_get
    have hsn := fun (F : AH) (kk : Nat) (s : SS (H0.set r (.cells [eu ad,.imm k1 ((g.L.map iF).flatMap fX ++ [.sc (.int .i64 ((g.L.length : Int) + 1)),.imm 0 [] 0,fE ms,fY ns,.imm 0 [] 0,.imm 0 [] 0,.imm 0 [] 0]) (g.L.length + 1),.imm kd (g.D.map eu) g.D.length] 97 3)) F h m d ts1) =>
      SS.put1 (o' := .cells [eu ad,.imm k1 ((g.L.map iF).flatMap fX ++ [.sc (.int .i64 ((g.L.length : Int) + 1)),.imm 0 [] 0,fE ms,fY ns,.imm 0 [] 0,.imm 0 [] 0,.imm 0 [] 0]) (g.L.length + 1),.imm kk (g.D.map eu ++ [eu y]) (g.D.length + 1)] 97 3) s
    refine eI (fun σ F => ∃ kk,¬ kk = 0 ∧ SS (H0.set r (.cells [eu ad,.imm k1 ((g.L.map iF).flatMap fX ++ [.sc (.int .i64 ((g.L.length : Int) + 1)),.imm 0 [] 0,fE ms,fY ns,.imm 0 [] 0,.imm 0 [] 0,.imm 0 [] 0]) (g.L.length + 1),.imm kk (g.D.map eu ++ [eu y]) (g.D.length + 1)] 97 3)) F h m d ts1) ?_ ?_
    · simp (disch := omega) only [↓aI,↓zP,aD,zD,aS,simprocAttr,Tryz.facts,zA,r2]
      first | refine CallK.p (hw) ?_ | refine CallP.i (hw) ?_
      simp (disch := omega) only [↓aI,↓zP,aD,zD,aS,simprocAttr,Tryz.facts,zA,r2]
      refine And.intro ?_ ?_
      · try simp (disch := omega) only [↓aI,↓zP,aD,zD,aS,simprocAttr,Tryz.facts,zA,r2,hDc]
        refine And.intro ?_ ?_
        · intro g2 hg20 hg2
          try simp (disch := omega) only [↓aI,↓zP,aD,zD,aS,simprocAttr,Tryz.facts,zA,r2,hDc]
          have s3 := s2.box (o := .full g.D.length) hg2
          refine CallK.i (hh _ _ s3) ?_
          rintro v E ⟨rfl,s4⟩
          have v4 := s4.sub _ _ set_get
          have hg2b := s2.sub.free hg2
          have s5 := s4.drop hg2b
          try simp (disch := omega) only [↓aI,↓zP,aD,zD,aS,simprocAttr,Tryz.facts,zA,v4,hDc,ht2]
          intro k2 o2 hk20 hk2 ho2
          have s6 := s5.up (Sub.set_new (o := o2) (k := k2) (by simp [AH.kill,hk2]))
          have r6 := s6.sub r _ set_get
          try simp (disch := omega) only [↓aI,↓zP,aD,zD,aS,simprocAttr,Tryz.facts,zA,v4,hDc,ht2,r6,ah]
          exact ⟨k2,hk20,hsn _ _ s6⟩
        · refine CallK.i (hh _ _ s2) ?_
          rintro v E ⟨rfl,s4⟩
          have r4 := s4.sub r _ set_get
          try simp (disch := omega) only [↓aI,↓zP,aD,zD,aS,simprocAttr,Tryz.facts,zA,r4,hDc,ht2]
          intro g2 hg20 hg2
          try simp (disch := omega) only [↓aI,↓zP,aD,zD,aS,simprocAttr,Tryz.facts,zA,r4,hDc,ht2,aj hg2]
          intro k2 o2 hk20 hk2 ho2
          have s6 := s4.up (Sub.set_new (o := o2) (k := k2) (am hk2))
          have r6 := s6.sub r _ set_get
          try simp (disch := omega) only [↓aI,↓zP,aD,zD,aS,simprocAttr,Tryz.facts,zA,r4,hDc,ht2,r6,aj hg2,ah]
          exact ⟨k2,hk20,hsn _ _ s6⟩
      · refine CallK.i (hh _ _ s2) ?_
        rintro v E ⟨rfl,s4⟩
        have r4 := s4.sub r _ set_get
        try simp (disch := omega) only [↓aI,↓zP,aD,zD,aS,simprocAttr,Tryz.facts,zA,r4,hDc,ht2]
        intro g2 hg20 hg2
        try simp (disch := omega) only [↓aI,↓zP,aD,zD,aS,simprocAttr,Tryz.facts,zA,r4,hDc,ht2,aj hg2]
        intro k2 o2 hk20 hk2 ho2
        have s6 := s4.up (Sub.set_new (o := o2) (k := k2) (am hk2))
        have r6 := s6.sub r _ set_get
        try simp (disch := omega) only [↓aI,↓zP,aD,zD,aS,simprocAttr,Tryz.facts,zA,r4,hDc,ht2,r6,aj hg2,ah]
        exact ⟨k2,hk20,hsn _ _ s6⟩
    · rintro σ F2 ⟨kk,hkk,s9⟩
      simp (disch := omega) only [↓aI,↓zP,aD,zD,aS,simprocAttr,Tryz.facts,zA]
      refine ⟨_,rfl,_,Abs.Sub.refl _,rfl,k1,kk,hk10,hkk,?_⟩
      exact s9
theorem take_live (hg : OkG g) (he : OkE e) (gt : GT N ts) (hN : N ≤ 999990) (s : SS H0 H h m d ts) (hr0 : r ≠ 0) (hk : k ≠ 0) (hkd : kd ≠ 0) (hr : H0 r = some (lgP ad g k kd)) (had : ad.length ≤ 100000000) :
    ACalls Tryz.prog 23 [.ptr r 0,iT h,.agg (fX e)] H fun v H' => v = .sc (.int .i64 (gO ts ad g e).2.2) ∧ ∃ k' kd',k' ≠ 0 ∧ kd' ≠ 0 ∧ SS (H0.set r (lgP ad (gO ts ad g e).2.1 k' kd')) H' h m d (gO ts ad g e).1 := by
  have hsame : H0.set r (lgP ad g k kd) = H0 := set_same hr
  cases hrt : gK e
  · have hR : gO ts ad g e = (ts,g,1) := if_pos hrt
    rw [hR]
    refine (take_arg he hr0 hrt).mono ?_
    rintro v H' ⟨rfl,rfl⟩
    exact ⟨rfl,k,kd,hk,hkd,by rw [hsame]; exact s⟩
  · by_cases hn : e.n ≤ (g.L.length : Int)
    · have hR : gO ts ad g e = ((fC ts (gQ e)).1, g, if fP ts (gQ e) = iZ g.D e.n then 16 else 18) := by
        unfold gO
        rw [if_neg (by rw [hrt]; decide),if_pos hn]
      rw [hR]
      refine (take_old hg he gt hN s hr0 hk hr hrt hn).mono ?_
      rintro v H' ⟨rfl,s1⟩
      exact ⟨rfl,k,kd,hk,hkd,by rw [hsame]; exact s1⟩
    · exact take_new hg he gt hN s hr0 hk hkd hr had hrt hn
end Go.Proofs.YtjlnpngaiphnmaaGreat
end
