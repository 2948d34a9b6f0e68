/-
  Several texts in one: each says what it proves.
  Conditions: none. Lemmas only.
-/
import Derived.Test.YtcgjlmopeblapaaGreatPapG2
set_option linter.all false
section
set_option linter.unusedSimpArgs false
set_option linter.unusedVariables false
set_option maxRecDepth 8000
set_option maxHeartbeats 4000000
namespace Go.Proofs.YtcgjlmopeblapaaGreat
open Go Go.Abs Go.Proofs Go.Fug
def dZ (s : PS) (F : List Opn) (o : Opn) : List Opn := if cM o ∈ F.map cM ∨ cf s o = true then F else F ++ [o]
def freshP (s : PS) (l : List Opn) : List Opn := l.foldl (dZ s) []
def dI (F : List Opn) : Nat := (F.filter fun o => decide (o.kind = 3)).length
def doP (s : PS) (l : List Opn) : Int × PS :=
  if l.all opR = false then (1,s)
  else if 4096 < s.I.length + s.D.length + s.l.length + (freshP s l).length ∨ 512 < s.l.length + dI (freshP s l) then (14,s)
  else (0,settleP ((freshP s l).foldl dK s))
def dP (F : List Opn) : List (AV × AV) := F.map fun o => (nameV (cM o),.sc (.int .i64 1))
theorem seenE_snoc (F : List Opn) (o : Opn) : dP F ++ [(nameV (cM o),.sc (.int .i64 1))] = dP (F ++ [o]) := by simp [dP]
theorem find_seen (n : Int × Int × Int) : ∀ (F : List Opn) (i : Nat),(cY Tryz.prog 93 (nameV n) (dP F) i = some none ∧ n ∉ F.map cM) ∨ ∃ j v,cY Tryz.prog 93 (nameV n) (dP F) i = some (some (j,v)) ∧ n ∈ F.map cM
  | [],i => .inl ⟨rfl,by simp⟩
  | y :: F,i => by
    have ih := find_seen n F (i + 1)
    unfold dP at ih ⊢
    simp only [List.map_cons,cY]
    rw [Tryz.eq93]
    by_cases hxy : n = cM y
    · subst hxy
      exact .inr ⟨i,.sc (.int .i64 1),by simp,by simp⟩
    · have h1 : ((n.1 == (cM y).1) && ((n.2.1 == (cM y).2.1) && ((n.2.2 == (cM y).2.2) && true))) = false := by
        rw [Bool.eq_false_iff]
        intro h
        simp only [Bool.and_eq_true,beq_iff_eq,and_true] at h
        exact hxy (Prod.ext h.1 (Prod.ext h.2.1 h.2.2))
      rw [h1]
      simp only [List.mem_cons,hxy,false_or]
      exact ih
structure Fresh (s : PS) (F : List Opn) : Prop where
  ok : ∀ o ∈ F,opR o = true ∧ cf s o = false
  nd : (F.map cM).Nodup
theorem Fresh.step {s : PS} {F : List Opn} (f : Fresh s F) {o : Opn} (ho : opR o = true) : Fresh s (dZ s F o) := by
  unfold dZ
  split
  · exact f
  · rename_i h
    have h1 : cM o ∉ F.map cM := fun e => h (.inl e)
    have h2 : cf s o = false := by simpa using fun e => h (.inr e)
    refine ⟨fun q hq => ?_,?_⟩
    · rcases List.mem_append.1 hq with h3 | h3
      · exact f.ok q h3
      · rw [List.mem_singleton.1 h3]; exact ⟨ho,h2⟩
    · rw [List.map_append,List.map_cons,List.map_nil,List.nodup_append]
      exact ⟨f.nd,by simp,by intro a ha b hb; simp only [List.mem_singleton] at hb; subst hb; exact fun e => h1 (e ▸ ha)⟩
theorem opR_kind {o : Opn} (h : opR o = true) : o.kind = 1 ∨ o.kind = 2 ∨ o.kind = 3 := by
  unfold opR at h
  by_cases k1 : o.kind = 1
  · exact .inl k1
  · by_cases k2 : o.kind = 2
    · exact .inr (.inl k2)
    · by_cases k3 : o.kind = 3
      · exact .inr (.inr k3)
      · rw [if_neg k1,if_neg k2,if_neg k3] at h; cases h
theorem has_add {l : List Mk} {q : Mk} {c a : Int} (h : ¬ (q.clock = c ∧ q.author = a)) : hasM (eU l q).1 c a = hasM l c a := by
  unfold eU
  split
  · rfl
  · split
    · rfl
    · split
      · rfl
      · rw [Bool.eq_iff_iff]
        unfold hasM
        simp only [List.any_eq_true,List.mem_append,List.mem_filter,List.mem_singleton]
        constructor
        · rintro ⟨x,(⟨h1,-⟩ | rfl) | ⟨h1,-⟩,h2⟩
          · exact ⟨x,h1,h2⟩
          · exact absurd (of_decide_eq_true h2) h
          · exact ⟨x,h1,h2⟩
        · rintro ⟨x,h1,h2⟩
          cases hn : newM q x with
          | true => exact ⟨x,.inl (.inl ⟨h1,hn⟩),h2⟩
          | false => exact ⟨x,.inr ⟨h1,by rw [hn]; rfl⟩,h2⟩
theorem known_take {s : PS} {o q : Opn} (ho : opR o = true) (hq : opR q = true) (hn : cM o ≠ cM q) : cf (dK s q) o = cf s o := by
  have k1 := opR_kind ho
  have k2 := opR_kind hq
  unfold cf dK
  unfold cM at hn
  rcases k1 with k1 | k1 | k1 <;> rcases k2 with k2 | k2 | k2
  all_goals
    simp only [k1,k2] at hn ⊢
    simp at hn ⊢
  · intro h1
    exact absurd (congrArg Prod.snd h1) (hn (congrArg Prod.fst h1))
  · intro h1
    exact absurd (congrArg Prod.snd h1) (hn (congrArg Prod.fst h1))
  · exact has_add fun h => hn h.2.symm h.1.symm
theorem known_takes {o : Opn} (ho : opR o = true) : ∀ (A : List Opn),(∀ q ∈ A,opR q = true ∧ cM o ≠ cM q) → ∀ s,cf (A.foldl dK s) o = cf s o
  | [],_,s => rfl
  | q :: A,h,s => by
    rw [List.foldl_cons,known_takes ho A (fun x hx => h x (by simp [hx])),known_take ho (h q (by simp)).1 (h q (by simp)).2]
def sizP (s : PS) : Nat := s.I.length + s.D.length + s.l.length
theorem take_siz (s : PS) (o : Opn) : sizP (dK s o) ≤ sizP s + 1 := by
  unfold sizP dK
  split
  · simp; omega
  · split
    · simp; omega
    · have : ∀ l m, (eU l m).1.length ≤ l.length + 1 := fun l m => by
        unfold eU
        split
        · simp
        · split
          · simp
          · split
            · simp
            · have key : ∀ (p : Mk → Bool) (l : List Mk), (l.filter p).length + (l.filter fun x => !p x).length = l.length := by
                intro p l
                induction l with
                | nil => rfl
                | cons x l ih => cases h : p x <;> simp [List.filter_cons,h] <;> omega
              have := key (fun x => newM m x) l
              simp only [List.length_append,List.length_cons,List.length_nil]
              omega
      have := this s.l o.mar
      simp only []
      omega
theorem takes_siz : ∀ (A : List Opn) (s : PS),sizP (A.foldl dK s) ≤ sizP s + A.length
  | [],s => by simp
  | o :: A,s => by
    rw [List.foldl_cons]
    have h1 := takes_siz A (dK s o)
    have h2 := take_siz s o
    simp only [List.length_cons]
    omega
theorem fresh_len (s : PS) : ∀ (l F : List Opn),(l.foldl (dZ s) F).length ≤ F.length + l.length
  | [],F => by simp
  | o :: l,F => by
    rw [List.foldl_cons]
    have h1 := fresh_len s l (dZ s F o)
    have h2 : (dZ s F o).length ≤ F.length + 1 := by
      unfold dZ
      split
      · omega
      · simp
    simp only [List.length_cons]
    omega
theorem do_live (B H : AH) (h : PH) (s : PS) (l : List Opn) (p : IsP B H h s) (hl : l.length ≤ 1000000) (hz : sizP s ≤ 4096) :
    ACalls Tryz.prog 18 [.ptr h.p 0,opsV l] H fun v H' => v = .sc (.int .i64 (doP s l).1) ∧ IsP B H' h (doP s l).2 := by
  have hol := cq l
  obtain ⟨v0,vp,hw0⟩ := p.pw
  have hli := fun H hb => list_live H h.b s.l hb p.g.small
  have hg := p.g.small
  unfold sizP at hz
  have hR : doP s l = if l.all opR = false then (1,s) else if 4096 < s.I.length + s.D.length + s.l.length + (freshP s l).length ∨ 512 < s.l.length + dI (freshP s l) then (14,s) else (0,settleP ((freshP s l).foldl dK s)) := rfl
  generalize doP s l = R at *
  refine ao (c := ⟨Tryz.prog,107,[(2000022,[0,1,2,3,4,5,6,7,8,9,10,11,12,13,14,18,19,15,16,17,20,21]),(22,[0,0,0,1,1,0,0,0,1,1,0,0,0,0,1,0,0,2,0,0,0,0]),(1000008,[9]),(1000018,[13]),(1000027,[16]),(4000023,[0,6,94]),(4000022,[0,6,7,14]),(4000014,[0,5,6,7,26,27,28]),(4000012,[0,5,6,7,9,26,27,28,47]),(4000011,[0,5,6,7,9,11,26,27,28]),(4000005,[0,1,5,6,7])],[],[]⟩) (rs := [ResultVar.tmp 4]) Tryz.mixed Tryz.func18 rfl rfl rfl (Nat.le_of_ble_eq_true rfl) (by kernel_rfl) ?_
  simp (disch := omega) only [↓aI,↓zP,aD,zD,aS,simprocAttr,Tryz.facts]
  intro ms hms0 hms
  have pm := p.mono (Sub.set_new (o := .map []) hms)
  have vp1 : (H.set ms (.map [])) h.p = some (papO h v0) := by rw [aP (bA vp hms)]; exact vp
  simp (disch := omega) only [↓aI,↓zP,aD,zD,aS,simprocAttr,Tryz.facts,vp1]
  refine CallK.i (hli _ pm.b) ?_
  rintro v E ⟨rfl,rfl⟩
  have hll := bM s.l
  simp (disch := omega) only [↓aI,↓zP,aD,zD,aS,simprocAttr,Tryz.facts,hol]
  refine tok_t 6 (by simp (disch := omega) only [↓aI,↓zP,aD,zD,aS,simprocAttr,Tryz.facts]) fun kf hkf0 hkf => ?_
  refine br (c := ⟨Tryz.prog,107,[(2000022,[0,1,2,3,4,5,6,7,8,9,10,11,12,13,14,18,19,15,16,17,20,21]),(22,[0,0,0,1,1,0,0,0,1,1,0,0,0,0,1,0,0,2,0,0,0,0]),(1000008,[9]),(1000018,[13]),(1000027,[16]),(4000023,[0,6,94]),(4000022,[0,6,7,14]),(4000014,[0,5,6,7,26,27,28]),(4000012,[0,5,6,7,9,26,27,28,47]),(4000011,[0,5,6,7,9,11,26,27,28]),(4000005,[0,1,5,6,7])],[],[]⟩) Tryz.mixed (by kernel_rfl) (fun mm σ H' => ∃ (i : Nat) (F : List Opn) (kf : Nat) (o : AObj),i + mm = l.length ∧ F = (l.take i).foldl (dZ s) [] ∧ (∀ q ∈ l.take i,opR q = true) ∧ Fresh s F ∧ F.length ≤ i ∧ kf ≠ 0 ∧ H kf = none ∧ ¬ ms = kf ∧ H' = (H.set ms (.map (dP F))).set kf o ∧ cy 58 19 o (F.length * 19) ∧
    σ 0 = .ptr h.p 0 ∧ σ 5 = .mp ms ∧ σ 6 = .imm kf (dL F) F.length ∧ σ 7 = .sc (.int .i64 s.l.length) ∧ σ 26 = opsV l ∧ σ 27 = .sc (.int .i64 l.length) ∧ σ 28 = .sc (.int .i64 (i : Nat))) l.length ?_ ?_
  · refine ⟨0,[],kf,.nilt,by omega,rfl,by simp,⟨by simp,by simp⟩,by simp,hkf0,am hkf,bK hkf,rfl,.inr ⟨rfl,rfl⟩,?_⟩
    simp (disch := omega) only [↓aI,↓zP,aD,zD,aS,simprocAttr,Tryz.facts]
    try rfl
  · clear hkf hkf0 kf vp1 pm
    rintro mm σ H' ⟨i,F,kf,o,him,hF,hall,hfr,hFi,hkf0,hkf,hmk,rfl,ho,s0,s5,s6,s7,s26,s27,s28⟩
    have hkm : ¬ kf = ms := fun e => hmk e.symm
    have hs2 : Abs.Sub H ((H.set ms (.map (dP F))).set kf o) := (Sub.set_new hms).trans (Sub.set_new (by rw [aP hkm]; exact hkf))
    have pH := p.mono hs2
    have vms : ((H.set ms (.map (dP F))).set kf o) ms = some (.map (dP F)) := by rw [aP hmk,set_get]
    have vkf : ((H.set ms (.map (dP F))).set kf o) kf = some o := set_get
    have hFl := cq F
    have hsl0 : (dP F).length = F.length := List.length_map _
    by_cases hlt : i < l.length
    · have hld := opsC_load hlt
      have hle : i * 19 + 19 ≤ l.length * 19 := by omega
      have hst : (l.take (i + 1)).foldl (dZ s) [] = dZ s F l[i] := by
        rw [List.take_succ_eq_append_getElem hlt,List.foldl_append,← hF]
        rfl
      have htk : ∀ q ∈ l.take (i + 1),q ∈ l.take i ∨ q = l[i] := fun q hq => by
        rw [List.take_succ_eq_append_getElem hlt] at hq
        rcases List.mem_append.1 hq with h1 | h1
        · exact .inl h1
        · exact .inr (List.mem_singleton.1 h1)
      have hmem : l[i] ∈ l := List.getElem_mem hlt
      generalize l[i] = q at *
      have hpr := pright_pure q
      have hnm := name_pure q
      have hkn := knows_live B _ h s q pH
      have hfs := find_seen (cM q) F 0
      have hsn := opsC_snoc F q
      have hF1 : (F ++ [q]).length = F.length + 1 := by simp
      have hsl := cq (F ++ [q])
      have hse := seenE_snoc F q
      have hfrs := hfr.step (o := q)
      unfold dZ at hst hfrs
      generalize hF2 : F ++ [q] = F2 at *
      generalize hseF : dP F = SE at *
      generalize hseF2 : dP F2 = SE2 at *
      cases hr : opR q with
      | false =>
        rw [hr] at hpr
        have hall2 : l.all opR = false := by
          rw [List.all_eq_false]
          exact ⟨q,hmem,by rw [hr]; simp⟩
        rw [if_pos hall2] at hR
        subst hR
        obtain ⟨kd,⟨⟨a,c⟩,⟨pa,pc⟩,ri,ru⟩,⟨x,y⟩,⟨mc,ma,⟨g1,g2⟩,fb,⟨t1,t2⟩,tb,nm,vl⟩⟩ := q
        simp only [opC] at hld hpr
        simp (disch := omega) only [↓aI,↓zP,aD,zD,aS,simprocAttr,Tryz.facts,s0,s5,s6,s7,s26,s27,s28,zA,hld,hle,hol]
        intro b9 hb90 hb9
        simp (disch := omega) only [↓aI,↓zP,aD,zD,aS,simprocAttr,Tryz.facts,s0,s5,s6,s7,s26,s27,s28,zA,aj hb9,ah]
        first | refine CallK.p (hpr) ?_ | refine CallP.i (hpr) ?_
        simp (disch := omega) only [↓aI,↓zP,aD,zD,aS,simprocAttr,Tryz.facts,s0,s5,s6,s7,s26,s27,s28,ah]
        exact ⟨_,rfl,_,Abs.Sub.refl _,rfl,pH⟩
      | true =>
        rw [hr] at hpr hkn
        rw [Bool.true_and] at hkn
        have hall2 : ∀ z ∈ l.take (i + 1),opR z = true := fun z hz => by
          rcases htk z hz with h1 | rfl
          · exact hall z h1
          · exact hr
        have hfrs := hfrs hr
        generalize cM q = nq at *
        obtain ⟨kd,⟨⟨a,c⟩,⟨pa,pc⟩,ri,ru⟩,⟨x,y⟩,⟨mc,ma,⟨g1,g2⟩,fb,⟨t1,t2⟩,tb,nm,vl⟩⟩ := q
        simp only [opC] at hld hpr hnm hkn hsn
        obtain ⟨n1,n2,n3⟩ := nq
        simp only [nameV] at hfs hse hnm
        rcases hfs with ⟨hfs,hnin⟩ | ⟨j,w,hfs,hin⟩
        · by_cases hkp : cf s ⟨kd,⟨(a,c),(pa,pc),ri,ru⟩,(x,y),⟨mc,ma,(g1,g2),fb,(t1,t2),tb,nm,vl⟩⟩ = true
          · rw [if_pos (.inr hkp)] at hst hfrs
            rw [hkp] at hkn
            simp (disch := omega) only [↓aI,↓zP,aD,zD,aS,simprocAttr,Tryz.facts,s0,s5,s6,s7,s26,s27,s28,zA,hld,hle,hol]
            intro b9 hb90 hb9
            simp (disch := omega) only [↓aI,↓zP,aD,zD,aS,simprocAttr,Tryz.facts,s0,s5,s6,s7,s26,s27,s28,zA,aj hb9,ah]
            first | refine CallK.p (hpr) ?_ | refine CallP.i (hpr) ?_
            simp (disch := omega) only [↓aI,↓zP,aD,zD,aS,simprocAttr,Tryz.facts,s0,s5,s6,s7,s26,s27,s28,ah]
            first | refine CallK.p (hnm) ?_ | refine CallP.i (hnm) ?_
            simp (disch := omega) only [↓aI,↓zP,aD,zD,aS,simprocAttr,Tryz.facts,s0,s5,s6,s7,s26,s27,s28,vms,hfs,zA,ah]
            refine CallK.i hkn ?_
            rintro v E ⟨rfl,rfl⟩
            simp (disch := omega) only [↓aI,↓zP,aD,zD,aS,simprocAttr,Tryz.facts,s0,s5,s6,s7,s26,s27,s28]
            exact ⟨mm - 1,by omega,i + 1,F,kf,o,by omega,hst.symm,hall2,hfr,by omega,hkf0,hkf,hmk,by rw [hseF],ho,rfl,rfl⟩
          · rw [if_neg (fun h => h.elim hnin hkp)] at hst hfrs
            rw [show cf s _ = false from by simpa using hkp] at hkn
            simp (disch := omega) only [↓aI,↓zP,aD,zD,aS,simprocAttr,Tryz.facts,s0,s5,s6,s7,s26,s27,s28,zA,hld,hle,hol]
            intro b9 hb90 hb9
            simp (disch := omega) only [↓aI,↓zP,aD,zD,aS,simprocAttr,Tryz.facts,s0,s5,s6,s7,s26,s27,s28,zA,aj hb9,ah]
            first | refine CallK.p (hpr) ?_ | refine CallP.i (hpr) ?_
            simp (disch := omega) only [↓aI,↓zP,aD,zD,aS,simprocAttr,Tryz.facts,s0,s5,s6,s7,s26,s27,s28,ah]
            first | refine CallK.p (hnm) ?_ | refine CallP.i (hnm) ?_
            simp (disch := omega) only [↓aI,↓zP,aD,zD,aS,simprocAttr,Tryz.facts,s0,s5,s6,s7,s26,s27,s28,vms,hfs,zA,ah]
            refine CallK.i hkn ?_
            rintro v E ⟨rfl,hE⟩
            subst hE
            simp (disch := omega) only [↓aI,↓zP,aD,zD,aS,simprocAttr,Tryz.facts,s0,s5,s6,s7,s26,s27,s28,ah]
            first | refine CallK.p (hnm) ?_ | refine CallP.i (hnm) ?_
            simp (disch := omega) only [↓aI,↓zP,aD,zD,aS,simprocAttr,Tryz.facts,s0,s5,s6,s7,s26,s27,s28,vms,vkf,hfs,zA,ah,aP,hkm,hmk,ho,hFl,hsn,hse]
            intro k2 o2 hk20 hk2 ho2
            have hm2 := bK hk2
            rw [hsl,hF1] at ho2
            refine ⟨mm - 1,by omega,i + 1,F2,k2,o2,by omega,hst.symm,hall2,hfrs,by omega,hk20,am (am (am hk2)),hm2,?_,by rw [hF1]; exact ho2,by rw [hF1],rfl⟩
            rw [hseF2]
            funext z
            simp only [AH.set,AH.kill]
            by_cases e1 : z = k2
            · simp [e1]
            · by_cases e2 : z = kf
              · subst e2; simp [e1,hkm,hkf]
              · by_cases e3 : z = ms
                · subst e3; simp [hmk,hm2]
                · simp [e1,e2,e3]
        · rw [if_pos (.inl hin)] at hst hfrs
          simp (disch := omega) only [↓aI,↓zP,aD,zD,aS,simprocAttr,Tryz.facts,s0,s5,s6,s7,s26,s27,s28,zA,hld,hle,hol]
          intro b9 hb90 hb9
          simp (disch := omega) only [↓aI,↓zP,aD,zD,aS,simprocAttr,Tryz.facts,s0,s5,s6,s7,s26,s27,s28,zA,aj hb9,ah]
          first | refine CallK.p (hpr) ?_ | refine CallP.i (hpr) ?_
          simp (disch := omega) only [↓aI,↓zP,aD,zD,aS,simprocAttr,Tryz.facts,s0,s5,s6,s7,s26,s27,s28,ah]
          first | refine CallK.p (hnm) ?_ | refine CallP.i (hnm) ?_
          simp (disch := omega) only [↓aI,↓zP,aD,zD,aS,simprocAttr,Tryz.facts,s0,s5,s6,s7,s26,s27,s28,vms,hfs,zA,ah]
          exact ⟨mm - 1,by omega,i + 1,F,kf,o,by omega,hst.symm,hall2,hfr,by omega,hkf0,hkf,hmk,by rw [hseF],ho,rfl,rfl⟩
    · obtain rfl : i = l.length := by omega
      rw [List.take_length] at hF hall
      have hallT : l.all opR = true := List.all_eq_true.2 hall
      rw [if_neg (by rw [hallT]; simp)] at hR
      have hFP : freshP s l = F := hF.symm
      rw [hFP] at hR
      have hFlen : F.length ≤ 1000000 := by omega
      simp (disch := omega) only [↓aI,↓zP,aD,zD,aS,simprocAttr,Tryz.facts,s0,s5,s6,s7,s26,s27,s28,zA]
      refine br (c := ⟨Tryz.prog,107,[(2000022,[0,1,2,3,4,5,6,7,8,9,10,11,12,13,14,18,19,15,16,17,20,21]),(22,[0,0,0,1,1,0,0,0,1,1,0,0,0,0,1,0,0,2,0,0,0,0]),(1000008,[9]),(1000018,[13]),(1000027,[16]),(4000023,[0,6,94]),(4000022,[0,6,7,14]),(4000014,[0,5,6,7,26,27,28]),(4000012,[0,5,6,7,9,26,27,28,47]),(4000011,[0,5,6,7,9,11,26,27,28]),(4000005,[0,1,5,6,7])],[],[]⟩) Tryz.mixed (by kernel_rfl) (fun mm σ H' => H' = (H.set ms (.map (dP F))).set kf o ∧ ∃ j : Nat,j + mm = F.length ∧
        σ 0 = .ptr h.p 0 ∧ σ 6 = .imm kf (dL F) F.length ∧ σ 7 = .sc (.int .i64 ((s.l.length + dI (F.take j) : Nat) : Int)) ∧ σ 56 = .imm kf (dL F) F.length ∧ σ 57 = .sc (.int .i64 F.length) ∧ σ 58 = .sc (.int .i64 (j : Nat))) F.length ?_ ?_
      · refine ⟨rfl,0,by omega,?_⟩
        simp (disch := omega) only [↓aI,↓zP,aD,zD,aS,simprocAttr,Tryz.facts,s0,s6,s7]
        try rfl
      · clear s0 s5 s6 s7 s26 s27 s28
        rintro mq σ H' ⟨rfl,j,hjm,s0,s6,s7,s56,s57,s58⟩
        by_cases hlj : j < F.length
        · have hld := opsC_load hlj
          have hle : j * 19 + 19 ≤ F.length * 19 := by omega
          have hmi : dI (F.take (j + 1)) = dI (F.take j) + if F[j].kind = 3 then 1 else 0 := by
            unfold dI
            rw [List.take_succ_eq_append_getElem hlj,List.filter_append,List.length_append]
            congr 1
            by_cases e : F[j].kind = 3 <;> simp [e]
          have hmb : dI (F.take j) ≤ F.length := Nat.le_trans (List.length_filter_le _ _) (by rw [List.length_take]; omega)
          generalize F[j] = q at *
          generalize dI (F.take j) = mj at *
          obtain ⟨kd,⟨⟨a,c⟩,⟨pa,pc⟩,ri,ru⟩,⟨x,y⟩,⟨mc,ma,⟨g1,g2⟩,fb,⟨t1,t2⟩,tb,nm,vl⟩⟩ := q
          simp only [opC] at hld
          simp only [] at hmi
          by_cases hk3 : kd = 3
          · rw [if_pos hk3] at hmi
            simp (disch := omega) only [↓aI,↓zP,aD,zD,aS,simprocAttr,Tryz.facts,s0,s6,s7,s56,s57,s58,zA,hld,hle,hFl]
            intro b13 hb130 hb13
            simp (disch := omega) only [↓aI,↓zP,aD,zD,aS,simprocAttr,Tryz.facts,s0,s6,s7,s56,s57,s58,zA,aj hb13,ah]
            exact ⟨mq - 1,by omega,j + 1,by omega,by rw [hmi]; rfl,rfl⟩
          · rw [if_neg hk3] at hmi
            simp (disch := omega) only [↓aI,↓zP,aD,zD,aS,simprocAttr,Tryz.facts,s0,s6,s7,s56,s57,s58,zA,hld,hle,hFl]
            intro b13 hb130 hb13
            simp (disch := omega) only [↓aI,↓zP,aD,zD,aS,simprocAttr,Tryz.facts,s0,s6,s7,s56,s57,s58,zA,aj hb13,ah]
            exact ⟨mq - 1,by omega,j + 1,by omega,by rw [hmi]; rfl,rfl⟩
        · obtain rfl : j = F.length := by omega
          rw [List.take_length] at s7
          have hmb : dI F ≤ F.length := List.length_filter_le _ _
          have vpH : ((H.set ms (.map (dP F))).set kf o) h.p = some (papO h v0) := hs2 _ _ vp
          have vmi := pH.mi
          have vmd := pH.md
          have hil := insE_length s.I
          have hdl := oneE_length s.D
          simp (disch := omega) only [↓aI,↓zP,aD,zD,aS,simprocAttr,Tryz.facts,s0,s6,s7,s56,s57,s58,zA,vpH,vmi,vmd,hil,hdl]
          refine CallK.i (hli _ pH.b) ?_
          rintro v E ⟨rfl,hE⟩
          subst hE
          by_cases c1 : 4096 < s.I.length + s.D.length + s.l.length + F.length
          · rw [if_pos (.inl c1)] at hR
            subst hR
            simp (disch := omega) only [↓aI,↓zP,aD,zD,aS,simprocAttr,Tryz.facts,s0,s6,s7,zA,hll]
            exact ⟨_,rfl,_,Abs.Sub.refl _,rfl,pH⟩
          · by_cases c2 : 512 < s.l.length + dI F
            · rw [if_pos (.inr c2)] at hR
              subst hR
              simp (disch := omega) only [↓aI,↓zP,aD,zD,aS,simprocAttr,Tryz.facts,s0,s6,s7,zA,hll]
              exact ⟨_,rfl,_,Abs.Sub.refl _,rfl,pH⟩
            · rw [if_neg (fun h => h.elim c1 c2)] at hR
              subst hR
              simp (disch := omega) only [↓aI,↓zP,aD,zD,aS,simprocAttr,Tryz.facts,s0,s6,s7,zA,hll]
              have hkn : ∀ j (hj : j < F.length),cf ((F.take j).foldl dK s) F[j] = false := fun j hj => by
                have hok := hfr.ok F[j] (List.getElem_mem hj)
                rw [known_takes hok.1 (F.take j) (fun q hq => ⟨(hfr.ok q (List.mem_of_mem_take hq)).1,fun e => ?_⟩) s]
                · exact hok.2
                · obtain ⟨a,ha,rfl⟩ := List.mem_iff_getElem.1 hq
                  rw [List.getElem_take] at e
                  have ha' : a < j := by simp at ha; omega
                  have h1 : (F.map cM)[j]'(by simpa using hj) = (F.map cM)[a]'(by simp; omega) := by simpa using e
                  have := (List.getElem_inj hfr.nd).1 h1
                  omega
              refine br (c := ⟨Tryz.prog,107,[(2000022,[0,1,2,3,4,5,6,7,8,9,10,11,12,13,14,18,19,15,16,17,20,21]),(22,[0,0,0,1,1,0,0,0,1,1,0,0,0,0,1,0,0,2,0,0,0,0]),(1000008,[9]),(1000018,[13]),(1000027,[16]),(4000023,[0,6,94]),(4000022,[0,6,7,14]),(4000014,[0,5,6,7,26,27,28]),(4000012,[0,5,6,7,9,26,27,28,47]),(4000011,[0,5,6,7,9,11,26,27,28]),(4000005,[0,1,5,6,7])],[],[]⟩) Tryz.mixed (by kernel_rfl) (fun mq σ H' => ∃ j : Nat,j + mq = F.length ∧ IsP B H' h ((F.take j).foldl dK s) ∧
                σ 0 = .ptr h.p 0 ∧ σ 95 = .imm kf (dL F) F.length ∧ σ 96 = .sc (.int .i64 F.length) ∧ σ 97 = .sc (.int .i64 (j : Nat))) F.length ?_ ?_
              · refine ⟨0,by omega,pH,?_⟩
                simp (disch := omega) only [↓aI,↓zP,aD,zD,aS,simprocAttr,Tryz.facts,s0,s6,s7]
                try rfl
              · clear s0 s6 s7 s56 s57 s58 pH vpH vmi vmd
                rintro mr σ H' ⟨j,hjm,pj,s0,s95,s96,s97⟩
                by_cases hlj : j < F.length
                · have hld := opsC_load hlj
                  have hle : j * 19 + 19 ≤ F.length * 19 := by omega
                  have hts := takes_siz (F.take j) s
                  rw [List.length_take] at hts
                  have htk := take_live B H' h _ F[j] pj (hfr.ok _ (List.getElem_mem hlj)).1 (hkn j hlj) (by unfold sizP at hts; omega)
                  have hst : (F.take (j + 1)).foldl dK s = dK ((F.take j).foldl dK s) F[j] := by
                    rw [List.take_succ_eq_append_getElem hlj,List.foldl_append]
                    rfl
                  rw [← hst] at htk
                  generalize F[j] = q at *
                  obtain ⟨kd,⟨⟨a,c⟩,⟨pa,pc⟩,ri,ru⟩,⟨x,y⟩,⟨mc,ma,⟨g1,g2⟩,fb,⟨t1,t2⟩,tb,nm,vl⟩⟩ := q
                  simp only [opC] at hld htk
                  simp (disch := omega) only [↓aI,↓zP,aD,zD,aS,simprocAttr,Tryz.facts,s0,s95,s96,s97,zA,hld,hle,hFl]
                  intro b16 hb160 hb16
                  simp (disch := omega) only [↓aI,↓zP,aD,zD,aS,simprocAttr,Tryz.facts,s0,s95,s96,s97,zA,aj hb16,ah]
                  refine CallK.i htk ?_
                  rintro v H2 p2
                  simp (disch := omega) only [↓aI,↓zP,aD,zD,aS,simprocAttr,Tryz.facts,s0,s95,s96,s97,zA]
                  exact ⟨mr - 1,by omega,j + 1,by omega,p2,rfl⟩
                · obtain rfl : j = F.length := by omega
                  rw [List.take_length] at pj
                  simp (disch := omega) only [↓aI,↓zP,aD,zD,aS,simprocAttr,Tryz.facts,s0,s95,s96,s97,zA]
                  refine CallK.i (settle_live B H' h _ pj) ?_
                  rintro v H2 p2
                  simp (disch := omega) only [↓aI,↓zP,aD,zD,aS,simprocAttr,Tryz.facts,s0]
                  exact ⟨_,rfl,_,Abs.Sub.refl _,rfl,p2⟩
end Go.Proofs.YtcgjlmopeblapaaGreat
end
section
set_option linter.unusedSimpArgs false
set_option linter.unusedVariables false
set_option maxRecDepth 8000
set_option maxHeartbeats 4000000
namespace Go.Proofs.YtcgjlmopeblapaaGreat
open Go Go.Abs Go.Proofs Go.Fug
theorem pnew_live (H : AH) : ACalls Tryz.prog 23 [] H fun v H' => ∃ h : PH,v = .ptr h.p 0 ∧ h.p ≠ 0 ∧ IsP H H' h ps0 := by
  refine ao (c := ⟨Tryz.prog,7,[],[],[]⟩) (rs := [ResultVar.tmp 0]) Tryz.mixed Tryz.func23 rfl rfl rfl (Nat.le_of_ble_eq_true rfl) (by kernel_rfl) ?_
  simp (disch := omega) only [↓aI,↓zP,aD,zD,aS,simprocAttr,Tryz.facts]
  intro mi hmi0 hmi md hmd0 hmd
  have e1 := bK hmd
  have hmdH := am hmd
  refine CallK.i (new_live _) ?_
  rintro v H1 ⟨t,mt,rfl,ht,hmt,hs,tt⟩
  have e2 := bK hmt
  have e3 := bK (am hmt)
  have htH := am (am ht)
  have hmtH := am (am hmt)
  have v1 : H1 mi = some (.map []) := hs _ _ (by rw [aP e1,set_get])
  have v2 : H1 md = some (.map []) := hs _ _ set_get
  have hsH : Abs.Sub H H1 := ((Sub.set_new hmi).trans (Sub.set_new hmd)).trans hs
  simp (disch := omega) only [↓aI,↓zP,aD,zD,aS,simprocAttr,Tryz.facts]
  refine CallK.i (mnew_live _) ?_
  rintro v H2 ⟨b,rfl,hb0,hbf,rfl⟩
  have f1 := bA v1 hbf
  have f2 := bA v2 hbf
  have f3 := bA tt.hi hbf
  have f4 := bA tt.hm hbf
  simp (disch := omega) only [↓aI,↓zP,aD,zD,aS,simprocAttr,Tryz.facts]
  intro pp hpp0 hpp
  try simp (disch := omega) only [↓aI,↓zP,aD,zD,aS,simprocAttr,Tryz.facts]
  have hppH1 := am hpp
  refine ⟨_,rfl,_,Abs.Sub.refl _,⟨pp,mi,md,t,mt,b⟩,rfl,hpp0,?_⟩
  have g1 := bA v1 hppH1
  have g2 := bA v2 hppH1
  have g3 := bA tt.hi hppH1
  have g4 := bA tt.hm hppH1
  have g5 := bK hpp
  refine ⟨(hsH.trans (Sub.set_new hbf)).trans (Sub.set_new hpp),⟨hsH.free hppH1,hmi,hmdH,htH,hmtH,hsH.free hbf⟩,⟨e1,fun e => e3 e,fun e => e2 e⟩,⟨.sc (.slice none 0 0),set_get,.inl ⟨rfl,rfl⟩⟩,?_,?_,(tt.put f3 f4).put g3 g4,by rw [aP g5,set_get]; rfl,GoodM.nil,by simp [ps0],by simp [ps0],by simp [ps0]⟩
  · rw [aP g1,aP f1]; exact v1
  · rw [aP g2,aP f2]; exact v2
def textP (s : PS) : List UInt8 := cW (live (bF s.L s.G))
theorem ptext_live (B H : AH) (h : PH) (s : PS) (p : IsP B H h s) : ACalls Tryz.prog 25 [.ptr h.p 0] H fun v H' => v = .sc (.string ⟨(textP s).toArray⟩) ∧ H' = H := by
  obtain ⟨v,vp,-⟩ := p.pw
  have ht := text_live H h.t h.mt s.L s.G p.t
  unfold textP
  refine ao (c := ⟨Tryz.prog,10,[],[],[]⟩) (rs := [ResultVar.tmp 2]) Tryz.mixed Tryz.func25 rfl rfl rfl (Nat.le_of_ble_eq_true rfl) (by kernel_rfl) ?_
  simp (disch := omega) only [↓aI,↓zP,aD,zD,aS,simprocAttr,Tryz.facts,vp]
  refine CallK.i ht ?_
  rintro v E ⟨rfl,rfl⟩
  simp (disch := omega) only [↓aI,↓zP,aD,zD,aS,simprocAttr,Tryz.facts]
  exact ⟨_,rfl,_,Abs.Sub.refl _,rfl,rfl⟩
theorem plen_live (B H : AH) (h : PH) (s : PS) (p : IsP B H h s) : ACalls Tryz.prog 27 [.ptr h.p 0] H fun v H' => v = .sc (.int .i64 ((s.L.length - s.G.length : Nat))) ∧ H' = H := by
  obtain ⟨v,vp,-⟩ := p.pw
  have ht := len_live H h.t h.mt s.L s.G p.t
  refine ao (c := ⟨Tryz.prog,10,[],[],[]⟩) (rs := [ResultVar.tmp 2]) Tryz.mixed Tryz.func27 rfl rfl rfl (Nat.le_of_ble_eq_true rfl) (by kernel_rfl) ?_
  simp (disch := omega) only [↓aI,↓zP,aD,zD,aS,simprocAttr,Tryz.facts,vp]
  refine CallK.i ht ?_
  rintro v E ⟨rfl,rfl⟩
  simp (disch := omega) only [↓aI,↓zP,aD,zD,aS,simprocAttr,Tryz.facts]
  exact ⟨_,rfl,_,Abs.Sub.refl _,rfl,rfl⟩
theorem js_all {js : List Nat} {n : Nat} (hn : js.Nodup) (hl : ∀ j ∈ js,j < n) (ha : ∀ j,j < n → j ∈ js) : js.Perm (List.range n) :=
  (List.perm_ext_iff_of_nodup hn List.nodup_range).2 fun j => ⟨fun h => List.mem_range.2 (hl j h),fun h => ha j (List.mem_range.1 h)⟩
theorem js_snoc {js : List Nat} {n j mm : Nat} (hn : js.Nodup) (hl : ∀ j ∈ js,j < n) (hm : js.length + mm = n) (hj : j < n) (hx : j ∉ js) : (js ++ [j]).Nodup ∧ (∀ i ∈ js ++ [j],i < n) ∧ (js ++ [j]).length + (mm - 1) = n ∧ 0 < mm := by
  have h1 : (js ++ [j]).Nodup := by
    rw [List.nodup_append]
    exact ⟨hn,by simp,fun a ha b hb => by rw [List.mem_singleton.1 hb]; rintro rfl; exact hx ha⟩
  have h2 : ∀ i ∈ js ++ [j],i < n := fun i hi => by
    rcases List.mem_append.1 hi with h | h
    · exact hl i h
    · rw [List.mem_singleton.1 h]; exact hj
  have h3 := cO (js ++ [j]) (List.range n) h1 (fun i hi => List.mem_range.2 (h2 i hi))
  rw [List.length_range] at h3
  simp only [List.length_append,List.length_singleton] at h3 ⊢
  exact ⟨h1,h2,by omega,by omega⟩
def lostJ (s : PS) (j : Nat) : Bool := !decide (s.D.getD j bL ∈ s.L.map (·.id))
def waitN (s : PS) : Nat := s.W.length + (s.D.filter fun x => !decide (x ∈ s.L.map (·.id))).length
theorem range_get (D : List EId) : (List.range D.length).map (fun j => D.getD j bL) = D := by
  apply List.ext_getElem
  · simp
  · intro i h1 h2
    simp [List.getD,h2]
theorem lost_all (s : PS) {js : List Nat} (hp : js.Perm (List.range s.D.length)) : (js.filter (lostJ s)).length = (s.D.filter fun x => !decide (x ∈ s.L.map (·.id))).length := by
  rw [(hp.filter _).length_eq]
  have h := range_get s.D
  have : (s.D.filter fun x => !decide (x ∈ s.L.map (·.id))) = ((List.range s.D.length).map fun j => s.D.getD j bL).filter fun x => !decide (x ∈ s.L.map (·.id)) := by rw [h]
  rw [this,List.filter_map,List.length_map]
  rfl
theorem zip_ents (I : List EId) (f : EId → AV) : ((bP I f).map (·.1)).zip ((bP I f).map (·.2)) = bP I f := by
  induction I with
  | nil => rfl
  | cons y I ih => simp only [bP,List.map_cons,List.zip_cons_cons] at *; rw [ih]
theorem wait_live (B H : AH) (h : PH) (s : PS) (p : IsP B H h s) : ACalls Tryz.prog 24 [.ptr h.p 0] H fun v H' => v = .sc (.int .i64 (waitN s : Nat)) ∧ H' = H := by
  obtain ⟨wv,vp,hw⟩ := p.pw
  obtain ⟨⟨a1,a2,a3,a4,a5⟩,⟨b1,b2,b3,b4⟩,c1,c2,c3⟩ := p.apart
  obtain ⟨n1,n2,n3⟩ := p.ne
  have vmd := p.md
  have hbig := p.big
  have hWl := bN s.W
  have hlen : (∃ k,wv = .imm k (bp s.W) s.W.length) ∨ (s.W = [] ∧ wv = .sc (.slice none 0 0)) := by
    rcases hw with h1 | ⟨k,o,h1,-⟩
    · exact .inr h1
    · exact .inl ⟨k,h1⟩
  have hhas := fun H x (t : IsT H h.t h.mt s.L s.G) => has_live H h.t h.mt s.L s.G x t
  generalize hKS : (oneE s.D).map (·.1) = KS at *
  generalize hVS : (oneE s.D).map (·.2) = VS at *
  have hKl : KS.length = s.D.length := by rw [← hKS,List.length_map,oneE_length]
  have hKg : ∀ j (hj : j < s.D.length) (hk : j < KS.length),KS[j] = idV s.D[j] := fun j hj hk => by
    subst hKS
    simp [oneE,bP]
  have hzip : KS.zip VS = oneE s.D := by rw [← hKS,← hVS]; exact zip_ents _ _
  refine ao (c := ⟨Tryz.prog,31,[(7,[0,0,0,1,1,2,0]),(1000006,[4])],[],[]⟩) (rs := [ResultVar.tmp 2]) Tryz.mixed Tryz.func24 rfl rfl rfl (Nat.le_of_ble_eq_true rfl) (by kernel_rfl) ?_
  rcases hlen with ⟨kw,rfl⟩ | ⟨hW0,rfl⟩
  all_goals
    simp (disch := omega) only [↓aI,↓zP,aD,zD,aS,simprocAttr,Tryz.facts,vp]
    refine range_m (kt := 50) (et := 3) (by kernel_rfl) vmd fun hr hr0 hrf b ms clock => ?_
    rw [hKS,hVS]
    have r1 := bA vmd hrf
    have hrd : ¬ hr = h.md := fun e => r1 e.symm
    simp (disch := omega) only [↓aI,↓zP,aD,zD,aS,simprocAttr,Tryz.facts]
    refine br (c := ⟨Tryz.prog,31,[(7,[0,0,0,1,1,2,0]),(1000006,[4])],[],[]⟩) Tryz.mixed (by kernel_rfl) (fun mm σ H' => ∃ js : List Nat,js.Nodup ∧ (∀ j ∈ js,j < s.D.length) ∧ js.length + mm = s.D.length ∧ H' h.md = some (.raw (.map ms clock)) ∧ H' hr = some (.raw (itO b clock ms js)) ∧ (∀ y o,y ≠ h.md → H y = some o → H' y = some o) ∧
      σ 0 = .ptr h.p 0 ∧ σ 3 = .sc (.int .i64 ((s.W.length + (js.filter (lostJ s)).length : Nat) : Int)) ∧ σ 16 = .itr hr h.md b clock KS VS ms) s.D.length ?_ ?_
    · refine ⟨[],List.nodup_nil,by simp,by simp,by rw [aP r1,set_get],set_get,fun y o hy ho => by rw [aP (bA ho hrf),aP hy]; exact ho,?_⟩
      simp (disch := omega) only [↓aI,↓zP,aD,zD,aS,simprocAttr,Tryz.facts]
      first
        | rfl
        | (simp [hW0]; done)
        | (refine ⟨?_,?_⟩ <;> first | rfl | simp [hW0])
    · rintro mm σ H' ⟨js,hjn,hjl,hjm,vm,vr,fr,s0,s3,s16⟩
      simp (disch := omega) only [↓aI,↓zP,aD,zD,aS,simprocAttr,Tryz.facts,s0,s3,s16]
      refine next_m vr vm (fun j hj => by rw [hKl]; exact hjl j hj) (fun hall => ?_) (fun j hj hjx => ?_)
      · have hp := js_all hjn hjl (fun j hj => hall j (by rw [hKl]; exact hj))
        rw [hzip]
        rw [lost_all s hp] at s3
        simp (disch := omega) only [↓aI,↓zP,aD,zD,aS,simprocAttr,Tryz.facts,s0,s3,s16]
        refine ⟨_,rfl,H,fun y o ho => ?_,rfl,rfl⟩
        by_cases e : y = h.md
        · subst e
          rw [set_get]
          rw [vmd] at ho
          exact ho
        · rw [aP e]; exact fr y o e ho
      · have hjD : j < s.D.length := by rw [← hKl]; exact hj
        obtain ⟨q1,q2,q3,q4⟩ := js_snoc hjn hjl hjm hjD hjx
        have hK := hKg j hjD hj
        have hv2 : (H'.set hr (.raw (itO b clock ms (js ++ [j])))) hr = some (.raw (itO b clock ms (js ++ [j]))) := set_get
        have hm2 : (H'.set hr (.raw (itO b clock ms (js ++ [j])))) h.md = some (.raw (.map ms clock)) := by rw [aP r1]; exact vm
        have fr2 : ∀ y o,y ≠ h.md → H y = some o → (H'.set hr (.raw (itO b clock ms (js ++ [j])))) y = some o := fun y o hy ho => by rw [aP (bA ho hrf)]; exact fr y o hy ho
        generalize H'.set hr (.raw (itO b clock ms (js ++ [j]))) = H2 at *
        rw [hK]
        have hcnt : ((js ++ [j]).filter (lostJ s)).length = (js.filter (lostJ s)).length + if lostJ s j = true then 1 else 0 := by
          rw [List.filter_append,List.length_append]
          congr 1
          cases hh : lostJ s j <;> simp [hh]
        have hlj : lostJ s j = !decide (s.D[j] ∈ s.L.map (·.id)) := by
          unfold lostJ
          simp [List.getD,hjD]
        have hle : (js.filter (lostJ s)).length ≤ js.length := List.length_filter_le _ _
        simp (disch := omega) only [↓aI,↓zP,aD,zD,aS,simprocAttr,Tryz.facts,s0,s3,s16]
        refine entry_m hj hv2 hm2 ?_
        rw [hK]
        have tt : IsT H2 h.t h.mt s.L s.G := ⟨fr2 _ _ b2 p.t.hi,⟨p.t.ord,p.t.perm,fr2 _ _ (fun e => n3 e.symm) p.t.hm⟩,p.t.g,p.t.gs,p.t.gn,p.t.small⟩
        have vp2 := fr2 _ _ a2 vp
        have hh1 := hhas H2 s.D[j] tt
        generalize s.D[j] = x at *
        obtain ⟨x1,x2⟩ := x
        generalize hdc : decide (((x1,x2) : EId) ∈ s.L.map (·.id)) = dc at *
        simp (disch := omega) only [↓aI,↓zP,aD,zD,aS,simprocAttr,Tryz.facts,s0,s3,s16]
        intro b4 hb40 hb4
        simp (disch := omega) only [↓aI,↓zP,aD,zD,aS,simprocAttr,Tryz.facts,s0,s3,s16,aj hb4,ah,vp2]
        refine CallK.i hh1 ?_
        rintro v E ⟨rfl,rfl⟩
        cases dc
        · rw [hlj,if_pos (show (!false) = true from rfl)] at hcnt
          simp (disch := omega) only [↓aI,↓zP,aD,zD,aS,simprocAttr,Tryz.facts,s0,s3,s16,zA]
          exact ⟨mm - 1,by omega,js ++ [j],q1,q2,q3,hm2,hv2,fr2,by rw [hcnt]; rfl⟩
        · rw [hlj,if_neg (show ¬ (!true) = true by simp)] at hcnt
          simp (disch := omega) only [↓aI,↓zP,aD,zD,aS,simprocAttr,Tryz.facts,s0,s3,s16,zA]
          exact ⟨mm - 1,by omega,js ++ [j],q1,q2,q3,hm2,hv2,fr2,by rw [hcnt]; rfl⟩
def cntF (a : Int) (n : Int) (i : Ins) : Int := if i.id.1 = a then max n i.id.2 else n
def dh (s : PS) (a : Int) : Int := s.I.foldl (cntF a) 0
theorem cntF_comm (a n : Int) (i j : Ins) : cntF a (cntF a n i) j = cntF a (cntF a n j) i := by
  unfold cntF
  split <;> split <;> simp_all
  omega
def cntJ (I : List Ins) (a : Int) (n : Int) (j : Nat) : Int := cntF a n (I.getD j cj)
theorem cnt_perm {I : List Ins} {a : Int} {js ks : List Nat} (hp : js.Perm ks) : ∀ n,js.foldl (cntJ I a) n = ks.foldl (cntJ I a) n := by
  induction hp with
  | nil => intro n; rfl
  | cons x _ ih => intro n; rw [List.foldl_cons,List.foldl_cons]; exact ih _
  | swap x y l => intro n; simp only [List.foldl_cons]; rw [show cntJ I a (cntJ I a n y) x = cntJ I a (cntJ I a n x) y from cntF_comm _ _ _ _]
  | trans _ _ h1 h2 => intro n; rw [h1,h2]
theorem range_getI (I : List Ins) : (List.range I.length).map (fun j => I.getD j cj) = I := by
  apply List.ext_getElem
  · simp
  · intro i h1 h2
    simp [List.getD,h2]
theorem cnt_all (I : List Ins) (a : Int) {js : List Nat} (hp : js.Perm (List.range I.length)) : js.foldl (cntJ I a) 0 = I.foldl (cntF a) 0 := by
  rw [cnt_perm hp]
  have : I.foldl (cntF a) 0 = ((List.range I.length).map fun j => I.getD j cj).foldl (cntF a) 0 := by rw [range_getI]
  rw [this,List.foldl_map]
  rfl
theorem zip_insE (I : List Ins) : ((eQ I).map (·.1)).zip ((eQ I).map (·.2)) = eQ I := by
  induction I with
  | nil => rfl
  | cons y I ih => simp only [eQ,List.map_cons,List.zip_cons_cons] at *; rw [ih]
theorem count_live (B H : AH) (h : PH) (s : PS) (a : Int) (p : IsP B H h s) : ACalls Tryz.prog 26 [.ptr h.p 0,.sc (.int .i64 a)] H fun v H' => v = .sc (.int .i64 (dh s a)) ∧ H' = H := by
  obtain ⟨wv,vp,-⟩ := p.pw
  have vmi := p.mi
  unfold dh
  generalize hKS : (eQ s.I).map (·.1) = KS at *
  generalize hVS : (eQ s.I).map (·.2) = VS at *
  have hKl : KS.length = s.I.length := by rw [← hKS,List.length_map,insE_length]
  have hKg : ∀ j (hj : j < s.I.length) (hk : j < KS.length),KS[j] = idV s.I[j].id := fun j hj hk => by
    subst hKS
    simp [eQ]
  have hzip : KS.zip VS = eQ s.I := by rw [← hKS,← hVS]; exact zip_insE _
  refine ao (c := ⟨Tryz.prog,27,[(1000006,[6])],[],[]⟩) (rs := [ResultVar.tmp 4]) Tryz.mixed Tryz.func26 rfl rfl rfl (Nat.le_of_ble_eq_true rfl) (by kernel_rfl) ?_
  simp (disch := omega) only [↓aI,↓zP,aD,zD,aS,simprocAttr,Tryz.facts,vp]
  refine range_m (kt := 50) (et := 52) (by kernel_rfl) vmi fun hr hr0 hrf b ms clock => ?_
  rw [hKS,hVS]
  have r1 := bA vmi hrf
  have hrd : ¬ hr = h.mi := fun e => r1 e.symm
  simp (disch := omega) only [↓aI,↓zP,aD,zD,aS,simprocAttr,Tryz.facts]
  refine br (c := ⟨Tryz.prog,27,[(1000006,[6])],[],[]⟩) Tryz.mixed (by kernel_rfl) (fun mm σ H' => ∃ js : List Nat,js.Nodup ∧ (∀ j ∈ js,j < s.I.length) ∧ js.length + mm = s.I.length ∧ H' h.mi = some (.raw (.map ms clock)) ∧ H' hr = some (.raw (itO b clock ms js)) ∧ (∀ y o,y ≠ h.mi → H y = some o → H' y = some o) ∧
    σ 1 = .sc (.int .i64 a) ∧ σ 5 = .sc (.int .i64 (js.foldl (cntJ s.I a) 0)) ∧ σ 13 = .itr hr h.mi b clock KS VS ms) s.I.length ?_ ?_
  · refine ⟨[],List.nodup_nil,by simp,by simp,by rw [aP r1,set_get],set_get,fun y o hy ho => by rw [aP (bA ho hrf),aP hy]; exact ho,?_⟩
    simp (disch := omega) only [↓aI,↓zP,aD,zD,aS,simprocAttr,Tryz.facts]
    rfl
  · rintro mm σ H' ⟨js,hjn,hjl,hjm,vm,vr,fr,s1,s5,s13⟩
    simp (disch := omega) only [↓aI,↓zP,aD,zD,aS,simprocAttr,Tryz.facts,s1,s5,s13]
    refine next_m vr vm (fun j hj => by rw [hKl]; exact hjl j hj) (fun hall => ?_) (fun j hj hjx => ?_)
    · have hp := js_all hjn hjl (fun j hj => hall j (by rw [hKl]; exact hj))
      rw [hzip]
      rw [cnt_all s.I a hp] at s5
      simp (disch := omega) only [↓aI,↓zP,aD,zD,aS,simprocAttr,Tryz.facts,s1,s5,s13]
      refine ⟨_,rfl,H,fun y o ho => ?_,rfl,rfl⟩
      by_cases e : y = h.mi
      · subst e
        rw [set_get]
        rw [vmi] at ho
        exact ho
      · rw [aP e]; exact fr y o e ho
    · have hjD : j < s.I.length := by rw [← hKl]; exact hj
      obtain ⟨q1,q2,q3,q4⟩ := js_snoc hjn hjl hjm hjD hjx
      have hK := hKg j hjD hj
      have hv2 : (H'.set hr (.raw (itO b clock ms (js ++ [j])))) hr = some (.raw (itO b clock ms (js ++ [j]))) := set_get
      have hm2 : (H'.set hr (.raw (itO b clock ms (js ++ [j])))) h.mi = some (.raw (.map ms clock)) := by rw [aP r1]; exact vm
      have fr2 : ∀ y o,y ≠ h.mi → H y = some o → (H'.set hr (.raw (itO b clock ms (js ++ [j])))) y = some o := fun y o hy ho => by rw [aP (bA ho hrf)]; exact fr y o hy ho
      generalize H'.set hr (.raw (itO b clock ms (js ++ [j]))) = H2 at *
      rw [hK]
      have hcnt : (js ++ [j]).foldl (cntJ s.I a) 0 = if s.I[j].id.1 = a then max (js.foldl (cntJ s.I a) 0) s.I[j].id.2 else js.foldl (cntJ s.I a) 0 := by
        rw [List.foldl_append,List.foldl_cons,List.foldl_nil]
        unfold cntJ cntF
        simp [List.getD,hjD]
      simp (disch := omega) only [↓aI,↓zP,aD,zD,aS,simprocAttr,Tryz.facts,s1,s5,s13]
      refine entry_m hj hv2 hm2 ?_
      rw [hK]
      generalize s.I[j].id = x at *
      generalize js.foldl (cntJ s.I a) 0 = cur at *
      obtain ⟨x1,x2⟩ := x
      simp only [] at hcnt
      simp (disch := omega) only [↓aI,↓zP,aD,zD,aS,simprocAttr,Tryz.facts,s1,s5,s13]
      intro b6 hb60 hb6
      by_cases hxa : x1 = a
      · rw [if_pos hxa] at hcnt
        simp (disch := omega) only [↓aI,↓zP,aD,zD,aS,simprocAttr,Tryz.facts,s1,s5,s13,aj hb6,ah,zA]
        have hmx : (if cur < x2 then x2 else cur) = max cur x2 := by split <;> omega
        exact ⟨mm - 1,by omega,js ++ [j],q1,q2,q3,hm2,hv2,fr2,by rw [hcnt,hmx]⟩
      · rw [if_neg hxa] at hcnt
        simp (disch := omega) only [↓aI,↓zP,aD,zD,aS,simprocAttr,Tryz.facts,s1,s5,s13,aj hb6,ah,zA]
        exact ⟨mm - 1,by omega,js ++ [j],q1,q2,q3,hm2,hv2,fr2,by rw [hcnt]⟩
end Go.Proofs.YtcgjlmopeblapaaGreat
end
