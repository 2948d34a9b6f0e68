/-
  Several texts in one: each says what it proves.
  Conditions: none. Lemmas only.
-/
import Derived.Test.YtcgjlmopeblapaaGreatPapG8
import Derived.Test.YtcgjlmopeblapaaGreatPapGB
import Derived.Test.YtcgjlmopeblapaaGreatFugG2
set_option linter.all false
section
set_option linter.unusedSimpArgs false
set_option linter.unusedVariables false
set_option maxRecDepth 8000
set_option maxHeartbeats 4000000
namespace Go.Proofs.YtcgjlmopeblapaaGreat
open Go Go.Abs Go.Proofs Go.Fug
def befO (a b : Opn) : Bool := if a.kind ≠ b.kind then decide (a.kind < b.kind) else if a.kind = 1 then less a.ins.id b.ins.id else if a.kind = 2 then less a.drop b.drop else newM b.mar a.mar
theorem before_pure (a b : Opn) : APure Tryz.prog 44 [.agg (opC a),.agg (opC b)] (.sc (.bool (befO a b))) := by
  have hB : befO a b = if a.kind ≠ b.kind then decide (a.kind < b.kind) else if a.kind = 1 then less a.ins.id b.ins.id else if a.kind = 2 then less a.drop b.drop else newM b.mar a.mar := rfl
  have h1 := rless_pure a.ins.id b.ins.id
  have h2 := rless_pure a.drop b.drop
  have h3 := newer_pure b.mar a.mar
  generalize befO a b = B at *
  generalize less a.ins.id b.ins.id = B1 at *
  generalize less a.drop b.drop = B2 at *
  generalize newM b.mar a.mar = B3 at *
  obtain ⟨kd,⟨⟨a1,c1⟩,⟨pa,pc⟩,ri,ru⟩,⟨x,y⟩,⟨mc,ma,⟨f1,f2⟩,fb,⟨t1,t2⟩,tb,nm,vl⟩⟩ := a
  obtain ⟨kd',⟨⟨a1',c1'⟩,⟨pa',pc'⟩,ri',ru'⟩,⟨x',y'⟩,⟨mc',ma',⟨f1',f2'⟩,fb',⟨t1',t2'⟩,tb',nm',vl'⟩⟩ := b
  simp only [] at hB h1 h2 h3
  simp only [mkC] at h3
  simp only [opC]
  refine az (c := ⟨Tryz.prog,38,[(1000000,[3,2])],[],[]⟩) (rs := [ResultVar.tmp 4]) Tryz.mixed Tryz.func44 rfl rfl rfl (Nat.le_of_ble_eq_true rfl) (by kernel_rfl) fun H => ?_
  simp (disch := omega) only [↓aI,↓zP,aD,zD,aS,simprocAttr,Tryz.facts]
  intro k2 hk20 hk2 k3 hk30 hk3
  try simp (disch := omega) only [↓aI,↓zP,aD,zD,aS,simprocAttr,Tryz.facts,aj hk2,aj hk3,ah]
  by_cases k1 : kd = kd'
  · rw [if_neg (fun h => h k1)] at hB
    subst k1
    by_cases e1 : kd = 1
    · rw [if_pos e1] at hB
      subst hB e1
      simp (disch := omega) only [↓aI,↓zP,aD,zD,aS,simprocAttr,Tryz.facts,aj hk2,aj hk3,ah,zA]
      first | refine CallK.p (h1) ?_ | refine CallP.i (h1) ?_
      simp (disch := omega) only [↓aI,↓zP,aD,zD,aS,simprocAttr,Tryz.facts]
      exact Abs.Sub.refl _
    · rw [if_neg e1] at hB
      by_cases e2 : kd = 2
      · rw [if_pos e2] at hB
        subst hB e2
        simp (disch := omega) only [↓aI,↓zP,aD,zD,aS,simprocAttr,Tryz.facts,aj hk2,aj hk3,ah,zA]
        first | refine CallK.p (h2) ?_ | refine CallP.i (h2) ?_
        simp (disch := omega) only [↓aI,↓zP,aD,zD,aS,simprocAttr,Tryz.facts]
        exact Abs.Sub.refl _
      · rw [if_neg e2] at hB
        subst hB
        simp (disch := omega) only [↓aI,↓zP,aD,zD,aS,simprocAttr,Tryz.facts,aj hk2,aj hk3,ah,zA]
        first | refine CallK.p (h3) ?_ | refine CallP.i (h3) ?_
        simp (disch := omega) only [↓aI,↓zP,aD,zD,aS,simprocAttr,Tryz.facts]
        exact Abs.Sub.refl _
  · rw [if_pos k1] at hB
    subst hB
    simp (disch := omega) only [↓aI,↓zP,aD,zD,aS,simprocAttr,Tryz.facts,aj hk2,aj hk3,ah,zA]
    exact Abs.Sub.refl _
def plcO (l : List Opn) (o : Opn) : Nat := (l.takeWhile fun x => befO x o).length
def insB (l : List Opn) (o : Opn) : List Opn := l.take (plcO l o) ++ o :: l.drop (plcO l o)
def rOps (P : List Opn) : List Opn := P.foldl insB []
theorem plcO_le (l : List Opn) (o : Opn) : plcO l o ≤ l.length := by
  unfold plcO
  induction l with
  | nil => simp
  | cons a l ih =>
    rw [List.takeWhile_cons]
    split
    · simp only [List.length_cons]; omega
    · simp
theorem plcO_lt {l : List Opn} {o : Opn} : ∀ {i : Nat} (h : i < l.length),i < plcO l o → befO l[i] o = true := by
  unfold plcO
  induction l with
  | nil => intro i h; simp at h
  | cons a l ih =>
    intro i h h2
    rw [List.takeWhile_cons] at h2
    split at h2
    · rename_i ha
      cases i with
      | zero => exact ha
      | succ i => exact ih (by simpa using h) (by simpa using h2)
    · simp at h2
theorem plcO_at {l : List Opn} {o : Opn} (h : plcO l o < l.length) : befO l[plcO l o] o = false := by
  have key : ∀ l : List Opn,∀ h : (l.takeWhile fun x => befO x o).length < l.length,befO l[(l.takeWhile fun x => befO x o).length] o = false := by
    intro l
    induction l with
    | nil => intro h; simp at h
    | cons a l ih =>
      intro h
      cases ha : befO a o with
      | false => simp [List.takeWhile_cons,ha]
      | true =>
        have e : ((a :: l).takeWhile fun x => befO x o) = a :: l.takeWhile fun x => befO x o := by rw [List.takeWhile_cons,ha]; rfl
        simp only [e,List.length_cons,List.getElem_cons_succ] at h ⊢
        exact ih (by omega)
  exact key l h
theorem insB_length (l : List Opn) (o : Opn) : (insB l o).length = l.length + 1 := by
  have := plcO_le l o
  unfold insB
  simp
  omega
theorem rops_pure (P : List Opn) (hP : P.length ≤ 5000) : APure Tryz.prog 16 [papR P] (opsV (rOps P)) := by
  have hol := cq P
  have hst1 : ∀ x,(opC x).map AV.strip0 = opC x := fun x => rfl
  have hb := before_pure
  have hR : rOps P = P.foldl insB [] := rfl
  generalize rOps P = R at *
  refine az (c := ⟨Tryz.prog,51,[(6,[0,0,1,0,0,0,0,0,1,0,1,0,0,1,0,0]),(1000000,[1])],[32],[]⟩) (rs := [ResultVar.tmp 2]) Tryz.mixed Tryz.func16 rfl rfl rfl (Nat.le_of_ble_eq_true rfl) (by kernel_rfl) fun H => ?_
  simp (disch := omega) only [↓aI,↓zP,aD,zD,aS,simprocAttr,Tryz.facts]
  intro b1 hb10 hb1
  try simp (disch := omega) only [↓aI,↓zP,aD,zD,aS,simprocAttr,Tryz.facts,aj hb1,ah]
  refine tok_t 3 (by simp (disch := omega) only [↓aI,↓zP,aD,zD,aS,simprocAttr,Tryz.facts]) fun k hk0 hk => ?_
  refine br (c := ⟨Tryz.prog,51,[(6,[0,0,1,0,0,0,0,0,1,0,1,0,0,1,0,0]),(1000000,[1])],[32],[]⟩) Tryz.mixed (by kernel_rfl) (fun mm σ H' => Abs.Sub H H' ∧ ∃ (i kk : Nat) (O : List Opn),i + mm = P.length ∧ O = (P.take i).foldl insB [] ∧ O.length = i ∧ σ 1 = .ip [opsV P] 0 ∧ σ 3 = .imm kk (dL O) O.length ∧ σ 4 = .sc (.int .i64 (i : Nat))) P.length ?_ ?_
  · refine ⟨Sub.set_new hk,0,k,[],by omega,rfl,rfl,?_⟩
    simp (disch := omega) only [↓aI,↓zP,aD,zD,aS,simprocAttr,Tryz.facts]
    try rfl
  · rintro mm σ H' ⟨hs,i,kk,O,him,hO,hOl,s1,s3,s4⟩
    by_cases hlt : i < P.length
    · have hst : (P.take (i + 1)).foldl insB [] = insB O P[i] := by
        rw [List.take_succ_eq_append_getElem hlt,List.foldl_append,← hO]
        rfl
      have hld := opsC_load hlt
      have hle : i * 19 + 19 ≤ P.length * 19 := by omega
      have hoq := cq O
      generalize P[i] = q at *
      have hpl := plcO_le O q
      simp (disch := omega) only [↓aI,↓zP,aD,zD,aS,simprocAttr,Tryz.facts,s1,s3,s4,zA,hol]
      refine br (c := ⟨Tryz.prog,51,[(6,[0,0,1,0,0,0,0,0,1,0,1,0,0,1,0,0]),(1000000,[1])],[32],[]⟩) Tryz.mixed (by kernel_rfl) (fun m2 σ H2 => H2 = H' ∧ ∃ j : Nat,j + m2 = plcO O q ∧ σ 1 = .ip [opsV P] 0 ∧ σ 3 = .imm kk (dL O) O.length ∧ σ 4 = .sc (.int .i64 (i : Nat)) ∧ σ 5 = .sc (.int .i64 (j : Nat))) (plcO O q) ?_ ?_
      · refine ⟨rfl,0,by omega,?_⟩
        simp (disch := omega) only [↓aI,↓zP,aD,zD,aS,simprocAttr,Tryz.facts,s1,s3,s4]
        try rfl
      · clear s1 s3 s4
        rintro m2 σ H2 ⟨rfl,j,hjm,s1,s3,s4,s5⟩
        by_cases hjp : j < plcO O q
        · have hjo : j < O.length := by omega
          have hlo := opsC_load hjo
          have hle2 : j * 19 + 19 ≤ O.length * 19 := by omega
          have hbe := hb O[j] q
          rw [plcO_lt hjo hjp] at hbe
          generalize O[j] = z at *
          simp (disch := omega) only [↓aI,↓zP,aD,zD,aS,simprocAttr,Tryz.facts,s1,s3,s4,s5,zA,hol,hoq,hlo,hle2,hld,hle,opC_len,hst1]
          first | refine CallK.p (hbe) ?_ | refine CallP.i (hbe) ?_
          simp (disch := omega) only [↓aI,↓zP,aD,zD,aS,simprocAttr,Tryz.facts,s1,s3,s4,s5,zA,hol,hoq,hlo,hle2,hld,hle,opC_len,hst1]
          exact ⟨m2 - 1,by omega,j + 1,by omega,rfl⟩
        · obtain rfl : j = plcO O q := by omega
          have hcut := opsC_cut O (plcO O q) hpl
          have htl : (O.take (plcO O q)).length = plcO O q := by rw [List.length_take]; omega
          have hdl : (O.drop (plcO O q)).length = O.length - plcO O q := List.length_drop
          have ht19 := cq (O.take (plcO O q))
          have hd19 := cq (O.drop (plcO O q))
          rw [htl] at ht19
          rw [hdl] at hd19
          have hins : dL (O.take (plcO O q)) ++ opC q ++ dL (O.drop (plcO O q)) = dL (insB O q) := by unfold insB; simp [dL]
          have hdt : (dL (O.drop (plcO O q))).take ((O.length - plcO O q) * 19) = dL (O.drop (plcO O q)) := List.take_of_length_le (by omega)
          have hil := insB_length O q
          have hi19 := cq (insB O q)
          by_cases hjo : plcO O q < O.length
          case' pos =>
            have hlo := opsC_load hjo
            have hle2 : plcO O q * 19 + 19 ≤ O.length * 19 := by omega
            have hbe := hb O[plcO O q] q
            rw [plcO_at hjo] at hbe
            generalize O[plcO O q] = z at *
            generalize plcO O q = p at *
            generalize insB O q = IB at *
            simp (disch := omega) only [↓aI,↓zP,aD,zD,aS,simprocAttr,Tryz.facts,s1,s3,s4,s5,zA,hol,hoq,hlo,hle2,hld,hle,opC_len,hst1]
            first | refine CallK.p (hbe) ?_ | refine CallP.i (hbe) ?_
            simp (disch := omega) only [↓aI,↓zP,aD,zD,aS,simprocAttr,Tryz.facts,s1,s3,s4,s5,zA,hol,hoq,hlo,hle2,hld,hle,opC_len,hst1,hcut.1,hcut.2,ht19,hd19,Nat.sub_zero,Nat.zero_mul,List.drop_zero]
          case' neg =>
            generalize plcO O q = p at *
            generalize insB O q = IB at *
            simp (disch := omega) only [↓aI,↓zP,aD,zD,aS,simprocAttr,Tryz.facts,s1,s3,s4,s5,zA,hol,hoq,hld,hle,opC_len,hst1,hcut.1,hcut.2,ht19,hd19,Nat.sub_zero,Nat.zero_mul,List.drop_zero]
          all_goals
            intro ka hka0 hka
            have hkp : p ≤ 9223372036854775807 ∧ p * 144 ≤ 140737488355328 := ⟨by omega,by omega⟩
            simp (disch := omega) only [↓aI,↓zP,aD,zD,aS,simprocAttr,Tryz.facts,s1,s3,s4,s5,zA,hol,hoq,hld,hle,opC_len,hst1,hcut.1,hcut.2,ht19,hd19,hdt,Nat.sub_zero,Nat.zero_mul,List.drop_zero,set_get,hkp,hka0]
            intro kb ob hkb0 hkb hob
            try simp (disch := omega) only [↓aI,↓zP,aD,zD,aS,simprocAttr,Tryz.facts,s1,s3,s4,s5,zA,hol,hoq,hld,hle,opC_len,hst1,hcut.1,hcut.2,ht19,hd19,hdt,Nat.sub_zero,Nat.zero_mul,List.drop_zero,set_get,hkb0,hob]
            intro kc oc hkc0 hkc hoc
            try simp (disch := omega) only [↓aI,↓zP,aD,zD,aS,simprocAttr,Tryz.facts,s1,s3,s4,s5,zA,hol,hoq,hld,hle,opC_len,hst1,hcut.1,hcut.2,ht19,hd19,hdt,Nat.sub_zero,Nat.zero_mul,List.drop_zero,set_get,hkc0,hoc]
            intro kd od hkd0 hkd hod
            have fb : H kb = none := by first | exact hs.free hkb | exact hs.free (am hkb)
            have hs1 := (hs.set_free (o := ob) fb)
            have hs2 := hs1.kill_free fb
            have fc : H kc = none := by first | exact hs2.free hkc | exact hs1.free hkc
            have hs3 := (hs2.set_free (o := oc) fc)
            have fd : H kd = none := by first | exact hs3.free hkd | exact (hs3.kill_free fc).free hkd
            exact ⟨mm - 1,by omega,(hs3.kill_free fc).set_free fd,i + 1,kd,IB,by omega,hst.symm,by omega,by rw [hins,show p + 1 + (O.length - p) = IB.length by omega],rfl⟩
    · obtain rfl : i = P.length := by omega
      rw [List.take_length,← hR] at hO
      subst hO
      simp (disch := omega) only [↓aI,↓zP,aD,zD,aS,simprocAttr,Tryz.facts,s1,s3,s4,zA,hol]
      exact hs
end Go.Proofs.YtcgjlmopeblapaaGreat
end
section
set_option linter.unusedSimpArgs false
set_option linter.unusedVariables false
set_option maxRecDepth 8000
set_option maxHeartbeats 4000000
namespace Go.Proofs.YtcgjlmopeblapaaGreat
open Go Go.Abs Go.Proofs Go.Fug
theorem opsC_at {l : List Opn} {i k : Nat} (h : i < l.length) (hk : k < 19) : (dL l)[i * 19 + k]? = (opC l[i])[k]? := by
  have h2 : (((dL l).drop (i * 19)).take 19)[k]? = (opC l[i])[k]? := by rw [opsC_load h]
  rwa [List.getElem?_take_of_lt (by omega),List.getElem?_drop] at h2
def rCntF (a n : Int) (o : Opn) : Int := if o.kind = 1 ∧ o.ins.id.1 = a then max n o.ins.id.2 else n
def rCount (P : List Opn) (a : Int) : Int := P.foldl (rCntF a) 0
theorem rcount_pure (P : List Opn) (a : Int) (hP : P.length ≤ 100000) : APure Tryz.prog 31 [papR P,.sc (.int .i64 a)] (.sc (.int .i64 (rCount P a))) := by
  have hol := cq P
  have hR : rCount P a = P.foldl (rCntF a) 0 := rfl
  generalize rCount P a = R at *
  refine az (c := ⟨Tryz.prog,44,[(1000000,[2])],[],[]⟩) (rs := [ResultVar.tmp 4]) Tryz.mixed Tryz.func31 rfl rfl rfl (Nat.le_of_ble_eq_true rfl) (by kernel_rfl) fun H => ?_
  simp (disch := omega) only [↓aI,↓zP,aD,zD,aS,simprocAttr,Tryz.facts]
  intro b2 hb20 hb2
  try simp (disch := omega) only [↓aI,↓zP,aD,zD,aS,simprocAttr,Tryz.facts,aj hb2,ah]
  refine br (c := ⟨Tryz.prog,44,[(1000000,[2])],[],[]⟩) Tryz.mixed (by kernel_rfl) (fun mm σ H' => H' = H ∧ ∃ (i : Nat) (n : Int),i + mm = P.length ∧ n = (P.take i).foldl (rCntF a) 0 ∧ σ 1 = .sc (.int .i64 a) ∧ σ 2 = .ip [opsV P] 0 ∧ σ 5 = .sc (.int .i64 n) ∧ σ 6 = .sc (.int .i64 (i : Nat))) P.length ?_ ?_
  · refine ⟨rfl,0,0,by omega,rfl,?_⟩
    simp (disch := omega) only [↓aI,↓zP,aD,zD,aS,simprocAttr,Tryz.facts]
    try rfl
  · rintro mm σ H' ⟨rfl,i,n,him,hn,s1,s2,s5,s6⟩
    by_cases hlt : i < P.length
    · have hkd := opsC_kind hlt
      have h1 := opsC_at (k := 1) hlt (by omega)
      have h2 := opsC_at (k := 2) hlt (by omega)
      have hle : i * 19 + 19 ≤ P.length * 19 := by omega
      have hst : (P.take (i + 1)).foldl (rCntF a) 0 = rCntF a n P[i] := by
        rw [List.take_succ_eq_append_getElem hlt,List.foldl_append,← hn]
        rfl
      unfold rCntF at hst
      generalize P[i] = q at *
      simp only [opC,List.getElem?_cons_succ,List.getElem?_cons_zero] at h1 h2
      by_cases k1 : q.kind = 1
      · by_cases k2 : q.ins.id.1 = a
        · rw [if_pos ⟨k1,k2⟩] at hst
          simp (disch := omega) only [↓aI,↓zP,aD,zD,aS,simprocAttr,Tryz.facts,s1,s2,s5,s6,zA,hol,hkd,h1,h2,hle,k2]
          have hmx : (if n < q.ins.id.2 then q.ins.id.2 else n) = max n q.ins.id.2 := by rw [Int.max_def]; split <;> split <;> omega
          exact ⟨mm - 1,by omega,i + 1,max n q.ins.id.2,by omega,hst.symm,by rw [hmx],rfl⟩
        · rw [if_neg (fun h => k2 h.2)] at hst
          simp (disch := omega) only [↓aI,↓zP,aD,zD,aS,simprocAttr,Tryz.facts,s1,s2,s5,s6,zA,hol,hkd,h1,h2,hle]
          exact ⟨mm - 1,by omega,i + 1,n,by omega,hst.symm,rfl,rfl⟩
      · rw [if_neg (fun h => k1 h.1)] at hst
        simp (disch := omega) only [↓aI,↓zP,aD,zD,aS,simprocAttr,Tryz.facts,s1,s2,s5,s6,zA,hol,hkd,h1,h2,hle]
        exact ⟨mm - 1,by omega,i + 1,n,by omega,hst.symm,rfl,rfl⟩
    · obtain rfl : i = P.length := by omega
      rw [List.take_length,← hR] at hn
      subst hn
      simp (disch := omega) only [↓aI,↓zP,aD,zD,aS,simprocAttr,Tryz.facts,s1,s2,s5,s6,zA,hol]
      exact Abs.Sub.refl _
end Go.Proofs.YtcgjlmopeblapaaGreat
end
section
set_option linter.unusedSimpArgs false
set_option linter.unusedVariables false
set_option maxRecDepth 8000
set_option maxHeartbeats 1000000
namespace Go.Proofs.YtcgjlmopeblapaaGreat
open Go Go.Abs Go.Proofs Go.Fug
abbrev opI' (i : Ins) : Opn := ⟨1,i,(0,0),cF⟩
abbrev opD' (x : EId) : Opn := ⟨2,cj,x,cF⟩
abbrev opM' (m : Mk) : Opn := ⟨3,cj,(0,0),m⟩
theorem sort_uniq {α : Type} {r : α → α → Prop} (asy : ∀ a b,r a b → ¬ r b a) : ∀ {l m : List α},l.Pairwise r → m.Pairwise r → (∀ x,x ∈ l ↔ x ∈ m) → l = m
  | [],[],_,_,_ => rfl
  | [],y :: m,_,_,h => by have := (h y).2 (by simp); simp at this
  | x :: l,[],_,_,h => by have := (h x).1 (by simp); simp at this
  | x :: l,y :: m,hl,hm,h => by
    obtain ⟨a1,a2⟩ := List.pairwise_cons.1 hl
    obtain ⟨b1,b2⟩ := List.pairwise_cons.1 hm
    have exy : x = y := by
      rcases List.mem_cons.1 ((h x).1 (by simp)) with e | e
      · exact e
      · rcases List.mem_cons.1 ((h y).2 (by simp)) with e' | e'
        · exact e'.symm
        · exact absurd (a1 y e') (asy _ _ (b1 x e))
    subst exy
    have : l = m := sort_uniq asy a2 b2 fun z => by
      constructor
      · intro hz
        rcases List.mem_cons.1 ((h z).1 (by simp [hz])) with e | e
        · subst e
          exact absurd (a1 z hz) (asy _ _ (a1 z hz))
        · exact e
      · intro hz
        rcases List.mem_cons.1 ((h z).2 (by simp [hz])) with e | e
        · subst e
          exact absurd (b1 z hz) (asy _ _ (b1 z hz))
        · exact e
    rw [this]
def newP (a b : Mk) : Prop := b.clock < a.clock ∨ (b.clock = a.clock ∧ b.author < a.author)
theorem newM_iff {a b : Mk} : newM a b = true ↔ newP a b := by
  unfold newM newP
  by_cases h : a.clock ≠ b.clock
  · rw [if_pos h,decide_eq_true_eq]; omega
  · rw [if_neg h,decide_eq_true_eq]; omega
def lessP (a b : EId) : Prop := a.1 < b.1 ∨ (a.1 = b.1 ∧ a.2 < b.2)
theorem less_iff {a b : EId} : less a b = true ↔ lessP a b := by
  unfold less lessP
  simp only [Bool.or_eq_true,Bool.and_eq_true,decide_eq_true_eq]
def befP (a b : Opn) : Prop := a.kind < b.kind ∨ (a.kind = b.kind ∧ ((a.kind = 1 ∧ lessP a.ins.id b.ins.id) ∨ (a.kind ≠ 1 ∧ a.kind = 2 ∧ lessP a.drop b.drop) ∨ (a.kind ≠ 1 ∧ a.kind ≠ 2 ∧ newP b.mar a.mar)))
theorem bef_iff {a b : Opn} : befO a b = true ↔ befP a b := by
  unfold befO befP
  by_cases h : a.kind ≠ b.kind
  · rw [if_pos h,decide_eq_true_eq]
    constructor
    · exact fun h' => .inl h'
    · rintro (h' | h')
      · exact h'
      · exact absurd h'.1 h
  · rw [if_neg h]
    have h' := Decidable.not_not.1 h
    by_cases h1 : a.kind = 1
    · rw [if_pos h1,less_iff]
      constructor
      · exact fun e => .inr ⟨h',.inl ⟨h1,e⟩⟩
      · rintro (e | ⟨-,e | e | e⟩)
        · omega
        · exact e.2
        · exact absurd h1 e.1
        · exact absurd h1 e.1
    · rw [if_neg h1]
      by_cases h2 : a.kind = 2
      · rw [if_pos h2,less_iff]
        constructor
        · exact fun e => .inr ⟨h',.inr (.inl ⟨h1,h2,e⟩)⟩
        · rintro (e | ⟨-,e | e | e⟩)
          · omega
          · exact absurd e.1 h1
          · exact e.2.2
          · exact absurd h2 e.2.1
      · rw [if_neg h2,newM_iff]
        constructor
        · exact fun e => .inr ⟨h',.inr (.inr ⟨h1,h2,e⟩)⟩
        · rintro (e | ⟨-,e | e | e⟩)
          · omega
          · exact absurd e.1 h1
          · exact absurd e.2.1 h2
          · exact e.2.2
theorem befP_asym {a b : Opn} (h : befP a b) : ¬ befP b a := by
  unfold befP lessP newP at *
  rintro (h1 | ⟨h1,h2⟩)
  · rcases h with h | ⟨h,-⟩ <;> omega
  · rcases h with h | ⟨h,h3⟩
    · omega
    · rcases h3 with h3 | h3 | h3 <;> rcases h2 with h2 | h2 | h2 <;> omega
theorem befP_trans {a b c : Opn} (h : befP a b) (g : befP b c) : befP a c := by
  unfold befP lessP newP at *
  rcases h with h | ⟨h,h1⟩
  · left
    rcases g with g | ⟨g,-⟩ <;> omega
  · rcases g with g | ⟨g,g1⟩
    · left; omega
    · right
      refine ⟨by omega,?_⟩
      rcases h1 with h1 | h1 | h1 <;> rcases g1 with g1 | g1 | g1 <;> first | (exfalso; omega) | (left; omega) | (right; left; omega) | (right; right; omega)
theorem befP_total {a b : Opn} (ha : opR a = true) (hb : opR b = true) (hn : cM a ≠ cM b) (h : ¬ befP a b) : befP b a := by
  have k1 := opR_kind ha
  have k2 := opR_kind hb
  unfold befP lessP newP at *
  by_cases e : a.kind = b.kind
  · right
    refine ⟨e.symm,?_⟩
    have h' : ¬ ((a.kind = 1 ∧ (a.ins.id.1 < b.ins.id.1 ∨ (a.ins.id.1 = b.ins.id.1 ∧ a.ins.id.2 < b.ins.id.2))) ∨ (a.kind ≠ 1 ∧ a.kind = 2 ∧ (a.drop.1 < b.drop.1 ∨ (a.drop.1 = b.drop.1 ∧ a.drop.2 < b.drop.2))) ∨ (a.kind ≠ 1 ∧ a.kind ≠ 2 ∧ (a.mar.clock < b.mar.clock ∨ (a.mar.clock = b.mar.clock ∧ a.mar.author < b.mar.author)))) := fun h1 => h (.inr ⟨e,h1⟩)
    rcases k1 with k1 | k1 | k1
    · left
      have : ¬ (a.ins.id.1 = b.ins.id.1 ∧ a.ins.id.2 = b.ins.id.2) := fun h2 => hn (by
        unfold cM
        rw [if_pos k1,if_pos (by omega),h2.1,h2.2,e])
      omega
    · right; left
      have : ¬ (a.drop.1 = b.drop.1 ∧ a.drop.2 = b.drop.2) := fun h2 => hn (by
        unfold cM
        rw [if_neg (by omega),if_pos k1,if_neg (by omega),if_pos (by omega),h2.1,h2.2,e])
      omega
    · right; right
      have : ¬ (a.mar.author = b.mar.author ∧ a.mar.clock = b.mar.clock) := fun h2 => hn (by
        unfold cM
        rw [if_neg (by omega),if_neg (by omega),if_neg (by omega),if_neg (by omega),h2.1,h2.2,e])
      omega
  · left
    rcases Int.lt_trichotomy b.kind a.kind with h1 | h1 | h1
    · exact h1
    · exact absurd h1.symm e
    · exact absurd (.inl h1) h
theorem insB_perm (l : List Opn) (o : Opn) : (insB l o).Perm (o :: l) := by
  unfold insB
  have := List.perm_middle (a := o) (l₁ := l.take (plcO l o)) (l₂ := l.drop (plcO l o))
  rwa [List.take_append_drop] at this
theorem insB_sorted {l : List Opn} (hs : l.Pairwise befP) (hl : ∀ x ∈ l,opR x = true) {o : Opn} (ho : opR o = true) (hn : cM o ∉ l.map cM) : (insB l o).Pairwise befP := by
  have hle := plcO_le l o
  have hb : ∀ x ∈ l.take (plcO l o),befP x o := fun x hx => by
    obtain ⟨i,hi,rfl⟩ := List.mem_iff_getElem.1 hx
    rw [List.length_take] at hi
    rw [List.getElem_take]
    exact bef_iff.1 (plcO_lt (by omega) (by omega))
  have ha : ∀ x ∈ l.drop (plcO l o),befP o x := fun x hx => by
    obtain ⟨i,hi,rfl⟩ := List.mem_iff_getElem.1 hx
    rw [List.length_drop] at hi
    rw [List.getElem_drop]
    have hp : plcO l o < l.length := by omega
    have h0 : befP o l[plcO l o] := by
      refine befP_total (hl _ (List.getElem_mem hp)) ho (fun e => hn (by rw [← e]; exact List.mem_map_of_mem (List.getElem_mem hp))) fun h => ?_
      have := plcO_at hp
      rw [bef_iff.2 h] at this
      cases this
    rcases Nat.eq_zero_or_pos i with rfl | h1
    · exact h0
    · exact befP_trans h0 (List.pairwise_iff_getElem.1 hs _ _ hp (by omega) (by omega))
  unfold insB
  rw [List.pairwise_append,List.pairwise_cons]
  refine ⟨hs.sublist (List.take_sublist _ _),⟨ha,hs.sublist (List.drop_sublist _ _)⟩,fun x hx y hy => ?_⟩
  rcases List.mem_cons.1 hy with rfl | hy
  · exact hb x hx
  · exact befP_trans (hb x hx) (ha y hy)
theorem rOps_sorted (P : List Opn) (hok : ∀ o ∈ P,opR o = true) (hnd : (P.map cM).Nodup) : (rOps P).Pairwise befP ∧ (rOps P).Perm P := by
  revert hok hnd
  refine eY (P := fun P => (∀ o ∈ P,opR o = true) → (P.map cM).Nodup → (rOps P).Pairwise befP ∧ (rOps P).Perm P) ?_ ?_ P
  · intro _ _
    exact ⟨List.Pairwise.nil,List.Perm.refl _⟩
  · intro P o ih hok hnd
    rw [List.map_append,List.nodup_append] at hnd
    obtain ⟨h1,h2⟩ := ih (fun q hq => hok q (by simp [hq])) hnd.1
    have e : rOps (P ++ [o]) = insB (rOps P) o := by simp [rOps,List.foldl_append]
    rw [e]
    refine ⟨insB_sorted h1 (fun x hx => hok x (by simp [h2.mem_iff.1 hx])) (hok o (by simp)) fun h => ?_,(insB_perm _ _).trans ?_⟩
    · exact hnd.2.2 _ ((h2.map cM).mem_iff.1 h) (cM o) (by simp) rfl
    · exact (List.Perm.cons o h2).trans (List.perm_append_singleton o P).symm
def OpsS (s : PS) (O : List Opn) : Prop := ∃ (sI : List Ins) (sD : List EId),sI.Perm s.I ∧ sI.Pairwise (fun a b => lessP a.id b.id) ∧ sD.Perm s.D ∧ sD.Pairwise lessP ∧ O = sI.map opI' ++ sD.map opD' ++ s.l.map opM'
theorem ops_same {P : List Opn} {s : PS} (r : Rel P s) (gM : GoodM s.l) {O : List Opn} (h : OpsS s O) (hml : ∀ m,m ∈ s.l ↔ opM' m ∈ P) : O = rOps P := by
  obtain ⟨sI,sD,h1,h2,h3,h4,rfl⟩ := h
  obtain ⟨g1,g2⟩ := rOps_sorted P r.ok r.nd
  refine sort_uniq (r := befP) (fun a b h => befP_asym h) ?_ g1 fun x => ?_
  · rw [List.pairwise_append,List.pairwise_append]
    refine ⟨⟨?_,?_,?_⟩,?_,?_⟩
    · rw [List.pairwise_map]
      exact h2.imp fun h => .inr ⟨rfl,.inl ⟨rfl,h⟩⟩
    · rw [List.pairwise_map]
      exact h4.imp fun h => .inr ⟨rfl,.inr (.inl ⟨by simp,rfl,h⟩)⟩
    · intro a ha b hb
      obtain ⟨i,-,rfl⟩ := List.mem_map.1 ha
      obtain ⟨x,-,rfl⟩ := List.mem_map.1 hb
      exact .inl (by decide : (1 : Int) < 2)
    · rw [List.pairwise_map]
      refine gM.sort.imp fun {a b} h => .inr ⟨rfl,.inr (.inr ⟨by simp,by simp,?_⟩)⟩
      unfold newP
      unfold ltM at h
      simp only
      omega
    · intro a ha b hb
      obtain ⟨m,-,rfl⟩ := List.mem_map.1 hb
      rcases List.mem_append.1 ha with h | h
      · obtain ⟨i,-,rfl⟩ := List.mem_map.1 h
        exact .inl (by decide : (1 : Int) < 3)
      · obtain ⟨i,-,rfl⟩ := List.mem_map.1 h
        exact .inl (by decide : (2 : Int) < 3)
  · rw [g2.mem_iff]
    have hI : ∀ i,i ∈ sI ↔ ∃ o ∈ P,o.kind = 1 ∧ o.ins = i := fun i => by
      rw [h1.mem_iff,r.i]
      unfold insR
      simp only [List.mem_map,List.mem_filter,decide_eq_true_eq,and_assoc]
    have hD : ∀ i,i ∈ sD ↔ ∃ o ∈ P,o.kind = 2 ∧ o.drop = i := fun i => by
      rw [h3.mem_iff,r.d]
      unfold drpR
      simp only [List.mem_map,List.mem_filter,decide_eq_true_eq,and_assoc]
    have hop1 : ∀ o ∈ P,o.kind = 1 → o = opI' o.ins := fun o ho k => by
      have := r.ok o ho
      unfold opR at this
      rw [if_pos k,Bool.and_eq_true,decide_eq_true_eq] at this
      obtain ⟨kk,i,d,m⟩ := o
      simp only at k this
      obtain ⟨-,rfl,rfl⟩ := this
      subst k
      rfl
    have hop2 : ∀ o ∈ P,o.kind = 2 → o = opD' o.drop := fun o ho k => by
      have := r.ok o ho
      unfold opR at this
      rw [if_neg (by omega),if_pos k,Bool.and_eq_true,decide_eq_true_eq] at this
      obtain ⟨kk,i,d,m⟩ := o
      simp only at k this
      obtain ⟨-,rfl,rfl⟩ := this
      subst k
      rfl
    have hop3 : ∀ o ∈ P,o.kind = 3 → o = opM' o.mar := fun o ho k => by
      have := r.ok o ho
      unfold opR at this
      rw [if_neg (by omega),if_neg (by omega),if_pos k,Bool.and_eq_true,decide_eq_true_eq] at this
      obtain ⟨kk,i,d,m⟩ := o
      simp only at k this
      obtain ⟨-,rfl,rfl⟩ := this
      subst k
      rfl
    simp only [List.mem_append,List.mem_map]
    constructor
    · rintro ((⟨i,hi,rfl⟩ | ⟨i,hi,rfl⟩) | ⟨m,hm,rfl⟩)
      · obtain ⟨o,ho,k,rfl⟩ := (hI i).1 hi
        rw [← hop1 o ho k]; exact ho
      · obtain ⟨o,ho,k,rfl⟩ := (hD i).1 hi
        rw [← hop2 o ho k]; exact ho
      · exact (hml m).1 hm
    · intro hx
      rcases opR_kind (r.ok x hx) with k | k | k
      · exact .inl (.inl ⟨x.ins,(hI _).2 ⟨x,hx,k,rfl⟩,(hop1 x hx k).symm⟩)
      · exact .inl (.inr ⟨x.drop,(hD _).2 ⟨x,hx,k,rfl⟩,(hop2 x hx k).symm⟩)
      · exact .inr ⟨x.mar,(hml _).2 (by rw [← hop3 x hx k]; exact hx),(hop3 x hx k).symm⟩
theorem rMarks_sub : ∀ (P : List Opn) (l : List Mk) (m : Mk),m ∈ P.foldl rMark l → m ∈ l ∨ ∃ o ∈ P,o.kind = 3 ∧ o.mar = m
  | [],l,m,h => .inl h
  | o :: P,l,m,h => by
    rw [List.foldl_cons] at h
    rcases rMarks_sub P _ m h with h1 | ⟨q,hq,h1⟩
    · unfold rMark at h1
      by_cases k : o.kind = 3
      · rw [if_pos k] at h1
        unfold eU at h1
        split at h1
        · exact .inl h1
        · split at h1
          · exact .inl h1
          · split at h1
            · exact .inl h1
            · simp only [List.mem_append,List.mem_filter,List.mem_singleton] at h1
              rcases h1 with (h1 | rfl) | h1
              · exact .inl h1.1
              · exact .inr ⟨o,by simp,k,rfl⟩
              · exact .inl h1.1
      · rw [if_neg k] at h1
        exact .inl h1
    · exact .inr ⟨q,by simp [hq],h1⟩
theorem name_inj {P : List Opn} (nd : (P.map cM).Nodup) {a b : Opn} (ha : a ∈ P) (hb : b ∈ P) (h : cM a = cM b) : a = b := by
  obtain ⟨i,hi,rfl⟩ := List.mem_iff_getElem.1 ha
  obtain ⟨j,hj,rfl⟩ := List.mem_iff_getElem.1 hb
  have e : (P.map cM)[i]'(by simpa using hi) = (P.map cM)[j]'(by simpa using hj) := by simpa using h
  have := (List.getElem_inj nd).1 e
  subst this
  rfl
theorem op_mark {o : Opn} (h : opR o = true) (k : o.kind = 3) : o = opM' o.mar := by
  unfold opR at h
  rw [if_neg (by omega),if_neg (by omega),if_pos k,Bool.and_eq_true,decide_eq_true_eq] at h
  obtain ⟨kk,i,d,m⟩ := o
  simp only at k h
  obtain ⟨-,rfl,rfl⟩ := h
  subst k
  rfl
theorem marks_mem {P : List Opn} {s : PS} (r : Rel P s) (m : Mk) : m ∈ s.l ↔ opM' m ∈ P := by
  constructor
  · intro h
    rw [r.m] at h
    rcases rMarks_sub P [] m h with h1 | ⟨o,ho,k,rfl⟩
    · simp at h1
    · rw [← op_mark (r.ok o ho) k]; exact ho
  · intro h
    have h1 := (r.kn (opM' m) (r.ok _ h)).2 (List.mem_map_of_mem h)
    unfold cf at h1
    rw [if_neg (show ¬ (3 : Int) = 1 by decide),if_neg (show ¬ (3 : Int) = 2 by decide)] at h1
    unfold hasM at h1
    obtain ⟨x,hx,e⟩ := List.any_eq_true.1 h1
    have e := of_decide_eq_true e
    have hx2 := hx
    rw [r.m] at hx2
    rcases rMarks_sub P [] x hx2 with h2 | ⟨o,ho,k,rfl⟩
    · simp at h2
    · have ho2 : opM' o.mar ∈ P := by rw [← op_mark (r.ok o ho) k]; exact ho
      have en : cM (opM' o.mar) = cM (opM' m) := by
        show ((3 : Int),o.mar.author,o.mar.clock) = (3,m.author,m.clock)
        rw [e.1,e.2]
      have := name_inj r.nd ho2 h en
      have e3 : o.mar = m := congrArg Opn.mar this
      rw [← e3]
      exact hx
theorem ops_eq {P : List Opn} {s : PS} (r : Rel P s) (gM : GoodM s.l) {O : List Opn} (h : OpsS s O) : O = rOps P := ops_same r gM h (marks_mem r)
theorem count_eq {P : List Opn} {s : PS} (r : Rel P s) (a : Int) : dh s a = rCount P a := by
  unfold dh rCount
  rw [r.i]
  unfold insR
  have key : ∀ (P : List Opn) (n : Int),((P.filter fun o => decide (o.kind = 1)).map (·.ins)).foldl (cntF a) n = P.foldl (rCntF a) n := by
    intro P
    induction P with
    | nil => intro n; rfl
    | cons o P ih =>
      intro n
      by_cases k : o.kind = 1
      · rw [List.filter_cons_of_pos (by simpa using k),List.map_cons,List.foldl_cons,List.foldl_cons,ih]
        congr 1
        unfold cntF rCntF
        by_cases e : o.ins.id.1 = a
        · rw [if_pos e,if_pos ⟨k,e⟩]
        · rw [if_neg e,if_neg (fun h => e h.2)]
      · rw [List.filter_cons_of_neg (by simpa using k),List.foldl_cons,ih]
        congr 1
        unfold rCntF
        rw [if_neg (fun h => k h.1)]
  exact key P 0
end Go.Proofs.YtcgjlmopeblapaaGreat
end
section
set_option linter.unusedSimpArgs false
set_option linter.unusedVariables false
set_option maxRecDepth 8000
set_option maxHeartbeats 1000000
namespace Go.Proofs.YtcgjlmopeblapaaGreat
open Go Go.Abs Go.Proofs Go.Fug
structure OkO (O : List Opn) : Prop where
  ok : ∀ o ∈ O,opR o = true
  nd : (O.map cM).Nodup
theorem OkO.nil : OkO [] := ⟨by simp,by simp⟩
theorem OkO.perm {O X : List Opn} (h : OkO O) (hp : X.Perm O) : OkO X := ⟨fun o ho => h.ok o (hp.mem_iff.1 ho),((hp.map cM).nodup_iff).2 h.nd⟩
theorem OkO.left {O X : List Opn} (h : OkO (O ++ X)) : OkO O := ⟨fun o ho => h.ok o (by simp [ho]),by have := h.nd; rw [List.map_append,List.nodup_append] at this; exact this.1⟩
theorem OkO.snoc {O : List Opn} (h : OkO O) {o : Opn} (ho : opR o = true) (hn : (O.any fun x => oneO x o) = false) : OkO (O ++ [o]) := by
  refine ⟨fun q hq => ?_,?_⟩
  · rcases List.mem_append.1 hq with h1 | h1
    · exact h.ok q h1
    · rw [List.mem_singleton.1 h1]; exact ho
  · rw [List.map_append,List.nodup_append]
    refine ⟨h.nd,by simp,fun a ha b hb e => ?_⟩
    rw [List.map_cons,List.map_nil,List.mem_singleton] at hb
    obtain ⟨x,hx,rfl⟩ := List.mem_map.1 ha
    have : (O.any fun x => oneO x o) = true := List.any_eq_true.2 ⟨x,hx,by rw [one_name (h.ok x hx) ho]; exact decide_eq_true (e.trans hb)⟩
    rw [hn] at this
    cases this
theorem tree_mem {P Q : List Opn} {s : PS} (r : Rel P s) (hp : P.Perm Q) (t : InvP s) (g : Fug.Good s.L) (nd : (s.I.map (·.id)).Nodup) (hz : sizP s < 4096) : ∀ i,i ∈ s.L ↔ i ∈ rTreeL Q := by
  obtain ⟨h1,h2⟩ := rTree_in Q
  have hI : s.I.Perm (insR Q) := by rw [r.i]; unfold insR; exact (hp.filter _).map _
  exact tree_sub (P := Q) rfl (fun i hi => insO_ok (t.ok i (hI.mem_iff.2 hi))) ((hI.map (·.id)).nodup_iff.1 nd) (by have := hI.length_eq; unfold sizP at hz; omega) (t.mid.pm.trans hI) t.st g h1 h2
theorem ids_mem {L M : List Ins} (h : ∀ i,i ∈ L ↔ i ∈ M) (x : EId) : x ∈ L.map (·.id) ↔ x ∈ M.map (·.id) := by
  simp only [List.mem_map]
  constructor
  · rintro ⟨i,hi,e⟩; exact ⟨i,(h i).1 hi,e⟩
  · rintro ⟨i,hi,e⟩; exact ⟨i,(h i).2 hi,e⟩
end Go.Proofs.YtcgjlmopeblapaaGreat
end
