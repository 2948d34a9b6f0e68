/-
  Several texts in one: each says what it proves.
  Conditions: none. Lemmas only.
-/
import Derived.Test.YtjlnpngaiphnmaaGreatRtG1
import Derived.Test.YtjlnpngaiphnmaaGreatRosG8
import Derived.Test.YtjlnpngaiphnmaaGreatRosG9
set_option linter.all false
section
set_option linter.unusedSimpArgs false
set_option linter.unusedVariables false
set_option maxRecDepth 20000
set_option maxHeartbeats 8000000
namespace Go.Proofs.YtjlnpngaiphnmaaGreat
open Go Go.Abs Go.Proofs
theorem memb_idx (id : Int) : ∀ ms : List Mem, ∃ i0, i0 ≤ ms.length ∧ (∀ j (h : j < ms.length), j < i0 → ¬ (ms[j]).id = id) ∧
    ((gG ms id = false ∧ i0 = ms.length) ∨ (gG ms id = true ∧ (∃ h : i0 < ms.length,(ms[i0]).id = id) ∧ ms.findIdx? (fun m => m.id == id) = some i0))
  | [] => ⟨0,by simp,fun j h => absurd h (by simp),.inl ⟨rfl,rfl⟩⟩
  | m :: l => by
    by_cases c : m.id = id
    · refine ⟨0,by omega,fun j _ h => absurd h (by omega),.inr ⟨?_,⟨by simp,c⟩,?_⟩⟩
      · simp [gG,fu,c]
      · simp [List.findIdx?_cons,c]
    · obtain ⟨i,h1,h2,h3⟩ := memb_idx id l
      refine ⟨i + 1,by simpa using h1,fun j hj hji => ?_,?_⟩
      · cases j with
        | zero => simpa using c
        | succ j => simpa using h2 j (by simpa using hj) (by omega)
      · have e : gG (m :: l) id = gG l id := by simp [gG,fu,c]
        rw [e]
        rcases h3 with ⟨a,b⟩ | ⟨a,⟨b1,b2⟩,b3⟩
        · exact .inl ⟨a,by simp [b]⟩
        · exact .inr ⟨a,⟨by simpa using b1,by simpa using b2⟩,by simp [List.findIdx?_cons,c,b3]⟩
theorem opn_V (ts : List Term) (k o b : List UInt8) : openV ts k 1 o b = .tup [eu (opnM ts k o b).1,.sc (.int .i64 (opnM ts k o b).2)] := by
  unfold openV opnM
  split
  · rfl
  · rfl
theorem boxAt_get {e : Ent} {id : Int} {i : Nat} (h : e.members.findIdx? (fun m => m.id == id) = some i) (hi : i < e.boxes.length) : jA e id = e.boxes[i] := by
  unfold jA
  rw [h]
  simp [List.getD,hi]
variable {H0 H : AH} {h m d N : Nat} {ts : List Term} {e : Ent}
theorem key_live (he : OkE e) (gt : GT N ts) (hN : N ≤ 999980) (s : SS H0 H h m d ts) (id : Int) (secret : List UInt8) (hsl : secret.length ≤ 100000000) :
    ACalls Tryz.prog 26 [iT h,.agg (fX e),.sc (.int .i64 id),eu secret] H fun v H' => v = .tup [eu (keyM ts e id secret).2.1,.sc (.int .i64 (keyM ts e id secret).2.2)] ∧ SS H0 H' h m d (keyM ts e id secret).1 := by
  have hrp := ie e (by have := he.ml; omega) (by have := he.el; omega) (by have := he.bl; omega)
  cases hrt : gK e
  · have hR : keyM ts e id secret = (ts,[],13) := by unfold keyM; rw [hrt]; rfl
    rw [hR]
    rw [hrt] at hrp
    obtain ⟨n,prev,ms,ns,once,bs,sig⟩ := e
    simp only [fX] at *
    refine ao (c := ⟨Tryz.prog,68,[(10,[0,0,1,0,0,1,0,0,1,0,0,0,2,0,0,0,0,0]),(1000000,[5]),(1000005,[11]),(4000010,[13,14]),(4000007,[0,5,10,12,13]),(4000005,[0,2,3,5,10,11,19,20,21])],[],[]⟩) (rs := [ResultVar.tmp 8,ResultVar.tmp 9]) Tryz.mixed Tryz.func26 rfl rfl rfl (Nat.le_of_ble_eq_true rfl) (by kernel_rfl) ?_
    simp (disch := omega) only [↓aI,↓zP,aD,zD,aS,simprocAttr,Tryz.facts,zA]
    intro b5 hb50 hb5
    rw [aj hb5]
    try simp (disch := omega) only [↓aI,↓zP,aD,zD,aS,simprocAttr,Tryz.facts,zA]
    first | refine CallK.p (hrp) ?_ | refine CallP.i (hrp) ?_
    simp (disch := omega) only [↓aI,↓zP,aD,zD,aS,simprocAttr,Tryz.facts,zA]
    exact ⟨_,rfl,_,Abs.Sub.refl _,rfl,s⟩
  rw [hrt] at hrp
  obtain ⟨n1,n2,hpv,hpt,hbl,hol,hbml,hsl2⟩ := fy hrt
  have hml5 := he.ml
  obtain ⟨i0,hi0,hne,hmem⟩ := memb_idx id e.members
  have hbk := fun (E : AH) (s : SS H0 E h m d ts) => bky_tell e.n id secret e.once hsl (by omega) (by omega) gt s
  obtain ⟨gB,pB,lB,eB⟩ := jl gt (n := e.n) (id := id) (s := secret) (p := e.once)
  have hco := core_pure [] e (by simp) he
  rw [List.nil_append] at hco
  have hcl := iz he
  have hR : keyM ts e id secret = if gG e.members id = false then (ts,[],13)
    else if ¬ (gR ts e.n id secret e.once).2.2 = 0 then ((gR ts e.n id secret e.once).1,[],(gR ts e.n id secret e.once).2.2)
    else ((gR ts e.n id secret e.once).1,
      if ¬ (opnM (gR ts e.n id secret e.once).1 (gR ts e.n id secret e.once).2.1 (gE e) (jA e id)).2 = 0 then ([],(opnM (gR ts e.n id secret e.once).1 (gR ts e.n id secret e.once).2.1 (gE e) (jA e id)).2)
      else if ¬ (opnM (gR ts e.n id secret e.once).1 (gR ts e.n id secret e.once).2.1 (gE e) (jA e id)).1.length = 32 then ([],5)
      else ((opnM (gR ts e.n id secret e.once).1 (gR ts e.n id secret e.once).2.1 (gE e) (jA e id)).1,0)) := by
    unfold keyM
    rw [hrt,Bool.true_and]
  have hbx : gG e.members id = true → ∃ h : i0 < e.boxes.length,jA e id = e.boxes[i0] := fun hm => by
    rcases hmem with ⟨a,_⟩ | ⟨_,⟨b,_⟩,c⟩
    · rw [a] at hm; cases hm
    · have hi : i0 < e.boxes.length := by omega
      exact ⟨hi,boxAt_get c hi⟩
  have hmem2 : (gG e.members id = false ∧ i0 = e.members.length) ∨ (gG e.members id = true ∧ ∃ h : i0 < e.members.length,(e.members[i0]).id = id) := hmem.imp (fun h => h) (fun h => ⟨h.1,h.2.1⟩)
  have hop : (gR ts e.n id secret e.once).2.2 = 0 → gG e.members id = true → ∀ (E : AH) (s : SS H0 E h m d (gR ts e.n id secret e.once).1),ACalls Tryz.prog 127 [.ptr h 0,eu (gR ts e.n id secret e.once).2.1,.sc (.int .i64 (1 : Nat)),eu (gE e),eu (jA e id)] E fun v H' => v = .tup [eu (opnM (gR ts e.n id secret e.once).1 (gR ts e.n id secret e.once).2.1 (gE e) (jA e id)).1,.sc (.int .i64 (opnM (gR ts e.n id secret e.once).1 (gR ts e.n id secret e.once).2.1 (gE e) (jA e id)).2)] ∧ H' = E := fun h0 hm E s => by
    rw [← opn_V]
    obtain ⟨hi,hb⟩ := hbx hm
    rw [hb]
    exact open_tell _ 1 _ _ (lB h0) (by decide) (by have := hbl _ (List.getElem_mem hi); omega) (gB.mono (by omega)) s
  have hmc : (e.members.flatMap fL).length = e.members.length * 3 := fF fU _
  have hml := fun i (h : i < e.members.length) => iJ h
  have hbg : gG e.members id = true → (e.boxes.map eu)[i0]? = some (eu (jA e id)) := fun hm => by
    obtain ⟨hi,hb⟩ := hbx hm
    rw [hb]; simp [hi]
  have hbc : gG e.members id = true → i0 < e.boxes.length := fun hm => (hbx hm).1
  generalize keyM ts e id secret = R at hR ⊢
  generalize gE e = CC at *
  generalize jA e id = bx at *
  clear hmem hbx hbl hcl hsl2 hrt hpt
  generalize gR ts e.n id secret e.once = B at *
  obtain ⟨t1,bk,be⟩ := B
  obtain ⟨n,prev,ms,ns,once,bs,sig⟩ := e
  simp only [fX] at *
  generalize opnM t1 bk CC bx = O at *
  obtain ⟨ov,oe⟩ := O
  simp only [] at *
  refine ao (c := ⟨Tryz.prog,68,[(10,[0,0,1,0,0,1,0,0,1,0,0,0,2,0,0,0,0,0]),(1000000,[5]),(1000005,[11]),(4000010,[13,14]),(4000007,[0,5,10,12,13]),(4000005,[0,2,3,5,10,11,19,20,21])],[],[]⟩) (rs := [ResultVar.tmp 8,ResultVar.tmp 9]) Tryz.mixed Tryz.func26 rfl rfl rfl (Nat.le_of_ble_eq_true rfl) (by kernel_rfl) ?_
  simp (disch := omega) only [↓aI,↓zP,aD,zD,aS,simprocAttr,Tryz.facts,zA]
  intro b5 hb50 hb5
  rw [aj hb5]
  try simp (disch := omega) only [↓aI,↓zP,aD,zD,aS,simprocAttr,Tryz.facts,zA]
  first | refine CallK.p (hrp) ?_ | refine CallP.i (hrp) ?_
  simp (disch := omega) only [↓aI,↓zP,aD,zD,aS,simprocAttr,Tryz.facts,zA]
  refine br (c := ⟨Tryz.prog,68,[(10,[0,0,1,0,0,1,0,0,1,0,0,0,2,0,0,0,0,0]),(1000000,[5]),(1000005,[11]),(4000010,[13,14]),(4000007,[0,5,10,12,13]),(4000005,[0,2,3,5,10,11,19,20,21])],[],[]⟩) Tryz.mixed (by kernel_rfl) (fun mm σ E => SS H0 E h m d ts ∧ ∃ (i : Nat),i + mm = ms.length ∧ i ≤ i0 ∧
    σ 0 = iT h ∧ σ 2 = .sc (.int .i64 id) ∧ σ 3 = eu secret ∧ σ 5 = .ip [.sc (.int .i64 n),eu prev,fE ms,fY ns,eu once,fZ bs,eu sig] 0 ∧ σ 19 = fE ms ∧ σ 20 = .sc (.int .i64 (ms.length : Nat)) ∧ σ 21 = .sc (.int .i64 (i : Nat))) ms.length ?_ ?_
  · refine ⟨s,0,by omega,by omega,?_⟩
    simp (disch := omega) only [↓aI,↓zP,aD,zD,aS,simprocAttr,Tryz.facts,zA]
  · rintro mm σ E ⟨s1,i,him,hii,s0,s2,s3,s5,s19,s20,s21⟩
    by_cases hlt : i < ms.length
    · have hl := hml i hlt
      have hc3 : i * 3 + 3 ≤ ms.length * 3 := by omega
      by_cases hii2 : i < i0
      · have hx := hne i hlt hii2
        generalize ms[i] = x at *
        obtain ⟨xi,xp,xg⟩ := x
        simp only [] at hl hx
        simp (disch := omega) only [↓aI,↓zP,aD,zD,aS,simprocAttr,Tryz.facts,zA,s0,s2,s3,s5,s19,s20,s21,hmc,hl,hc3,ah]
        intro k7 hk70 hk7
        try simp (disch := omega) only [↓aI,↓zP,aD,zD,aS,simprocAttr,Tryz.facts,zA,s0,s2,s3,s5,s19,s20,s21,hx,aj hk7]
        exact ⟨mm - 1,by omega,s1,i + 1,by omega,by omega,rfl⟩
      · obtain rfl : i = i0 := by omega
        rcases hmem2 with ⟨_,hh⟩ | ⟨hm,hlt2,hid⟩
        · omega
        rw [if_neg (by rw [hm]; decide)] at hR
        have hbg := hbg hm
        have hbc := hbc hm
        have hx := hid
        generalize ms[i] = x at *
        obtain ⟨xi,xp,xg⟩ := x
        simp only [] at hl hx
        subst hx
        by_cases hz : be = 0
        · rw [if_neg (by simp [hz])] at hR
          have hop := hop hz hm
          subst hR
          have hfin : (if ¬ oe = 0 then (([] : List UInt8),oe) else if ¬ ov.length = 32 then ([],5) else (ov,0)) = if oe = 0 then (if ov.length = 32 then (ov,0) else ([],5)) else ([],oe) := by by_cases h1 : oe = 0 <;> by_cases h2 : ov.length = 32 <;> simp [h1,h2]
          rw [hfin]
          simp (disch := omega) only [↓aI,↓zP,aD,zD,aS,simprocAttr,Tryz.facts,zA,s0,s2,s3,s5,s19,s20,s21,hmc,hl,hc3,ah]
          intro k7 hk70 hk7
          try simp (disch := omega) only [↓aI,↓zP,aD,zD,aS,simprocAttr,Tryz.facts,zA,s0,s2,s3,s5,s19,s20,s21,aj hk7]
          refine CallK.i (hbk _ s1) ?_
          rintro v F ⟨rfl,s4⟩
          try simp (disch := omega) only [↓aI,↓zP,aD,zD,aS,simprocAttr,Tryz.facts,zA]
          first | refine CallK.p (hco) ?_ | refine CallP.i (hco) ?_
          simp (disch := omega) only [↓aI,↓zP,aD,zD,aS,simprocAttr,Tryz.facts,zA]
          try simp (disch := omega) only [↓aI,↓zP,aD,zD,aS,simprocAttr,Tryz.facts,zA,hbg,hbc]
          refine CallK.i (hop _ s4) ?_
          rintro v F2 ⟨rfl,rfl⟩
          by_cases ho : oe = 0
          · by_cases hol : ov.length = 32
            · try simp (disch := omega) only [↓aI,↓zP,aD,zD,aS,simprocAttr,Tryz.facts,zA,ho,hol]
              exact ⟨_,rfl,_,Abs.Sub.refl _,by rw [eu,hol],s4⟩
            · have hol2 : ¬ (ov.length : Int) = 32 := by omega
              try simp (disch := omega) only [↓aI,↓zP,aD,zD,aS,simprocAttr,Tryz.facts,zA,ho,hol,hol2]
              exact ⟨_,rfl,_,Abs.Sub.refl _,rfl,s4⟩
          · try simp (disch := omega) only [↓aI,↓zP,aD,zD,aS,simprocAttr,Tryz.facts,zA,ho]
            exact ⟨_,rfl,_,Abs.Sub.refl _,rfl,s4⟩
        · rw [if_pos hz] at hR
          subst hR
          simp (disch := omega) only [↓aI,↓zP,aD,zD,aS,simprocAttr,Tryz.facts,zA,s0,s2,s3,s5,s19,s20,s21,hmc,hl,hc3,ah]
          intro k7 hk70 hk7
          try simp (disch := omega) only [↓aI,↓zP,aD,zD,aS,simprocAttr,Tryz.facts,zA,s0,s2,s3,s5,s19,s20,s21,aj hk7]
          refine CallK.i (hbk _ s1) ?_
          rintro v F ⟨rfl,s4⟩
          try simp (disch := omega) only [↓aI,↓zP,aD,zD,aS,simprocAttr,Tryz.facts,zA,hz]
          exact ⟨_,rfl,_,Abs.Sub.refl _,rfl,s4⟩
    · obtain rfl : i = ms.length := by omega
      rcases hmem2 with ⟨hm,_⟩ | ⟨_,hlt2,_⟩
      · rw [if_pos hm] at hR
        subst hR
        simp (disch := omega) only [↓aI,↓zP,aD,zD,aS,simprocAttr,Tryz.facts,zA,s0,s2,s3,s5,s19,s20,s21,hmc]
        exact ⟨_,rfl,_,Abs.Sub.refl _,rfl,s1⟩
      · omega
end Go.Proofs.YtjlnpngaiphnmaaGreat
end
section
set_option linter.unusedSimpArgs false
set_option linter.unusedVariables false
set_option maxRecDepth 20000
set_option maxHeartbeats 8000000
namespace Go.Proofs.YtjlnpngaiphnmaaGreat
open Go Go.Abs Go.Proofs
variable {d N : Nat} {ts : List Term} {e : Ent}
end Go.Proofs.YtjlnpngaiphnmaaGreat
end
section
set_option linter.unusedSimpArgs false
set_option linter.unusedVariables false
set_option maxRecDepth 20000
set_option maxHeartbeats 8000000
namespace Go.Proofs.YtjlnpngaiphnmaaGreat
open Go Go.Abs Go.Proofs
structure DoM where
  who : UInt8
  strange : Bool
  auto : Bool
  ends : List Nd
  by_ : UInt8
  take : Bool
  at_ : Int
  change : UInt8
def doC (t : DoM) : List AV := [.sc (.int .u8 t.who.toNat),.sc (.bool t.strange),.sc (.bool t.auto),fY t.ends,.sc (.int .u8 t.by_.toNat),.sc (.bool t.take),.sc (.int .i64 t.at_),.sc (.int .u8 t.change.toNat)]
theorem doC_len (t : DoM) : (doC t).length = 8 := rfl
abbrev dosV (l : List DoM) : AV := .imm 0 (l.flatMap doC) l.length
def sumE : List DoM → Nat
  | [] => 0
  | t :: l => min t.ends.length 100 + sumE l
def smallM (l : List DoM) : Bool := decide (l.length ≤ 12) && decide (sumE (l.take 13) < 100)
theorem sumE_le : ∀ l : List DoM,sumE l ≤ l.length * 100
  | [] => by simp [sumE]
  | t :: l => by
    have := sumE_le l
    simp only [sumE,List.length_cons]
    omega
theorem small_pure (l : List DoM) (hl : l.length ≤ 2000000) (he : ∀ t ∈ l,t.ends.length ≤ 2000000) : APure Tryz.prog 16 [dosV l] (.sc (.bool (smallM l))) := by
  have hlc : (l.flatMap doC).length = l.length * 8 := fF doC_len l
  have h3 : ∀ i (h : i < l.length),(l.flatMap doC)[i * 8 + 3]? = some (fY (l[i]).ends) := fun i h => by
    rw [gu doC_len h (by decide)]; rfl
  have hS := sumE_le (l.take 13)
  have hLl : (l.take 13).length ≤ 13 := by rw [List.length_take]; omega
  unfold smallM
  generalize hSS : sumE (l.take 13) = S at *
  refine az (c := ⟨Tryz.prog,31,[],[],[]⟩) (rs := [ResultVar.tmp 2]) Tryz.mixed Tryz.func16 rfl rfl rfl (Nat.le_of_ble_eq_true rfl) (by kernel_rfl) fun H => ?_
  simp (disch := omega) only [↓aI,↓zP,aD,zD,aS,simprocAttr,Tryz.facts,zA]
  refine br (c := ⟨Tryz.prog,31,[],[],[]⟩) Tryz.mixed (by kernel_rfl) (fun mm σ E => E = H ∧ ∃ (i n : Nat),i + mm = (l.take 13).length ∧ n + sumE ((l.take 13).drop i) = S ∧
    σ 0 = dosV l ∧ σ 3 = .sc (.int .i64 (n : Nat)) ∧ σ 4 = .sc (.int .i64 (i : Nat))) (l.take 13).length ?_ ?_
  · refine ⟨rfl,0,0,by omega,by rw [List.drop_zero,hSS,Nat.zero_add],?_⟩
    simp (disch := omega) only [↓aI,↓zP,aD,zD,aS,simprocAttr,Tryz.facts,zA]
  · rintro mm σ E ⟨rfl,i,n,him,hf,s0,s3,s4⟩
    rw [List.length_take] at him
    by_cases hlt : i < l.length ∧ i ≤ 12
    · have h3 := h3 i hlt.1
      have hd : (l.take 13).drop i = l[i] :: (l.take 13).drop (i + 1) := by
        rw [List.drop_eq_getElem_cons (by rw [List.length_take]; omega),List.getElem_take]
      rw [hd,sumE] at hf
      have hen := he _ (List.getElem_mem hlt.1)
      generalize (l[i]).ends = ns at *
      have hmin : min ((ns.length : Nat) : Int) 100 = ((min ns.length 100 : Nat) : Int) := by omega
      have hc1 := hlt.1
      have hc2 : (i : Int) ≤ 12 := by omega
      simp (disch := omega) only [↓aI,↓zP,aD,zD,aS,simprocAttr,Tryz.facts,zA,s0,s3,s4,hlc,h3,hc1,hc2,hmin]
      exact ⟨mm - 1,by omega,i + 1,n + min ns.length 100,by rw [List.length_take]; omega,by omega,by simp; split <;> omega⟩
    · have hz : (l.take 13).drop i = [] := List.drop_eq_nil_of_le (by rw [List.length_take]; omega)
      rw [hz,sumE] at hf
      have hn : n = S := by omega
      subst hn
      by_cases hc : i < l.length
      · have hc2 : ¬ (i : Int) ≤ 12 := by omega
        have hc3 : ¬ (l.length : Int) ≤ 12 := by omega
        have hc4 : ¬ l.length ≤ 12 := by omega
        rw [decide_eq_false hc4,Bool.false_and]
        simp (disch := omega) only [↓aI,↓zP,aD,zD,aS,simprocAttr,Tryz.facts,zA,s0,s3,s4,hlc,hc,hc2,hc3]
        exact Abs.Sub.refl _
      · by_cases hc3 : (l.length : Int) ≤ 12
        · rw [decide_eq_true (show l.length ≤ 12 by omega),Bool.true_and]
          simp (disch := omega) only [↓aI,↓zP,aD,zD,aS,simprocAttr,Tryz.facts,zA,s0,s3,s4,hlc,hc,hc3]
          exact ⟨by simp; omega,Abs.Sub.refl _⟩
        · rw [decide_eq_false (show ¬ l.length ≤ 12 by omega),Bool.false_and]
          simp (disch := omega) only [↓aI,↓zP,aD,zD,aS,simprocAttr,Tryz.facts,zA,s0,s3,s4,hlc,hc,hc3]
          exact Abs.Sub.refl _
end Go.Proofs.YtjlnpngaiphnmaaGreat
end
