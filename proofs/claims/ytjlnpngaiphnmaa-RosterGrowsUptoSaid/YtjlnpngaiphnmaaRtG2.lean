/-
  Several texts in one: each says what it proves.
  Conditions: none. Lemmas only.
-/
import Derived.Test.YtjlnpngaiphnmaaRtG1
import Derived.Test.YtjlnpngaiphnmaaRosG8
import Derived.Test.YtjlnpngaiphnmaaRosG9
set_option linter.all false
section
set_option linter.unusedSimpArgs false
set_option linter.unusedVariables false
set_option maxRecDepth 20000
set_option maxHeartbeats 8000000
namespace Go.Proofs.Ytjlnpngaiphnmaa
open Go Go.Abs Go.Proofs
theorem memb_idx (id : Int) : ∀ ms : List Mem, ∃ i0, i0 ≤ ms.length ∧ (∀ j (h : j < ms.length), j < i0 → ¬ (ms[j]).id = id) ∧
    ((memb ms id = false ∧ i0 = ms.length) ∨ (memb ms id = true ∧ (∃ h : i0 < ms.length,(ms[i0]).id = id) ∧ ms.findIdx? (fun m => m.id == id) = some i0))
  | [] => ⟨0,by simp,fun j h => absurd h (by simp),.inl ⟨rfl,rfl⟩⟩
  | m :: l => by
    by_cases c : m.id = id
    · refine ⟨0,by omega,fun j _ h => absurd h (by omega),.inr ⟨?_,⟨by simp,c⟩,?_⟩⟩
      · simp [memb,findM,c]
      · simp [List.findIdx?_cons,c]
    · obtain ⟨i,h1,h2,h3⟩ := memb_idx id l
      refine ⟨i + 1,by simpa using h1,fun j hj hji => ?_,?_⟩
      · cases j with
        | zero => simpa using c
        | succ j => simpa using h2 j (by simpa using hj) (by omega)
      · have e : memb (m :: l) id = memb l id := by simp [memb,findM,c]
        rw [e]
        rcases h3 with ⟨a,b⟩ | ⟨a,⟨b1,b2⟩,b3⟩
        · exact .inl ⟨a,by simp [b]⟩
        · exact .inr ⟨a,⟨by simpa using b1,by simpa using b2⟩,by simp [List.findIdx?_cons,c,b3]⟩
theorem opn_V (ts : List Term) (k o b : List UInt8) : openV ts k 1 o b = .tup [bytesV (opnM ts k o b).1,.sc (.int .i64 (opnM ts k o b).2)] := by
  unfold openV opnM
  split
  · rfl
  · rfl
theorem boxAt_get {e : Ent} {id : Int} {i : Nat} (h : e.members.findIdx? (fun m => m.id == id) = some i) (hi : i < e.boxes.length) : boxAt e id = e.boxes[i] := by
  unfold boxAt
  rw [h]
  simp [List.getD,hi]
variable {H0 H : AH} {h m d N : Nat} {ts : List Term} {e : Ent}
theorem key_live (he : OkE e) (gt : GT N ts) (hN : N ≤ 999980) (s : SS H0 H h m d ts) (id : Int) (secret : List UInt8) (hsl : secret.length ≤ 100000000) :
    ACalls Try.prog 27 [idealV h,.agg (entC e),.sc (.int .i64 id),bytesV secret] H fun v H' => v = .tup [bytesV (keyM ts e id secret).2.1,.sc (.int .i64 (keyM ts e id secret).2.2)] ∧ SS H0 H' h m d (keyM ts e id secret).1 := by
  have hrp := right21_pure e (by have := he.ml; omega) (by have := he.el; omega) (by have := he.bl; omega)
  cases hrt : rightE e
  · have hR : keyM ts e id secret = (ts,[],13) := by unfold keyM; rw [hrt]; rfl
    rw [hR]
    rw [hrt] at hrp
    obtain ⟨n,prev,ms,ns,once,bs,sig⟩ := e
    simp only [entC] at *
    refine ao (c := ⟨Try.prog,68,[(10,[0,0,1,0,0,1,0,0,1,0,0,0,2,0,0,0,0,0]),(1000000,[5]),(1000005,[11]),(4000010,[13,14]),(4000007,[0,5,10,12,13]),(4000005,[0,2,3,5,10,11,19,20,21])],[],[]⟩) (rs := [ResultVar.tmp 8,ResultVar.tmp 9]) Try.mixed Try.func27 rfl rfl rfl (Nat.le_of_ble_eq_true rfl) (by kernel_rfl) ?_
    simp (disch := omega) only [↓aI,↓zP,aD,zD,aS,simprocAttr,Try.facts,zA]
    intro b5 hb50 hb5
    rw [aj hb5]
    try simp (disch := omega) only [↓aI,↓zP,aD,zD,aS,simprocAttr,Try.facts,zA]
    first | refine CallK.p (hrp) ?_ | refine CallP.i (hrp) ?_
    simp (disch := omega) only [↓aI,↓zP,aD,zD,aS,simprocAttr,Try.facts,zA]
    exact ⟨_,rfl,_,Abs.Sub.refl _,rfl,s⟩
  rw [hrt] at hrp
  obtain ⟨n1,n2,hpv,hpt,hbl,hol,hbml,hsl2⟩ := right_parts hrt
  have hml5 := he.ml
  obtain ⟨i0,hi0,hne,hmem⟩ := memb_idx id e.members
  have hbk := fun (E : AH) (s : SS H0 E h m d ts) => bky_tell e.n id secret e.once hsl (by omega) (by omega) gt s
  obtain ⟨gB,pB,lB,eB⟩ := bky_spec gt (n := e.n) (id := id) (s := secret) (p := e.once)
  have hco := core_pure [] e (by simp) he
  rw [List.nil_append] at hco
  have hcl := coreL_len he
  have hR : keyM ts e id secret = if memb e.members id = false then (ts,[],13)
    else if ¬ (bkyM ts e.n id secret e.once).2.2 = 0 then ((bkyM ts e.n id secret e.once).1,[],(bkyM ts e.n id secret e.once).2.2)
    else ((bkyM ts e.n id secret e.once).1,
      if ¬ (opnM (bkyM ts e.n id secret e.once).1 (bkyM ts e.n id secret e.once).2.1 (coreL e) (boxAt e id)).2 = 0 then ([],(opnM (bkyM ts e.n id secret e.once).1 (bkyM ts e.n id secret e.once).2.1 (coreL e) (boxAt e id)).2)
      else if ¬ (opnM (bkyM ts e.n id secret e.once).1 (bkyM ts e.n id secret e.once).2.1 (coreL e) (boxAt e id)).1.length = 32 then ([],5)
      else ((opnM (bkyM ts e.n id secret e.once).1 (bkyM ts e.n id secret e.once).2.1 (coreL e) (boxAt e id)).1,0)) := by
    unfold keyM
    rw [hrt,Bool.true_and]
  have hbx : memb e.members id = true → ∃ h : i0 < e.boxes.length,boxAt e id = e.boxes[i0] := fun hm => by
    rcases hmem with ⟨a,_⟩ | ⟨_,⟨b,_⟩,c⟩
    · rw [a] at hm; cases hm
    · have hi : i0 < e.boxes.length := by omega
      exact ⟨hi,boxAt_get c hi⟩
  have hmem2 : (memb e.members id = false ∧ i0 = e.members.length) ∨ (memb e.members id = true ∧ ∃ h : i0 < e.members.length,(e.members[i0]).id = id) := hmem.imp (fun h => h) (fun h => ⟨h.1,h.2.1⟩)
  have hop : (bkyM ts e.n id secret e.once).2.2 = 0 → memb e.members id = true → ∀ (E : AH) (s : SS H0 E h m d (bkyM ts e.n id secret e.once).1),ACalls Try.prog 108 [.ptr h 0,bytesV (bkyM ts e.n id secret e.once).2.1,.sc (.int .i64 (1 : Nat)),bytesV (coreL e),bytesV (boxAt e id)] E fun v H' => v = .tup [bytesV (opnM (bkyM ts e.n id secret e.once).1 (bkyM ts e.n id secret e.once).2.1 (coreL e) (boxAt e id)).1,.sc (.int .i64 (opnM (bkyM ts e.n id secret e.once).1 (bkyM ts e.n id secret e.once).2.1 (coreL e) (boxAt e id)).2)] ∧ H' = E := fun h0 hm E s => by
    rw [← opn_V]
    obtain ⟨hi,hb⟩ := hbx hm
    rw [hb]
    exact open_tell _ 1 _ _ (lB h0) (by decide) (by have := hbl _ (List.getElem_mem hi); omega) (gB.mono (by omega)) s
  have hmc : (e.members.flatMap memC).length = e.members.length * 3 := flat_len memC_len _
  have hml := fun i (h : i < e.members.length) => mem_load h
  have hbg : memb e.members id = true → (e.boxes.map bytesV)[i0]? = some (bytesV (boxAt e id)) := fun hm => by
    obtain ⟨hi,hb⟩ := hbx hm
    rw [hb]; simp [hi]
  have hbc : memb e.members id = true → i0 < e.boxes.length := fun hm => (hbx hm).1
  generalize keyM ts e id secret = R at hR ⊢
  generalize coreL e = CC at *
  generalize boxAt e id = bx at *
  clear hmem hbx hbl hcl hsl2 hrt hpt
  generalize bkyM ts e.n id secret e.once = B at *
  obtain ⟨t1,bk,be⟩ := B
  obtain ⟨n,prev,ms,ns,once,bs,sig⟩ := e
  simp only [entC] at *
  generalize opnM t1 bk CC bx = O at *
  obtain ⟨ov,oe⟩ := O
  simp only [] at *
  refine ao (c := ⟨Try.prog,68,[(10,[0,0,1,0,0,1,0,0,1,0,0,0,2,0,0,0,0,0]),(1000000,[5]),(1000005,[11]),(4000010,[13,14]),(4000007,[0,5,10,12,13]),(4000005,[0,2,3,5,10,11,19,20,21])],[],[]⟩) (rs := [ResultVar.tmp 8,ResultVar.tmp 9]) Try.mixed Try.func27 rfl rfl rfl (Nat.le_of_ble_eq_true rfl) (by kernel_rfl) ?_
  simp (disch := omega) only [↓aI,↓zP,aD,zD,aS,simprocAttr,Try.facts,zA]
  intro b5 hb50 hb5
  rw [aj hb5]
  try simp (disch := omega) only [↓aI,↓zP,aD,zD,aS,simprocAttr,Try.facts,zA]
  first | refine CallK.p (hrp) ?_ | refine CallP.i (hrp) ?_
  simp (disch := omega) only [↓aI,↓zP,aD,zD,aS,simprocAttr,Try.facts,zA]
  refine br (c := ⟨Try.prog,68,[(10,[0,0,1,0,0,1,0,0,1,0,0,0,2,0,0,0,0,0]),(1000000,[5]),(1000005,[11]),(4000010,[13,14]),(4000007,[0,5,10,12,13]),(4000005,[0,2,3,5,10,11,19,20,21])],[],[]⟩) Try.mixed (by kernel_rfl) (fun mm σ E => SS H0 E h m d ts ∧ ∃ (i : Nat),i + mm = ms.length ∧ i ≤ i0 ∧
    σ 0 = idealV h ∧ σ 2 = .sc (.int .i64 id) ∧ σ 3 = bytesV secret ∧ σ 5 = .ip [.sc (.int .i64 n),bytesV prev,memsV ms,ndsV ns,bytesV once,rowsV bs,bytesV sig] 0 ∧ σ 19 = memsV ms ∧ σ 20 = .sc (.int .i64 (ms.length : Nat)) ∧ σ 21 = .sc (.int .i64 (i : Nat))) ms.length ?_ ?_
  · refine ⟨s,0,by omega,by omega,?_⟩
    simp (disch := omega) only [↓aI,↓zP,aD,zD,aS,simprocAttr,Try.facts,zA]
  · rintro mm σ E ⟨s1,i,him,hii,s0,s2,s3,s5,s19,s20,s21⟩
    by_cases hlt : i < ms.length
    · have hl := hml i hlt
      have hc3 : i * 3 + 3 ≤ ms.length * 3 := by omega
      by_cases hii2 : i < i0
      · have hx := hne i hlt hii2
        generalize ms[i] = x at *
        obtain ⟨xi,xp,xg⟩ := x
        simp only [] at hl hx
        simp (disch := omega) only [↓aI,↓zP,aD,zD,aS,simprocAttr,Try.facts,zA,s0,s2,s3,s5,s19,s20,s21,hmc,hl,hc3,ah]
        intro k7 hk70 hk7
        try simp (disch := omega) only [↓aI,↓zP,aD,zD,aS,simprocAttr,Try.facts,zA,s0,s2,s3,s5,s19,s20,s21,hx,aj hk7]
        exact ⟨mm - 1,by omega,s1,i + 1,by omega,by omega,rfl⟩
      · obtain rfl : i = i0 := by omega
        rcases hmem2 with ⟨_,hh⟩ | ⟨hm,hlt2,hid⟩
        · omega
        rw [if_neg (by rw [hm]; decide)] at hR
        have hbg := hbg hm
        have hbc := hbc hm
        have hx := hid
        generalize ms[i] = x at *
        obtain ⟨xi,xp,xg⟩ := x
        simp only [] at hl hx
        subst hx
        by_cases hz : be = 0
        · rw [if_neg (by simp [hz])] at hR
          have hop := hop hz hm
          subst hR
          have hfin : (if ¬ oe = 0 then (([] : List UInt8),oe) else if ¬ ov.length = 32 then ([],5) else (ov,0)) = if oe = 0 then (if ov.length = 32 then (ov,0) else ([],5)) else ([],oe) := by by_cases h1 : oe = 0 <;> by_cases h2 : ov.length = 32 <;> simp [h1,h2]
          rw [hfin]
          simp (disch := omega) only [↓aI,↓zP,aD,zD,aS,simprocAttr,Try.facts,zA,s0,s2,s3,s5,s19,s20,s21,hmc,hl,hc3,ah]
          intro k7 hk70 hk7
          try simp (disch := omega) only [↓aI,↓zP,aD,zD,aS,simprocAttr,Try.facts,zA,s0,s2,s3,s5,s19,s20,s21,aj hk7]
          refine CallK.i (hbk _ s1) ?_
          rintro v F ⟨rfl,s4⟩
          try simp (disch := omega) only [↓aI,↓zP,aD,zD,aS,simprocAttr,Try.facts,zA]
          first | refine CallK.p (hco) ?_ | refine CallP.i (hco) ?_
          simp (disch := omega) only [↓aI,↓zP,aD,zD,aS,simprocAttr,Try.facts,zA]
          try simp (disch := omega) only [↓aI,↓zP,aD,zD,aS,simprocAttr,Try.facts,zA,hbg,hbc]
          refine CallK.i (hop _ s4) ?_
          rintro v F2 ⟨rfl,rfl⟩
          by_cases ho : oe = 0
          · by_cases hol : ov.length = 32
            · try simp (disch := omega) only [↓aI,↓zP,aD,zD,aS,simprocAttr,Try.facts,zA,ho,hol]
              exact ⟨_,rfl,_,Abs.Sub.refl _,by rw [bytesV,hol],s4⟩
            · have hol2 : ¬ (ov.length : Int) = 32 := by omega
              try simp (disch := omega) only [↓aI,↓zP,aD,zD,aS,simprocAttr,Try.facts,zA,ho,hol,hol2]
              exact ⟨_,rfl,_,Abs.Sub.refl _,rfl,s4⟩
          · try simp (disch := omega) only [↓aI,↓zP,aD,zD,aS,simprocAttr,Try.facts,zA,ho]
            exact ⟨_,rfl,_,Abs.Sub.refl _,rfl,s4⟩
        · rw [if_pos hz] at hR
          subst hR
          simp (disch := omega) only [↓aI,↓zP,aD,zD,aS,simprocAttr,Try.facts,zA,s0,s2,s3,s5,s19,s20,s21,hmc,hl,hc3,ah]
          intro k7 hk70 hk7
          try simp (disch := omega) only [↓aI,↓zP,aD,zD,aS,simprocAttr,Try.facts,zA,s0,s2,s3,s5,s19,s20,s21,aj hk7]
          refine CallK.i (hbk _ s1) ?_
          rintro v F ⟨rfl,s4⟩
          try simp (disch := omega) only [↓aI,↓zP,aD,zD,aS,simprocAttr,Try.facts,zA,hz]
          exact ⟨_,rfl,_,Abs.Sub.refl _,rfl,s4⟩
    · obtain rfl : i = ms.length := by omega
      rcases hmem2 with ⟨hm,_⟩ | ⟨_,hlt2,_⟩
      · rw [if_pos hm] at hR
        subst hR
        simp (disch := omega) only [↓aI,↓zP,aD,zD,aS,simprocAttr,Try.facts,zA,s0,s2,s3,s5,s19,s20,s21,hmc]
        exact ⟨_,rfl,_,Abs.Sub.refl _,rfl,s1⟩
      · omega
end Go.Proofs.Ytjlnpngaiphnmaa
end
section
set_option linter.unusedSimpArgs false
set_option linter.unusedVariables false
set_option maxRecDepth 20000
set_option maxHeartbeats 8000000
namespace Go.Proofs.Ytjlnpngaiphnmaa
open Go Go.Abs Go.Proofs
variable {d N : Nat} {ts : List Term} {e : Ent}
theorem rkey_pure (he : OkE e) (gt : GT N ts) (hN : N ≤ 999980) (id : Int) (secret : List UInt8) :
    APure Try.prog 28 [vaultV ts d,.agg (entC e),.sc (.int .i64 id),bytesV secret] (.tup [vaultV (keyM ts e id secret).1 d,bytesV (keyM ts e id secret).2.1,.sc (.int .i64 (keyM ts e id secret).2.2)]) := by
  have hrp := rright21_pure e (by have := he.ml; omega) (by have := he.el; omega) (by have := he.bl; omega)
  have his := is_pure (.sc (.int .i64 e.n)) (bytesV e.prev) e.members (ndsV e.ends) (bytesV e.once) (rowsV e.boxes) (bytesV e.sig) id (by have := he.ml; omega)
  have hml5 := he.ml
  have hbl5 := he.bl
  obtain ⟨i0,hi0,hne,hmem⟩ := memb_idx id e.members
  have hbk := rbky_pure e.n id secret e.once (by omega) gt d
  obtain ⟨gB,pB,lB,eB⟩ := bky_spec gt (n := e.n) (id := id) (s := secret) (p := e.once)
  have hco := rcore_pure [] e (by simp) he
  rw [List.nil_append] at hco
  have hR : keyM ts e id secret = if (rightE e && memb e.members id) = false then (ts,[],13)
    else if ¬ (bkyM ts e.n id secret e.once).2.2 = 0 then ((bkyM ts e.n id secret e.once).1,[],(bkyM ts e.n id secret e.once).2.2)
    else ((bkyM ts e.n id secret e.once).1,
      if ¬ (opnM (bkyM ts e.n id secret e.once).1 (bkyM ts e.n id secret e.once).2.1 (coreL e) (boxAt e id)).2 = 0 then ([],(opnM (bkyM ts e.n id secret e.once).1 (bkyM ts e.n id secret e.once).2.1 (coreL e) (boxAt e id)).2)
      else if ¬ (opnM (bkyM ts e.n id secret e.once).1 (bkyM ts e.n id secret e.once).2.1 (coreL e) (boxAt e id)).1.length = 32 then ([],5)
      else ((opnM (bkyM ts e.n id secret e.once).1 (bkyM ts e.n id secret e.once).2.1 (coreL e) (boxAt e id)).1,0)) := by
    unfold keyM
    rfl
  have hbx : rightE e = true → memb e.members id = true → ∃ h : i0 < e.boxes.length,boxAt e id = e.boxes[i0] := fun hrt hm => by
    have hbml := (right_parts hrt).2.2.2.2.2.2.1
    rcases hmem with ⟨a,_⟩ | ⟨_,⟨b,_⟩,c⟩
    · rw [a] at hm; cases hm
    · have hi : i0 < e.boxes.length := by omega
      exact ⟨hi,boxAt_get c hi⟩
  have hmem2 : (memb e.members id = false ∧ i0 = e.members.length) ∨ (memb e.members id = true ∧ ∃ h : i0 < e.members.length,(e.members[i0]).id = id) := hmem.imp (fun h => h) (fun h => ⟨h.1,h.2.1⟩)
  have hop : (bkyM ts e.n id secret e.once).2.2 = 0 → APure Try.prog 52 [vaultV (bkyM ts e.n id secret e.once).1 d,bytesV (bkyM ts e.n id secret e.once).2.1,.sc (.int .i64 (1 : Nat)),bytesV (coreL e),bytesV (boxAt e id)] (.tup [bytesV (opnM (bkyM ts e.n id secret e.once).1 (bkyM ts e.n id secret e.once).2.1 (coreL e) (boxAt e id)).1,.sc (.int .i64 (opnM (bkyM ts e.n id secret e.once).1 (bkyM ts e.n id secret e.once).2.1 (coreL e) (boxAt e id)).2)]) := fun h0 => by
    rw [← opn_V]
    exact vopen_pure _ d _ 1 _ _ (lB h0) (by decide) gB.wf (by have := gB.len; omega)
  have hmc : (e.members.flatMap memC).length = e.members.length * 3 := flat_len memC_len _
  have hm0 : ∀ i (h : i < e.members.length),(e.members.flatMap memC)[i * 3]? = some (.sc (.int .i64 (e.members[i]).id)) := fun i h => by
    have := flat_get memC_len h (j := 0) (by omega)
    rw [Nat.add_zero] at this
    rw [this]; rfl
  have hbg : rightE e = true → memb e.members id = true → (e.boxes.map bytesV)[i0]? = some (bytesV (boxAt e id)) := fun hrt hm => by
    obtain ⟨hi,hb⟩ := hbx hrt hm
    rw [hb]; simp [hi]
  have hbc : rightE e = true → memb e.members id = true → i0 < e.boxes.length := fun hrt hm => (hbx hrt hm).1
  have hmm : memb e.members id = (findM e.members id).2 := rfl
  generalize keyM ts e id secret = R at hR ⊢
  generalize coreL e = CC at *
  generalize boxAt e id = bx at *
  clear hmem hbx
  generalize rightE e = rt at *
  generalize bkyM ts e.n id secret e.once = B at *
  obtain ⟨t1,bk,be⟩ := B
  obtain ⟨n,prev,ms,ns,once,bs,sig⟩ := e
  simp only [entC] at *
  generalize opnM t1 bk CC bx = O at *
  obtain ⟨ov,oe⟩ := O
  generalize findM ms id = fm at *
  obtain ⟨⟨fi,fp,fg⟩,ff⟩ := fm
  generalize memb ms id = mb at *
  subst hmm
  simp only [memC] at *
  refine az (c := ⟨Try.prog,90,[(11,[1,0,1,0,0,1,0,0,1,0,0,0,0,0,0]),(1000000,[5]),(1000001,[11]),(4000016,[8,9,10]),(4000015,[8,9,10]),(4000012,[4,8,16,17,82]),(4000011,[4,8,16,17]),(4000010,[2,4,5,8,13,15,62]),(4000008,[2,4,5,8,13,15,52]),(4000006,[8,9,10]),(4000004,[2,4,5,8,13,14]),(4000002,[2,3,4,5,8,30]),(4000001,[2,3,4,5,8,12]),(4000000,[2,3,4,5,8])],[],[]⟩) (rs := [ResultVar.cell 8 29,ResultVar.tmp 9,ResultVar.tmp 10]) Try.mixed Try.func28 rfl rfl rfl (Nat.le_of_ble_eq_true rfl) (by kernel_rfl) fun H => ?_
  simp (disch := omega) only [↓aI,↓zP,aD,zD,aS,simprocAttr,Try.facts,zA]
  intro b4 hb40 hb4 b5 hb50 hb5 b8 hb80 hb8
  have n45 := bK hb5
  have n58 := bK hb8
  have n48 := bK (am hb8)
  have n54 : ¬ b5 = b4 := fun e => n45 e.symm
  have n85 : ¬ b8 = b5 := fun e => n58 e.symm
  have n84 : ¬ b8 = b4 := fun e => n48 e.symm
  have f5 := am hb5
  have f8 := am (am hb8)
  clear hb5 hb8
  simp (disch := omega) only [↓aI,↓zP,aD,zD,aS,simprocAttr,Try.facts,zA,aP,n45,n54,n48,n84,n58,n85,kill_ss,kill_sc,kill_nn f5]
  first | refine CallK.p (his) ?_ | refine CallP.i (his) ?_
  simp (disch := omega) only [↓aI,↓zP,aD,zD,aS,simprocAttr,Try.facts,zA,aP,n45,n54,n48,n84,n58,n85,kill_ss,kill_sc,kill_nn f5]
  intro k7 hk70 hk7
  rw [kill_nn hk7]
  first | refine CallK.p (hrp) ?_ | refine CallP.i (hrp) ?_
  simp (disch := omega) only [↓aI,↓zP,aD,zD,aS,simprocAttr,Try.facts,zA,aP,n48,n84]
  have hsub : ∀ x y,Abs.Sub H ((H.set b4 x).set b8 y) := fun x y => ((Abs.Sub.refl H).set_free hb4).set_free f8
  by_cases hrm : (rt && mb) = false
  · rw [if_pos hrm] at hR
    subst hR
    cases rt
    all_goals cases mb
    all_goals try (exact absurd hrm (by decide))
    all_goals
      try simp (disch := omega) only [↓aI,↓zP,aD,zD,aS,simprocAttr,Try.facts,zA,aP,n48,n84,ah,set_flip n48,set_twice]
      exact ⟨rfl,hsub _ _⟩
  obtain ⟨rfl,rfl⟩ : rt = true ∧ mb = true := by simpa using hrm
  rw [if_neg hrm] at hR
  rcases hmem2 with ⟨hh,_⟩ | ⟨_,hlt2,hid⟩
  · cases hh
  have hbg := hbg rfl rfl
  have hbc := hbc rfl rfl
  try simp (disch := omega) only [↓aI,↓zP,aD,zD,aS,simprocAttr,Try.facts,zA,aP,n48,n84,ah]
  first | refine CallK.p (hbk) ?_ | refine CallP.i (hbk) ?_
  simp (disch := omega) only [↓aI,↓zP,aD,zD,aS,simprocAttr,Try.facts,zA,aP,n48,n84,ah,set_flip n48,set_twice]
  by_cases hz : be = 0
  · rw [if_neg (by simp [hz])] at hR
    have hop := hop hz
    have hfin : (if ¬ oe = 0 then (([] : List UInt8),oe) else if ¬ ov.length = 32 then ([],5) else (ov,0)) = if oe = 0 then (if ov.length = 32 then (ov,0) else ([],5)) else ([],oe) := by by_cases h1 : oe = 0 <;> by_cases h2 : ov.length = 32 <;> simp [h1,h2]
    rw [hfin] at hR
    try simp (disch := omega) only [↓aI,↓zP,aD,zD,aS,simprocAttr,Try.facts,zA,aP,n48,n84,hz,ah,set_flip n48,set_twice]
    refine br (c := ⟨Try.prog,90,[(11,[1,0,1,0,0,1,0,0,1,0,0,0,0,0,0]),(1000000,[5]),(1000001,[11]),(4000016,[8,9,10]),(4000015,[8,9,10]),(4000012,[4,8,16,17,82]),(4000011,[4,8,16,17]),(4000010,[2,4,5,8,13,15,62]),(4000008,[2,4,5,8,13,15,52]),(4000006,[8,9,10]),(4000004,[2,4,5,8,13,14]),(4000002,[2,3,4,5,8,30]),(4000001,[2,3,4,5,8,12]),(4000000,[2,3,4,5,8])],[],[]⟩) Try.mixed (by kernel_rfl) (fun mm σ E => E = (H.set b4 (vObj t1 d)).set b8 v0Obj ∧ ∃ (i : Nat),i + mm = ms.length ∧ i ≤ i0 ∧
      σ 2 = .sc (.int .i64 id) ∧ σ 4 = .ptr b4 0 ∧ σ 5 = .ip [.sc (.int .i64 n),bytesV prev,memsV ms,ndsV ns,bytesV once,rowsV bs,bytesV sig] 0 ∧ σ 8 = .ptr b8 0 ∧ σ 13 = bytesV bk ∧ σ 15 = .sc (.int .i64 (i : Nat))) ms.length ?_ ?_
    · refine ⟨rfl,0,by omega,by omega,?_⟩
      simp (disch := omega) only [↓aI,↓zP,aD,zD,aS,simprocAttr,Try.facts,zA]
    · rintro mm σ E ⟨rfl,i,him,hii,s2,s4,s5,s8,s13,s15⟩
      have hlt : i < ms.length := by omega
      have hm := hm0 i hlt
      by_cases hii2 : i < i0
      · have hx := hne i hlt hii2
        generalize ms[i] = x at *
        obtain ⟨xi,xp,xg⟩ := x
        simp only [] at hm hx
        simp (disch := omega) only [↓aI,↓zP,aD,zD,aS,simprocAttr,Try.facts,zA,s2,s4,s5,s8,s13,s15,hmc,hm,hx,ah]
        exact ⟨mm - 1,by omega,i + 1,by omega,by omega,rfl⟩
      · obtain rfl : i = i0 := by omega
        have hx := hid
        generalize ms[i] = x at *
        obtain ⟨xi,xp,xg⟩ := x
        simp only [] at hm hx
        subst hx
        simp (disch := omega) only [↓aI,↓zP,aD,zD,aS,simprocAttr,Try.facts,zA,s2,s4,s5,s8,s13,s15,hmc,hm,aP,n48,n84,ah]
        first | refine CallK.p (hco) ?_ | refine CallP.i (hco) ?_
        simp (disch := omega) only [↓aI,↓zP,aD,zD,aS,simprocAttr,Try.facts,zA,s2,s4,s5,s8,s13,s15,hbg,hbc]
        first | refine CallK.p (hop) ?_ | refine CallP.i (hop) ?_
        simp (disch := omega) only [↓aI,↓zP,aD,zD,aS,simprocAttr,Try.facts,zA,s2,s4,s5,s8,s13,s15,aP,n48,n84]
        subst hR
        by_cases ho : oe = 0
        · by_cases hol : ov.length = 32
          · try simp (disch := omega) only [↓aI,↓zP,aD,zD,aS,simprocAttr,Try.facts,zA,ho,hol,s2,s4,s5,s8,s13,s15,aP,n48,n84,ah,set_flip n48,set_twice]
            exact ⟨by rw [bytesV,hol],hsub _ _⟩
          · have hol2 : ¬ (ov.length : Int) = 32 := by omega
            try simp (disch := omega) only [↓aI,↓zP,aD,zD,aS,simprocAttr,Try.facts,zA,ho,hol,hol2,s2,s4,s5,s8,s13,s15,aP,n48,n84,ah,set_flip n48,set_twice]
            exact ⟨rfl,hsub _ _⟩
        · try simp (disch := omega) only [↓aI,↓zP,aD,zD,aS,simprocAttr,Try.facts,zA,ho,s2,s4,s5,s8,s13,s15,aP,n48,n84,ah,set_flip n48,set_twice]
          exact ⟨rfl,hsub _ _⟩
  · rw [if_pos hz] at hR
    subst hR
    try simp (disch := omega) only [↓aI,↓zP,aD,zD,aS,simprocAttr,Try.facts,zA,aP,n48,n84,hz,ah,set_flip n48,set_twice]
    exact ⟨rfl,hsub _ _⟩
end Go.Proofs.Ytjlnpngaiphnmaa
end
section
set_option linter.unusedSimpArgs false
set_option linter.unusedVariables false
set_option maxRecDepth 20000
set_option maxHeartbeats 8000000
namespace Go.Proofs.Ytjlnpngaiphnmaa
open Go Go.Abs Go.Proofs
structure DoM where
  who : UInt8
  strange : Bool
  auto : Bool
  ends : List Nd
  by_ : UInt8
  take : Bool
  at_ : Int
  change : UInt8
def doC (t : DoM) : List AV := [.sc (.int .u8 t.who.toNat),.sc (.bool t.strange),.sc (.bool t.auto),ndsV t.ends,.sc (.int .u8 t.by_.toNat),.sc (.bool t.take),.sc (.int .i64 t.at_),.sc (.int .u8 t.change.toNat)]
theorem doC_len (t : DoM) : (doC t).length = 8 := rfl
abbrev dosV (l : List DoM) : AV := .imm 0 (l.flatMap doC) l.length
def sumE : List DoM → Nat
  | [] => 0
  | t :: l => min t.ends.length 100 + sumE l
def smallM (l : List DoM) : Bool := decide (l.length ≤ 12) && decide (sumE (l.take 13) < 100)
theorem sumE_le : ∀ l : List DoM,sumE l ≤ l.length * 100
  | [] => by simp [sumE]
  | t :: l => by
    have := sumE_le l
    simp only [sumE,List.length_cons]
    omega
theorem small_pure (l : List DoM) (hl : l.length ≤ 2000000) (he : ∀ t ∈ l,t.ends.length ≤ 2000000) : APure Try.prog 7 [dosV l] (.sc (.bool (smallM l))) := by
  have hlc : (l.flatMap doC).length = l.length * 8 := flat_len doC_len l
  have h3 : ∀ i (h : i < l.length),(l.flatMap doC)[i * 8 + 3]? = some (ndsV (l[i]).ends) := fun i h => by
    rw [flat_get doC_len h (by decide)]; rfl
  have hS := sumE_le (l.take 13)
  have hLl : (l.take 13).length ≤ 13 := by rw [List.length_take]; omega
  unfold smallM
  generalize hSS : sumE (l.take 13) = S at *
  refine az (c := ⟨Try.prog,31,[],[],[]⟩) (rs := [ResultVar.tmp 2]) Try.mixed Try.func7 rfl rfl rfl (Nat.le_of_ble_eq_true rfl) (by kernel_rfl) fun H => ?_
  simp (disch := omega) only [↓aI,↓zP,aD,zD,aS,simprocAttr,Try.facts,zA]
  refine br (c := ⟨Try.prog,31,[],[],[]⟩) Try.mixed (by kernel_rfl) (fun mm σ E => E = H ∧ ∃ (i n : Nat),i + mm = (l.take 13).length ∧ n + sumE ((l.take 13).drop i) = S ∧
    σ 0 = dosV l ∧ σ 3 = .sc (.int .i64 (n : Nat)) ∧ σ 4 = .sc (.int .i64 (i : Nat))) (l.take 13).length ?_ ?_
  · refine ⟨rfl,0,0,by omega,by rw [List.drop_zero,hSS,Nat.zero_add],?_⟩
    simp (disch := omega) only [↓aI,↓zP,aD,zD,aS,simprocAttr,Try.facts,zA]
  · rintro mm σ E ⟨rfl,i,n,him,hf,s0,s3,s4⟩
    rw [List.length_take] at him
    by_cases hlt : i < l.length ∧ i ≤ 12
    · have h3 := h3 i hlt.1
      have hd : (l.take 13).drop i = l[i] :: (l.take 13).drop (i + 1) := by
        rw [List.drop_eq_getElem_cons (by rw [List.length_take]; omega),List.getElem_take]
      rw [hd,sumE] at hf
      have hen := he _ (List.getElem_mem hlt.1)
      generalize (l[i]).ends = ns at *
      have hmin : min ((ns.length : Nat) : Int) 100 = ((min ns.length 100 : Nat) : Int) := by omega
      have hc1 := hlt.1
      have hc2 : (i : Int) ≤ 12 := by omega
      simp (disch := omega) only [↓aI,↓zP,aD,zD,aS,simprocAttr,Try.facts,zA,s0,s3,s4,hlc,h3,hc1,hc2,hmin]
      exact ⟨mm - 1,by omega,i + 1,n + min ns.length 100,by rw [List.length_take]; omega,by omega,by simp; split <;> omega⟩
    · have hz : (l.take 13).drop i = [] := List.drop_eq_nil_of_le (by rw [List.length_take]; omega)
      rw [hz,sumE] at hf
      have hn : n = S := by omega
      subst hn
      by_cases hc : i < l.length
      · have hc2 : ¬ (i : Int) ≤ 12 := by omega
        have hc3 : ¬ (l.length : Int) ≤ 12 := by omega
        have hc4 : ¬ l.length ≤ 12 := by omega
        rw [decide_eq_false hc4,Bool.false_and]
        simp (disch := omega) only [↓aI,↓zP,aD,zD,aS,simprocAttr,Try.facts,zA,s0,s3,s4,hlc,hc,hc2,hc3]
        exact Abs.Sub.refl _
      · by_cases hc3 : (l.length : Int) ≤ 12
        · rw [decide_eq_true (show l.length ≤ 12 by omega),Bool.true_and]
          simp (disch := omega) only [↓aI,↓zP,aD,zD,aS,simprocAttr,Try.facts,zA,s0,s3,s4,hlc,hc,hc3]
          exact ⟨by simp; omega,Abs.Sub.refl _⟩
        · rw [decide_eq_false (show ¬ l.length ≤ 12 by omega),Bool.false_and]
          simp (disch := omega) only [↓aI,↓zP,aD,zD,aS,simprocAttr,Try.facts,zA,s0,s3,s4,hlc,hc,hc3]
          exact Abs.Sub.refl _
end Go.Proofs.Ytjlnpngaiphnmaa
end
