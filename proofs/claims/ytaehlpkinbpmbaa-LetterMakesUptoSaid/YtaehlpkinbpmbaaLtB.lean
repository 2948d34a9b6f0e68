/-
  Letters that are opened: the walk.
  Conditions: none. Lemmas only.
-/
import Derived.Test.YtaehlpkinbpmbaaLetG7
set_option linter.all false
set_option linter.unusedSimpArgs false
set_option linter.unusedVariables false
set_option maxRecDepth 20000
set_option maxHeartbeats 8000000
namespace Go.Proofs.Ytaehlpkinbpmbaa
open Go Go.Abs Go.Proofs
abbrev keyN (ts : List Term) (epoch : List UInt8) (l : Ltr) : List UInt8 := nameT (keyTm epoch l) (numT ts (keyTm epoch l)).2
def openP (ts : List Term) (key : List UInt8) (l : Ltr) : List UInt8 × Int :=
  if opT ts key l.number.toNat (headL l) l.box = true then (partT (findT ts l.box 98).1 3,0) else ([],9)
def openL (ts : List Term) (epoch : List UInt8) (l : Ltr) : List Term × List UInt8 × Int :=
  if rightL l = false ∨ epoch.length ≠ 32 then (ts,[],1)
  else ((numT ts (keyTm epoch l)).1,
    if (openP (numT ts (keyTm epoch l)).1 (keyN ts epoch l) l).2 ≠ 0 then ([],(openP (numT ts (keyTm epoch l)).1 (keyN ts epoch l) l).2)
    else unpadL (openP (numT ts (keyTm epoch l)).1 (keyN ts epoch l) l).1)
theorem openP_V (ts : List Term) (key : List UInt8) (l : Ltr) : openV ts key l.number.toNat (headL l) l.box = .tup [bytesV (openP ts key l).1,.sc (.int .i64 (openP ts key l).2)] := by
  unfold openV openP
  split <;> rfl
theorem openP_len {ts : List Term} {key : List UInt8} {l : Ltr} {N : Nat} (g : GT N ts) : (openP ts key l).1.length ≤ l.box.length := by
  unfold openP
  split
  · rename_i h
    unfold opT at h
    rw [Bool.and_eq_true,Bool.and_eq_true,Bool.and_eq_true] at h
    obtain ⟨n,k⟩ := Nm.of_find h.1.1.1
    have hw := (g.wf _ n.mem).1.1 k
    have hl := n.len
    unfold sizeT at hl
    rw [k,if_neg (by decide),if_pos rfl] at hl
    unfold partT
    simp only []
    omega
  · simp
theorem unpadL_err (b : List UInt8) : (unpadL b).2 = 0 ∨ unpadL b = ([],11) := by
  unfold unpadL
  split
  · split
    · exact .inl rfl
    · exact .inr rfl
  · exact .inr rfl
theorem open1_live {H0 H : AH} {h m d N : Nat} {ts : List Term} (epoch : List UInt8) (l : Ltr) (t e : Nat) (z : AV) (ez : Int) (s : SS H0 H h m d ts) (g : GT N ts) (hN : N ≤ 999990) (he : epoch.length = 32) (hr : rightL l = true)
    (vt : H0 t = some (.cells [z] 22 1)) (ve : H0 e = some (.cells [.sc (.int .i64 ez)] 30 1)) (hte : ¬ t = e) :
    ACalls Try.prog 64 [.ip [idealV h] 0,.ip [bytesV epoch] 0,.ip (ltrC l) 0,.ptr t 0,.ptr e 0] H fun v H' => SS ((H0.set t (.cells [bytesV (openP (numT ts (keyTm epoch l)).1 (keyN ts epoch l) l).1] 22 1)).set e (.cells [.sc (.int .i64 (openP (numT ts (keyTm epoch l)).1 (keyN ts epoch l) l).2)] 30 1)) H' h m d (numT ts (keyTm epoch l)).1 := by
  obtain ⟨hnm,lb,lsg⟩ := right_facts hr
  have nf := named_facts hnm
  have hhd := headL_len l
  have hk := fun (s : SS H0 H h m d ts) => key_tell epoch l he (g.mono (by omega)) s
  have wk : wfT (keyTm epoch l) := wf2 (k := 107) (by decide) (by omega) (by have := keyI_len l; omega)
  have g1 := g.num wk (fun e => absurd (show (107 : UInt8) = 112 from e) (by decide))
  have lK : (keyN ts epoch l).length = 32 := by unfold keyN; rw [nameT_length]; rfl
  have hh := head_pure [] l (by simp) (by omega)
  have ho := fun G F (s : SS G F h m d (numT ts (keyTm epoch l)).1) => open_tell (keyN ts epoch l) l.number.toNat (headL l) l.box lK (by omega) (by omega) (g1.mono (by omega)) s
  have hP := openP_V (numT ts (keyTm epoch l)).1 (keyN ts epoch l) l
  unfold TellR at hk
  rw [List.nil_append] at hh
  rw [hP] at ho
  rw [show nameT (keyTm epoch l) (numT ts (keyTm epoch l)).2 = keyN ts epoch l from rfl] at hk
  generalize openP (numT ts (keyTm epoch l)).1 (keyN ts epoch l) l = P at *
  generalize keyN ts epoch l = K at *
  generalize (numT ts (keyTm epoch l)).1 = ts1 at *
  generalize headL l = HL at *
  obtain ⟨kd,au,ep,nu,pv,bx,sg⟩ := l
  simp only at nf
  obtain ⟨w,rfl⟩ : ∃ w : Nat,nu = w := ⟨nu.toNat,by omega⟩
  simp only [ltrC,Int.toNat_natCast] at *
  refine ao (c := ⟨Try.prog,23,[(2000000,[0,1,2,3,5,6,7,9,10,11,12,13,4,8,14,15,16,17,18,19]),(0,[0,1,1,1,0,0,0,0,0,0,0,0,2,0,2,0,0,0,2,2])],[],[]⟩) (rs := []) Try.mixed Try.func64 rfl rfl rfl (Nat.le_of_ble_eq_true rfl) (by kernel_rfl) ?_
  simp (disch := omega) only [↓aI,↓zP,aD,zD,aS,simprocAttr,Try.facts,zA]
  refine CallK.i (hk s) ?_
  rintro v E ⟨rfl,q1⟩
  try simp (disch := omega) only [↓aI,↓zP,aD,zD,aS,simprocAttr,Try.facts,zA]
  first | refine CallK.p (hh) ?_ | refine CallP.i (hh) ?_
  simp (disch := omega) only [↓aI,↓zP,aD,zD,aS,simprocAttr,Try.facts,zA]
  refine CallK.i (ho _ _ q1) ?_
  rintro v E2 ⟨rfl,rfl⟩
  have vt1 := q1.sub _ _ vt
  have ve1 := q1.sub _ _ ve
  have net : ¬ e = t := fun h => hte h.symm
  simp (disch := omega) only [↓aI,↓zP,aD,zD,aS,simprocAttr,Try.facts,zA,vt1,ve1,ah,aP,hte,net]
  exact ⟨_,rfl,_,Abs.Sub.refl _,(q1.put vt).put (by rw [aP net]; exact ve)⟩
theorem open2_live {H : AH} (p : List UInt8) (hp : p.length ≤ 3000000) (t e : Nat) (ez : Int) (vt : H t = some (.cells [bytesV p] 22 1)) (ve : H e = some (.cells [.sc (.int .i64 ez)] 30 1)) (hte : ¬ t = e) :
    ACalls Try.prog 65 [.ptr t 0,.ptr e 0] H fun v H' => H' = (H.set t (.cells [bytesV (unpadL p).1] 22 1)).set e (.cells [.sc (.int .i64 (unpadL p).2)] 30 1) := by
  have hu := unpad_pure p hp
  generalize unpadL p = U at *
  have net : ¬ e = t := fun h => hte h.symm
  refine ao (c := ⟨Try.prog,7,[],[],[]⟩) (rs := []) Try.mixed Try.func65 rfl rfl rfl (Nat.le_of_ble_eq_true rfl) (by kernel_rfl) ?_
  simp (disch := omega) only [↓aI,↓zP,aD,zD,aS,simprocAttr,Try.facts,zA,vt,ve]
  first | refine CallK.p (hu) ?_ | refine CallP.i (hu) ?_
  simp (disch := omega) only [↓aI,↓zP,aD,zD,aS,simprocAttr,Try.facts,zA,vt,ve,ah,aP,hte,net]
  exact ⟨_,rfl,_,Abs.Sub.refl _,rfl⟩
theorem set_four {H : AH} {a b : Nat} {x y x' y' : AObj} (h : ¬ a = b) : (((H.set a x).set b y).set a x').set b y' = (H.set a x').set b y' := by
  funext z
  simp only [AH.set]
  by_cases e1 : z = b
  · simp [e1]
  · by_cases e2 : z = a <;> simp [e1,e2]
theorem open_live2 {H0 H : AH} {h m d N : Nat} {ts : List Term} (epoch : List UInt8) (l : Ltr) (hl : okL l) (s : SS H0 H h m d ts) (g : GT N ts) (hN : N ≤ 999990) :
    ACalls Try.prog 29 [idealV h,bytesV epoch,.agg (ltrC l)] H fun v H' => v = .tup [bytesV (openL ts epoch l).2.1,.sc (.int .i64 (openL ts epoch l).2.2)] ∧ SS H0 H' h m d (openL ts epoch l).1 := by
  have hrt := ee l (by have := hl.2.1; omega)
  by_cases hbad : rightL l = false ∨ epoch.length ≠ 32
  · have hR : openL ts epoch l = (ts,[],1) := if_pos hbad
    rw [hR]
    generalize rightL l = rl at *
    obtain ⟨kd,au,ep,nu,pv,bx,sg⟩ := l
    simp only [ltrC] at *
    cases rl
    · refine ao (c := ⟨Try.prog,35,[(13,[1,1,0,0]),(1000000,[5,4,3]),(1000005,[10])],[],[]⟩) (rs := [ResultVar.tmp 6,ResultVar.tmp 7]) Try.mixed Try.func29 rfl rfl rfl (Nat.le_of_ble_eq_true rfl) (by kernel_rfl) ?_
      simp (disch := omega) only [↓aI,↓zP,aD,zD,aS,simprocAttr,Try.facts,zA]
      intro b3 hb30 hb3 b4 hb40 hb4 b5 hb50 hb5
      simp (disch := omega) only [↓aI,↓zP,aD,zD,aS,simprocAttr,Try.facts,zA,aj hb5,aj hb4,aj hb3]
      refine scope_t Try.mixed 0 (by kernel_rfl) (rest := _) rfl (by kernel_rfl) (fun mm σ H' => False) ?_ (fun _ _ _ h => h.elim)
      simp (disch := omega) only [↓aI,↓zP,aD,zD,aS,simprocAttr,Try.facts,zA]
      first | refine CallK.p (hrt) ?_ | refine CallP.i (hrt) ?_
      simp (disch := omega) only [↓aI,↓zP,aD,zD,aS,simprocAttr,Try.facts,zA]
      exact ⟨_,rfl,_,Abs.Sub.refl _,rfl,s⟩
    · have c2 : ¬ epoch.length = 32 := by
        rcases hbad with h | h
        · cases h
        · exact h
      refine ao (c := ⟨Try.prog,35,[(13,[1,1,0,0]),(1000000,[5,4,3]),(1000005,[10])],[],[]⟩) (rs := [ResultVar.tmp 6,ResultVar.tmp 7]) Try.mixed Try.func29 rfl rfl rfl (Nat.le_of_ble_eq_true rfl) (by kernel_rfl) ?_
      simp (disch := omega) only [↓aI,↓zP,aD,zD,aS,simprocAttr,Try.facts,zA]
      intro b3 hb30 hb3 b4 hb40 hb4 b5 hb50 hb5
      simp (disch := omega) only [↓aI,↓zP,aD,zD,aS,simprocAttr,Try.facts,zA,aj hb5,aj hb4,aj hb3]
      refine scope_t Try.mixed 0 (by kernel_rfl) (rest := _) rfl (by kernel_rfl) (fun mm σ H' => False) ?_ (fun _ _ _ h => h.elim)
      simp (disch := omega) only [↓aI,↓zP,aD,zD,aS,simprocAttr,Try.facts,zA]
      first | refine CallK.p (hrt) ?_ | refine CallP.i (hrt) ?_
      simp (disch := omega) only [↓aI,↓zP,aD,zD,aS,simprocAttr,Try.facts,zA]
      exact ⟨_,rfl,_,Abs.Sub.refl _,rfl,s⟩
  · have hr : rightL l = true := by
      rcases h : rightL l with _ | _
      · exact absurd (.inl h) hbad
      · rfl
    have he : epoch.length = 32 := by
      by_cases h : epoch.length = 32
      · exact h
      · exact absurd (.inr h) hbad
    have hR : openL ts epoch l = ((numT ts (keyTm epoch l)).1,
      if (openP (numT ts (keyTm epoch l)).1 (keyN ts epoch l) l).2 ≠ 0 then ([],(openP (numT ts (keyTm epoch l)).1 (keyN ts epoch l) l).2)
      else unpadL (openP (numT ts (keyTm epoch l)).1 (keyN ts epoch l) l).1) := if_neg hbad
    have h1 := fun (G E : AH) (t e : Nat) (z : AV) (ez : Int) (s : SS G E h m d ts) vt ve hte => open1_live (H0 := G) (H := E) epoch l t e z ez s g hN he hr vt ve hte
    have wk : wfT (keyTm epoch l) := wf2 (k := 107) (by decide) (by omega) (by have := keyI_len l; omega)
    have g1 := g.num wk (fun e => absurd (show (107 : UInt8) = 112 from e) (by decide))
    have hpl := openP_len (key := keyN ts epoch l) (l := l) g1
    have hlb := hl.2.1
    rw [hR]
    rw [hr] at hrt
    generalize openP (numT ts (keyTm epoch l)).1 (keyN ts epoch l) l = P at *
    generalize (numT ts (keyTm epoch l)).1 = ts1 at *
    obtain ⟨p,pe⟩ := P
    obtain ⟨kd,au,ep,nu,pv,bx,sg⟩ := l
    simp only [ltrC] at *
    refine ao (c := ⟨Try.prog,35,[(13,[1,1,0,0]),(1000000,[5,4,3]),(1000005,[10])],[],[]⟩) (rs := [ResultVar.tmp 6,ResultVar.tmp 7]) Try.mixed Try.func29 rfl rfl rfl (Nat.le_of_ble_eq_true rfl) (by kernel_rfl) ?_
    simp (disch := omega) only [↓aI,↓zP,aD,zD,aS,simprocAttr,Try.facts,zA]
    intro b3 hb30 hb3 b4 hb40 hb4 b5 hb50 hb5
    simp (disch := omega) only [↓aI,↓zP,aD,zD,aS,simprocAttr,Try.facts,zA,aj hb5,aj hb4,aj hb3]
    refine scope_t Try.mixed 0 (by kernel_rfl) (rest := _) rfl (by kernel_rfl) (fun mm σ H' => False) ?_ (fun _ _ _ h => h.elim)
    simp (disch := omega) only [↓aI,↓zP,aD,zD,aS,simprocAttr,Try.facts,zA]
    first | refine CallK.p (hrt) ?_ | refine CallP.i (hrt) ?_
    simp (disch := omega) only [↓aI,↓zP,aD,zD,aS,simprocAttr,Try.facts,zA]
    intro t ht0 ht e he0 hee
    have hsz : ai Try.prog 1 = 1 := Try.sz1
    have hha : ax Try.prog 1 = true := Try.ha1
    simp (disch := omega) only [↓aI,↓zP,aD,zD,aS,simprocAttr,Try.facts,zA,hsz,hha]
    intro b10 hb100 hb10
    rw [aj hb10]
    have hte : ¬ t = e := bK hee
    have het : ¬ e = t := fun h => hte h.symm
    have hH0t := s.sub.free ht
    have hH0e := s.sub.free (am hee)
    have sB : SS ((H0.set t (.cells [.sc (.slice none 0 0)] 22 1)).set e (.cells [.sc (.int .i64 0)] 30 1)) ((H.set t (.cells [.sc (.slice none 0 0)] 22 1)).set e (.cells [.sc (.int .i64 0)] 30 1)) h m d ts := by
      exact (s.box ht).box hee
    have vT : ∀ a b : AObj,((H0.set t a).set e b) t = some a := fun a b => by rw [aP hte,set_get]
    have vE : ∀ a b : AObj,((H0.set t a).set e b) e = some b := fun a b => set_get
    have hls : ∀ a b : AObj,Abs.Sub H0 ((H0.set t a).set e b) := fun a b => ((Abs.Sub.refl H0).set_free hH0t).set_free hH0e
    simp (disch := omega) only [↓aI,↓zP,aD,zD,aS,simprocAttr,Try.facts,zA,hsz,hha,ah]
    refine br (c := ⟨Try.prog,35,[(13,[1,1,0,0]),(1000000,[5,4,3]),(1000005,[10])],[],[]⟩) Try.mixed (by kernel_rfl) (fun mm σ H' => σ 24 = .agg [.fn (.func 64) [] [.ip [.ifc 27 (.ptr h 0)] 0,.ip [.imm 0 (bw epoch) epoch.length] 0,.ip [.sc (.int .i64 kd),.sc (.int .i64 au),.sc (.int .i64 ep),.sc (.int .i64 nu),bytesV pv,bytesV bx,bytesV sg] 0,.ptr t 0,.ptr e 0],.fn (.func 65) [] [.ptr t 0,.ptr e 0]] ∧ σ 8 = .ptr t 0 ∧ σ 9 = .ptr e 0 ∧
      ((mm = 2 ∧ σ 25 = .sc (.int .i64 0) ∧ SS ((H0.set t (.cells [.sc (.slice none 0 0)] 22 1)).set e (.cells [.sc (.int .i64 0)] 30 1)) H' h m d ts) ∨
       (mm = 1 ∧ σ 25 = .sc (.int .i64 1) ∧ pe = 0 ∧ SS ((H0.set t (.cells [bytesV p] 22 1)).set e (.cells [.sc (.int .i64 0)] 30 1)) H' h m d ts1) ∨
       (mm = 0 ∧ σ 25 = .sc (.int .i64 2) ∧ pe = 0 ∧ (unpadL p).2 = 0 ∧ SS ((H0.set t (.cells [bytesV (unpadL p).1] 22 1)).set e (.cells [.sc (.int .i64 0)] 30 1)) H' h m d ts1))) 2 ?_ ?_
    · simp (disch := omega) only [↓aI,↓zP,aD,zD,aS,simprocAttr,Try.facts,zA,hsz,hha,ah]
      exact .inl sB
    · rintro mm σ H' ⟨s24,s8,s9,hin⟩
      rcases hin with ⟨rfl,s25,q⟩ | ⟨rfl,s25,rfl,q⟩ | ⟨rfl,s25,rfl,hu0,q⟩
      · simp (disch := omega) only [↓aI,↓zP,aD,zD,aS,simprocAttr,Try.facts,zA,s24,s8,s9,s25,hsz,hha]
        refine CallK.i (h1 _ _ t e _ 0 q (vT _ _) (vE _ _) hte) ?_
        rintro v H1 q1
        rw [set_four hte] at q1
        have w1 := q1.sub _ _ (vT _ _)
        have w2 := q1.sub _ _ (vE _ _)
        by_cases c : pe = 0
        · subst c
          simp (disch := omega) only [↓aI,↓zP,aD,zD,aS,simprocAttr,Try.facts,zA,s24,s8,s9,s25,hsz,hha,w1,w2]
          refine ⟨1,by omega,.inr (.inl ?_)⟩
          first | exact ⟨rfl,rfl,q1⟩ | exact q1 | exact ⟨rfl,q1⟩ | exact ⟨rfl,rfl,rfl,q1⟩
        · rw [if_pos c]
          simp (disch := omega) only [↓aI,↓zP,aD,zD,aS,simprocAttr,Try.facts,zA,s24,s8,s9,s25,hsz,hha,w1,w2,ah,aP,het,hte]
          exact ⟨_,rfl,_,Abs.Sub.refl _,rfl,(q1.put (o' := .cells [.sc (.slice none 0 0)] 22 1) (vT _ _)).less (((hls _ _).set_free hH0t))⟩
      · rw [if_neg (by simp)]
        have hu := fun E v1 v2 => open2_live (H := E) p (by have := hpl; omega) t e 0 v1 v2 hte
        have hue := unpadL_err p
        generalize unpadL p = U at *
        have w1 := q.sub _ _ (vT _ _)
        have w2 := q.sub _ _ (vE _ _)
        simp (disch := omega) only [↓aI,↓zP,aD,zD,aS,simprocAttr,Try.facts,zA,s24,s8,s9,s25,hsz,hha]
        refine CallK.i (hu _ w1 w2) ?_
        rintro v H1 rfl
        have q1 := (q.put (o' := .cells [bytesV U.1] 22 1) (vT _ _)).put (b := e) (o := .cells [.sc (.int .i64 0)] 30 1) (o' := .cells [.sc (.int .i64 U.2)] 30 1) (by rw [aP het]; exact vE _ _)
        rw [set_four hte] at q1
        have w1 := q1.sub _ _ (vT _ _)
        have w2 := q1.sub _ _ (vE _ _)
        by_cases c : U.2 = 0
        · simp (disch := omega) only [↓aI,↓zP,aD,zD,aS,simprocAttr,Try.facts,zA,s24,s8,s9,s25,hsz,hha,w1,w2]
          rw [c] at q1 ⊢
          refine ⟨0,by omega,.inr (.inr ?_)⟩
          first | exact ⟨rfl,rfl,rfl,q1⟩ | exact q1 | exact ⟨rfl,q1⟩ | exact ⟨rfl,rfl,q1⟩ | exact ⟨c,q1⟩
        · simp (disch := omega) only [↓aI,↓zP,aD,zD,aS,simprocAttr,Try.facts,zA,s24,s8,s9,s25,hsz,hha,w1,w2,ah,aP,het,hte]
          have hU : U.1 = [] := by rw [hue.resolve_left c]
          rw [hU]
          rw [hU] at q1
          exact ⟨_,rfl,_,Abs.Sub.refl _,rfl,(q1.put (o' := .cells [.sc (.slice none 0 0)] 22 1) (vT _ _)).less (((hls _ _).set_free hH0t))⟩
      · have w1 := q.sub _ _ (vT _ _)
        have w2 := q.sub _ _ (vE _ _)
        rw [if_neg (by simp)]
        simp (disch := omega) only [↓aI,↓zP,aD,zD,aS,simprocAttr,Try.facts,zA,s24,s8,s9,s25,hsz,hha,w1,w2]
        exact ⟨_,rfl,_,Abs.Sub.refl _,by rw [hu0],q.less (hls _ _)⟩
end Go.Proofs.Ytaehlpkinbpmbaa
