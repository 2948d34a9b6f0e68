/-
  Several texts in one: each says what it proves.
  Conditions: none. Lemmas only.
-/
import Derived.Test.YtaehlpkinbpmbaaAbsG4
set_option linter.all false
section
namespace Go.Abs
open Go Go.RowKit
def bX (Hc H1 Hc2 H2 : AH) : Prop := Abs.Sub Hc2 H2 ∧ ∀ k o,H1 k = some o → Hc k = none → H2 k = some o ∧ Hc2 k = none
def YR {α : Type} (J Jx : List α → AH → Prop) (Hc H1 : AH) (xs : List α) (v : AV) (H2 : AH) : Prop :=
  ∃ Hc2,bX Hc H1 Hc2 H2 ∧ ((v = .sc (.bool true) ∧ J xs Hc2) ∨ (v = .sc (.bool false) ∧ Jx xs Hc2))
def IterC (P : Program) (f : FuncId) (captured : List AV) {α : Type} (enc : α → List AV) (Res : AH → Prop) (S Sp : List α → Prop) (M : Nat) : Prop :=
  ∀ (y : AV) (J Jx : List α → AH → Prop) (H : AH),(∀ pre Hc,J pre Hc → Res Hc) →
    (∀ pre x Hc H1,J pre Hc → Abs.Sub Hc H1 → pre.length < M → ACallV P y (enc x) H1 (YR J Jx Hc H1 (pre ++ [x]))) →
    J [] H → ACalls P f (y :: captured) H fun _ H' => (∃ xs,S xs ∧ J xs H') ∨ (∃ pre,Sp pre ∧ Jx pre H')
def RPost {α : Type} (J : List α → AH → Prop) (Jx : Code → List α → AH → Prop) (Hc H1 : AH) (xs : List α) : Exit → Sg → AH → Prop
  | .normal,_,H2 => ∃ Hc2,bX Hc H1 Hc2 H2 ∧ J xs Hc2
  | .ret,_,H2 => ∃ Hc2,bX Hc H1 Hc2 H2 ∧ Jx .ret xs Hc2
  | .exit id,_,H2 => ∃ Hc2,bX Hc H1 Hc2 H2 ∧ Jx (.exit id) xs Hc2
  | _,_,_ => False
def putPs : List Tmp → List AV → Sg → Sg
  | t :: ts,a :: as,σ => putPs ts as (σ.put (some t) a)
  | _,_,σ => σ
theorem putPs_rel {C : Ctx} : ∀ (ps : List Tmp) (as : List AV) (vs : List Value) (σ : Sg) (tmps : Array Value), VRs C as vs → ps.length = as.length → (∀ t ∈ ps, t < tmps.size) → (∀ t, VR C (σ t) (tmps.getD t undef)) →
    ((ps.zip vs).foldl (fun tmps (p : Tmp × Value) => tmps.setIfInBounds p.1 p.2) tmps).size = tmps.size ∧ ∀ t,VR C (putPs ps as σ t) (((ps.zip vs).foldl (fun tmps (p : Tmp × Value) => tmps.setIfInBounds p.1 p.2) tmps).getD t undef)
  | [],as,vs,σ,tmps,_,_,_,h => by
    have : putPs [] as σ = σ := by cases as <;> rfl
    rw [this]; exact ⟨rfl,h⟩
  | t :: ts,[],vs,σ,tmps,_,hl,_,h => by simp at hl
  | t :: ts,a :: as,vs,σ,tmps,hv,hl,hlt,h => by
    cases vs with
    | nil => have := hv.1; simp at this
    | cons v vs =>
      have hv0 : VR C a v := by have := hv.2 0 (by simp); simpa only [List.getD,List.getElem?_cons_zero,Option.getD_some,List.getElem_cons_zero] using this
      have hvr : VRs C as vs := ⟨by have := hv.1; simpa using this,fun j hj => by have := hv.2 (j + 1) (by simpa using hj); simpa [List.getD] using this⟩
      have hts : t < tmps.size := hlt t (by simp)
      have := putPs_rel ts as vs (σ.put (some t) a) (tmps.setIfInBounds t v) hvr (by simpa using hl) (fun x hx => by rw [Array.size_setIfInBounds]; exact hlt x (by simp [hx])) (fun x => by
        rw [getD_set tmps t x v hts]
        show VR C (if x = t then a else σ x) _
        split
        · exact hv0
        · exact h x)
      simp only [List.zip_cons_cons,List.foldl_cons,putPs]
      exact ⟨this.1.trans (by rw [Array.size_setIfInBounds]),this.2⟩
theorem round_call {c : Cfg} {α : Type} {enc : α → List AV} {ps : Array Tmp} {assign body : Code} {σ : Sg} {f : FuncId} (hm : c.P.follows .mixedOrders = true)
    (hoka : bV c assign = true) (hokb : bV c body = true) (hna : bS assign = true) (hnb : bS body = true) (hps : ∀ x,(enc x).length = ps.size) (hlt : ∀ t ∈ ps,t < c.N)
    {J : List α → AH → Prop} {Jx : Code → List α → AH → Prop} {hl : Nat} {pre : List α} {x : α} {Hu H1 : AH} (hh : H1 hl = some (.rnd σ c.N f ps assign body)) (hul : Hu hl = none) (hs : Abs.Sub Hu H1)
    (hr : cwp c assign (dp (cwp c body (RPost J Jx Hu (H1.kill hl) (pre ++ [x]))) (fun _ _ _ => False)) (putPs ps.toList (enc x) σ) (H1.kill hl)) :
    ACallV c.P (.yld hl) (enc x) H1 fun v H2 => (∃ Hu2,bX Hu (H1.kill hl) Hu2 (H2.kill hl) ∧ Hu2 hl = none ∧ H2 hl = some (.rnd σ c.N f ps assign body) ∧ v = .sc (.bool true) ∧ J (pre ++ [x]) Hu2) ∨
      (∃ Hu2 code r,bX Hu (H1.kill hl) Hu2 (H2.kill hl) ∧ Hu2 hl = none ∧ H2 hl = some (.raw (.loop r)) ∧ r.state = .done ∧ r.pending = some code ∧ (code = .ret ∨ ∃ id,code = .exit id) ∧ v = .sc (.bool false) ∧ Jx code (pre ++ [x]) Hu2) := by
  intro n i cc w u vs g hu hx
  cases hu with
  | yld _ hln =>
  obtain ⟨hc1,tmps,D,hrec,hsz,hvr⟩ := g.obj hl _ hh
  have hlw : i hl < w.heap.size := (Array.getElem?_eq_some_iff.1 hrec).1
  have hlen := hx.1
  obtain ⟨rec,hrecd⟩ : ∃ rec : Loop,rec = { state := .ready,pending := none,fn := f,tmps := tmps,params := ps,assign := assign,body := body,defers := D } := ⟨_,rfl⟩
  have hrec' : w.heap[i hl]? = some (.loop rec) := by rw [hrecd]; exact hrec
  have hrun : (do let d ← Deferred.ofValue (.func (.yield (i hl)) #[] #[]) vs.toArray; invoke d.target d.args : Sem Next).run c.P w =
      .ok (.round (i hl) f ((ps.zip vs.toArray).foldl (fun tmps (t,a) => tmps.setIfInBounds t a) tmps) assign body) w := by
    have := run_yield (P := c.P) (args := vs.toArray) hrec' (by rw [hrecd]; simp [hlen,hps])
    rw [hrecd] at this
    simp only [Deferred.ofValue,Sem.run_bind,Sem.run_pure,Result.andThen_ok,invoke,Array.empty_append,Array.append_empty]
    exact this
  show Upon c.P (Sem.run c.P (do let d ← Deferred.ofValue (.func (.yield (i hl)) #[] #[]) vs.toArray; invoke d.target d.args : Sem Next) w) _
  rw [hrun]
  simp only [Upon]
  -- the record belongs to nobody while the round goes on
  have hsk : ∀ x o,(H1.kill hl) x = some o → H1 x = some o := fun x o hx => by simp only [AH.kill] at hx; split at hx; cases hx; exact hx
  have g1 := g.weaken (H1.kill hl) hsk
  have e1 := Ext.weaken (C := ⟨H1,n,i,cc,w⟩) (H1.kill hl) hsk
  have hno : ¬ Owned ⟨H1.kill hl,n,i,cc,w⟩ (i hl) := by
    rintro ⟨y,o,hy,hyr,hye⟩
    have := g.inj y hl o _ (hsk y o hy) hh hyr rfl hye
    subst this
    simp [AH.kill] at hy
  have hfold : (ps.zip vs.toArray).foldl (fun tmps (t,a) => tmps.setIfInBounds t a) tmps = (ps.toList.zip vs).foldl (fun tmps (p : Tmp × Value) => tmps.setIfInBounds p.1 p.2) tmps := by
    rw [← Array.foldl_toList]; simp
  rw [hfold]
  have hpp := putPs_rel (C := ⟨H1.kill hl,n,i,cc,w⟩) ps.toList (enc x) vs σ tmps (hx.ext e1) (by simp [hps]) (fun t ht => by rw [hsz]; exact hlt t (by simpa using ht)) (fun t => (hvr t).ext e1)
  refine roundIn_of_wpIn (F := Fence.wide) trivial ?_
  have ha := cwp.sound hm assign hoka _ _ _ hr ⟨H1.kill hl,n,i,cc,w⟩ (some (i hl)) (.inr hna) 0 { tmps := (ps.toList.zip vs).foldl (fun tmps (p : Tmp × Value) => tmps.setIfInBounds p.1 p.2) tmps,defers := [] } w
    ⟨n,i,cc,g1,Ext.refl _,hpp.1.trans hsz,Marks.nil (Nat.zero_le _),hpp.2⟩
  refine wpIn_mono (show Code.wpIn (FW (some (i hl))) 0 c.P assign _ _ _ from ha) ?_
  rintro e a1 w1 ⟨σ1,H1a,gA,q⟩
  cases e with
  | normal =>
    obtain ⟨n1,i1,c1,k1,k2,k3,k4,k5⟩ := gA
    have hi1 := k2.h hl hln
    have hb1 := k2.blk (i hl) hlw hno
    have hrec1 : w1.heap[i hl]? = some (.loop rec) := hb1.1.trans hrec'
    have hbeg := run_beginRound (P := c.P) hrec1 (by rw [hrecd])
    refine ⟨_,hbeg,?_⟩
    obtain ⟨w2,hw2⟩ : ∃ w2,w2 = w1.putObj (i hl) (.loop { rec with state := .busy }) := ⟨_,rfl⟩
    rw [← hw2]
    have k1' := k1.turn (.loop { rec with state := .busy }) hrec1 rfl hb1.2
    have k2' : Ext ⟨H1,n,i,cc,w⟩ ⟨H1a,n1,i1,c1,w2⟩ := by rw [hw2]; exact (e1.trans k2).turn _ hrec1 rfl (.inr ⟨hl,_,hh,rfl,rfl⟩)
    rw [← hw2] at k1'
    have hrec2 : w2.heap[i hl]? = some (.loop { rec with state := .busy }) := by rw [hw2]; exact World.putObj_heap_same (Array.getElem?_eq_some_iff.1 hrec1).1
    have hno2 : ¬ Owned ⟨H1a,n1,i1,c1,w2⟩ (i hl) := hb1.2
    have hbd := cwp.sound hm body hokb _ _ _ (show cwp c body (RPost J Jx Hu (H1.kill hl) (pre ++ [x])) σ1 H1a from q) ⟨H1a,n1,i1,c1,w2⟩ (some (i hl)) (.inr hnb) 0 a1 w2
      ⟨n1,i1,c1,k1',Ext.refl _,k3,(by
        obtain ⟨-,Ds,m1,m2,m3⟩ := k4
        refine ⟨Nat.zero_le _,Ds,m1,m2,fun b hb => ?_⟩
        obtain ⟨l1,l2,l3⟩ := m3 b hb
        refine ⟨l1,?_,l3⟩
        show w2.heap[b]? = _
        rw [hw2,World.putObj_heap_other]
        · exact l2
        · rintro rfl
          have := l2.symm.trans hrec1
          cases this),fun t => by rw [hw2]; exact (k5 t).turn _ hrec1 rfl⟩
    refine wpIn_mono (show Code.wpIn (FW (some (i hl))) 0 c.P body _ _ _ from hbd) ?_
    rintro e a3 w3 ⟨σ3,H3,⟨n3,i3,c3,m1,m2,m3,m4,m5⟩,q3⟩
    have hl1 : hl < n1 := Nat.lt_of_lt_of_le hln k2.n
    have hi3 := m2.h hl hl1
    have hb3 := m2.blk (i hl) (Array.getElem?_eq_some_iff.1 hrec2).1 hno2
    have hrec3 : w3.heap[i hl]? = some (.loop { rec with state := .busy }) := hb3.1.trans hrec2
    have hie : i3 hl = i hl := hi3.1.trans hi1.1
    have hce : c3 hl = 1 := hi3.2.trans (hi1.2.trans hc1)
    have hH3 : H3 hl = none := by
      cases ho : H3 hl with
      | none => rfl
      | some o =>
        exfalso
        by_cases hor : o.real = true
        · exact hb3.2 ⟨hl,o,ho,hor,hie⟩
        · have := m1.obj hl o ho
          cases o <;> simp [AObj.real] at hor
          all_goals
            have hz : c3 hl = 0 := by first | exact this | exact this.1
            omega
    have hln3 : hl < n3 := Nat.lt_of_lt_of_le hl1 m2.n
    have hl3 : i hl < w3.heap.size := (Array.getElem?_eq_some_iff.1 hrec3).1
    have hkill : ∀ o,(H3.set hl o).kill hl = H3 := fun o => by
      funext y
      simp only [AH.set,AH.kill]
      split
      · rename_i hy; rw [hy,hH3]
      · rfl
    -- the record is the caller's again
    have back : ∀ (o : AObj) (ob : Obj), o.real = true → eE ob = true → (∀ m e s, o ≠ .tail m e s) →
        (ObjR ⟨H3.set hl o,n3,i3,c3,w3.putObj (i hl) ob⟩ hl o → WR ⟨H3.set hl o,n3,i3,c3,w3.putObj (i hl) ob⟩) ∧ Ext ⟨H1,n,i,cc,w⟩ ⟨H3.set hl o,n3,i3,c3,w3.putObj (i hl) ob⟩ := by
      intro o ob hor hob hnt
      have t1 := m1.turn ob hrec3 rfl hb3.2
      have t2 : Ext ⟨H1,n,i,cc,w⟩ ⟨H3,n3,i3,c3,w3.putObj (i hl) ob⟩ := (k2'.trans m2).turn ob hrec3 rfl (.inr ⟨hl,_,hh,rfl,rfl⟩)
      have hwr : ∀ a,Wr ⟨H3.set hl o,n3,i3,c3,w3.putObj (i hl) ob⟩ a → Wr ⟨H3,n3,i3,c3,w3.putObj (i hl) ob⟩ a ∨ a.block = i hl := by
        rintro a ⟨y,hy⟩
        simp only [AH.set] at hy
        by_cases hye : y = hl
        · right
          subst hye
          simp only [if_true] at hy
          cases o <;> first | exact (hnt _ _ _ rfl).elim | exact hy.elim | exact hy.trans hie
        · left
          rw [if_neg hye] at hy
          exact ⟨y,hy⟩
      refine ⟨fun hobj => ⟨t1.pos,?_,?_,?_,?_,?_⟩,⟨t2.n,t2.h,?_,t2.size,?_,t2.os,t2.tape,t2.output⟩⟩
      · show (if 0 = hl then _ else H3 0) = none
        rw [if_neg (by rintro rfl; exact absurd (g.zero.symm.trans hh) (by simp))]
        exact t1.zero
      · intro y oy hy
        simp only [AH.set] at hy
        split at hy
        · rename_i e; rw [e]; exact hln3
        · exact t1.lt y oy hy
      · intro y oy hy hyr
        simp only [AH.set] at hy
        split at hy
        · rename_i e; rw [e]; show i3 hl < (w3.putObj (i hl) ob).heap.size; rw [World.putObj_size,hie]; exact hl3
        · exact t1.blk y oy hy hyr
      · intro y y' oy oy' hy hy' hyr hyr' hye
        simp only [AH.set] at hy hy'
        split at hy <;> split at hy'
        · rename_i p q; rw [p,q]
        · rename_i p q
          exfalso
          subst p
          exact hb3.2 ⟨y',oy',hy',hyr',by rw [← hie]; exact hye.symm⟩
        · rename_i p q
          exfalso
          subst q
          exact hb3.2 ⟨y,oy,hy,hyr,by rw [← hie]; exact hye⟩
        · exact t1.inj y y' oy oy' hy hy' hyr hyr' hye
      · -- objects: those that were, and the record
        intro y oy hy
        simp only [AH.set] at hy
        have hvx : ∀ (z : AV) (v : Value),VR ⟨H3,n3,i3,c3,w3.putObj (i hl) ob⟩ z v → VR ⟨H3.set hl o,n3,i3,c3,w3.putObj (i hl) ob⟩ z v := by
          intro z v hz
          have hat : ∀ a u,(⟨H3,n3,i3,c3,w3.putObj (i hl) ob⟩ : Ctx).At a u → (⟨H3.set hl o,n3,i3,c3,w3.putObj (i hl) ob⟩ : Ctx).At a u := by
            rintro a u ⟨p1,p2,p3⟩
            refine ⟨p1,fun hw => (hwr a hw).elim p2 fun hb => ?_,p3⟩
            have : (w3.putObj (i hl) ob).cell? a = some u := p1
            unfold World.cell? at this
            rw [hb,World.putObj_heap_same hl3] at this
            cases ob <;> simp [eE] at hob this
          induction hz with
          | any v => exact .any v
          | sc v => exact .sc v
          | imm k cells n A cap hn hm hk b o ha' u hc hv ih => exact .imm k cells n A cap hn hm hk b o ha' u (fun j hj => hat _ _ (hc j hj)) ih
          | ip cells off b o u hc hv ih => exact .ip cells off b o u (fun j hj => hat _ _ (hc j hj)) ih
          | own h off n cap hh hn hm hc => exact VR.own (C := ⟨H3.set hl _,n3,i3,c3,w3.putObj (i hl) ob⟩) h off n cap hh hn hm hc
          | ptr h off hh => exact VR.ptr (C := ⟨H3.set hl _,n3,i3,c3,w3.putObj (i hl) ob⟩) h off hh
          | mp h hh => exact VR.mp (C := ⟨H3.set hl _,n3,i3,c3,w3.putObj (i hl) ob⟩) h hh
          | yld h hh => exact VR.yld (C := ⟨H3.set hl _,n3,i3,c3,w3.putObj (i hl) ob⟩) h hh
          | agg cells vs hs h1 hv ih => exact .agg cells vs hs h1 ih
          | tup cells vs hs hv ih => exact .tup cells vs hs ih
          | fn f fi ca vf vc h1 h2 g1 g2 i1 i2 => exact .fn f fi ca vf vc h1 h2 i1 i2
          | ifc t a v h ih => exact .ifc t a v ih
          | itr a1 a2 a3 a4 a5 a6 a7 d1 d2 d3 d4 d5 d6 d7 d8 d9 e1 e2 => exact VR.itr (C := ⟨H3.set hl _,n3,i3,c3,w3.putObj (i hl) ob⟩) a1 a2 a3 a4 a5 a6 a7 d1 d2 d3 d4 d5 d6 d7 e1 e2
        split at hy
        · rename_i e
          cases hy
          rw [e]; exact hobj
        · have := t1.obj y oy hy
          cases oy with
          | cells cs t s =>
            obtain ⟨vs,fz,h1,h2,h3,h4,h5⟩ := this
            exact ⟨vs,fz,h1,h2,h3,h4,fun j hj => ⟨hvx _ _ (h5 j hj).1,(h5 j hj).2⟩⟩
          | tail m t s => exact this
          | nilt => exact this
          | note k c => exact this
          | map es =>
            obtain ⟨ms,clock,h1,h2,h3,h4⟩ := this
            exact ⟨ms,clock,h1,⟨h2.1,fun j hj => ⟨hvx _ _ (h2.2 j hj).1,hvx _ _ (h2.2 j hj).2⟩⟩,h3,h4⟩
          | raw o => exact this
          | rnd σ N f ps assign body =>
            obtain ⟨g0,tmps,d,g1,g2,g3⟩ := this
            exact ⟨g0,tmps,d,g1,g2,fun t => hvx _ _ (g3 t)⟩
      · intro a u ha
        have hb : a.block ≠ i hl := fun hb => ha.2.1 ⟨hl,by rw [show (⟨H1,n,i,cc,w⟩ : Ctx).H hl = some (.rnd σ c.N f ps assign body) from hh]; exact hb⟩
        have := t2.at_ a u ha
        exact ⟨this.1,fun hw => (hwr a hw).elim this.2.1 hb,this.2.2⟩
      · intro b hb hn
        have hbl : b ≠ i hl := fun e => hn ⟨hl,_,hh,rfl,e.symm⟩
        have := t2.blk b hb hn
        refine ⟨this.1,?_⟩
        rintro ⟨y,oy,hy,hyr,hye⟩
        simp only [AH.set] at hy
        split at hy
        · rename_i e
          rw [e] at hye
          exact hbl (hye.symm.trans hie)
        · exact this.2 ⟨y,oy,hy,hyr,hye⟩
    have done : ∀ (Hu2 : AH),bX Hu (H1.kill hl) Hu2 H3 → Hu2 hl = none := fun Hu2 hf => by
      cases hz : Hu2 hl with
      | none => rfl
      | some o => have := hf.1 hl o hz; rw [hH3] at this; cases this
    have stop : ∀ (code : Code), (code = .ret ∨ ∃ id, code = .exit id) → (∃ Hu2, bX Hu (H1.kill hl) Hu2 H3 ∧ Jx code (pre ++ [x]) Hu2) → ∃ v w', (Instr.endRound (i hl) (some code)).run c.P w3 = .ok v w' ∧
        ∃ u,Ending.returned v = .returned u ∧ ∃ v' H' n' i' c',((∃ Hu2,bX Hu (H1.kill hl) Hu2 (H'.kill hl) ∧ Hu2 hl = none ∧ H' hl = some (.rnd σ c.N f ps assign body) ∧ v' = .sc (.bool true) ∧ J (pre ++ [x]) Hu2) ∨
          (∃ Hu2 code r,bX Hu (H1.kill hl) Hu2 (H'.kill hl) ∧ Hu2 hl = none ∧ H' hl = some (.raw (.loop r)) ∧ r.state = .done ∧ r.pending = some code ∧ (code = .ret ∨ ∃ id,code = .exit id) ∧ v' = .sc (.bool false) ∧ Jx code (pre ++ [x]) Hu2)) ∧
          WR ⟨H',n',i',c',w'⟩ ∧ Ext ⟨H1,n,i,cc,w⟩ ⟨H',n',i',c',w'⟩ ∧ VR ⟨H',n',i',c',w'⟩ v' u := by
      rintro code hcode ⟨Hu2,hf,hj⟩
      have hend := run_endRound (P := c.P) (some code) hrec3
      obtain ⟨r,hrd⟩ : ∃ r : Loop,r = { { rec with state := .busy } with state := if (some code).isNone then .ready else .done,pending := some code } := ⟨_,rfl⟩
      rw [← hrd] at hend
      have hbk := back (.raw (.loop r)) (.loop r) rfl rfl (fun _ _ _ h => by cases h)
      have hbk1 := hbk.1 (by show (w3.putObj (i hl) _).heap[i3 hl]? = _; rw [hie]; exact World.putObj_heap_same hl3)
      refine ⟨_,_,hend,_,rfl,.sc (.bool false),_,n3,i3,c3,.inr ⟨Hu2,code,r,by rw [hkill]; exact hf,done Hu2 hf,by simp [AH.set],by rw [hrd]; rfl,by rw [hrd],hcode,rfl,hj⟩,hbk1,hbk.2,.sc _⟩
    cases e with
    | normal =>
      obtain ⟨Hu2,hf,hj⟩ := q3
      have hend := run_endRound (P := c.P) none hrec3
      have hre : ({ { rec with state := .busy } with state := if (none : Option Code).isNone then .ready else .done,pending := none } : Loop) = rec := by rw [hrecd]; rfl
      rw [hre] at hend
      have hbk := back (.rnd σ c.N f ps assign body) (.loop rec) rfl rfl (fun _ _ _ h => by cases h)
      have hbk1 := hbk.1 ⟨hce,tmps,D,by rw [← hrecd]; show (w3.putObj (i hl) _).heap[i3 hl]? = _; rw [hie]; exact World.putObj_heap_same hl3,hsz,fun t => (hvr t).ext hbk.2⟩
      exact ⟨_,_,hend,_,rfl,.sc (.bool true),_,n3,i3,c3,.inl ⟨Hu2,by rw [hkill]; exact hf,done Hu2 hf,by simp [AH.set],rfl,hj⟩,hbk1,hbk.2,.sc _⟩
    | ret => exact stop .ret (.inl rfl) q3
    | exit id => exact stop (.exit id) (.inr ⟨id,rfl⟩) q3
    | goto l => exact q3.elim
    | panic ch => exact q3.elim
    | outgrown => exact q3.elim
  | exit id => exact q.elim
  | goto l => exact q.elim
  | ret => exact q.elim
  | panic ch => exact q.elim
  | outgrown => exact q.elim
theorem range_rule {c : Cfg} {α : Type} {enc : α → List AV} {g : Operand} {ps : Array Tmp} {assign body : Code} {Q : Exit → Sg → AH → Prop} {σ : Sg} {H : AH} {f : FuncId} {captured : List AV} (hm : c.P.follows .mixedOrders = true)
    (hg : σ.ev g = .fn (.func f) [] captured) (hok : (bV c assign && bV c body && bS assign && bS body && ak c.P f && ps.all (decide <| · < c.N)) = true) (hps : ∀ x,(enc x).length = ps.size)
    {Res : AH → Prop} {S Sp : List α → Prop} {M : Nat} (iter : IterC c.P f captured enc Res S Sp M) (J : List α → AH → Prop) (Jx : Code → List α → AH → Prop) (hRes : ∀ pre Hu H',J pre Hu → Abs.Sub Hu H' → Res H') (h0 : J [] H)
    (round : ∀ pre x Hu H1,J pre Hu → Abs.Sub Hu H1 → pre.length < M → cwp c assign (dp (cwp c body (RPost J Jx Hu H1 (pre ++ [x]))) (fun _ _ _ => False)) (putPs ps.toList (enc x) σ) H1)
    (done : ∀ xs Hu,S xs → J xs Hu → Q .normal σ Hu) (stop : ∀ code pre Hu,Sp pre → Jx code pre Hu → (code = .ret → Q .ret σ Hu) ∧ ∀ id,code = .exit id → Q (.exit id) σ Hu) : RangeG c g ps assign body Q σ H := by
  simp only [Bool.and_eq_true,Array.all_eq_true_iff_forall_mem,decide_eq_true_eq] at hok
  obtain ⟨⟨⟨⟨⟨hoka,hokb⟩,hna⟩,hnb⟩,hcal⟩,hlt⟩ := hok
  rintro Γ ro (rfl | h) B a w ⟨n,i,cc,g1,g2,g3,g4,g5⟩
  · refine wpIn_rangeFunc ?_
    intro fn _
    obtain ⟨rec,hrec⟩ : ∃ rec : Loop,rec = { state := .ready,pending := none,fn := fn,tmps := a.tmps,params := ps,assign := assign,body := body,defers := w.heap.size } := ⟨_,rfl⟩
    have hgv := ev_rel g5 g
    rw [hg] at hgv
    generalize hgu : a.eval g = gv at hgv
    cases hgv with
    | fn _ _ _ vf vc s1 s2 r1 r2 =>
    obtain rfl : vf = #[] := Array.eq_empty_of_size_eq_zero (by simpa using s1)
    obtain ⟨w0,hw0⟩ : ∃ w0,w0 = w.alloc (.deferred (some [])) := ⟨_,rfl⟩
    obtain ⟨w1,hw1⟩ : ∃ w1,w1 = w0.alloc (.loop rec) := ⟨_,rfl⟩
    have hsz0 : w0.heap.size = w.heap.size + 1 := by rw [hw0]; simp
    -- the new context
    have gA : WR ⟨H,n,i,cc,w0⟩ := by rw [hw0]; exact g1.alloc _
    have eA : Ext ⟨H,n,i,cc,w⟩ ⟨H,n,i,cc,w0⟩ := by rw [hw0]; exact Ext.alloc (C := ⟨H,n,i,cc,w⟩) _
    obtain ⟨rn,hrn⟩ : ∃ rn : AObj,rn = .rnd σ c.N fn ps assign body := ⟨_,rfl⟩
    have eB := Ext.add gA rn (.loop rec) 1
    have gB := WR.add gA rn (.loop rec) 1 (by
      rw [hrn]
      refine ⟨by show upd cc n 1 n = 1; rw [bC],a.tmps,w.heap.size,?_,g3,fun t => ((g5 t).ext eA).ext (by rw [← hrn]; exact eB)⟩
      show (w0.alloc (.loop rec)).heap[upd i n w0.heap.size n]? = _
      rw [bC,World.alloc_heap_new,hrec])
    have hHn : H n = none := bh g1
    have hl : upd i n w0.heap.size n = w.heap.size + 1 := by rw [bC,hsz0]
    refine ⟨w.heap.size + 1,[ci w.heap.size],w1,{ target := .fn (.func f) vc,args := #[.func (.yield (w.heap.size + 1)) #[] #[]] },w1,f,#[.func (.yield (w.heap.size + 1)) #[] #[]] ++ vc,w1,?_,?_,fun _ _ => trivial,?_,(fun h => by cases h),?_⟩
    · rw [hw1,hw0,hrec]; exact run_enterLoop_outer _ _ _ _ _
    · simp only [resolve,rangeCall,hgu,Deferred.ofValue,Sem.run_pure]
      simp [Act.eval]
    · simp only [invoke]
      exact cZ hcal _ _
    · have hR := iter (.yld n) (fun pre Hc => ∃ Hu, J pre Hu ∧ Hu n = none ∧ Hc = Hu.set n rn)
        (fun pre Hc => ∃ Hu code r,Jx code pre Hu ∧ Hu n = none ∧ Hc = Hu.set n (.raw (.loop r)) ∧ r.state = .done ∧ r.pending = some code ∧ (code = .ret ∨ ∃ id,code = .exit id)) (H.set n rn)
        (fun pre Hc ⟨Hu,h1,h2,h3⟩ => hRes pre Hu Hc h1 (by rw [h3]; exact Sub.set_new h2)) ?_ ⟨H,h0,hHn,rfl⟩
      · have := hR _ _ _ _ (#[Value.func (.yield (w.heap.size + 1)) #[] #[]] ++ vc).toList gB (by
          rw [Array.toList_append]
          have hy : VR (⟨H.set n rn,n + 1,upd i n w0.heap.size,upd cc n 1,w0.alloc (.loop rec)⟩ : Ctx) (.yld n) (.func (.yield (w.heap.size + 1)) #[] #[]) := by
            have := VR.yld (C := ⟨H.set n rn,n + 1,upd i n w0.heap.size,upd cc n 1,w0.alloc (.loop rec)⟩) n (Nat.lt_succ_self n)
            rw [show (⟨H.set n rn,n + 1,upd i n w0.heap.size,upd cc n 1,w0.alloc (.loop rec)⟩ : Ctx).i n = w.heap.size + 1 from hl] at this
            exact this
          have h1 : VRs (⟨H.set n rn,n + 1,upd i n w0.heap.size,upd cc n 1,w0.alloc (.loop rec)⟩ : Ctx) [.yld n] [.func (.yield (w.heap.size + 1)) #[] #[]] := by
            refine ⟨rfl,fun j hj => ?_⟩
            obtain rfl : j = 0 := by simp at hj; exact hj
            exact hy
          exact h1.append ((VRs.of_array s2 r2).ext (eA.trans eB)))
        rw [Array.toArray_toList,cZ hcal] at this
        simp only [Upon] at this
        rw [← hw1] at this
        refine callsIn_FW.2 (this.mono ?_)
        rintro e w3 ⟨u,rfl,v,H3,n3,i3,c3,hcase,k1,k2,k3⟩
        -- how it stands behind the iterator
        have k2' : Ext ⟨H,n,i,cc,w⟩ ⟨H3,n3,i3,c3,w3⟩ := (eA.trans (by rw [hw1] at k2; exact eB.trans k2))
        have hi3 : i3 n = w.heap.size + 1 := by
          have := k2.h n (Nat.lt_succ_self n)
          exact this.1.trans hl
        have hDn : ¬ Owned ⟨H.set n rn,n + 1,upd i n w0.heap.size,upd cc n 1,w1⟩ w.heap.size := by
          rintro ⟨y,o,hy,hyr,hye⟩
          have hy' : (if y = n then some rn else H y) = some o := hy
          have hye' : upd i n w0.heap.size y = w.heap.size := hye
          split at hy'
          · rename_i e; rw [e,bC] at hye'; omega
          · rename_i e
            have hlt := g1.blk y o hy' hyr
            have e2 : upd i n w0.heap.size y = i y := by simp [upd,e]
            rw [e2] at hye'
            have : i y < w.heap.size := hlt
            omega
        have hD1 : w1.heap[w.heap.size]? = some (.deferred (some [])) := by
          rw [hw1,Below.heap_alloc _ _ _ (by rw [hsz0]; omega),hw0,World.alloc_heap_new]
        have hD3 := k2.blk w.heap.size (Array.getElem?_eq_some_iff.1 hD1).1 hDn
        have fin : ∀ (Hu : AH) (r : Loop) (o : AObj), Hu n = none → H3 = Hu.set n o → o.real = true → w3.heap[w.heap.size + 1]? = some (.loop r) →
            G c.N Γ B σ Hu { a with defers := [ci w.heap.size] ++ a.defers } (w3.putObj (w.heap.size + 1) (.loop { r with state := .exhausted })) := by
          intro Hu r o hun hH3 hor hlr
          have hs : ∀ x o,Hu x = some o → H3 x = some o := fun x o hx => by
            rw [hH3]
            show (if x = n then _ else Hu x) = _
            rw [if_neg (by rintro rfl; rw [hun] at hx; cases hx)]
            exact hx
          have q1 := k1.weaken Hu hs
          have q2 := Ext.weaken (C := ⟨H3,n3,i3,c3,w3⟩) Hu hs
          have hno : ¬ Owned ⟨Hu,n3,i3,c3,w3⟩ (w.heap.size + 1) := by
            rintro ⟨y,o',hy,hyr,hye⟩
            have hn3 : H3 n = some o := by rw [hH3]; simp [AH.set]
            have := k1.inj y n o' o (hs y o' hy) hn3 hyr hor (by show i3 y = i3 n; rw [hi3]; exact hye)
            rw [this] at hy
            exact absurd (hun.symm.trans hy) (by simp)
          have q3 : Ext Γ ⟨Hu,n3,i3,c3,w3⟩ := (g2.trans k2').trans q2
          have hΓ : Γ.w.heap.size ≤ w.heap.size := g2.size
          refine ⟨n3,i3,c3,q1.turn _ hlr rfl hno,q3.turn _ hlr rfl (.inl (by omega)),g3,?_,fun t => (((g5 t).ext k2').ext q2).turn _ hlr rfl⟩
          obtain ⟨m0,Ds,m1,m2,m3⟩ := g4.ext (k2'.trans q2)
          obtain ⟨b0,Ds',b1,b2,b3⟩ := g4
          have hDs : Ds' = Ds := by
            have : Ds'.map ci = Ds.map ci := b1.symm.trans m1
            exact List.map_inj_right (fun x y h => by simpa [ci] using h) |>.1 this
          subst hDs
          have hne : w.heap.size ≠ w.heap.size + 1 := by omega
          have hput : ∀ b,b ≠ w.heap.size + 1 → (w3.putObj (w.heap.size + 1) (.loop { r with state := .exhausted })).heap[b]? = w3.heap[b]? := fun b hb => World.putObj_heap_other hb
          refine ⟨by rw [World.putObj_size]; exact m0,w.heap.size :: Ds',by show [ci w.heap.size] ++ a.defers = _; rw [b1]; rfl,List.nodup_cons.2 ⟨fun hmem => ?_,b2⟩,fun b hb => ?_⟩
          · have := (b3 _ hmem).2.1
            have := (Array.getElem?_eq_some_iff.1 this).1
            exact absurd this (by show ¬ w.heap.size < w.heap.size; omega)
          · rcases List.mem_cons.1 hb with rfl | hb
            · exact ⟨b0,(hput _ hne).trans (hD3.1.trans hD1),fun ⟨y,o',hy,hyr,hye⟩ => hD3.2 ⟨y,o',hs y o' hy,hyr,hye⟩⟩
            · obtain ⟨p1,p2,p3⟩ := m3 b hb
              have hb' := (Array.getElem?_eq_some_iff.1 (b3 b hb).2.1).1
              have hbw : b < w.heap.size := hb'
              exact ⟨p1,(hput b (by omega)).trans p2,p3⟩
        rcases hcase with ⟨xs,hS,Hu,hj,hun,hH3⟩ | ⟨pre,hSp,Hu,code,r,hj,hun,hH3,hst,hpe,hcode⟩
        · have hob := k1.obj n rn (by show H3 n = _; rw [hH3]; simp [AH.set])
          rw [hrn] at hob
          obtain ⟨-,tm,D',hb,-,-⟩ := hob
          have hb' := hb
          rw [show (⟨H3,n3,i3,c3,w3⟩ : Ctx).i n = w.heap.size + 1 from hi3] at hb'
          replace hb' : w3.heap[w.heap.size + 1]? = _ := hb'
          have hend := run_endLoop (P := c.P) hb' (by simp)
          exact ⟨none,_,hend,σ,Hu,fin Hu _ rn hun hH3 (by rw [hrn]; rfl) hb',done xs Hu hS hj⟩
        · have hob := k1.obj n (.raw (.loop r)) (by show H3 n = _; rw [hH3]; simp [AH.set])
          have hb' : w3.heap[w.heap.size + 1]? = some (.loop r) := by rw [← hi3]; exact hob
          have hend := run_endLoop (P := c.P) hb' (by rw [hst]; simp)
          obtain ⟨w4,hw4⟩ : ∃ w4,w4 = w3.putObj (w.heap.size + 1) (.loop { r with state := .exhausted }) := ⟨_,rfl⟩
          rw [← hw4,hpe] at hend
          refine ⟨some code,w4,hend,?_⟩
          have hfin := fin Hu _ (.raw (.loop r)) hun hH3 rfl hb'
          rw [← hw4] at hfin
          have hq := stop code pre Hu hSp hj
          rcases hcode with rfl | ⟨id,rfl⟩
          · exact wpIn_ret ⟨σ,Hu,hfin,hq.1 rfl⟩
          · exact wpIn_exit ⟨σ,Hu,hfin,hq.2 id rfl⟩
      · rintro pre x Hc H1 ⟨Hu,hj,hun,rfl⟩ hsub hlen
        have hn1 : H1 n = some rn := hsub n rn (by simp [AH.set])
        have hsu : Abs.Sub Hu H1 := fun y o hy => hsub y o (by
          show (if y = n then _ else Hu y) = _
          rw [if_neg (by rintro rfl; rw [hun] at hy; cases hy)]; exact hy)
        have hsk : Abs.Sub Hu (H1.kill n) := fun y o hy => by
          show (if y = n then _ else H1 y) = _
          rw [if_neg (by rintro rfl; rw [hun] at hy; cases hy)]; exact hsu y o hy
        have := round_call (enc := enc) (x := x) (pre := pre) hm hoka hokb hna hnb hps (fun t ht => hlt t ht) (by rw [hn1,hrn]) hun hsu (round pre x Hu (H1.kill n) hj hsk hlen)
        refine this.mono ?_
        have fs : ∀ (Hu2 H2 : AH) (o : AObj),bX Hu (H1.kill n) Hu2 (H2.kill n) → Hu2 n = none → H2 n = some o → bX (Hu.set n rn) H1 (Hu2.set n o) H2 := by
          rintro Hu2 H2 o ⟨f1,f2⟩ hu2 h2
          refine ⟨fun y oy hy => ?_,fun y oy hy hc => ?_⟩
          · have hy' : (if y = n then some o else Hu2 y) = some oy := hy
            split at hy'
            · rename_i e; rw [e]; exact h2.trans hy'
            · rename_i e
              have := f1 y oy hy'
              simpa [AH.kill,e] using this
          · have hc' : (if y = n then some rn else Hu y) = none := hc
            split at hc'
            · cases hc'
            · rename_i e
              have := f2 y oy (by simpa [AH.kill,e] using hy) hc'
              refine ⟨by simpa [AH.kill,e] using this.1,?_⟩
              show (if y = n then _ else Hu2 y) = none
              rw [if_neg e]; exact this.2
        rintro v H2 (⟨Hu2,f1,f2,f3,f4,f5⟩ | ⟨Hu2,code,r,f1,f2,f3,f4,f5,f6,f7,f8⟩)
        · exact ⟨Hu2.set n rn,fs Hu2 H2 rn f1 f2 (by rw [f3,hrn]),.inl ⟨f4,Hu2,f5,f2,rfl⟩⟩
        · exact ⟨Hu2.set n (.raw (.loop r)),fs Hu2 H2 _ f1 f2 f3,.inr ⟨f7,Hu2,code,r,f8,f2,rfl,f4,f5,f6⟩⟩
  · simp [bS] at h
end Go.Abs
end
section
namespace Go.Abs
open Go Go.RowKit
def aI := And.intro @cwp_skip <|
  And.intro @cwp_ret <|
  And.intro @cwp_exit <|
  And.intro @cwp_label <|
  And.intro @cwp_goto <|
  And.intro @cwp_seq <|
  And.intro @cwp_block <|
  And.intro @cwp_region_t <|
  And.intro @cwp_draw_t <|
  And.intro @cwp_loop_t <|
  And.intro @AThen_normal <|
  And.intro @AThen_exit <|
  And.intro @AThen_goto <|
  And.intro @AThen_ret <|
  And.intro @ABlock_normal <|
  And.intro @ABlock_ret <|
  And.intro @ABlock_goto <|
  And.intro @ABlock_exit <|
  And.intro @Run_nil <|
  And.intro @Run_cons <|
  And.intro @DrawK_nil <|
  And.intro @DrawK_op <|
  And.intro @DrawK_or <|
  And.intro @RunT_nil <|
  And.intro @RunT_or <|
  And.intro @RunT_0 <|
  And.intro @RunT_1 <|
  And.intro @RunT_2 <|
  And.intro @RunD_nil <|
  And.intro @RunD_0 <|
  And.intro @RunD_1 <|
  And.intro @RunD_2 <|
  And.intro @dstOk_some <|
  And.intro @dstOk_none <|
  And.intro @sP_move <|
  And.intro @sP_assign <|
  And.intro @sP_binOp <|
  And.intro @sP_unOp <|
  And.intro @sP_convert <|
  And.intro @sP_extract <|
  And.intro @sP_field <|
  And.intro @sP_index <|
  And.intro @sP_indexAddr <|
  And.intro @sP_fieldAddr <|
  And.intro @sP_load <|
  And.intro @sP_slice <|
  And.intro @sP_build <|
  And.intro @sP_buildSlice <|
  And.intro @sP_makeFunc <|
  And.intro @sP_makeInterface <|
  And.intro @sP_len <|
  And.intro @sP_call <|
  And.intro @sQ_move <|
  And.intro @sQ_load <|
  And.intro @sK_load <|
  And.intro @sK_store <|
  And.intro @sK_box <|
  And.intro @sK_alloc <|
  And.intro @sK_make <|
  And.intro @sK_append <|
  And.intro @sK_call <|
  And.intro @sK_invoke <|
  And.intro @sK_buildSlice <|
  And.intro @sK_move <|
  And.intro @sK_assign <|
  And.intro @sK_binOp <|
  And.intro @sK_unOp <|
  And.intro @sK_convert <|
  And.intro @sK_extract <|
  And.intro @sK_field <|
  And.intro @sK_index <|
  And.intro @sK_indexAddr <|
  And.intro @sK_fieldAddr <|
  And.intro @sK_slice <|
  And.intro @sK_slice3 <|
  And.intro @sK_cap <|
  And.intro @sK_copy <|
  And.intro @capK_t <|
  And.intro @copyK_t <|
  And.intro @sliceNK_t <|
  And.intro @growZK_t <|
  And.intro @sK_build <|
  And.intro @sK_makeFunc <|
  And.intro @sK_makeInterface <|
  And.intro @sK_len <|
  And.intro @guard_none <|
  And.intro @len1_eq <|
  And.intro @app2_eq <|
  And.intro @bin_add <|
  And.intro @bin_sub <|
  And.intro @bin_mul <|
  And.intro @bin_quo <|
  And.intro @bin_rem <|
  And.intro @bin_and <|
  And.intro @bin_or <|
  And.intro @bin_xor <|
  And.intro @bin_eql <|
  And.intro @bin_neq <|
  And.intro @bin_lss <|
  And.intro @bin_leq <|
  And.intro @bin_gtr <|
  And.intro @bin_geq <|
  And.intro @bin_shl <|
  And.intro @bin_shr <|
  And.intro @bin_seql <|
  And.intro @bin_sneq <|
  And.intro @bin_sadd <|
  And.intro @conv_eq <|
  And.intro @conv_int <|
  And.intro @conv_bs <|
  And.intro @conv_sb <|
  And.intro @conv_ss <|
  And.intro @extrK_u <|
  And.intro @fieldK_u <|
  And.intro @indexAddrK_u <|
  And.intro @fieldAddrK_u <|
  And.intro @sliceK_u <|
  And.intro @lenK_u <|
  And.intro @buildK_u <|
  And.intro @buildSliceK_u <|
  And.intro @baseK_u <|
  And.intro @appendK_u <|
  And.intro @makeK_u <|
  And.intro @callK_x <|
  And.intro @CallX_fn <|
  And.intro @sQ_call <|
  And.intro @callQK_t <|
  And.intro @CallQ_fn <|
  And.intro @cwp_scope_t <|
  And.intro @cwp_range_t <|
  And.intro @AJump_normal <|
  And.intro @AJump_ret <|
  And.intro @AJump_exit <|
  And.intro @AJump_goto <|
  And.intro @convE_x <|
  And.intro @CvX_sc <|
  And.intro @CvX_imm <|
  And.intro @CvX_own <|
  And.intro @sP_min <|
  And.intro @sP_max <|
  And.intro @sK_min <|
  And.intro @sK_max <|
  And.intro @bin_fneql <|
  And.intro @bin_fnneq <|
  And.intro @convB_u8 <|
  And.intro @convB_i32 <|
  And.intro @conv_is <|
  And.intro @callPK_t <|
  And.intro @unK_u <|
  And.intro @bsK_true <|
  And.intro @bsK_false <|
  And.intro @index_u <|
  And.intro @cond_true.{1} <|
  And.intro @cond_false.{1} <|
  And.intro @loadK_ip <|
  And.intro @loadE_ip <|
  And.intro @loadE_ptr <|
  And.intro @storeK_ptr <|
  And.intro @kindsOf_nil <|
  And.intro @put_same <|
  And.intro @put_other <|
  And.intro @guard_at <|
  And.intro @guardAt_succ <|
  And.intro @wadd64 <|
  And.intro @wadd64n <|
  And.intro @wmul64 <|
  And.intro @wmul64n <|
  And.intro @wmul64m <|
  And.intro @wsub64 <|
  And.intro @wsub64n <|
  And.intro @wcast64 <|
  And.intro @bin_beql <|
  And.intro @bin_bneq <|
  And.intro @bin_ageql <|
  And.intro @bin_agneq <|
  And.intro @bin_pneql <|
  And.intro @bin_pnneq <|
  And.intro @bin_nneql <|
  And.intro @bin_nnneq <|
  And.intro @cwp_cond_t <|
  And.intro @sP_pick_t <|
  And.intro @sK_pick_t <|
  And.intro @Req_t <|
  And.intro @ReqT_true <|
  And.intro @optK_t <|
  And.intro @optT_some <|
  And.intro @guardAt_t <|
  And.intro @guardT_true <|
  And.intro @guardT_false <|
  And.intro @guardT_true' <|
  And.intro @guardT_false' <|
  And.intro @guardT_skip <|
  And.intro @condT_true <|
  And.intro @condT_false <|
  And.intro @pickT_true <|
  And.intro @pickT_false <|
  And.intro @ownAt_some <|
  And.intro @ownAt_none <|
  And.intro @cutAt_some <|
  And.intro @cutAt_none <|
  And.intro @growAt_some <|
  And.intro @growAt_none <|
  And.intro @rawAt_some <|
  And.intro @rawAt_none <|
  And.intro @own2_eq <|
  And.intro @ownK_u <|
  And.intro @ownJ_some <|
  And.intro @ownJ_none <|
  And.intro @rowK_u <|
  And.intro @sQ_len <|
  And.intro @sQ_lookup <|
  And.intro @sK_lookup <|
  And.intro @sK_upd <|
  And.intro @sK_mkmap <|
  And.intro @sK_range <|
  And.intro @sK_next <|
  And.intro @sK_entry <|
  And.intro @len2_eq <|
  And.intro @lenE_u <|
  And.intro @lookE_u <|
  And.intro @updK_u <|
  And.intro @updJ_none <|
  And.intro @updJ_some <|
  And.intro @mapK_false <|
  And.intro @FzT_nil <|
  And.intro @FzT_cons <|
  And.intro @sK_ins <|
  And.intro @sP_nil <|
  And.intro @sQ_nil <|
  And.intro @sK_nil <|
  And.intro @optK'_eq <|
  And.intro @app3_slice <|
  And.intro @app3_str <|
  And.intro @app3_int <|
  And.intro @own3_slice <|
  And.intro @own3_str <|
  And.intro @own3_int <|
  And.intro @bin_mneql <|
  And.intro @bin_mnneq <|
  And.intro @bin_mnneql <|
  And.intro @bin_mnnneq <|
  And.intro @bin_slss <|
  And.intro @bin_sgtr <|
  And.intro @KeepT_nil <|
  And.intro @KeepT_cons <|
  And.intro @KeepQ_nil <| @KeepQ_cons
def aD := And.intro @treeOf_nil <|
  And.intro @treeOf_cons <|
  And.intro @kindsOf_cons <|
  And.intro @killO_some <|
  And.intro @killO_none <|
  And.intro @ev_tmp <|
  And.intro @ev_const <|
  And.intro @ev_func <|
  And.intro @cst_int <|
  And.intro @cst_bool <|
  And.intro @cst_string <|
  And.intro @cst_slice <|
  And.intro @put_none <|
  And.intro @true_and <|
  And.intro @and_true <|
  And.intro @Bool.false_eq_true <|
  And.intro @false_implies <|
  And.intro @true_implies <|
  And.intro @List.getD_cons_zero.{0} <|
  And.intro @List.getD_cons_succ.{0} <|
  And.intro @List.getD_nil.{0} <|
  And.intro @List.map_cons.{0,0} <|
  And.intro @List.map_nil.{0,0} <|
  And.intro @List.length_cons.{0} <|
  And.intro @List.length_nil.{0} <|
  And.intro @Option.map_some.{0,0} <|
  And.intro @Option.map_none.{0,0} <|
  And.intro @List.getElem?_cons_zero.{0} <|
  And.intro @List.getElem?_cons_succ.{0} <|
  And.intro @List.contains_cons.{0} <|
  And.intro @List.contains_nil.{0} <|
  And.intro @strip_sc_int <|
  And.intro @strip_sc_bool <|
  And.intro @strip_sc_string <|
  And.intro @strip_nil <|
  And.intro @strip_imm <|
  And.intro @strip_agg <|
  And.intro @strip_ptr <|
  And.intro @List.append_nil.{0} <|
  And.intro @List.nil_append.{0} <|
  And.intro @List.cons_append.{0} <|
  And.intro @or_self <|
  And.intro @or_false <|
  And.intro @false_or <|
  And.intro @or_true <|
  And.intro @Nat.mul_one <|
  And.intro @Nat.zero_add <|
  And.intro @Nat.add_zero <|
  And.intro @beq_self_eq_true.{0} <|
  And.intro @encB_length <|
  And.intro @encB_isU8 <|
  And.intro @strOf_encB <|
  And.intro @set_get <|
  And.intro @set_set <|
  And.intro @set_new_set <|
  And.intro @Bool.true_or <|
  And.intro @Bool.or_true <|
  And.intro @Bool.false_or <|
  And.intro @Bool.or_false <|
  And.intro @TokO_tail <|
  And.intro @TokO_nil <|
  And.intro @ne_eq.{1} <|
  And.intro @not_false_eq_true <|
  And.intro @not_true_eq_false <|
  And.intro @maxLen_eq <|
  And.intro @wrapI <|
  And.intro @n8xor <|
  And.intro @n8or <|
  And.intro @n8and <|
  And.intro @n8wadd <|
  And.intro @n8wsub <|
  And.intro @n8wmul <|
  And.intro @n8eq <|
  And.intro @n8eq0 <|
  And.intro @Int.toNat_natCast <|
  And.intro @n8mod2 <|
  And.intro @n8div2 <|
  And.intro @n8mul2 <|
  And.intro @oneCell_int <|
  And.intro @oneCell_bool <|
  And.intro @oneCell_string <|
  And.intro @oneCell_slice <|
  And.intro @oneCell_pointer <|
  And.intro @List.take_zero.{0} <|
  And.intro @List.drop_zero.{0} <|
  And.intro @List.drop_succ_cons.{0} <|
  And.intro @List.take_succ_cons.{0} <|
  And.intro @List.drop_nil.{0} <|
  And.intro @List.take_nil.{0} <|
  And.intro @gt_iff_lt.{0} <|
  And.intro @Nat.lt_irrefl <|
  And.intro @List.length_append.{0} <|
  And.intro @encB_snoc <|
  And.intro @Nat.not_lt_zero <|
  And.intro @n8shr4 <|
  And.intro @n8div16 <|
  And.intro @n8mod16 <|
  And.intro @n8and15 <|
  And.intro @bits_u8 <|
  And.intro @bits_u64 <|
  And.intro @encB_two <|
  And.intro @decide_false <|
  And.intro @decide_true <|
  And.intro @min48 <|
  And.intro @min18 <|
  And.intro @min88 <|
  And.intro @List.length_set.{0} <|
  And.intro @CallX_fn <|
  And.intro @CallQ_fn <|
  And.intro @CvX_sc <|
  And.intro @CvX_imm <|
  And.intro @CvX_own <|
  And.intro @minA_min <|
  And.intro @minA_max <|
  And.intro @cst_nilF <|
  And.intro @fnE_fn <|
  And.intro @convB_u8 <|
  And.intro @convB_i32 <|
  And.intro @size_mk <|
  And.intro @data_mk <|
  And.intro @n8mul16 <|
  And.intro @Int.cast_ofNat_Int <|
  And.intro @Int.natCast_zero <|
  And.intro @Int.natCast_one <|
  And.intro @boolE_bool <|
  And.intro @ptrE_ptr <|
  And.intro @Bool.not_true <|
  And.intro @Bool.not_false <|
  And.intro @bne_self_eq_false.{0} <|
  And.intro @List.append_eq.{0} <|
  And.intro @extrA_tup <|
  And.intro @liveO_some <|
  And.intro @aggO_agg <|
  And.intro @fpA_ip <|
  And.intro @fpA_ptr <|
  And.intro @unA_not <|
  And.intro @unA_neg <|
  And.intro @ReqT_true <|
  And.intro @ReqT_of <|
  And.intro @optT_some <|
  And.intro @guardT_true <|
  And.intro @guardT_false <|
  And.intro @guardT_true' <|
  And.intro @guardT_false' <|
  And.intro @guardT_skip <|
  And.intro @condT_true <|
  And.intro @condT_false <|
  And.intro @pickT_true <|
  And.intro @pickT_false <|
  And.intro @fillA_n <|
  And.intro @fillA_c <|
  And.intro @putC_eq <|
  And.intro @nilR_nil <|
  And.intro @nilR_imm <|
  And.intro @nilR_own <|
  And.intro @nilR_ip <|
  And.intro @nilR_str <|
  And.intro @mapO_some <|
  And.intro @updJ_none <|
  And.intro @updJ_some <|
  And.intro @lookV_ok <|
  And.intro @lookV_no <|
  And.intro @mapM_mp <|
  And.intro @mapA_mp <|
  And.intro @mapA_nil <|
  And.intro @mapB_mp <|
  And.intro @lenM_slice <|
  And.intro @lenM_str <|
  And.intro @lenM_arr <|
  And.intro @lenM_nil <|
  And.intro @eqG_int <|
  And.intro @eqG_str <|
  And.intro @intE_int <|
  And.intro @strE_str <|
  And.intro @chkA_sc <|
  And.intro @chkU_int <|
  And.intro @chkU_str <|
  And.intro @findA_nil <|
  And.intro @Option.isSome_none.{0} <|
  And.intro @Option.isSome_some.{0} <|
  And.intro @Option.getD_some.{0} <|
  And.intro @Option.getD_none.{0} <|
  And.intro @FzT_nil <|
  And.intro @FzT_cons <|
  And.intro @ptrO_ptr <|
  And.intro @zerS_eq <|
  And.intro @lenS_own <|
  And.intro @lenS_imm <|
  And.intro @lenS_nil <|
  And.intro @List.length_replicate.{0} <|
  And.intro @List.getElem?_toArray.{0} <|
  And.intro @List.length_map.{0,0} <|
  And.intro @ordL_nil <|
  And.intro @ordL_cons <|
  And.intro @selL_nil <|
  And.intro @selL_cons <|
  And.intro @selO_some <|
  And.intro @strip0_sc_int <|
  And.intro @strip0_sc_bool <|
  And.intro @strip0_sc_string <|
  And.intro @strip0_nil <|
  And.intro @strip0_imm <|
  And.intro @strip0_ptr <|
  And.intro @strip0_own <|
  And.intro @strip0_mp <|
  And.intro @strip0_ip <|
  And.intro @strip0_pn <|
  And.intro @strip0_mn <|
  And.intro @strip0_encB <|
  And.intro @List.all_toArray.{0} <|
  And.intro @List.all_cons.{0} <|
  And.intro @List.all_nil.{0} <|
  And.intro @Bool.and_true <|
  And.intro @Bool.true_and <|
  And.intro @cst_pointer <|
  And.intro @cst_map <|
  And.intro @mapE_map <|
  And.intro @strip_own <|
  And.intro @strip_mp <|
  And.intro @strip_fn <|
  And.intro @strip_ip <|
  And.intro @strip_pn <|
  And.intro @strip_mn <|
  And.intro @KeepT_nil <|
  And.intro @KeepT_cons <|
  And.intro @KeepQ_nil <|
  And.intro @KeepQ_cons <|
  And.intro @evK_done <|
  And.intro @anyS_at <|
  And.intro @strip_ifc <| @strip0_ifc
set_option maxRecDepth 20000
theorem rd0 (H H0 : AH) : frz H H0 (AV.any) = (AV.any).strip := rfl
theorem rd1 (H : AH) : ad H (AV.any) = True := rfl
theorem rd2 : (AV.any).cellsOf = [(AV.any)] := rfl
theorem rd3 : (AV.any).fine = (AV.any).one := rfl
theorem rd4 (P : Program) : aU P (AV.any) = none := rfl
theorem rd5 (H H0 : AH) (v : Value) : frz H H0 (AV.sc v) = (AV.sc v).strip := rfl
theorem rd6 (H : AH) (v : Value) : ad H (AV.sc v) = True := rfl
theorem rd7 (v : Value) : (AV.sc v).cellsOf = [(AV.sc v)] := rfl
theorem rd8 (v : Value) : (AV.sc v).fine = (AV.sc v).one := rfl
theorem rd9 (P : Program) (v : Value) : aU P (AV.sc v) = none := rfl
theorem rd10 (H H0 : AH) (k : Nat) (cells : List AV) (n : Nat) : frz H H0 (AV.imm k cells n) = (AV.imm k cells n).strip := rfl
theorem rd11 (H : AH) (k : Nat) (cells : List AV) (n : Nat) : ad H (AV.imm k cells n) = True := rfl
theorem rd12 (k : Nat) (cells : List AV) (n : Nat) : (AV.imm k cells n).cellsOf = [(AV.imm k cells n)] := rfl
theorem rd13 (k : Nat) (cells : List AV) (n : Nat) : (AV.imm k cells n).fine = (AV.imm k cells n).one := rfl
theorem rd14 (k : Nat) (cells : List AV) (n : Nat) : (AV.imm k cells n).one = true := rfl
theorem rd15 (P : Program) (k : Nat) (cells : List AV) (n : Nat) : aU P (AV.imm k cells n) = none := rfl
theorem rd16 (P : Program) (H : AH) (u : TypeId) (s : List AV × Nat) (k : Nat) (cells : List AV) (n : Nat) : aZ P H (some (.slice u)) (some s) (AV.imm k cells n) = none := rfl
theorem rd17 (H H0 : AH) (cells : List AV) (off : Nat) : frz H H0 (AV.ip cells off) = (AV.ip cells off).strip := rfl
theorem rd18 (H : AH) (cells : List AV) (off : Nat) : ad H (AV.ip cells off) = True := rfl
theorem rd19 (cells : List AV) (off : Nat) : (AV.ip cells off).cellsOf = [(AV.ip cells off)] := rfl
theorem rd20 (cells : List AV) (off : Nat) : (AV.ip cells off).fine = (AV.ip cells off).one := rfl
theorem rd21 (cells : List AV) (off : Nat) : (AV.ip cells off).one = true := rfl
theorem rd22 (P : Program) (H : AH) (u : TypeId) (s : List AV × Nat) (cells : List AV) (off : Nat) : aZ P H (some (.slice u)) (some s) (AV.ip cells off) = none := rfl
theorem rd23 (h off n : Nat) : (AV.own h off n).cellsOf = [(AV.own h off n)] := rfl
theorem rd24 (h off n : Nat) : (AV.own h off n).fine = (AV.own h off n).one := rfl
theorem rd25 (h off n : Nat) : (AV.own h off n).one = true := rfl
theorem rd26 (P : Program) (h off n : Nat) : aU P (AV.own h off n) = none := rfl
theorem rd27 (H H0 : AH) (h off : Nat) : frz H H0 (AV.ptr h off) = (AV.ptr h off).strip := rfl
theorem rd28 (H : AH) (h off : Nat) : ad H (AV.ptr h off) = True := rfl
theorem rd29 (h off : Nat) : (AV.ptr h off).cellsOf = [(AV.ptr h off)] := rfl
theorem rd30 (h off : Nat) : (AV.ptr h off).fine = (AV.ptr h off).one := rfl
theorem rd31 (h off : Nat) : (AV.ptr h off).one = true := rfl
theorem rd32 (P : Program) (H : AH) (u : TypeId) (s : List AV × Nat) (h off : Nat) : aZ P H (some (.slice u)) (some s) (AV.ptr h off) = none := rfl
theorem rd33 (H H0 : AH) (h : Nat) : frz H H0 (AV.mp h) = (AV.mp h).strip := rfl
theorem rd34 (H : AH) (h : Nat) : ad H (AV.mp h) = True := rfl
theorem rd35 (h : Nat) : (AV.mp h).cellsOf = [(AV.mp h)] := rfl
theorem rd36 (h : Nat) : (AV.mp h).fine = (AV.mp h).one := rfl
theorem rd37 (h : Nat) : (AV.mp h).one = true := rfl
theorem rd38 (P : Program) (h : Nat) : aU P (AV.mp h) = none := rfl
theorem rd39 (H H0 : AH) (h : Nat) : frz H H0 (AV.yld h) = (AV.yld h).strip := rfl
theorem rd40 (H : AH) (h : Nat) : ad H (AV.yld h) = True := rfl
theorem rd41 (h : Nat) : (AV.yld h).cellsOf = [(AV.yld h)] := rfl
theorem rd42 (h : Nat) : (AV.yld h).fine = (AV.yld h).one := rfl
theorem rd43 (h : Nat) : (AV.yld h).one = true := rfl
theorem rd44 (P : Program) (h : Nat) : aU P (AV.yld h) = none := rfl
theorem rd45 (H H0 : AH) (cells : List AV) : frz H H0 (AV.agg cells) = (AV.agg cells).strip := rfl
theorem rd46 (H : AH) (cells : List AV) : ad H (AV.agg cells) = True := rfl
theorem rd47 (P : Program) (cells : List AV) : aU P (AV.agg cells) = none := rfl
theorem rd48 (P : Program) (H : AH) (u : TypeId) (s : List AV × Nat) (cells : List AV) : aZ P H (some (.slice u)) (some s) (AV.agg cells) = none := rfl
theorem rd49 (H H0 : AH) (vs : List AV) : frz H H0 (AV.tup vs) = (AV.tup vs).strip := rfl
theorem rd50 (H : AH) (vs : List AV) : ad H (AV.tup vs) = True := rfl
theorem rd51 (vs : List AV) : (AV.tup vs).cellsOf = [(AV.tup vs)] := rfl
theorem rd52 (vs : List AV) : (AV.tup vs).fine = (AV.tup vs).one := rfl
theorem rd53 (P : Program) (vs : List AV) : aU P (AV.tup vs) = none := rfl
theorem rd54 (H H0 : AH) (f : Fn) (first captured : List AV) : frz H H0 (AV.fn f first captured) = (AV.fn f first captured).strip := rfl
theorem rd55 (H : AH) (f : Fn) (first captured : List AV) : ad H (AV.fn f first captured) = True := rfl
theorem rd56 (f : Fn) (first captured : List AV) : (AV.fn f first captured).cellsOf = [(AV.fn f first captured)] := rfl
theorem rd57 (f : Fn) (first captured : List AV) : (AV.fn f first captured).fine = (AV.fn f first captured).one := rfl
theorem rd58 (f : Fn) (first captured : List AV) : (AV.fn f first captured).one = true := rfl
theorem rd59 (H H0 : AH) (t : TypeId) (v : AV) : frz H H0 (AV.ifc t v) = (AV.ifc t v).strip := rfl
theorem rd60 (H : AH) (t : TypeId) (v : AV) : ad H (AV.ifc t v) = True := rfl
theorem rd61 (t : TypeId) (v : AV) : (AV.ifc t v).cellsOf = [(AV.ifc t v)] := rfl
theorem rd62 (t : TypeId) (v : AV) : (AV.ifc t v).fine = (AV.ifc t v).one := rfl
theorem rd63 (t : TypeId) (v : AV) : (AV.ifc t v).one = true := rfl
theorem rd64 (P : Program) (t : TypeId) (v : AV) : aU P (AV.ifc t v) = none := rfl
theorem rd65 (H H0 : AH) (hr hm b clock : Nat) (ks vs : List AV) (ms : Array MapEntry) : frz H H0 (AV.itr hr hm b clock ks vs ms) = (AV.itr hr hm b clock ks vs ms).strip := rfl
theorem rd66 (H : AH) (hr hm b clock : Nat) (ks vs : List AV) (ms : Array MapEntry) : ad H (AV.itr hr hm b clock ks vs ms) = True := rfl
theorem rd67 (hr hm b clock : Nat) (ks vs : List AV) (ms : Array MapEntry) : (AV.itr hr hm b clock ks vs ms).cellsOf = [(AV.itr hr hm b clock ks vs ms)] := rfl
theorem rd68 (hr hm b clock : Nat) (ks vs : List AV) (ms : Array MapEntry) : (AV.itr hr hm b clock ks vs ms).fine = (AV.itr hr hm b clock ks vs ms).one := rfl
theorem rd69 (hr hm b clock : Nat) (ks vs : List AV) (ms : Array MapEntry) : (AV.itr hr hm b clock ks vs ms).one = true := rfl
theorem rd70 (P : Program) (hr hm b clock : Nat) (ks vs : List AV) (ms : Array MapEntry) : aU P (AV.itr hr hm b clock ks vs ms) = none := rfl
theorem rd71 (t : Tmp) (v2 : Value) : aH (.tmp t) (.const v2) = false := rfl
theorem rd72 (t : Tmp) (g2 : Nat) : aH (.tmp t) (.global g2) = false := rfl
theorem rd73 (t : Tmp) (f2 : FuncId) : aH (.tmp t) (.func f2) = false := rfl
theorem rd74 (v : Value) (t2 : Tmp) : aH (.const v) (.tmp t2) = false := rfl
theorem rd75 (v : Value) (v2 : Value) : aH (.const v) (.const v2) = false := rfl
theorem rd76 (v : Value) (g2 : Nat) : aH (.const v) (.global g2) = false := rfl
theorem rd77 (v : Value) (f2 : FuncId) : aH (.const v) (.func f2) = false := rfl
theorem rd78 (g : Nat) (t2 : Tmp) : aH (.global g) (.tmp t2) = false := rfl
theorem rd79 (g : Nat) (v2 : Value) : aH (.global g) (.const v2) = false := rfl
theorem rd80 (g : Nat) (g2 : Nat) : aH (.global g) (.global g2) = false := rfl
theorem rd81 (g : Nat) (f2 : FuncId) : aH (.global g) (.func f2) = false := rfl
theorem rd82 (f : FuncId) (t2 : Tmp) : aH (.func f) (.tmp t2) = false := rfl
theorem rd83 (f : FuncId) (v2 : Value) : aH (.func f) (.const v2) = false := rfl
theorem rd84 (f : FuncId) (g2 : Nat) : aH (.func f) (.global g2) = false := rfl
theorem rd85 (f : FuncId) (f2 : FuncId) : aH (.func f) (.func f2) = false := rfl
theorem rd86 : aY (.invalid) = false := rfl
theorem rd87 : aY (.bool) = false := rfl
theorem rd88 (k : IntKind) : aY (.int k) = false := rfl
theorem rd89 (k : FloatKind) : aY (.float k) = false := rfl
theorem rd90 (k : FloatKind) : aY (.complex k) = false := rfl
theorem rd91 : aY (.string) = false := rfl
theorem rd92 : aY (.unsafePointer) = false := rfl
theorem rd93 (t : TypeId) : aY (.pointer t) = false := rfl
theorem rd94 (t : TypeId) : aY (.slice t) = false := rfl
theorem rd95 (t u : TypeId) : aY (.map t u) = false := rfl
theorem rd96 (d : ChanDir) (t : TypeId) : aY (.chan d t) = false := rfl
theorem rd97 (a b : Array TypeId) (c : Bool) : aY (.func a b c) = false := rfl
theorem rd98 (a : _) : aY (.interface a) = false := rfl
theorem rd99 (a : Array TypeId) : aY (.tuple a) = false := rfl
theorem rd100 (s : String) (t : TypeId) : aY (.named s t) = false := rfl
theorem rd101 (σ : Sg) (H : AH) (a : Tmp) (t : TypeId) : aN σ H (.cell a t) = True := rfl
theorem rd102 (P : Program) (rs : List ResultVar) (R : AV → AH → Prop) (n : Nat) (s : Sg) (H : AH) : aR P rs R (.exit n) s H = False := rfl
theorem rd103 (P : Program) (rs : List ResultVar) (v : AV) (H0 : AH) (n : Nat) (s : Sg) (H : AH) : aO P rs v H0 (.exit n) s H = False := rfl
theorem rd104 (P : Program) (rs : List ResultVar) (R : AV → AH → Prop) (n : Nat) (s : Sg) (H : AH) : aR P rs R (.goto n) s H = False := rfl
theorem rd105 (P : Program) (rs : List ResultVar) (v : AV) (H0 : AH) (n : Nat) (s : Sg) (H : AH) : aO P rs v H0 (.goto n) s H = False := rfl
theorem rd106 (P : Program) (rs : List ResultVar) (R : AV → AH → Prop) (l : List PanicEntry) (s : Sg) (H : AH) : aR P rs R (.panic l) s H = False := rfl
theorem rd107 (P : Program) (rs : List ResultVar) (v : AV) (H0 : AH) (l : List PanicEntry) (s : Sg) (H : AH) : aO P rs v H0 (.panic l) s H = False := rfl
theorem rd108 (P : Program) (rs : List ResultVar) (R : AV → AH → Prop)  (s : Sg) (H : AH) : aR P rs R (.outgrown) s H = False := rfl
theorem rd109 (P : Program) (rs : List ResultVar) (v : AV) (H0 : AH)  (s : Sg) (H : AH) : aO P rs v H0 (.outgrown) s H = False := rfl
def zD := And.intro @aG.eq_1 <|
  And.intro @ixA.eq_1 <|
  And.intro @ixA.eq_2 <|
  And.intro @ixA.eq_3 <|
  And.intro @ixA.eq_4 <|
  And.intro @aX.eq_1 <|
  And.intro @aX.eq_2 <|
  And.intro @aX.eq_3 <|
  And.intro @aX.eq_4 <|
  And.intro @aX.eq_5 <|
  And.intro @aV.eq_1 <|
  And.intro @aV.eq_2 <|
  And.intro @aV.eq_3 <|
  And.intro @aV.eq_4 <|
  And.intro @aV.eq_5 <|
  And.intro @ag.eq_1 <|
  And.intro @ag.eq_2 <|
  And.intro @aT.eq_1 <|
  And.intro @ae.eq_1 <|
  And.intro @ae.eq_2 <|
  And.intro @mkA.eq_1 <|
  And.intro @ab.eq_1 <|
  And.intro @ab.eq_2 <|
  And.intro @bnd.eq_1 <|
  And.intro @bnd.eq_2 <|
  And.intro @aH.eq_1 <|
  And.intro @aK.eq_1 <|
  And.intro @cvO.eq_1 <|
  And.intro @cvO.eq_2 <|
  And.intro @aJ.eq_1 <|
  And.intro @aY.eq_1 <|
  And.intro @aY.eq_2 <|
  And.intro @aW.eq_1 <|
  And.intro @aE.eq_1 <|
  And.intro @aE.eq_2 <|
  And.intro @aF.eq_1 <|
  And.intro @aF.eq_2 <|
  And.intro @aM.eq_1 <|
  And.intro @aA.eq_1 <|
  And.intro @aA.eq_2 <|
  And.intro @aC.eq_1 <|
  And.intro @aC.eq_2 <|
  And.intro @aB.eq_1 <|
  And.intro @aB.eq_2 <|
  And.intro @aN.eq_1 <|
  And.intro @ad.eq_1 <|
  And.intro @frz.eq_1 <|
  And.intro @aR.eq_1 <|
  And.intro @aR.eq_2 <|
  And.intro @aL.eq_1 <|
  And.intro @AV.cellsOf.eq_1 <|
  And.intro @AV.fine.eq_1 <|
  And.intro @AV.one.eq_1 <|
  And.intro @AV.one.eq_2 <|
  And.intro @AV.one.eq_3 <|
  And.intro @AV.one.eq_4 <|
  And.intro @aQ.eq_1 <|
  And.intro @aQ.eq_2 <|
  And.intro @indexK.aggOf.eq_1 <|
  And.intro @aZ.eq_1 <|
  And.intro @aZ.eq_2 <|
  And.intro @aU.eq_1 <|
  And.intro @aU.eq_2 <|
  And.intro @aU.eq_3 <|
  And.intro @aU.eq_4 <|
  And.intro @invA.eq_1 <|
  And.intro @rd0 <|
  And.intro @rd1 <|
  And.intro @rd2 <|
  And.intro @rd3 <|
  And.intro @rd4 <|
  And.intro @rd5 <|
  And.intro @rd6 <|
  And.intro @rd7 <|
  And.intro @rd8 <|
  And.intro @rd9 <|
  And.intro @rd10 <|
  And.intro @rd11 <|
  And.intro @rd12 <|
  And.intro @rd13 <|
  And.intro @rd14 <|
  And.intro @rd15 <|
  And.intro @rd16 <|
  And.intro @rd17 <|
  And.intro @rd18 <|
  And.intro @rd19 <|
  And.intro @rd20 <|
  And.intro @rd21 <|
  And.intro @rd22 <|
  And.intro @rd23 <|
  And.intro @rd24 <|
  And.intro @rd25 <|
  And.intro @rd26 <|
  And.intro @rd27 <|
  And.intro @rd28 <|
  And.intro @rd29 <|
  And.intro @rd30 <|
  And.intro @rd31 <|
  And.intro @rd32 <|
  And.intro @rd33 <|
  And.intro @rd34 <|
  And.intro @rd35 <|
  And.intro @rd36 <|
  And.intro @rd37 <|
  And.intro @rd38 <|
  And.intro @rd39 <|
  And.intro @rd40 <|
  And.intro @rd41 <|
  And.intro @rd42 <|
  And.intro @rd43 <|
  And.intro @rd44 <|
  And.intro @rd45 <|
  And.intro @rd46 <|
  And.intro @rd47 <|
  And.intro @rd48 <|
  And.intro @rd49 <|
  And.intro @rd50 <|
  And.intro @rd51 <|
  And.intro @rd52 <|
  And.intro @rd53 <|
  And.intro @rd54 <|
  And.intro @rd55 <|
  And.intro @rd56 <|
  And.intro @rd57 <|
  And.intro @rd58 <|
  And.intro @rd59 <|
  And.intro @rd60 <|
  And.intro @rd61 <|
  And.intro @rd62 <|
  And.intro @rd63 <|
  And.intro @rd64 <|
  And.intro @rd65 <|
  And.intro @rd66 <|
  And.intro @rd67 <|
  And.intro @rd68 <|
  And.intro @rd69 <|
  And.intro @rd70 <|
  And.intro @rd71 <|
  And.intro @rd72 <|
  And.intro @rd73 <|
  And.intro @rd74 <|
  And.intro @rd75 <|
  And.intro @rd76 <|
  And.intro @rd77 <|
  And.intro @rd78 <|
  And.intro @rd79 <|
  And.intro @rd80 <|
  And.intro @rd81 <|
  And.intro @rd82 <|
  And.intro @rd83 <|
  And.intro @rd84 <|
  And.intro @rd85 <|
  And.intro @rd86 <|
  And.intro @rd87 <|
  And.intro @rd88 <|
  And.intro @rd89 <|
  And.intro @rd90 <|
  And.intro @rd91 <|
  And.intro @rd92 <|
  And.intro @rd93 <|
  And.intro @rd94 <|
  And.intro @rd95 <|
  And.intro @rd96 <|
  And.intro @rd97 <|
  And.intro @rd98 <|
  And.intro @rd99 <|
  And.intro @rd100 <|
  And.intro @rd101 <|
  And.intro @rd102 <|
  And.intro @rd104 <|
  And.intro @rd106 <| @rd108
def zP := And.intro @aO.eq_1 <|
  And.intro @aO.eq_2 <|
  And.intro @rd103 <|
  And.intro @rd105 <|
  And.intro @rd107 <| @rd109
end Go.Abs
end
section
namespace Go.Abs
open Go Go.RowKit

def lowL : Nat → Nat → List UInt8
  | 0,_ => []
  | k + 1,n => UInt8.ofNat n :: lowL k (n / 256)
theorem lowL_length (k n : Nat) : (lowL k n).length = k := by
  induction k generalizing n with
  | zero => rfl
  | succ k ih => simp [lowL,ih]
theorem lowL_get (k n i : Nat) (h : i < k) : (lowL k n)[i]? = some (UInt8.ofNat (n / 256 ^ i)) := by
  induction k generalizing n i with
  | zero => omega
  | succ k ih =>
    cases i with
    | zero => simp [lowL]
    | succ i =>
      simp only [lowL,List.getElem?_cons_succ]
      rw [ih _ _ (by omega),Nat.div_div_eq_div_mul,Nat.pow_succ,Nat.mul_comm 256]
theorem lowL_take (k n i : Nat) (h : i < k) : (lowL k n).take (i + 1) = (lowL k n).take i ++ [UInt8.ofNat (n / 256 ^ i)] := by
  rw [List.take_add_one,lowL_get k n i h]; rfl
def cU : List UInt8 → Nat
  | [] => 0
  | b :: r => b.toNat + 256 * cU r
theorem worthL_lt (l : List UInt8) : cU l < 256 ^ l.length := by
  induction l with
  | nil => simp [cU]
  | cons b r ih =>
    have := b.toNat_lt
    simp only [cU,List.length_cons,Nat.pow_succ]
    omega
theorem worthL_snoc (l : List UInt8) (b : UInt8) : cU (l ++ [b]) = cU l + 256 ^ l.length * b.toNat := by
  induction l with
  | nil => simp [cU]
  | cons c r ih => simp only [List.cons_append,cU,ih,List.length_cons,Nat.pow_succ]; rw [Nat.mul_add,Nat.mul_comm (256 ^ r.length) 256,Nat.mul_assoc]; omega
theorem or_add (a b i : Nat) (h : a < 256 ^ i) : a ||| b * 2 ^ (8 * i) = a + 256 ^ i * b := by
  have e : (256 : Nat) ^ i = 2 ^ (8 * i) := by rw [show (256 : Nat) = 2 ^ 8 from rfl,← Nat.pow_mul]
  rw [e] at h ⊢
  rw [Nat.or_comm,Nat.mul_comm b,← Nat.two_pow_add_eq_or_of_lt h b]; omega
theorem worthL_low (s n : Nat) : cU (lowL s n) = n % 256 ^ s := by
  induction s generalizing n with
  | zero => simp [lowL,cU,Nat.mod_one]
  | succ s ih =>
    simp only [lowL,cU,ih,UInt8.toNat_ofNat']
    have e : 256 ^ (s + 1) = 256 * 256 ^ s := by rw [Nat.pow_succ,Nat.mul_comm]
    rw [e,Nat.mod_mul]
theorem lowL_worth (l : List UInt8) : lowL l.length (cU l) = l := by
  induction l with
  | nil => rfl
  | cons b r ih =>
    simp only [List.length_cons,lowL,cU]
    have h1 : (b.toNat + 256 * cU r) / 256 = cU r := by have := b.toNat_lt; omega
    have h2 : UInt8.ofNat (b.toNat + 256 * cU r) = b := by
      apply UInt8.toNat_inj.1
      have := b.toNat_lt
      rw [UInt8.toNat_ofNat']; omega
    rw [h1,h2,ih]
theorem lowL_inj {k n m : Nat} (hn : n < 256 ^ k) (hm : m < 256 ^ k) (h : lowL k n = lowL k m) : n = m := by
  have := congrArg cU h
  rw [worthL_low,worthL_low,Nat.mod_eq_of_lt hn,Nat.mod_eq_of_lt hm] at this
  exact this

abbrev rowsV (ls : List (List UInt8)) : AV := .imm 0 (ls.map bytesV) ls.length
theorem getR {ls : List (List UInt8)} {i : Nat} (h : i < ls.length) : (ls.map bytesV)[i]? = some (.imm 0 (bw ls[i]) ls[i].length) := by simp [h]
theorem repA_bytes (n : Nat) : aQ [.sc (.int .u8 0)] n = bw (List.replicate n 0) := by
  induction n with
  | zero => rfl
  | succ n ih =>
    show .sc (.int .u8 0) :: aQ [.sc (.int .u8 0)] n = _
    rw [ih,List.replicate_succ]; rfl
theorem put_bytes {l : List UInt8} {i : Nat} {b : UInt8} (h : i < l.length) : bG (bw l) i [.sc (.int .u8 b.toNat)] = bw (l.set i b) := by
  rw [ah,encB_drop,encB_take]
  have e : ([.sc (.int .u8 b.toNat)] : List AV) = bw [b] := rfl
  rw [e,encB_append,encB_append,List.set_eq_take_append_cons_drop,if_pos h]
  rfl

structure Term where
  kind : UInt8
  parts : List (List UInt8)
deriving DecidableEq
def Term.cells (t : Term) : List AV := [.sc (.int .u8 t.kind.toNat),rowsV t.parts]
def dC (ts : List Term) : List AV := ts.flatMap Term.cells
theorem termsC_length (ts : List Term) : (dC ts).length = ts.length * 2 := by
  induction ts with
  | nil => rfl
  | cons t r ih => simp only [dC,List.flatMap_cons,List.length_append,List.length_cons] at *; rw [ih]; simp [Term.cells]; omega
theorem termsC_drop {ts : List Term} {i : Nat} (h : i < ts.length) : (dC ts).drop (i * 2) = ts[i].cells ++ dC (ts.drop (i + 1)) := by
  induction ts generalizing i with
  | nil => simp at h
  | cons t r ih =>
    cases i with
    | zero => simp [dC]
    | succ i =>
      have e : (i + 1) * 2 = (i * 2) + 1 + 1 := by omega
      have e1 : dC (t :: r) = .sc (.int .u8 t.kind.toNat) :: rowsV t.parts :: dC r := rfl
      rw [e,e1,List.drop_succ_cons,List.drop_succ_cons,ih (by simpa using h)]
      rfl
theorem termsC_load {ts : List Term} {i : Nat} (h : i < ts.length) : ((dC ts).drop (i * 2)).take 2 = [.sc (.int .u8 ts[i].kind.toNat),.imm 0 (ts[i].parts.map bytesV) ts[i].parts.length] := by
  rw [termsC_drop h]; rfl
theorem termsC_0 {ts : List Term} {i : Nat} (h : i < ts.length) : (dC ts)[i * 2]? = some (.sc (.int .u8 ts[i].kind.toNat)) := by
  have := congrArg (·[0]?) (termsC_drop h)
  simpa [Term.cells] using this
theorem termsC_1 {ts : List Term} {i : Nat} (h : i < ts.length) : (dC ts)[i * 2 + 1]? = some (.imm 0 (ts[i].parts.map bytesV) ts[i].parts.length) := by
  have := congrArg (·[1]?) (termsC_drop h)
  simpa [Term.cells] using this
theorem termsC_snoc (ts : List Term) (t : Term) : dC ts ++ [.sc (.int .u8 t.kind.toNat),.imm 0 (t.parts.map bytesV) t.parts.length] = dC (ts ++ [t]) := by simp [dC,Term.cells]
abbrev termV (t : Term) : AV := .agg [.sc (.int .u8 t.kind.toNat),.imm 0 (t.parts.map bytesV) t.parts.length]
theorem aj {H : AH} {k : Nat} {o : AObj} (h : H k = none) : (H.set k o).kill k = H := by
  funext j
  simp only [AH.set,AH.kill]
  split
  · rename_i e; rw [e,h]
  · rfl
theorem Sub.box {H : AH} {k : Nat} {o : AObj} (h : H k = none) : Abs.Sub H ((H.set k o).kill k) := by rw [aj h]; exact Abs.Sub.refl _
def Frz (H H0 : AH) (a b : AV) : Prop := ∀ (C : Ctx) (u : Value),C.H = H → WR C → Abs.Sub H0 H → VR C a u → VR { C with H := H0 } b u
theorem Frz.same {H H0 : AH} {a : AV} : Frz H H0 a a := fun C u h _ hs hv => hv.ext (Ext.weaken (C := C) H0 (by rw [h]; exact hs))
theorem Frz.strip {H H0 : AH} {a : AV} : Frz H H0 a a.strip := fun C u h _ hs hv => (hv.ext (Ext.weaken (C := C) H0 (by rw [h]; exact hs))).strip
theorem Frz.own {H H0 : AH} {k n : Nat} {cs : List AV} {e s : Nat} (hk : H k = some (.cells cs e s)) (h0 : H0 k = none) (hn : n * s ≤ cs.length) : Frz H H0 (.own k 0 n) (.imm 0 (cs.take (n * s)) n) := by
  intro C u h g hs hv
  subst h
  have := frz_sound g hs hv (fun hh off m cs' e' s' e1 e2 => by cases e1; rw [hk] at e2; cases e2; omega)
  have e5 : frz C.H H0 (.own k 0 n) = .imm 0 (cs.take (n * s)) n := by simp [frz,h0,hk]
  rw [e5] at this
  exact this
theorem Frz.tup2 {H H0 : AH} {a b a' b' : AV} (h : Frz H H0 a a') (g : Frz H H0 b b') : Frz H H0 (.tup [a,b]) (.tup [a',b']) := by
  intro C u hc w hs hv
  cases hv with
  | tup _ vs hsz hv =>
    refine .tup _ vs (by simpa using hsz) fun j hj => ?_
    match j,hj with
    | 0,_ => exact h C _ hc w hs (hv 0 (by simp))
    | 1,_ => exact g C _ hc w hs (hv 1 (by simp))
theorem ACalls.freeze {P : Program} {f : FuncId} {args : List AV} {H : AH} {R R' : AV → AH → Prop} (h : ACalls P f args H R) (hr : ∀ v H',R v H' → ∃ v' H0,Abs.Sub H0 H' ∧ Frz H' H0 v v' ∧ R' v' H0) : ACalls P f args H R' := by
  intro n i c w vs g hx
  refine (h n i c w vs g hx).mono ?_
  rintro u w' ⟨v,H',n',i',c',h2,h3,h4,h5⟩
  obtain ⟨v',H0,g1,g2,g3⟩ := hr v H' h2
  exact ⟨v',H0,n',i',c',g3,h3.weaken H0 g1,h4.trans (Ext.weaken (C := ⟨H',n',i',c',w'⟩) H0 g1),g2 ⟨H',n',i',c',w'⟩ u rfl h3 g1 h5⟩
def OwnB (l : List UInt8) (H : AH) (v : AV) (H' : AH) : Prop := ∃ k,k ≠ 0 ∧ H k = none ∧ v = .own k 0 l.length ∧ H' = H.set k (.cells (bw l) 5 1)
theorem OwnB.pure {P : Program} {f : FuncId} {args : List AV} {l : List UInt8} (h : ∀ H,ACalls P f args H (OwnB l H)) : APure P f args (bytesV l) := fun H => (h H).freeze (by
  rintro v H' ⟨k,hk0,hk,rfl,rfl⟩
  refine ⟨_,H,Abs.Sub.set_new hk,Frz.own set_get hk (by rw [encB_length]; omega),?_,rfl⟩
  rw [List.take_of_length_le (by rw [encB_length]; omega)])
end Go.Abs
end
section
namespace Go.Abs
open Go Go.RowKit

theorem tokCell {n : Nat} {i c : Nat → Nat} {H : AH} {w : World} (g : WR ⟨H, n, i, c, w⟩) {h e s j : Nat} {cs : List AV} (hh : H h = some (.cells cs e s)) (hj : cs[j]? = some (.sc (.slice none 0 0))) :
    ∃ n' i' c',WR ⟨(H.set n .nilt).set h (.cells (cs.set j (.imm n [] 0)) e s),n',i',c',w⟩ ∧ Ext ⟨H,n,i,c,w⟩ ⟨(H.set n .nilt).set h (.cells (cs.set j (.imm n [] 0)) e s),n',i',c',w⟩ := by
  have gN := g.nilt 0
  have eN := Ext.nilt g 0
  have hhn : h < n := g.lt h _ hh
  have ho : (H.set n .nilt) h = some (.cells cs e s) := by
    show (if h = n then _ else _) = _
    rw [if_neg (by omega)]; exact hh
  have hnt : ∀ m e' s',AObj.cells cs e s ≠ .tail m e' s' := by intro _ _ _ h; cases h
  have ex := Ext.put gN ho (o' := .cells (cs.set j (.imm n [] 0)) e s) rfl w rfl (fun b _ => rfl) rfl rfl rfl hnt
  refine ⟨n + 1,upd i n 0,upd c n 0,WR.put gN ho (o' := .cells (cs.set j (.imm n [] 0)) e s) rfl w rfl (fun b _ => rfl) rfl rfl rfl hnt ?_,eN.trans ex⟩
  obtain ⟨vs,fz,b1,b2,b3,b4,b5⟩ := gN.obj h _ ho
  refine ⟨vs,fz,b1,b2,b3,by simpa using b4,fun x hx => ?_⟩
  have hx' : x < cs.length := by simpa using hx
  refine ⟨?_,(b5 x hx').2⟩
  by_cases he : x = j
  · subst he
    have h1 := (b5 x hx').1
    have e1 : cs[x] = .sc (.slice none 0 0) := by rw [List.getElem?_eq_getElem hx'] at hj; exact Option.some.inj hj
    rw [e1] at h1
    rw [List.getElem_set_self,bQ h1]
    exact .imm n [] 0 none 0 (Nat.le_refl _) (Nat.zero_le _) (fun _ => ⟨Nat.lt_succ_self _,by show 0 = upd c n 0 n; rw [bC],.inr ⟨rfl,rfl⟩⟩) 0 0 (fun h => absurd rfl h) (fun _ => undef) (fun j h => absurd h (by simp)) (fun j h => absurd h (by simp))
  · rw [List.getElem_set_ne (by omega)]
    exact ((b5 x hx').1).ext ex

theorem ACalls.tokCell {P : Program} {f : FuncId} {args : List AV} {H : AH} {R R' : AV → AH → Prop} (h : ACalls P f args H R)
    (hr : ∀ v H',R v H' → ∃ b e s j cs,H' b = some (.cells cs e s) ∧ cs[j]? = some (.sc (.slice none 0 0)) ∧ ∀ k,k ≠ 0 → H' k = none → R' v ((H'.set k .nilt).set b (.cells (cs.set j (.imm k [] 0)) e s))) : ACalls P f args H R' := by
  intro n i c w vs g hx
  refine (h n i c w vs g hx).mono ?_
  rintro u w' ⟨v,H',n',i',c',h2,h3,h4,h5⟩
  obtain ⟨b,e,s,j,cs,g1,g2,g3⟩ := hr v H' h2
  obtain ⟨n2,i2,c2,k1,k2⟩ := Go.Abs.tokCell h3 g1 g2
  exact ⟨v,_,n2,i2,c2,g3 n' (Nat.ne_of_gt h3.pos) (bh h3),k1,h4.trans k2,h5.ext k2⟩
theorem Sub.free {H H' : AH} {k : Nat} (h : Abs.Sub H H') (g : H' k = none) : H k = none := by
  cases hk : H k with
  | none => rfl
  | some o => rw [h k o hk] at g; cases g
theorem Sub.set_free {H H' : AH} {k : Nat} {o : AObj} (h : Abs.Sub H H') (g : H k = none) : Abs.Sub H (H'.set k o) := fun x o' hx => by
  have hne : ¬ x = k := by rintro rfl; rw [g] at hx; cases hx
  rw [aP hne]
  exact h x o' hx
theorem Sub.kill_free {H H' : AH} {k : Nat} (h : Abs.Sub H H') (g : H k = none) : Abs.Sub H (H'.kill k) := fun x o' hx => by
  have hne : ¬ x = k := by rintro rfl; rw [g] at hx; cases hx
  simp only [AH.kill,if_neg hne]
  exact h x o' hx
theorem Sub.mset {A B : AH} {k : Nat} {o : AObj} (h : Abs.Sub A B) : Abs.Sub (A.set k o) (B.set k o) := fun x o' hx => by
  simp only [AH.set] at hx ⊢
  split at hx
  · rename_i e; rw [if_pos e]; exact hx
  · rename_i e; rw [if_neg e]; exact h x o' hx
theorem Sub.mkill {A B : AH} {k : Nat} (h : Abs.Sub A B) : Abs.Sub (A.kill k) (B.kill k) := fun x o' hx => by
  simp only [AH.kill] at hx ⊢
  split at hx
  · cases hx
  · rename_i e; rw [if_neg e]; exact h x o' hx
theorem bA {H : AH} {a b : Nat} {o : AObj} (h : H a = some o) (g : H b = none) : ¬ a = b := by
  rintro rfl
  rw [h] at g; cases g
theorem bH {H : AH} {k k' : Nat} {o o' : AObj} (h : H k = none) (hne : ¬ k = k') : ((H.set k o).set k' o').kill k = H.set k' o' := by
  funext x
  simp only [AH.set,AH.kill]
  by_cases h1 : x = k
  · subst h1; rw [if_pos rfl,if_neg hne,h]
  · rw [if_neg h1,if_neg h1]
theorem bZ {H : AH} {k k' : Nat} (h : ¬ k' = k) : (H.kill k) k' = H k' := by simp [AH.kill,h]
end Go.Abs
end
