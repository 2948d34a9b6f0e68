/-
  Several texts in one: each says what it proves.
  Conditions: none. Lemmas only.
-/
import Derived.Test.YtjlnpngaiphnmaaGreatRtG4
import Derived.Test.YtjlnpngaiphnmaaGreatRtG3
set_option linter.all false
section
set_option linter.unusedSimpArgs false
set_option linter.unusedVariables false
set_option maxRecDepth 20000
set_option maxHeartbeats 4000000
namespace Go.Proofs.YtjlnpngaiphnmaaGreat
open Go Go.Abs Go.Proofs
structure BM where
  ts : List Term
  d : Nat
  g : LogM
  made : List Ent
def idxM (a : Int) (n : Nat) : Nat := (a % 18446744073709551616).toNat % n
theorem idxM_lt {a : Int} {n : Nat} (h : 0 < n) : idxM a n < n := Nat.mod_lt _ h
theorem idx_eq (a : Int) (n : Nat) (h : 0 < n) (hn : n ≤ 1000000) : IntKind.i64.wrap ((IntKind.u64.wrap a).tmod (IntKind.u64.wrap (n : Int))) = ((idxM a n : Nat) : Int) := by
  rw [IntKind.wrap_u64,IntKind.wrap_u64]
  obtain ⟨m,hm⟩ : ∃ m : Nat,a % 18446744073709551616 = (m : Int) := ⟨(a % 18446744073709551616).toNat,by omega⟩
  have hn2 : (n : Int) % 18446744073709551616 = (n : Int) := by omega
  have e : idxM a n = m % n := by unfold idxM; rw [hm]; rfl
  have hlt := idxM_lt (a := a) h
  have e2 : ((m : Int)).tmod (n : Int) = ((m % n : Nat) : Int) := rfl
  first
    | rw [hm,hn2,e2,← e,iw (by omega)]
    | (simp only [hm,hn2,e2]; rw [← e,iw (by omega)])
def pickE (made : List Ent) (t : DoM) : Ent := chE (made.getD (idxM t.at_ made.length) i9) t.change
def secM (G : List (List UInt8)) (t : DoM) : List UInt8 := if 1 < t.by_.toNat % 7 then G.getD 0 [] else G.getD (t.by_.toNat % 5) []
def iq (c : BegS) (ad : List UInt8) (b : BM) (t : DoM) : List Term × Ent × Int :=
  gq (fC (fC b.ts (fJ b.d)).1 (fJ (b.d + 1))).1 ad b.g (secM c.G t) (fP b.ts (fJ b.d)) (fP (fC b.ts (fJ b.d)).1 (fJ (b.d + 1))) (iL c.M t) (ic c.M b.g t)
def i8 (c : BegS) (ad : List UInt8) (b : BM) (t : DoM) : BM :=
  if t.take = false ∧ b.made ≠ [] then ⟨(gO b.ts ad b.g (pickE b.made t)).1,b.d,(gO b.ts ad b.g (pickE b.made t)).2.1,b.made⟩
  else if ¬ (iq c ad b t).2.2 = 0 then ⟨(iq c ad b t).1,b.d + 2,b.g,b.made⟩
  else ⟨(gO (iq c ad b t).1 ad b.g (iq c ad b t).2.1).1,b.d + 2,(gO (iq c ad b t).1 ad b.g (iq c ad b t).2.1).2.1,b.made ++ [(iq c ad b t).2.1]⟩
structure OkC (c : BegS) : Prop where
  sl : c.S.length = 5
  gl : c.G.length = 5
  ml : c.M.length = 5
  s32 : ∀ x ∈ c.S,x.length = 32
  g32 : ∀ x ∈ c.G,x.length = 32
  m32 : ∀ m ∈ c.M,m.pub.length = 32 ∧ m.sgn.length = 32
theorem beg_ok : OkC (fQ 5) := by
  obtain ⟨a,b,c⟩ := begM_len 5
  obtain ⟨d,e,f⟩ := begM_32 5
  exact ⟨a,b,c,d,e,f⟩
theorem OkC.sec {c : BegS} (h : OkC c) (t : DoM) : (secM c.G t).length = 32 := by
  unfold secM
  have hg := h.gl
  have h5 := Nat.mod_lt t.by_.toNat (show 0 < 5 by omega)
  split
  · simp only [List.getD,List.getElem?_eq_getElem (show 0 < c.G.length by omega),Option.getD_some]
    exact h.g32 _ (List.getElem_mem _)
  · simp only [List.getD,List.getElem?_eq_getElem (show t.by_.toNat % 5 < c.G.length by omega),Option.getD_some]
    exact h.g32 _ (List.getElem_mem _)
structure OkB (n : Nat) (b : BM) : Prop where
  gt : GT (20 + 30 * n) b.ts
  g : OkG b.g
  made : ∀ e ∈ b.made,gK e = true
  d : b.d ≤ 10 + 2 * n
  ml : b.made.length ≤ n
theorem OkB.two {n : Nat} {b : BM} (h : OkB n b) (hn : n ≤ 1000) : GT (22 + 30 * n) (fC (fC b.ts (fJ b.d)).1 (fJ (b.d + 1))).1 := by
  have hd := h.d
  have hw : ∀ k,wfT (fJ k) := fun k => wf1 (by decide) (by rw [fe]; omega)
  have g1 := h.gt.num (hw b.d) fun e => absurd (show (115 : UInt8) = 112 from e) (by decide)
  have g2 := g1.num (hw (b.d + 1)) fun e => absurd (show (115 : UInt8) = 112 from e) (by decide)
  exact g2.mono (by omega)
theorem OkB.pick {n : Nat} {b : BM} (h : OkB n b) (t : DoM) (hm : b.made ≠ []) : OkE (pickE b.made t) ∧ gK (b.made.getD (idxM t.at_ b.made.length) i9) = true := by
  have hl : 0 < b.made.length := List.length_pos_iff.2 hm
  have hi := idxM_lt (a := t.at_) hl
  have hr : gK (b.made.getD (idxM t.at_ b.made.length) i9) = true := by
    simp only [List.getD,List.getElem?_eq_getElem hi,Option.getD_some]
    exact h.made _ (List.getElem_mem hi)
  exact ⟨chE_ok _ hr,hr⟩
theorem does_ok {c : BegS} {ad : List UInt8} {n : Nat} {b : BM} {t : DoM} (h : OkB n b) (hn : n ≤ 1000) : OkB (n + 1) (i8 c ad b t) := by
  obtain ⟨gt,g,made,d,ml⟩ := id h
  unfold i8
  split
  · exact ⟨(take_gt gt).mono (by omega),g.take,made,by show b.d ≤ _; omega,by show b.made.length ≤ _; omega⟩
  · have g2 := h.two hn
    obtain ⟨s1,s2,s3,s4⟩ := kJ (ad := ad) (secret := secM c.G t) (once := fP b.ts (fJ b.d)) (key := fP (fC b.ts (fJ b.d)).1 (fJ (b.d + 1))) (ms := iL c.M t) (ns := ic c.M b.g t) g g2
    change GT _ (iq c ad b t).1 at s1
    change (iq c ad b t).2.2 = 0 → gK (iq c ad b t).2.1 = true at s3
    split
    · exact ⟨s1.mono (by omega),g,made,by show b.d + 2 ≤ _; omega,by show b.made.length ≤ _; omega⟩
    · rename_i h0
      have h0 : (iq c ad b t).2.2 = 0 := Classical.byContradiction h0
      refine ⟨(take_gt s1).mono (by omega),g.take,fun e he => ?_,by show b.d + 2 ≤ _; omega,?_⟩
      · rcases List.mem_append.1 he with he | he
        · exact made e he
        · rw [List.mem_singleton.1 he]; exact s3 h0
      · show (b.made ++ [_]).length ≤ _
        rw [List.length_append,List.length_singleton]; omega
def begB : BM := ⟨(fQ 5).ts,10,⟨[],[]⟩,[]⟩
theorem begB_ok : OkB 0 begB := ⟨begM_gt 5,⟨rfl,by decide,(fun e h => by cases h),(fun e h => by cases h)⟩,(fun e h => by cases h),by decide,by decide⟩
def jS (c : BegS) (ad : List UInt8) : BM → List DoM → BM
  | b,[] => b
  | b,t :: l => jS c ad (i8 c ad b t) l
theorem playM_snoc {c : BegS} {ad : List UInt8} : ∀ (l : List DoM) (b : BM) (t : DoM),jS c ad b (l ++ [t]) = i8 c ad (jS c ad b l) t
  | [],_,_ => rfl
  | x :: l,b,t => playM_snoc l _ t
theorem play_ok {c : BegS} {ad : List UInt8} : ∀ (l : List DoM) {n : Nat} {b : BM},OkB n b → n + l.length ≤ 1000 → OkB (n + l.length) (jS c ad b l)
  | [],n,b,h,_ => h
  | t :: l,n,b,h,hn => by
    rw [List.length_cons] at hn
    have := play_ok (c := c) (ad := ad) l (does_ok (c := c) (ad := ad) (t := t) h (by omega)) (by omega)
    rw [List.length_cons,show n + (l.length + 1) = n + 1 + l.length by omega]
    exact this
end Go.Proofs.YtjlnpngaiphnmaaGreat
end
section
set_option linter.unusedSimpArgs false
set_option linter.unusedVariables false
set_option maxRecDepth 20000
set_option maxHeartbeats 4000000
namespace Go.Proofs.YtjlnpngaiphnmaaGreat
open Go Go.Abs Go.Proofs
abbrev kI : AV := .sc (.slice none 0 0)
abbrev zBoth : List AV := [.sc (.pointer none),.sc (.pointer none),kI,.sc (.int .i64 0),kI,kI,kI,kI,kI,kI,kI]
abbrev jm (l : List AV) : AObj := .cells l 56 11
abbrev zObjB : AObj := jm zBoth
structure Fr (H0 D : AH) (r : Nat) (L : AObj) (bs : List (Nat × AObj)) : Prop where
  log : D r = some L
  own : ∀ p ∈ bs,D p.1 = some p.2 ∧ p.1 ≠ r ∧ H0 p.1 = none
  nd : (bs.map Prod.fst).Nodup
  keep : ∀ x o,H0 x = some o → x ≠ r → D x = some o
theorem Fr.less {H0 D : AH} {r : Nat} {L : AObj} {bs : List (Nat × AObj)} (f : Fr H0 D r L bs) : Abs.Sub (H0.set r L) D := by
  intro x o h
  by_cases e : x = r
  · subst e
    rw [set_get] at h
    cases h
    exact f.log
  · rw [aP e] at h
    exact f.keep x o h e
theorem Fr.free {H0 D : AH} {r : Nat} {L : AObj} {bs : List (Nat × AObj)} (f : Fr H0 D r L bs) {x : Nat} (h : D x = none) : H0 x = none ∧ ¬ x = r ∧ ∀ p ∈ bs,¬ p.1 = x := by
  have n : ¬ x = r := fun e => by rw [e,f.log] at h; cases h
  refine ⟨?_,n,fun p hp e => ?_⟩
  · cases hx : H0 x with
    | none => rfl
    | some o => rw [f.keep x o hx n] at h; cases h
  · have := (f.own p hp).1
    rw [e,h] at this
    cases this
theorem Fr.box {H0 D : AH} {r : Nat} {L : AObj} {bs : List (Nat × AObj)} (f : Fr H0 D r L bs) {x : Nat} (o : AObj) (h : D x = none) : Fr H0 (D.set x o) r L (bs ++ [(x,o)]) := by
  obtain ⟨h1,h2,h3⟩ := f.free h
  refine ⟨by rw [aP (fun e => h2 e.symm)]; exact f.log,fun p hp => ?_,?_,fun y o' hy hn => ?_⟩
  · rcases List.mem_append.1 hp with hp | hp
    · rw [aP (h3 p hp)]; exact f.own p hp
    · rw [List.mem_singleton.1 hp]; exact ⟨set_get,h2,h1⟩
  · rw [List.map_append,List.nodup_append]
    refine ⟨f.nd,by simp,?_⟩
    intro a ha b hb
    obtain ⟨p,hp,rfl⟩ := List.mem_map.1 ha
    simp at hb
    subst hb
    exact h3 p hp
  · rw [aP (fun e => by rw [e,h1] at hy; cases hy)]
    exact f.keep y o' hy hn
theorem fst_set : ∀ (l : List (Nat × AObj)) (i b : Nat) (o o' : AObj),l[i]? = some (b,o) → (l.set i (b,o')).map Prod.fst = l.map Prod.fst
  | [],i,b,o,o',h => by simp at h
  | p :: l,0,b,o,o',h => by simp at h; simp [h]
  | p :: l,i + 1,b,o,o',h => by simp at h; simp [fst_set l i b o o' h]
theorem nd_inj {l : List Nat} (h : l.Nodup) {i j : Nat} (hi : i < l.length) (hj : j < l.length) (e : l[i] = l[j]) : i = j := by
  have hp := List.pairwise_iff_getElem.1 h
  rcases Nat.lt_trichotomy i j with hlt | rfl | hlt
  · exact absurd e (hp i j hi hj hlt)
  · rfl
  · exact absurd e.symm (hp j i hj hi hlt)
theorem Fr.put {H0 D : AH} {r : Nat} {L : AObj} {bs : List (Nat × AObj)} (f : Fr H0 D r L bs) (i : Nat) {b : Nat} {o : AObj} (o' : AObj) (h : bs[i]? = some (b,o)) : Fr H0 (D.set b o') r L (bs.set i (b,o')) := by
  obtain ⟨g1,g2,g3⟩ := f.own (b,o) (List.mem_of_getElem? h)
  have hn := f.nd
  refine ⟨by rw [aP (fun e => g2 e.symm)]; exact f.log,fun p hp => ?_,by rw [fst_set _ _ _ _ _ h]; exact hn,fun y o2 hy hne => ?_⟩
  · obtain ⟨j,hj,e⟩ := List.mem_iff_getElem.1 hp
    by_cases hij : i = j
    · subst hij
      rw [List.getElem_set_self] at e
      subst e
      exact ⟨set_get,g2,g3⟩
    · rw [List.getElem_set_ne hij] at e
      rw [List.length_set] at hj
      subst e
      have hm := f.own _ (List.getElem_mem hj)
      have : ¬ (bs[j]).1 = b := fun e => by
        obtain ⟨hi,hi2⟩ := List.getElem?_eq_some_iff.1 h
        have h1 : (bs.map Prod.fst)[i]'(by simpa using hi) = (bs.map Prod.fst)[j]'(by simpa using hj) := by
          simp [hi2,e]
        exact hij (nd_inj hn _ _ h1)
      rw [aP this]
      exact hm
  · rw [aP (fun e => by rw [e,g3] at hy; cases hy)]
    exact f.keep y o2 hy hne
theorem Fr.putr {H0 D : AH} {r : Nat} {L : AObj} {bs : List (Nat × AObj)} (f : Fr H0 D r L bs) (L' : AObj) : Fr H0 (D.set r L') r L' bs :=
  ⟨set_get,fun p hp => by rw [aP (f.own p hp).2.1]; exact f.own p hp,f.nd,fun x o h hn => by rw [aP hn]; exact f.keep x o h hn⟩
theorem Fr.drop {H0 D : AH} {r : Nat} {L : AObj} {bs : List (Nat × AObj)} {x : Nat} {o : AObj} (f : Fr H0 D r L (bs ++ [(x,o)])) : Fr H0 (D.kill x) r L bs := by
  obtain ⟨g1,g2,g3⟩ := f.own (x,o) (by simp)
  have hn := f.nd
  rw [List.map_append,List.nodup_append] at hn
  refine ⟨(bZ (fun e => g2 e.symm)).trans f.log,fun p hp => ?_,hn.1,fun y o' hy hne => ?_⟩
  · have h1 := f.own p (List.mem_append_left _ hp)
    have h2 : ¬ p.1 = x := hn.2.2 p.1 (List.mem_map.2 ⟨p,hp,rfl⟩) x (by simp)
    rw [bZ h2]
    exact h1
  · have h2 : ¬ y = x := fun e => by
      rw [e] at hy
      exact absurd (hy.symm.trans g3) (by simp)
    rw [bZ h2]
    exact f.keep y o' hy hne
def FS (H0 E : AH) (r : Nat) (L : AObj) (bs : List (Nat × AObj)) (h m d : Nat) (ts : List Term) : Prop := ∃ D,Fr H0 D r L bs ∧ SS D E h m d ts
section
variable {H0 E F : AH} {r h m d : Nat} {L : AObj} {bs : List (Nat × AObj)} {ts : List Term}
theorem FS.start (s : SS H0 E h m d ts) (hr : H0 r = some L) : FS H0 E r L [] h m d ts := ⟨H0,⟨hr,fun p hp => (by cases hp),List.nodup_nil,fun _ _ h _ => h⟩,s⟩
theorem FS.at (f : FS H0 E r L bs h m d ts) (i : Nat) {b : Nat} {o : AObj} (hi : bs[i]? = some (b,o)) : E b = some o := by
  obtain ⟨D,g,s⟩ := f
  exact s.sub _ _ (g.own _ (List.mem_of_getElem? hi)).1
theorem FS.log (f : FS H0 E r L bs h m d ts) : E r = some L := by
  obtain ⟨D,g,s⟩ := f
  exact s.sub _ _ g.log
theorem FS.new (f : FS H0 E r L bs h m d ts) (i : Nat) {b : Nat} {o : AObj} (hi : bs[i]? = some (b,o)) : H0 b = none := by
  obtain ⟨D,g,s⟩ := f
  exact (g.own _ (List.mem_of_getElem? hi)).2.2
theorem FS.ne (f : FS H0 E r L bs h m d ts) (i j : Nat) {b b' : Nat} {o o' : AObj} (hi : bs[i]? = some (b,o)) (hj : bs[j]? = some (b',o')) (hij : i ≠ j) : ¬ b = b' := by
  obtain ⟨D,g,s⟩ := f
  intro e
  obtain ⟨hi1,hi2⟩ := List.getElem?_eq_some_iff.1 hi
  obtain ⟨hj1,hj2⟩ := List.getElem?_eq_some_iff.1 hj
  have h1 : (bs.map Prod.fst)[i]'(by simpa using hi1) = (bs.map Prod.fst)[j]'(by simpa using hj1) := by
    simp [hi2,hj2,e]
  exact hij (nd_inj g.nd _ _ h1)
theorem FS.box (f : FS H0 E r L bs h m d ts) {x : Nat} (o : AObj) (hx : E x = none) : FS H0 (E.set x o) r L (bs ++ [(x,o)]) h m d ts := by
  obtain ⟨D,g,s⟩ := f
  exact ⟨_,g.box o (s.sub.free hx),s.box hx⟩
theorem FS.put (f : FS H0 E r L bs h m d ts) (i : Nat) {b : Nat} {o : AObj} (o' : AObj) (hi : bs[i]? = some (b,o)) : FS H0 (E.set b o') r L (bs.set i (b,o')) h m d ts := by
  obtain ⟨D,g,s⟩ := f
  exact ⟨_,g.put i o' hi,s.put (g.own _ (List.mem_of_getElem? hi)).1⟩
theorem FS.less (f : FS H0 E r L bs h m d ts) : SS (H0.set r L) E h m d ts := by
  obtain ⟨D,g,s⟩ := f
  exact SS.less s g.less
theorem FS.up (f : FS H0 E r L bs h m d ts) (u : Abs.Sub E F) : FS H0 F r L bs h m d ts := by
  obtain ⟨D,g,s⟩ := f
  exact ⟨D,g,s.up u⟩
theorem FS.drop {x : Nat} {o : AObj} (f : FS H0 E r L (bs ++ [(x,o)]) h m d ts) : FS H0 (E.kill x) r L bs h m d ts := by
  obtain ⟨D,g,s⟩ := f
  exact ⟨_,g.drop,s.kill (g.own (x,o) (by simp)).1⟩
theorem FS.call {f : Nat} {args : List AV} {V : AV} {d' : Nat} {ts' : List Term} (g : FS H0 E r L bs h m d ts) (c : ∀ D, SS D E h m d ts → ACalls Tryz.prog f args E fun v H' => v = V ∧ SS D H' h m d' ts') :
    ACalls Tryz.prog f args E fun v H' => v = V ∧ FS H0 H' r L bs h m d' ts' := by
  obtain ⟨D,fr,s⟩ := g
  refine (c D s).mono ?_
  rintro v H' ⟨rfl,s'⟩
  exact ⟨rfl,D,fr,s'⟩
theorem FS.take {k kd N : Nat} {ad : List UInt8} {lg : LogM} {e : Ent} (g : FS H0 E r (lgP ad lg k kd) bs h m d ts) (hg : OkG lg) (he : OkE e) (gt : GT N ts) (hN : N ≤ 999990) (hr0 : r ≠ 0) (hk : k ≠ 0) (hkd : kd ≠ 0) (had : ad.length ≤ 100000000) :
    ACalls Tryz.prog 23 [.ptr r 0,iT h,.agg (fX e)] E fun v H' => v = .sc (.int .i64 (gO ts ad lg e).2.2) ∧ ∃ k' kd',k' ≠ 0 ∧ kd' ≠ 0 ∧ FS H0 H' r (lgP ad (gO ts ad lg e).2.1 k' kd') bs h m d (gO ts ad lg e).1 := by
  obtain ⟨D,fr,s⟩ := g
  refine (take_live hg he gt hN s hr0 hk hkd fr.log had).mono ?_
  rintro v H' ⟨rfl,k',kd',h1,h2,s'⟩
  exact ⟨rfl,k',kd',h1,h2,_,fr.putr _,s'⟩
end
end Go.Proofs.YtjlnpngaiphnmaaGreat
end
section
set_option linter.unusedSimpArgs false
set_option linter.unusedVariables false
set_option maxRecDepth 20000
set_option maxHeartbeats 16000000
namespace Go.Proofs.YtjlnpngaiphnmaaGreat
open Go Go.Abs Go.Proofs
variable {H0 H : AH} {h m n r k kd : Nat} {c : BegS} {ad : List UInt8} {b : BM}
theorem does_again (hc : OkC c) (hb : OkB n b) (hn : n ≤ 100) (t : DoM) (ht : t.take = false) (hm : b.made ≠ []) (s : SS H0 H h m b.d b.ts) (hr0 : r ≠ 0) (hk : k ≠ 0) (hkd : kd ≠ 0) (hr : H0 r = some (lgP ad b.g k kd)) (had : ad.length = 32) :
    ACalls Tryz.prog 48 [.agg (iD h r b.ts b.d ad b.g c.S c.G c.M b.made),.agg (doC t)] H fun v H' =>
      v = .tup [.agg (iD h r (gO b.ts ad b.g (pickE b.made t)).1 b.d ad (gO b.ts ad b.g (pickE b.made t)).2.1 c.S c.G c.M b.made),.sc (.bool true)] ∧
      ∃ k' kd',k' ≠ 0 ∧ kd' ≠ 0 ∧ SS (H0.set r (lgP ad (gO b.ts ad b.g (pickE b.made t)).2.1 k' kd')) H' h m b.d (gO b.ts ad b.g (pickE b.made t)).1 := by
  obtain ⟨hpk,hrt⟩ := hb.pick t hm
  have hl : 0 < b.made.length := List.length_pos_iff.2 hm
  have hml := hb.ml
  have hi := idxM_lt (a := t.at_) hl
  have hix := idx_eq t.at_ b.made.length hl (by omega)
  have hu0 : ¬ IntKind.u64.wrap (b.made.length : Int) = 0 := by rw [jw (by omega)]; omega
  have hld := ent_load hi
  have hmc : (b.made.flatMap fX).length = b.made.length * 7 := fF i7 _
  have he0 : b.made.getD (idxM t.at_ b.made.length) i9 = b.made[idxM t.at_ b.made.length] := by simp only [List.getD,List.getElem?_eq_getElem hi,Option.getD_some]
  have hrp := fy hrt
  have hch := changed_pure (b.made.getD (idxM t.at_ b.made.length) i9) t.change (right_ok hrt) (by omega)
  have hrk := rtake_pure (d := b.d) (ad := ad) hb.g hpk hb.gt (by omega)
  have hT := fun (E : AH) (bs : List (Nat × AObj)) (f : FS H0 E r (lgP ad b.g k kd) bs h m b.d b.ts) => f.take (e := pickE b.made t) hb.g hpk hb.gt (by omega) hr0 hk hkd (by omega)
  have f0 := FS.start s hr
  have hc7 : idxM t.at_ b.made.length * 7 + 7 ≤ b.made.length * 7 := by omega
  unfold pickE at *
  rw [he0] at *
  generalize idxM t.at_ b.made.length = i at *
  generalize gO b.ts ad b.g (chE b.made[i] t.change) = R at *
  generalize chE b.made[i] t.change = e1 at *
  generalize b.made[i] = e0 at *
  obtain ⟨n1,pr1,ms1,ns1,on1,bs1,sg1⟩ := e1
  clear he0 hrp hrt hpk
  obtain ⟨ts,d,g,made⟩ := b
  obtain ⟨who,strange,auto,ends,by_,take,at_,change⟩ := t
  simp only [doC,fX] at *
  subst ht
  refine ao (c := ⟨Tryz.prog,205,[(2,[0,0,0,0,0,0,0,0,0,0,0,0,0,0,0,2,2,2]),(4,[1,0,0,2,0,2]),(5,[0,0,1,0,1,0,1,2,0,0,2,0]),(10,[0,1,2,0,0,2,0,0]),(16,[0,0,0,0,0,2,0,2,0,0,0,0,2,0,0,0,2,2,0]),(18,[0,0,0,0,1,0,0,1,0,0,0,0]),(22,[2,0,0,2,0,0,2,0,2]),(24,[1,0,0,2,0,2]),(25,[0,0,1,0,1,0,1,2,0,0,2,0]),(1000000,[3]),(1000002,[6]),(1000003,[8,7]),(1000015,[19]),(1000016,[21]),(1000023,[23]),(4000025,[4,5]),(4000024,[2,4,21,24]),(4000023,[2,4,18,21,23,24]),(4000022,[2,4,18,19,21]),(4000018,[2,4,18,19,21,22,168]),(4000016,[2,4,18,19,20,21,22]),(4000015,[2,4,10,11,12,13,14,18,19,20]),(4000013,[2,4,10,11,12,13,14,15,16,17,124]),(4000012,[2,4,10,11,12,13,14,15,16,17]),(4000011,[2,4,10,11,12,13,14,15,16]),(4000010,[2,4,10,11,12,13,14]),(4000009,[2,4,10,11,12]),(4000007,[2,3,4,10,11,12]),(4000006,[2,3,4,10,11]),(4000005,[4,5]),(4000004,[2,4,6,9]),(4000003,[2,4,6,7,8,9]),(4000002,[2,4,6]),(4000001,[2,3,4,33])],[145,173],[(2,(.op 0 0 (.op 2 0 (.op 3 0 (.op 4 0 (.op 5 0 (.op 13 0 (.op 14 0 (.op 1 4 (.op 6 4 (.op 7 0 (.op 8 0 (.op 9 0 (.op 10 0 (.op 11 0 (.op 12 0 (.or (.op 15 2 (.op 16 3 (.op 17 2 .nil))) (.op 16 3 (.op 15 2 (.op 17 2 .nil)))))))))))))))))))),(5,(.op 1 0 (.op 3 0 (.op 6 0 (.op 8 0 (.op 2 4 (.op 4 4 (.op 5 0 (.or (.op 0 3 (.op 7 2 (.op 9 0 (.op 10 2 (.op 11 0 .nil))))) (.op 7 2 (.op 9 0 (.op 0 3 (.op 10 2 (.op 11 0 .nil)))))))))))))),(10,(.op 0 0 (.op 3 0 (.op 1 4 (.or (.op 2 2 (.op 4 3 (.op 5 2 (.op 6 0 (.op 7 0 .nil))))) (.op 4 3 (.op 2 2 (.op 5 2 (.op 6 0 (.op 7 0 .nil)))))))))),(16,(.op 0 0 (.op 2 0 (.op 6 0 (.op 8 0 (.op 9 0 (.op 10 0 (.op 11 0 (.op 1 4 (.op 3 4 (.op 4 0 (.or (.op 5 3 (.or (.op 7 3 (.or (.op 12 2 (.op 13 0 (.op 14 0 (.op 15 0 (.op 16 3 (.op 17 2 (.op 18 0 .nil))))))) (.op 16 3 (.op 12 2 (.op 13 0 (.op 14 0 (.op 15 0 (.op 17 2 (.op 18 0 .nil))))))))) (.op 16 3 (.op 7 3 (.op 12 2 (.op 13 0 (.op 14 0 (.op 15 0 (.op 17 2 (.op 18 0 .nil)))))))))) (.op 16 3 (.op 5 3 (.op 7 3 (.op 12 2 (.op 13 0 (.op 14 0 (.op 15 0 (.op 17 2 (.op 18 0 .nil))))))))))))))))))))),(22,(.op 1 0 (.op 4 0 (.op 5 0 (.op 2 4 (.op 0 3 (.op 3 3 (.op 6 3 (.op 7 0 (.op 8 2 .nil)))))))))),(24,(.op 0 0 (.op 2 0 (.or (.op 1 3 (.op 3 2 (.op 4 0 (.op 5 2 .nil)))) (.op 3 2 (.op 1 3 (.op 4 0 (.op 5 2 .nil)))))))),(25,(.op 1 0 (.op 3 0 (.op 6 0 (.op 8 0 (.op 2 4 (.op 4 4 (.op 5 0 (.or (.op 0 3 (.op 7 2 (.op 9 0 (.op 10 2 (.op 11 0 .nil))))) (.op 7 2 (.op 9 0 (.op 0 3 (.op 10 2 (.op 11 0 .nil))))))))))))))]⟩) (rs := [ResultVar.cell 4 56,ResultVar.tmp 5]) Tryz.mixed Tryz.func48 rfl rfl rfl (Nat.le_of_ble_eq_true rfl) (by kernel_rfl) ?_
  simp (disch := omega) only [↓aI,↓zP,aD,zD,aS,simprocAttr,Tryz.facts,zA,hl,hmc]
  intro b0 hb00 hb0 b1 hb10 hb1 b2 hb20 hb2
  have n12 := bK hb2
  have hb2' := am hb2
  try simp (disch := omega) only [↓aI,↓zP,aD,zD,aS,simprocAttr,Tryz.facts,zA,hl,hmc,aP,n12,i6 hb1 n12]
  have f := (f0.box (jm (iD h r ts d ad g c.S c.G c.M made)) hb0).box zObjB hb2'
  generalize hE1 : (H.set b0 _).set b2 _ = E1 at *
  have v0 := f.at 0 rfl
  have v2 := f.at 1 rfl
  have n02 := f.ne 0 1 rfl rfl (by decide)
  have n20 : ¬ b2 = b0 := fun e => n02 e.symm
  try simp (disch := omega) only [↓aI,↓zP,aD,zD,aS,simprocAttr,Tryz.facts,zA,hl,hmc,v0,v2,hix,hld,hc7]
  refine eI (fun σ F => ∃ b6,F = E1.set b6 (.cells [.sc (.int .i64 n1),eu pr1,fE ms1,fY ns1,eu on1,fZ bs1,eu sg1] 27 7) ∧ E1 b6 = none ∧ σ 6 = .ptr b6 0 ∧ σ 2 = .ptr b0 0 ∧ σ 4 = .ptr b2 0) ?_ ?_
  · simp (disch := omega) only [↓aI,↓zP,aD,zD,aS,simprocAttr,Tryz.facts,zA,hl,hmc,v0,v2,hix,hld,hc7,hu0]
    refine And.intro ?_ ?_
    · skip
      first | refine CallK.p (hch) ?_ | refine CallP.i (hch) ?_
      simp (disch := omega) only [↓aI,↓zP,aD,zD,aS,simprocAttr,Tryz.facts,zA,hl,hmc,v0,v2,hix,hld,hc7,hu0]
      intro b6 hb60 hb6
      try simp (disch := omega) only [↓aI,↓zP,aD,zD,aS,simprocAttr,Tryz.facts,zA,hl,hmc,v0,v2,hix,hld,hc7,hu0,ey,ah]
      exact ⟨b6,rfl,hb6,rfl⟩
    · intro b6 hb60 hb6
      try simp (disch := omega) only [↓aI,↓zP,aD,zD,aS,simprocAttr,Tryz.facts,zA,hl,hmc,v0,v2,hix,hld,hc7,hu0,ey]
      first | refine CallK.p (hch) ?_ | refine CallP.i (hch) ?_
      simp (disch := omega) only [↓aI,↓zP,aD,zD,aS,simprocAttr,Tryz.facts,zA,hl,hmc,v0,v2,hix,hld,hc7,hu0,ah,ey]
      exact ⟨b6,rfl,hb6,rfl⟩
  · rintro σ F ⟨b6,rfl,hb6,s6,s2,s4⟩
    simp (disch := omega) only [↓aI,↓zP,aD,zD,aS,simprocAttr,Tryz.facts,zA,hl,hmc,v0,v2,hix,hld,hc7,s6,s2,s4,aP,aj hb6]
    first | refine CallK.p (hrk) ?_ | refine CallP.i (hrk) ?_
    simp (disch := omega) only [↓aI,↓zP,aD,zD,aS,simprocAttr,Tryz.facts,zA,hl,hmc,v0,v2,hix,hld,hc7,s6,s2,s4,aP,aj hb6]
    intro b7 hb70 hb7 b8 hb80 hb8
    have n78 := bK hb8
    have n87 : ¬ b8 = b7 := fun e => n78 e.symm
    have hb8' := am hb8
    have n07 := bA v0 hb7
    have n08 := bA v0 hb8'
    have n27 := bA v2 hb7
    have n28 := bA v2 hb8'
    try simp (disch := omega) only [↓aI,↓zP,aD,zD,aS,simprocAttr,Tryz.facts,zA,s6,s2,s4,aP,n78,n87,n07,n08,n27,n28,v0,v2,ah,fD n78,ey,gU,gj,gI hb7,gI hb8']
    have f3 := f.put 0 (jm (iD h r R.1 d ad R.2.1 c.S c.G c.M made)) rfl
    have v03 := f3.at 0 rfl
    have v23 := f3.at 1 rfl
    refine eI (fun σ F => σ 5 = .sc (.bool true) ∧ σ 4 = .ptr b2 0 ∧ F b2 = some (jm (iD h r R.1 d ad R.2.1 c.S c.G c.M made)) ∧ ∃ k' kd',k' ≠ 0 ∧ kd' ≠ 0 ∧ SS (H0.set r (lgP ad R.2.1 k' kd')) F h m d R.1) ?_ ?_
    · simp (disch := omega) only [↓aI,↓zP,aD,zD,aS,simprocAttr,Tryz.facts,zA,s6,s2,s4,aP,n78,n87,n07,n08,n27,n28,v0,v2,ah,fD n78,ey,gU,gj,gI hb7,gI hb8']
      refine And.intro ?_ ?_
      · refine CallK.i (hT _ _ f3) ?_
        rintro v E2 ⟨rfl,k',kd',hk',hkd',f4⟩
        have v04 := f4.at 0 rfl
        have v24 := f4.at 1 rfl
        try simp (disch := omega) only [↓aI,↓zP,aD,zD,aS,simprocAttr,Tryz.facts,zA,v04,v24,ah]
        exact ⟨k',kd',hk',hkd',(f4.put 1 _ rfl).less⟩
      · try simp (disch := omega) only [↓aI,↓zP,aD,zD,aS,simprocAttr,Tryz.facts,zA,s6,s2,s4,aP,n78,n87,n07,n08,n27,n28,v0,v2,ah,fD n78,ey,gU,gj,gI hb7,gI hb8']
        refine CallK.i (hT _ _ f3) ?_
        rintro v E2 ⟨rfl,k',kd',hk',hkd',f4⟩
        have v04 := f4.at 0 rfl
        have v24 := f4.at 1 rfl
        try simp (disch := omega) only [↓aI,↓zP,aD,zD,aS,simprocAttr,Tryz.facts,zA,v04,v24,ah]
        exact ⟨k',kd',hk',hkd',(f4.put 1 _ rfl).less⟩
    · rintro σ F ⟨s5,s4,w2,k',kd',hk',hkd',sF⟩
      simp (disch := omega) only [↓aI,↓zP,aD,zD,aS,simprocAttr,Tryz.facts,zA,s5,s4,w2]
      exact ⟨_,rfl,_,Abs.Sub.refl _,rfl,k',kd',hk',hkd',sF⟩
end Go.Proofs.YtjlnpngaiphnmaaGreat
end
