/-
  Several texts in one: each says what it proves.
  Conditions: none. Lemmas only.
-/
import Derived.Test.YtjlnpngaiphnmaaGreatRtG5
import Derived.Test.YtjlnpngaiphnmaaGreatRtG2
import Derived.Test.YtjlnpngaiphnmaaGreatRzG2
import Derived.Test.YtjlnpngaiphnmaaGreatRtG7
set_option linter.all false
section
set_option linter.unusedSimpArgs false
set_option linter.unusedVariables false
set_option maxRecDepth 20000
set_option maxHeartbeats 4000000
namespace Go.Proofs.YtjlnpngaiphnmaaGreat
open Go Go.Abs Go.Proofs
theorem numT_old {ts : List Term} {t : Term} {b : List UInt8} (n : Nm ts t b) (nd : ts.Nodup) : (fC ts t).1 = ts ∧ fP ts t = b := by
  have hm := n.mem
  have e : (fC ts t).1 = ts := by unfold fC; rw [if_pos hm]
  have h := (gX ts t).1
  rw [e] at h
  exact ⟨e,h.one n nd⟩
theorem getD_app {α : Type} {l r : List α} {i : Nat} {d : α} (h : i < l.length) : (l ++ r).getD i d = l.getD i d := by
  simp only [List.getD,List.getElem?_append_left h]
theorem getD_end {α : Type} {l : List α} {x d : α} : (l ++ [x]).getD l.length d = x := by
  simp [List.getD]
def BegF (b : BegS) (n : Nat) : Prop := ∀ i,i < n → Nm b.ts (fJ (2 * i)) (b.S.getD i []) ∧ Nm b.ts ⟨112,[b.S.getD i []]⟩ (b.M.getD i noM).pub ∧ Nm b.ts ⟨118,[b.G.getD i []]⟩ (b.M.getD i noM).sgn ∧ (b.M.getD i noM).id = (i : Int)
theorem begM_facts : ∀ n,BegF (fQ n) n
  | 0 => fun i h => absurd h (by omega)
  | n + 1 => fun i hi => by
    obtain ⟨l1,l2,l3⟩ := begM_len n
    have ih := begM_facts n
    show Nm (begN (fQ n) n).ts _ ((begN (fQ n) n).S.getD i []) ∧ Nm (begN (fQ n) n).ts ⟨112,[(begN (fQ n) n).S.getD i []]⟩ ((begN (fQ n) n).M.getD i noM).pub ∧ Nm (begN (fQ n) n).ts ⟨118,[(begN (fQ n) n).G.getD i []]⟩ ((begN (fQ n) n).M.getD i noM).sgn ∧ ((begN (fQ n) n).M.getD i noM).id = _
    generalize fQ n = b at *
    unfold begN
    simp only []
    obtain ⟨a1,p1⟩ := gX b.ts (fJ (2 * n))
    generalize (fC b.ts (fJ (2 * n))).1 = t1 at *
    obtain ⟨a2,p2⟩ := gX t1 (fJ (2 * n + 1))
    change Nm _ _ (fP b.ts (fJ (2 * n))) at a1
    change Nm _ _ (fP t1 (fJ (2 * n + 1))) at a2
    generalize fP b.ts (fJ (2 * n)) = x at *
    generalize fP t1 (fJ (2 * n + 1)) = y at *
    generalize (fC t1 (fJ (2 * n + 1))).1 = t2 at *
    obtain ⟨a3,p3⟩ := gX t2 ⟨112,[x]⟩
    change Nm _ _ (fP t2 ⟨112,[x]⟩) at a3
    generalize fP t2 ⟨112,[x]⟩ = p at *
    generalize (fC t2 ⟨112,[x]⟩).1 = t3 at *
    obtain ⟨a4,p4⟩ := gX t3 ⟨118,[y]⟩
    change Nm _ _ (fP t3 ⟨118,[y]⟩) at a4
    generalize fP t3 ⟨118,[y]⟩ = s at *
    generalize (fC t3 ⟨118,[y]⟩).1 = t4 at *
    by_cases h : i < n
    · obtain ⟨b1,b2,b3,b4⟩ := ih i h
      rw [getD_app (by omega),getD_app (by omega),getD_app (by omega)]
      have pp := p1.trans (p2.trans (p3.trans p4))
      exact ⟨b1.up pp,b2.up pp,b3.up pp,b4⟩
    · obtain rfl : i = n := by omega
      have e1 : (b.S ++ [x]).getD i [] = x := by have := getD_end (l := b.S) (x := x) (d := []); rwa [l1] at this
      have e2 : (b.G ++ [y]).getD i [] = y := by have := getD_end (l := b.G) (x := y) (d := []); rwa [l2] at this
      have e3 : (b.M ++ [(⟨(i : Int),p,s⟩ : Mem)]).getD i noM = ⟨(i : Int),p,s⟩ := by have := getD_end (l := b.M) (x := (⟨(i : Int),p,s⟩ : Mem)) (d := noM); rwa [l3] at this
      rw [e1,e2,e3]
      exact ⟨a1.up (p2.trans (p3.trans p4)),a3.up p4,a4,rfl⟩
theorem take_pre {ts : List Term} {ad : List UInt8} {g : LogM} {e : Ent} : ts <+: (gO ts ad g e).1 := by
  unfold gO
  split
  · exact List.prefix_rfl
  split
  · exact (gX _ _).2
  split
  · exact List.prefix_rfl
  split
  · exact List.prefix_rfl
  split
  · exact List.prefix_rfl
  split
  · exact List.prefix_rfl
  · exact (gX _ _).2
theorem does_pre {c : BegS} {ad : List UInt8} {n : Nat} {b : BM} {t : DoM} (h : OkB n b) (hn : n ≤ 1000) : b.ts <+: (i8 c ad b t).ts ∧ (i8 c ad b t).g.L.length ≤ b.g.L.length + 1 := by
  unfold i8
  split
  · exact ⟨take_pre,take_len⟩
  · have g2 := h.two hn
    obtain ⟨s1,s2,s3,s4⟩ := kJ (ad := ad) (secret := secM c.G t) (once := fP b.ts (fJ b.d)) (key := fP (fC b.ts (fJ b.d)).1 (fJ (b.d + 1))) (ms := iL c.M t) (ns := ic c.M b.g t) h.g g2
    have p2 := ((gX b.ts (fJ b.d)).2.trans (gX _ (fJ (b.d + 1))).2).trans s2
    change b.ts <+: (iq c ad b t).1 at p2
    split
    · exact ⟨p2,Nat.le_succ _⟩
    · exact ⟨p2.trans take_pre,take_len⟩
theorem play_pre {c : BegS} {ad : List UInt8} : ∀ (l : List DoM) {n : Nat} {b : BM},OkB n b → n + l.length ≤ 1000 → b.ts <+: (jS c ad b l).ts ∧ (jS c ad b l).g.L.length ≤ b.g.L.length + l.length
  | [],n,b,h,_ => ⟨List.prefix_rfl,Nat.le_refl _⟩
  | t :: l,n,b,h,hn => by
    rw [List.length_cons] at hn
    obtain ⟨p1,q1⟩ := does_pre (c := c) (ad := ad) (t := t) h (by omega)
    obtain ⟨p2,q2⟩ := play_pre (c := c) (ad := ad) l (does_ok (c := c) (ad := ad) (t := t) h (by omega)) (by omega)
    rw [List.length_cons]
    exact ⟨p1.trans p2,by show (jS c ad (i8 c ad b t) l).g.L.length ≤ _; omega⟩
def BoxOk (ts : List Term) (n : Int) (core once key : List UInt8) (id : Int) (s box : List UInt8) : Prop := ∃ sh k,Nm ts (shT s once) sh ∧ Nm ts ⟨107,[sh,fI n ++ fI id]⟩ k ∧ Nm ts (il k 1 core key) box
theorem BoxOk.up {ts ts' : List Term} {n : Int} {core once key : List UInt8} {id : Int} {s box : List UInt8} (h : BoxOk ts n core once key id s box) (p : ts <+: ts') : BoxOk ts' n core once key id s box := by
  obtain ⟨sh,k,a,b,c⟩ := h
  exact ⟨sh,k,a.up p,b.up p,c.up p⟩
theorem shr_yes {ts : List Term} {a b p : List UInt8} (ha : a.length = 32) (hl : ts.length ≤ 1000000) (k : Nm ts ⟨112,[b]⟩ p) : iI ts a p = ((fC ts (shT a b)).1,fP ts (shT a b),0) := by
  unfold iI
  have hf := k.find hl
  simp only [] at hf
  rw [if_neg (by omega),hf,if_neg (by simp)]
  rfl
theorem bky_yes {ts : List Term} {a b p : List UInt8} {n id : Int} (ha : a.length = 32) (hl : ts.length ≤ 1000000) (k : Nm ts ⟨112, [b]⟩ p) :
    gR ts n id a p = ((fC (fC ts (shT a b)).1 ⟨107,[fP ts (shT a b),fI n ++ fI id]⟩).1,fP (fC ts (shT a b)).1 ⟨107,[fP ts (shT a b),fI n ++ fI id]⟩,0) := by
  unfold gR
  rw [shr_yes ha hl k,if_neg (by simp)]
theorem bxs_yes {e : Ent} {once key : List UInt8} (sec : Mem → List UInt8) (ho : once.length = 32) : ∀ {l : List Mem} {N : Nat} {ts : List Term} {acc : List (List UInt8)}, GT N ts → N + 3 * l.length ≤ 900000 → (∀ m ∈ l, Nm ts ⟨112, [sec m]⟩ m.pub) → (gE e).length ≤ 100000000 → key.length = 32 →
    (iE e once key ts l acc).2.2 = 0 ∧ ∃ new,(iE e once key ts l acc).2.1 = acc ++ new ∧ new.length = l.length ∧ ∀ j (h : j < l.length) (h' : j < new.length),BoxOk (iE e once key ts l acc).1 e.n (gE e) once key l[j].id (sec l[j]) new[j]
  | [],N,ts,acc,g,_,_,_,_ => ⟨rfl,[],by simp [iE],rfl,fun j h => absurd h (by simp)⟩
  | m :: l,N,ts,acc,g,hN,hm,he,hk => by
    rw [List.length_cons] at hN
    have hm0 := hm m (by simp)
    have hb := bky_yes (n := e.n) (id := m.id) ho (by have := g.len; omega) hm0
    obtain ⟨g1,p1,l1,e1⟩ := jl g (n := e.n) (id := m.id) (s := once) (p := m.pub)
    unfold iE
    rw [if_neg (by rw [hb]; simp)]
    have hk32 := l1 (by rw [hb])
    have w : wfT (il (gR ts e.n m.id once m.pub).2.1 1 (gE e) key) := wf4 (by omega) (by rw [fe]; omega) he (by omega)
    have g2 := g1.num w fun e => absurd (show (98 : UInt8) = 112 from e) (by decide)
    have nS := gX (gR ts e.n m.id once m.pub).1 (il (gR ts e.n m.id once m.pub).2.1 1 (gE e) key)
    obtain ⟨r0,new,r1,r2,r3⟩ := bxs_yes sec ho (l := l) (acc := acc ++ [fP (gR ts e.n m.id once m.pub).1 (il (gR ts e.n m.id once m.pub).2.1 1 (gE e) key)]) g2 (by omega) (fun x hx => (hm x (by simp [hx])).up (p1.trans nS.2)) he hk
    obtain ⟨s1,s2,s3,s4⟩ := bxs_spec (once := once) (key := key) he hk (l := l) (acc := acc ++ [fP (gR ts e.n m.id once m.pub).1 (il (gR ts e.n m.id once m.pub).2.1 1 (gE e) key)]) g2
    refine ⟨r0,fP (gR ts e.n m.id once m.pub).1 (il (gR ts e.n m.id once m.pub).2.1 1 (gE e) key) :: new,?_,?_,?_⟩
    · rw [r1,List.append_assoc]; rfl
    · rw [List.length_cons,List.length_cons,r2]
    · intro j h h'
      rcases j with _ | j
      · show BoxOk _ e.n (gE e) once key m.id (sec m) _
        refine BoxOk.up ?_ s2
        have n1 := gX ts (shT once (sec m))
        have n2 := gX (fC ts (shT once (sec m))).1 ⟨107,[fP ts (shT once (sec m)),fI e.n ++ fI m.id]⟩
        rw [hb] at nS ⊢
        simp only [] at nS ⊢
        refine ⟨fP ts (shT once (sec m)),fP (fC ts (shT once (sec m))).1 ⟨107,[fP ts (shT once (sec m)),fI e.n ++ fI m.id]⟩,?_,n2.1.up nS.2,nS.1⟩
        rw [shT_comm (sec m) once]
        exact n1.1.up (n2.2.trans nS.2)
      · exact r3 j (by simpa using h) (by simpa using h')
structure MadeR (T : List Term) (ad : List UInt8) (g : LogM) (e : Ent) (G0 once key : List UInt8) (sec : Mem → List UInt8) : Prop where
  right : gK e = true
  n : e.n = (g.L.length : Int) + 1
  prev : e.prev = iZ g.D g.L.length
  fol : kM g e.members e.ends = true
  ad : Nm T ⟨118,[G0]⟩ ad
  sig : Nm T ⟨103,[G0,fV e]⟩ e.sig
  onm : Nm T ⟨112,[once]⟩ e.once
  box : ∀ j (h : j < e.members.length) (h' : j < e.boxes.length),BoxOk T e.n (gE e) once key e.members[j].id (sec e.members[j]) e.boxes[j]
theorem make_yes {N : Nat} {ts : List Term} {ad G0 once key : List UInt8} {g : LogM} {ms : List Mem} {ns : List Nd} (sec : Mem → List UInt8) (hg : OkG g) (gt : GT N ts) (hN : N ≤ 800000) (hl : g.L.length ≤ 60000) (hG : G0.length = 32) (ho : once.length = 32) (hk : key.length = 32) (had : Nm ts ⟨118, [G0]⟩ ad)
    (hms : ms.length ≤ 100) (hm : ∀ m ∈ ms,Nm ts ⟨112,[sec m]⟩ m.pub) : (gq ts ad g G0 once key ms ns).2.2 = 19 ∨ ((gq ts ad g G0 once key ms ns).2.2 = 0 ∧ (gq ts ad g G0 once key ms ns).2.1.members = ms ∧ MadeR (gq ts ad g G0 once key ms ns).1 ad g (gq ts ad g G0 once key ms ns).2.1 G0 once key sec) := by
  obtain ⟨q1,q2,q3,q4⟩ := kJ (ad := ad) (secret := G0) (once := once) (key := key) (ms := ms) (ns := ns) hg gt
  obtain ⟨o1,o2⟩ := numT_old had gt.nd
  have hR : gq ts ad g G0 once key ms ns = if (gV ms ns && kM g ms ns) = false then ((fC ts ⟨112,[once]⟩).1,i9,19)
    else if ¬ (iE (gS ts g once ms ns) once key (fC ts ⟨112,[once]⟩).1 ms []).2.2 = 0 then ((iE (gS ts g once ms ns) once key (fC ts ⟨112,[once]⟩).1 ms []).1,i9,(iE (gS ts g once ms ns) once key (fC ts ⟨112,[once]⟩).1 ms []).2.2)
    else ((fC (iE (gS ts g once ms ns) once key (fC ts ⟨112,[once]⟩).1 ms []).1 ⟨103,[G0,fV { gS ts g once ms ns with boxes := (iE (gS ts g once ms ns) once key (fC ts ⟨112,[once]⟩).1 ms []).2.1 }]⟩).1,
      { gS ts g once ms ns with boxes := (iE (gS ts g once ms ns) once key (fC ts ⟨112,[once]⟩).1 ms []).2.1,sig := fP (iE (gS ts g once ms ns) once key (fC ts ⟨112,[once]⟩).1 ms []).1 ⟨103,[G0,fV { gS ts g once ms ns with boxes := (iE (gS ts g once ms ns) once key (fC ts ⟨112,[once]⟩).1 ms []).2.1 }]⟩ },0) := by
    unfold gq
    rw [if_neg (by omega),if_neg (by rw [o2]; simp),if_neg (by omega)]
    simp only [o1]
  rw [hR] at q3 ⊢
  clear hR q1 q2 q4
  cases hp : (gV ms ns && kM g ms ns)
  · rw [if_pos rfl]
    exact .inl rfl
  rw [if_neg (by simp)]
  rw [hp,if_neg (by simp)] at q3
  rw [Bool.and_eq_true] at hp
  obtain ⟨hpt,hf⟩ := hp
  obtain ⟨hok,hpv⟩ := base_ok hg (ts := ts) (once := once) hpt
  have hcl := iz hok
  have n1 := gX ts ⟨112,[once]⟩
  have g1 := gt.num (wf1 (k := 112) (a := once) (by decide) (by omega)) fun _ => by simp [fv]; omega
  obtain ⟨r0,new,r1,r2,r3⟩ := bxs_yes (e := gS ts g once ms ns) sec ho (l := ms) (acc := []) g1 (by omega) (fun m h => (hm m h).up n1.2) (by omega) hk
  obtain ⟨s1,s2,s3,s4⟩ := bxs_spec (e := gS ts g once ms ns) (once := once) (key := key) (by omega) hk (l := ms) (acc := []) g1
  have n2 := gX (iE (gS ts g once ms ns) once key (fC ts ⟨112,[once]⟩).1 ms []).1 ⟨103,[G0,fV { gS ts g once ms ns with boxes := (iE (gS ts g once ms ns) once key (fC ts ⟨112,[once]⟩).1 ms []).2.1 }]⟩
  rw [if_neg (by rw [r0]; simp)] at q3 ⊢
  refine .inr ⟨rfl,rfl,q3 rfl,rfl,rfl,hf,had.up (n1.2.trans (s2.trans n2.2)),n2.1,?_,?_⟩
  · exact n1.1.up (s2.trans n2.2)
  · intro j h h'
    have hb : new[j]'(by rw [r2]; exact h) = (iE (gS ts g once ms ns) once key (fC ts ⟨112,[once]⟩).1 ms []).2.1[j]'h' := by
      simp only [r1,List.nil_append]
    have := (r3 j h (by rw [r2]; exact h)).up n2.2
    rw [hb] at this
    exact this
theorem take_yes {N : Nat} {T ts : List Term} {ad G0 once key : List UInt8} {g : LogM} {e : Ent} {sec : Mem → List UInt8} (m : MadeR T ad g e G0 once key sec) (p : T <+: ts) (gt : GT N ts) (hN : N ≤ 1000000) :
    gO ts ad g e = ((fC ts (gQ e)).1,⟨g.L ++ [e],g.D ++ [fP ts (gQ e)]⟩,0) := by
  have hv := ver_yes (by have := gt.len; omega) (m.ad.up p) (m.sig.up p)
  have hn := m.n
  unfold gO
  rw [if_neg (by rw [m.right]; decide),if_neg (by omega),if_neg (by simp [hn]),if_neg (by simp [m.prev]),if_neg (by rw [hv]; simp),if_neg (by rw [m.fol]; simp)]
theorem idx_of {ms : List Mem} {id : Int} (h : gG ms id = true) : ∃ j,∃ hj : j < ms.length,ms.findIdx? (fun m => m.id == id) = some j ∧ ms[j].id = id := by
  induction ms with
  | nil => simp [gG,fu] at h
  | cons m l ih =>
    by_cases c : m.id = id
    · exact ⟨0,by simp,by simp [List.findIdx?_cons,c],c⟩
    · have hl : gG l id = true := by unfold gG fu at h; rwa [if_neg c] at h
      obtain ⟨j,hj,h1,h2⟩ := ih hl
      exact ⟨j + 1,by simpa using hj,by simp [List.findIdx?_cons,c,h1],by simpa using h2⟩
theorem key_yes {N : Nat} {T ts : List Term} {ad G0 once key S : List UInt8} {g : LogM} {e : Ent} {sec : Mem → List UInt8} {id : Int} (m : MadeR T ad g e G0 once key sec) (p : T <+: ts) (gt : GT N ts) (hN : N ≤ 1000000) (hk : key.length = 32) (hS : S.length = 32)
    (hm : gG e.members id = true) (hs : ∀ x ∈ e.members,x.id = id → sec x = S) : keyM ts e id S = (ts,key,0) := by
  obtain ⟨j,hj,h1,h2⟩ := idx_of hm
  have hbl := (fy m.right).2.2.2.2.2.2.1
  have hj' : j < e.boxes.length := by omega
  obtain ⟨sh,k,a1,a2,a3⟩ := (m.box j hj hj').up p
  rw [hs _ (List.getElem_mem hj) h2,h2] at *
  have hl : ts.length ≤ 1000000 := by have := gt.len; omega
  have hb := bky_yes (n := e.n) (id := id) hS hl (m.onm.up p)
  obtain ⟨o1,o2⟩ := numT_old a1 gt.nd
  rw [o1,o2] at hb
  obtain ⟨o3,o4⟩ := numT_old a2 gt.nd
  rw [o3,o4] at hb
  have hat : jA e id = e.boxes[j] := boxAt_get h1 hj'
  have hf := a3.find hl
  simp only [] at hf
  have hop : opnM ts k (gE e) e.boxes[j] = (key,0) := by
    unfold opnM opT
    rw [hf]
    simp [fv]
  unfold keyM
  rw [m.right,hm,if_neg (by simp),hb,if_neg (by simp)]
  simp only [hat,hop]
  rw [if_neg (by simp),if_neg (by omega)]
theorem shT_inj {a b o : List UInt8} (h : shT a o = shT b o) : a = b := by
  unfold shT at h
  simp only [Term.mk.injEq,true_and] at h
  split at h <;> split at h <;> simp only [List.cons.injEq,and_true,true_and] at h
  all_goals first | exact h | exact h.1.trans h.2 | exact h.2.trans h.1 | (obtain ⟨h1,h2⟩ := h; rw [← h1,h2]) | (obtain ⟨h1,h2⟩ := h; rw [h1,h2])
theorem key_no {N : Nat} {T ts : List Term} {ad G0 once key S S' : List UInt8} {g : LogM} {e : Ent} {sec : Mem → List UInt8} {id : Int} (m : MadeR T ad g e G0 once key sec) (p : T <+: ts) (gt : GT N ts) (hN : N ≤ 999990) (hk : key.length = 32) (hS : S'.length = 32) (ho : once.length = 32)
    (hm : gG e.members id = true) (hs : ∀ x ∈ e.members,x.id = id → sec x = S) (hne : S' ≠ S) : (keyM ts e id S').2 = ([],9) := by
  obtain ⟨j,hj,h1,h2⟩ := idx_of hm
  have hbl := (fy m.right).2.2.2.2.2.2.1
  have hj' : j < e.boxes.length := by omega
  obtain ⟨sh,k,a1,a2,a3⟩ := (m.box j hj hj').up p
  rw [hs _ (List.getElem_mem hj) h2,h2] at *
  have hl : ts.length ≤ 1000000 := by have := gt.len; omega
  have hb := bky_yes (n := e.n) (id := id) hS hl (m.onm.up p)
  obtain ⟨g1,p1,l1,e1⟩ := jl gt (n := e.n) (id := id) (s := S') (p := e.once)
  have n1 := gX ts (shT S' once)
  have n2 := gX (fC ts (shT S' once)).1 ⟨107,[fP ts (shT S' once),fI e.n ++ fI id]⟩
  rw [hb] at g1 p1 l1
  simp only [] at g1 p1 l1
  change Nm _ _ (fP ts (shT S' once)) ∧ _ at n1
  change Nm _ _ (fP (fC ts (shT S' once)).1 ⟨107,[fP ts (shT S' once),fI e.n ++ fI id]⟩) ∧ _ at n2
  have hat : jA e id = e.boxes[j] := boxAt_get h1 hj'
  have n1' := n1.1.up n2.2
  generalize fP (fC ts (shT S' once)).1 ⟨107,[fP ts (shT S' once),fI e.n ++ fI id]⟩ = k' at *
  generalize (fC (fC ts (shT S' once)).1 ⟨107,[fP ts (shT S' once),fI e.n ++ fI id]⟩).1 = t2 at *
  generalize fP ts (shT S' once) = sh' at *
  have hl2 : t2.length ≤ 1000000 := by have := g1.len; omega
  have hkk : k ≠ k' := fun e => by
    subst e
    have h := (a2.up p1).inj n2.1 hl2
    simp only [Term.mk.injEq,List.cons.injEq,and_true,true_and] at h
    rw [h] at a1
    have h := (a1.up p1).inj n1' hl2
    exact hne (shT_inj h).symm
  have hf := (a3.up p1).find hl2
  simp only [] at hf
  have hop : opnM t2 k' (gE e) e.boxes[j] = ([],9) := by
    unfold opnM opT
    rw [hf]
    simp [fv,hkk]
  unfold keyM
  rw [m.right,hm,if_neg (by simp),hb,if_neg (by simp)]
  simp only [hat,hop]
  rw [if_pos (by simp)]
theorem key_none {ts : List Term} {e : Ent} {id : Int} {S : List UInt8} (hm : gG e.members id = false) : keyM ts e id S = (ts,[],13) := by
  unfold keyM
  rw [hm,Bool.and_false,if_pos rfl]
theorem key_gt {N : Nat} {ts : List Term} {e : Ent} {id : Int} {S : List UInt8} (g : GT N ts) : GT (N + 2) (keyM ts e id S).1 ∧ ts <+: (keyM ts e id S).1 := by
  obtain ⟨g1,p1,l1,e1⟩ := jl g (n := e.n) (id := id) (s := S) (p := e.once)
  unfold keyM
  split
  · exact ⟨g.mono (by omega),List.prefix_rfl⟩
  · split
    · exact ⟨g1,p1⟩
    · exact ⟨g1,p1⟩
end Go.Proofs.YtjlnpngaiphnmaaGreat
end
section
set_option linter.unusedSimpArgs false
set_option linter.unusedVariables false
set_option maxRecDepth 20000
set_option maxHeartbeats 4000000
namespace Go.Proofs.YtjlnpngaiphnmaaGreat
open Go Go.Abs Go.Proofs
section
variable {H0 E F : AH} {r h m d : Nat} {L : AObj} {bs : List (Nat × AObj)} {ts : List Term}
theorem FS.grow (f : FS H0 E r L bs h m d ts) {x : Nat} {o : AObj} (hx : E x = none) (u : Abs.Sub E F) (hv : F x = some o) : FS H0 F r L (bs ++ [(x,o)]) h m d ts :=
  (f.box o hx).up fun y o' hy => by
    by_cases e : y = x
    · subst e; rw [set_get] at hy; cases hy; exact hv
    · rw [aP e] at hy; exact u _ _ hy
theorem FS.base (f : FS H0 E r L bs h m d ts) (hr : H0 r = none) : Abs.Sub H0 E := (Sub.set_new hr).trans f.less.sub
theorem FS.takeAt {q k kd N : Nat} {ad : List UInt8} {lg : LogM} {e : Ent} (i : Nat) (g : FS H0 E r L bs h m d ts) (hi : bs[i]? = some (q, lgP ad lg k kd)) (hg : OkG lg) (he : OkE e) (gt : GT N ts) (hN : N ≤ 999990) (hq0 : q ≠ 0) (hk : k ≠ 0) (hkd : kd ≠ 0) (had : ad.length ≤ 100000000) :
    ACalls Tryz.prog 23 [.ptr q 0,iT h,.agg (fX e)] E fun v H' => v = .sc (.int .i64 (gO ts ad lg e).2.2) ∧ ∃ k' kd',k' ≠ 0 ∧ kd' ≠ 0 ∧ FS H0 H' r L (bs.set i (q,lgP ad (gO ts ad lg e).2.1 k' kd')) h m d (gO ts ad lg e).1 := by
  obtain ⟨D,fr,s⟩ := g
  have hq := (fr.own _ (List.mem_of_getElem? hi)).1
  refine (take_live hg he gt hN s hq0 hk hkd hq had).mono ?_
  rintro v H' ⟨rfl,k',kd',h1,h2,s'⟩
  exact ⟨rfl,k',kd',h1,h2,_,fr.put i _ hi,s'⟩
end
theorem pickA_sub (mem : List Mem) (w : UInt8) : ∀ n,∀ m ∈ iV mem w n,∃ i,i < n ∧ m = mem.getD i noM
  | 0,m,h => by cases h
  | n + 1,m,h => by
    rw [iV] at h
    rcases List.mem_append.1 h with h | h
    · obtain ⟨i,hi,e⟩ := pickA_sub mem w n m h
      exact ⟨i,by omega,e⟩
    · split at h
      · rw [List.mem_singleton.1 h]; exact ⟨n,by omega,rfl⟩
      · cases h
abbrev secOf (S : List (List UInt8)) (m : Mem) : List UInt8 := S.getD m.id.toNat []
theorem sec_of {c : BegS} {w : UInt8} {ms : List Mem} (hF : BegF c 5) (hms : ms = iV c.M w 5) : (∀ m ∈ ms,Nm c.ts ⟨112,[secOf c.S m]⟩ m.pub) ∧ ∀ (id : Nat),id < 5 → ∀ m ∈ ms,m.id = (id : Int) → secOf c.S m = c.S.getD id [] := by
  subst hms
  refine ⟨fun m hm => ?_,fun id hid m hm e => ?_⟩
  · obtain ⟨i,hi,rfl⟩ := pickA_sub _ _ _ m hm
    obtain ⟨f1,f2,f3,f4⟩ := hF i hi
    unfold secOf
    rw [f4,Int.toNat_natCast]
    exact f2
  · unfold secOf
    rw [e,Int.toNat_natCast]
theorem sec_ne {c : BegS} (hF : BegF c 5) (hl : c.ts.length ≤ 1000000) {i j : Nat} (hi : i < 5) (hj : j < 5) (hij : i ≠ j) : c.S.getD i [] ≠ c.S.getD j [] :=
  draw_ne (hF i hi).1 (hF j hj).1 hl (by omega) (by omega) (by omega)
end Go.Proofs.YtjlnpngaiphnmaaGreat
end
