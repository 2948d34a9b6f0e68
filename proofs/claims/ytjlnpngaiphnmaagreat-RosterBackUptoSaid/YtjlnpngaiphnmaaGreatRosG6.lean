/-
  Several texts in one: each says what it proves.
  Conditions: none. Lemmas only.
-/
import Derived.Test.YtjlnpngaiphnmaaGreatRosG5
import Derived.Test.YtjlnpngaiphnmaaGreatSuiG6
import Derived.Test.YtjlnpngaiphnmaaGreatRosG3
import Derived.Test.YtjlnpngaiphnmaaGreatRosG2
import Derived.Test.YtjlnpngaiphnmaaGreatRosG1
set_option linter.all false
section
set_option linter.unusedSimpArgs false
set_option linter.unusedVariables false
set_option maxRecDepth 20000
set_option maxHeartbeats 4000000
namespace Go.Proofs.YtjlnpngaiphnmaaGreat
open Go Go.Abs Go.Proofs
def fP (ts : List Term) (t : Term) : List UInt8 := fW t (fC ts t).2
def i9 : Ent := ⟨0,[],[],[],[],[],[]⟩
abbrev gQ (e : Ent) : Term := ⟨104,[fV e]⟩
structure LogM where
  L : List Ent
  D : List (List UInt8)
def iZ (D : List (List UInt8)) (n : Int) : List UInt8 := if n < 1 ∨ (D.length : Int) < n then [] else D.getD (n.toNat - 1) []
def kM (g : LogM) (ms : List Mem) (ns : List Nd) : Bool := folD (iK g.L) ms (j6 (g.L.map Ent.members)) [0,1,2,3,4] ns
def gO (ts : List Term) (ad : List UInt8) (g : LogM) (e : Ent) : List Term × LogM × Int :=
  if gK e = false then (ts,g,1)
  else if e.n ≤ (g.L.length : Int) then ((fC ts (gQ e)).1,g,if fP ts (gQ e) = iZ g.D e.n then 16 else 18)
  else if ¬ e.n = (g.L.length : Int) + 1 then (ts,g,15)
  else if ¬ e.prev = iZ g.D g.L.length then (ts,g,17)
  else if verT ts ad (fV e) e.sig = false then (ts,g,10)
  else if kM g e.members e.ends = false then (ts,g,19)
  else ((fC ts (gQ e)).1,⟨g.L ++ [e],g.D ++ [fP ts (gQ e)]⟩,0)
def iI (ts : List Term) (s p : List UInt8) : List Term × List UInt8 × Int :=
  if ¬ s.length = 32 then (ts,[],1)
  else if (fN ts p 112).2 = false then (ts,[],8)
  else ((fC ts (shT s (fv (fN ts p 112).1 0))).1,fP ts (shT s (fv (fN ts p 112).1 0)),0)
def gR (ts : List Term) (n id : Int) (s p : List UInt8) : List Term × List UInt8 × Int :=
  if ¬ (iI ts s p).2.2 = 0 then ((iI ts s p).1,[],(iI ts s p).2.2)
  else ((fC (iI ts s p).1 ⟨107,[(iI ts s p).2.1,fI n ++ fI id]⟩).1,fP (iI ts s p).1 ⟨107,[(iI ts s p).2.1,fI n ++ fI id]⟩,0)
def iE (e : Ent) (once key : List UInt8) : List Term → List Mem → List (List UInt8) → List Term × List (List UInt8) × Int
  | ts,[],acc => (ts,acc,0)
  | ts,m :: l,acc =>
    if ¬ (gR ts e.n m.id once m.pub).2.2 = 0 then ((gR ts e.n m.id once m.pub).1,acc,(gR ts e.n m.id once m.pub).2.2)
    else iE e once key (fC (gR ts e.n m.id once m.pub).1 (il (gR ts e.n m.id once m.pub).2.1 1 (gE e) key)).1 l (acc ++ [fP (gR ts e.n m.id once m.pub).1 (il (gR ts e.n m.id once m.pub).2.1 1 (gE e) key)])
def gS (ts2 : List Term) (g : LogM) (once : List UInt8) (ms : List Mem) (ns : List Nd) : Ent := ⟨(g.L.length : Int) + 1,iZ g.D g.L.length,ms,ns,fP ts2 ⟨112,[once]⟩,[],[]⟩
def gq (ts : List Term) (ad : List UInt8) (g : LogM) (secret once key : List UInt8) (ms : List Mem) (ns : List Nd) : List Term × Ent × Int :=
  if ¬ secret.length = 32 ∨ ¬ once.length = 32 ∨ ¬ key.length = 32 then (ts,i9,1)
  else if ¬ fP ts ⟨118,[secret]⟩ = ad then ((fC ts ⟨118,[secret]⟩).1,i9,23)
  else if g.L.length = 65536 then ((fC ts ⟨118,[secret]⟩).1,i9,14)
  else if (gV ms ns && kM g ms ns) = false then ((fC (fC ts ⟨118,[secret]⟩).1 ⟨112,[once]⟩).1,i9,19)
  else
    let ts2 := (fC ts ⟨118,[secret]⟩).1
    let e := gS ts2 g once ms ns
    let b := iE e once key (fC ts2 ⟨112,[once]⟩).1 ms []
    if ¬ b.2.2 = 0 then (b.1,i9,b.2.2)
    else ((fC b.1 ⟨103,[secret,fV { e with boxes := b.2.1 }]⟩).1,{ e with boxes := b.2.1,sig := fP b.1 ⟨103,[secret,fV { e with boxes := b.2.1 }]⟩ },0)
def jA (e : Ent) (id : Int) : List UInt8 := match e.members.findIdx? (fun m => m.id == id) with
  | some i => e.boxes.getD i []
  | none => []
def opnM (ts : List Term) (key o b : List UInt8) : List UInt8 × Int := if opT ts key 1 o b = true then (fv (fN ts b 98).1 3,0) else ([],9)
def keyM (ts : List Term) (e : Ent) (id : Int) (secret : List UInt8) : List Term × List UInt8 × Int :=
  if (gK e && gG e.members id) = false then (ts,[],13)
  else if ¬ (gR ts e.n id secret e.once).2.2 = 0 then ((gR ts e.n id secret e.once).1,[],(gR ts e.n id secret e.once).2.2)
  else ((gR ts e.n id secret e.once).1,
    if ¬ (opnM (gR ts e.n id secret e.once).1 (gR ts e.n id secret e.once).2.1 (gE e) (jA e id)).2 = 0 then ([],(opnM (gR ts e.n id secret e.once).1 (gR ts e.n id secret e.once).2.1 (gE e) (jA e id)).2)
    else if ¬ (opnM (gR ts e.n id secret e.once).1 (gR ts e.n id secret e.once).2.1 (gE e) (jA e id)).1.length = 32 then ([],5)
    else ((opnM (gR ts e.n id secret e.once).1 (gR ts e.n id secret e.once).2.1 (gE e) (jA e id)).1,0))
structure OkG (g : LogM) : Prop where
  len : g.D.length = g.L.length
  few : g.L.length ≤ 65536
  ent : ∀ e ∈ g.L,gK e = true
  dig : ∀ x ∈ g.D,x.length = 32
def iF (e : Ent) : Ent := ⟨e.n,[],e.members,e.ends,[],[],[]⟩
theorem slim_members (l : List Ent) : (l.map iF).map Ent.members = l.map Ent.members := by rw [List.map_map]; rfl
theorem slim_last (l : List Ent) : iK (l.map iF) = iK l := by
  unfold iK
  rw [List.getLast?_map,Option.map_map]
  rfl
theorem fy {e : Ent} (h : gK e = true) : 1 ≤ e.n ∧ e.n ≤ 65536 ∧ jF e = true ∧ gV e.members e.ends = true ∧ (∀ b ∈ e.boxes,b.length = 48) ∧ e.once.length = 32 ∧ e.boxes.length = e.members.length ∧ e.sig.length = 64 := by
  unfold gK at h
  simp only [Bool.and_eq_true,decide_eq_true_eq] at h
  obtain ⟨h1,h2,h3,h4,h5,h6,h7,h8⟩ := h
  refine ⟨h1,h2,h3,h4,fun b hb => ?_,h6,h7,h8⟩
  have := List.all_eq_true.1 h5 b hb
  unfold boxOk at this
  exact of_decide_eq_true this
theorem gH {ms : List Mem} {ns : List Nd} (h : gV ms ns = true) : ms.length ≤ 5 ∧ ns.length ≤ 5 ∧ gC (-1) (ms.map Mem.id) = true ∧ gC (-1) (ns.map Nd.author) = true ∧ (∀ m ∈ ms,m.pub.length = 32 ∧ m.sgn.length = 32) ∧ (∀ x ∈ ns,0 ≤ x.seq ∧ x.seq ≤ 1048576) := by
  have hl : ¬ (5 < ms.length ∨ 5 < ns.length) := fun hh => by rw [parts_long hh] at h; cases h
  unfold gV at h
  simp only [Bool.and_eq_true,decide_eq_true_eq] at h
  obtain ⟨h1,h2,h3,h4,h5⟩ := h
  refine ⟨by omega,by omega,h2,h3,fun m hm => ?_,fun x hx => ?_⟩
  · have := List.all_eq_true.1 h4 m hm
    unfold jQ at this
    simpa using this
  · have := List.all_eq_true.1 h5 x hx
    unfold kC at this
    simpa using this
theorem prev_le {e : Ent} (h : jF e = true) : e.prev.length ≤ 32 := by
  unfold jF at h
  simp only [Bool.or_eq_true,Bool.and_eq_true,decide_eq_true_eq] at h
  omega
theorem right_ok {e : Ent} (h : gK e = true) : OkE e := by
  obtain ⟨h1,h2,h3,h4,h5,h6,h7,h8⟩ := fy h
  obtain ⟨p1,p2,p3,p4,p5,p6⟩ := gH h4
  have hp := prev_le h3
  exact ⟨by omega,by omega,fun m hm => by have := p5 m hm; omega,by omega,by omega,by omega,fun b hb => by have := h5 b hb; omega,by omega⟩
theorem last_right {g : LogM} (hg : OkG g) : gC (-1) ((iK g.L).map Mem.id) = true ∧ (iK g.L).length ≤ 5 := by
  unfold iK
  rcases h : g.L.getLast? with _ | e
  · exact ⟨rfl,by simp⟩
  · have he := fy (hg.ent e (List.mem_of_getLast? h))
    obtain ⟨p1,p2,p3,_⟩ := gH he.2.2.2.1
    exact ⟨p3,p1⟩
theorem fol_both {g : LogM} (hg : OkG g) {ms : List Mem} {ns : List Nd} (h : gV ms ns = true) : folP (iK (g.L.map iF)) ms (jr false ((g.L.map iF).map Ent.members)) ns = kM g ms ns := by
  obtain ⟨l1,l2⟩ := last_right hg
  obtain ⟨p1,p2,p3,_⟩ := gH h
  have hgl : jr false (g.L.map Ent.members) = j6 (g.L.map Ent.members) := by
    funext id
    rw [gone_left]; simp
  rw [slim_last,slim_members,hgl]
  unfold kM
  exact (fol_eq _ _ l1 p3).symm
theorem digM_get {D : List (List UInt8)} {i : Nat} (h : i < D.length) : iZ D ((i + 1 : Nat) : Int) = D[i] := by
  unfold iZ
  rw [if_neg (by omega)]
  simp [List.getD,h]
theorem digM_zero {D : List (List UInt8)} {n : Int} (h : n < 1) : iZ D n = [] := by unfold iZ; rw [if_pos (.inl h)]
theorem wf_hash {e : Ent} (h : OkE e) : wfT (gQ e) := wf1 (by decide) (by have := iM h; omega)
theorem GT.hash {N : Nat} {ts : List Term} (g : GT N ts) {e : Ent} (h : OkE e) : GT (N + 1) (fC ts (gQ e)).1 := g.num (wf_hash h) fun e => absurd (show (104 : UInt8) = 112 from e) (by decide)
theorem gW (ts : List Term) (t : Term) : (fP ts t).length = iP t := j4 _ _
theorem OkG.take {g : LogM} (hg : OkG g) {ts : List Term} {ad : List UInt8} {e : Ent} : OkG (gO ts ad g e).2.1 := by
  unfold gO
  split
  · exact hg
  split
  · exact hg
  split
  · exact hg
  split
  · exact hg
  split
  · exact hg
  split
  · exact hg
  rename_i h1 h2 h3 h4 h5 h6
  have hr : gK e = true := by simpa using h1
  have hn := (fy hr).2.1
  refine ⟨by simp [hg.len],by simp; omega,fun x hx => ?_,fun x hx => ?_⟩
  · rcases List.mem_append.1 hx with h | h
    · exact hg.ent x h
    · rw [List.mem_singleton.1 h]; exact hr
  · rcases List.mem_append.1 hx with h | h
    · exact hg.dig x h
    · rw [List.mem_singleton.1 h,gW]; rfl
theorem take_gt {N : Nat} {g : LogM} {ts : List Term} {ad : List UInt8} {e : Ent} (h : GT N ts) : GT (N + 1) (gO ts ad g e).1 := by
  have hm := h.mono (Nat.le_succ N)
  unfold gO
  split
  · exact hm
  rename_i h1
  have hr : gK e = true := by simpa using h1
  have hh := h.hash (right_ok hr)
  split
  · exact hh
  split
  · exact hm
  split
  · exact hm
  split
  · exact hm
  split
  · exact hm
  · exact hh
theorem take_len {g : LogM} {ts : List Term} {ad : List UInt8} {e : Ent} : (gO ts ad g e).2.1.L.length ≤ g.L.length + 1 := by
  unfold gO
  repeat' first | split | simp
end Go.Proofs.YtjlnpngaiphnmaaGreat
end
section
set_option linter.unusedSimpArgs false
set_option linter.unusedVariables false
set_option maxRecDepth 20000
set_option maxHeartbeats 4000000
namespace Go.Proofs.YtjlnpngaiphnmaaGreat
open Go Go.Abs Go.Proofs
variable {N : Nat} {ts : List Term}
theorem find_part {ts : List Term} (g : GT N ts) {p : List UInt8} (h : (fN ts p 112).2 = true) : (fv (fN ts p 112).1 0).length ≤ 1000000 := by
  have := gP h
  exact g.pub _ this.1 this.2
theorem shT_size (a b : List UInt8) : iP (shT a b) = 32 := by unfold shT; split <;> rfl
theorem shr_spec (g : GT N ts) {s p : List UInt8} : GT (N + 1) (iI ts s p).1 ∧ ts <+: (iI ts s p).1 ∧ ((iI ts s p).2.2 = 0 → (iI ts s p).2.1.length = 32) ∧ ((iI ts s p).2.2 = 0 ∨ (iI ts s p).2 = ([],1) ∨ (iI ts s p).2 = ([],8)) := by
  unfold iI
  split
  · exact ⟨g.mono (Nat.le_succ N),List.prefix_rfl,(fun h => by cases h),.inr (.inl rfl)⟩
  rename_i h1
  split
  · exact ⟨g.mono (Nat.le_succ N),List.prefix_rfl,(fun h => by cases h),.inr (.inr rfl)⟩
  rename_i h2
  have h2 : (fN ts p 112).2 = true := by simpa using h2
  have hp := find_part g h2
  obtain ⟨w,k⟩ := shT_wf (a := s) (b := fv (fN ts p 112).1 0) (by omega) (by omega)
  refine ⟨g.num w fun e => absurd (k.symm.trans e) (by decide),(gX _ _).2,fun _ => ?_,.inl rfl⟩
  rw [gW,shT_size]
theorem num2 (a b : Int) : (fI a ++ fI b).length ≤ 14 := by
  rw [List.length_append]
  have := fT a
  have := fT b
  omega
theorem jl (g : GT N ts) {n id : Int} {s p : List UInt8} : GT (N + 2) (gR ts n id s p).1 ∧ ts <+: (gR ts n id s p).1 ∧ ((gR ts n id s p).2.2 = 0 → (gR ts n id s p).2.1.length = 32) ∧ ((gR ts n id s p).2.2 = 0 ∨ (gR ts n id s p).2 = ([],1) ∨ (gR ts n id s p).2 = ([],8)) := by
  obtain ⟨g1,p1,l1,e1⟩ := shr_spec g (s := s) (p := p)
  unfold gR
  split
  · rename_i h
    refine ⟨g1.mono (by omega),p1,fun h' => absurd h' h,?_⟩
    rcases e1 with e | e | e
    · exact absurd e h
    · exact .inr (.inl (by rw [e]))
    · exact .inr (.inr (by rw [e]))
  · rename_i h
    have h : (iI ts s p).2.2 = 0 := Classical.byContradiction h
    have hl := l1 h
    have hn := num2 n id
    exact ⟨g1.num (wf2 (k := 107) (by decide) (by omega) (by omega)) fun e => absurd (show (107 : UInt8) = 112 from e) (by decide),p1.trans (gX _ _).2,fun _ => by rw [gW]; rfl,.inl rfl⟩
theorem bxs_spec {e : Ent} {once key : List UInt8} (he : (gE e).length ≤ 100000000) (hk : key.length = 32) : ∀ {l : List Mem} {N : Nat} {ts : List Term} {acc : List (List UInt8)}, GT N ts →
    GT (N + 3 * l.length) (iE e once key ts l acc).1 ∧ ts <+: (iE e once key ts l acc).1 ∧ ((iE e once key ts l acc).2.2 = 0 → (∀ b ∈ acc,b.length = 48) → (iE e once key ts l acc).2.1.length = acc.length + l.length ∧ ∀ b ∈ (iE e once key ts l acc).2.1,b.length = 48) ∧
      ((iE e once key ts l acc).2.2 = 0 ∨ (iE e once key ts l acc).2.2 = 1 ∨ (iE e once key ts l acc).2.2 = 8)
  | [],N,ts,acc,g => ⟨g,List.prefix_rfl,fun _ h => ⟨rfl,h⟩,.inl rfl⟩
  | m :: l,N,ts,acc,g => by
    obtain ⟨g1,p1,l1,e1⟩ := jl g (n := e.n) (id := m.id) (s := once) (p := m.pub)
    unfold iE
    generalize gR ts e.n m.id once m.pub = B at *
    split
    · rename_i h
      refine ⟨g1.mono (by rw [List.length_cons]; omega),p1,fun h' => absurd h' h,?_⟩
      rcases e1 with e | e | e
      · exact .inl e
      · exact .inr (.inl (by rw [e]))
      · exact .inr (.inr (by rw [e]))
    · rename_i h
      have h : B.2.2 = 0 := Classical.byContradiction h
      have hl := l1 h
      have w : wfT (il B.2.1 1 (gE e) key) := wf4 (by omega) (by rw [fe]; omega) he (by omega)
      have g2 := g1.num w fun e => absurd (show (98 : UInt8) = 112 from e) (by decide)
      have hN : N + 2 + 1 + 3 * l.length = N + 3 * (m :: l).length := by rw [List.length_cons]; omega
      obtain ⟨r1,r2,r3,r4⟩ := bxs_spec he hk (l := l) (acc := acc ++ [fP B.1 (il B.2.1 1 (gE e) key)]) g2
      rw [hN] at r1
      refine ⟨r1,(p1.trans (gX _ _).2).trans r2,fun h0 ha => ?_,r4⟩
      have hb : ∀ b ∈ acc ++ [fP B.1 (il B.2.1 1 (gE e) key)],b.length = 48 := fun b hb => by
        rcases List.mem_append.1 hb with hb | hb
        · exact ha b hb
        · rw [List.mem_singleton.1 hb,gW]
          show key.length + 16 = 48
          omega
      obtain ⟨q1,q2⟩ := r3 h0 hb
      refine ⟨?_,q2⟩
      rw [q1,List.length_append,List.length_cons]
      simp only [List.length_cons,List.length_nil]
      omega
theorem core_boxes (e : Ent) (b : List (List UInt8)) (s : List UInt8) : gE { e with boxes := b,sig := s } = gE e := rfl
theorem base_ok {g : LogM} (hg : OkG g) {ts : List Term} {once : List UInt8} {ms : List Mem} {ns : List Nd} (h : gV ms ns = true) : OkE (gS ts g once ms ns) ∧ jF (gS ts g once ms ns) = true := by
  obtain ⟨p1,p2,p3,p4,p5,p6⟩ := gH h
  have hl : (iZ g.D g.L.length).length = 32 ∨ ((g.L.length : Int) + 1 = 1 ∧ (iZ g.D g.L.length).length = 0) := by
    rcases Nat.eq_zero_or_pos g.L.length with h0 | h0
    · rw [h0]
      exact .inr ⟨rfl,by rw [digM_zero (by decide)]; rfl⟩
    · left
      obtain ⟨i,hi⟩ : ∃ i,g.L.length = i + 1 := ⟨g.L.length - 1,by omega⟩
      have hd : i < g.D.length := by rw [hg.len]; omega
      rw [hi,digM_get hd]
      exact hg.dig _ (List.getElem_mem hd)
  refine ⟨⟨by simp only [gS]; omega,by simp only [gS]; omega,fun m hm => by have := p5 m hm; omega,by simp only [gS]; omega,by simp only [gS]; rw [gW]; exact (show 32 ≤ 5000 by decide),by simp [gS],fun b hb => by simp [gS] at hb,by simp [gS]⟩,?_⟩
  unfold jF
  rw [Bool.or_eq_true,Bool.and_eq_true,decide_eq_true_eq,decide_eq_true_eq,decide_eq_true_eq]
  exact hl
theorem right_of {e : Ent} (h1 : 1 ≤ e.n) (h2 : e.n ≤ 65536) (h3 : jF e = true) (h4 : gV e.members e.ends = true) (h5 : ∀ b ∈ e.boxes,b.length = 48) (h6 : e.once.length = 32) (h7 : e.boxes.length = e.members.length) (h8 : e.sig.length = 64) : gK e = true := by
  unfold gK
  simp only [Bool.and_eq_true,decide_eq_true_eq]
  refine ⟨h1,h2,h3,h4,?_,h6,h7,h8⟩
  rw [List.all_eq_true]
  intro b hb
  unfold boxOk
  exact decide_eq_true (h5 b hb)
theorem kJ {g : LogM} (hg : OkG g) (gt : GT N ts) {ad secret once key : List UInt8} {ms : List Mem} {ns : List Nd} :
    GT (N + 20) (gq ts ad g secret once key ms ns).1 ∧ ts <+: (gq ts ad g secret once key ms ns).1 ∧ ((gq ts ad g secret once key ms ns).2.2 = 0 → gK (gq ts ad g secret once key ms ns).2.1 = true) ∧ (¬ (gq ts ad g secret once key ms ns).2.2 = 0 → (gq ts ad g secret once key ms ns).2.1 = i9) := by
  unfold gq
  split
  · exact ⟨gt.mono (by omega),List.prefix_rfl,(fun h => by cases h),fun _ => rfl⟩
  rename_i h1
  have c1 : secret.length = 32 := Classical.byContradiction fun h => h1 (.inl h)
  have c2 : once.length = 32 := Classical.byContradiction fun h => h1 (.inr (.inl h))
  have c3 : key.length = 32 := Classical.byContradiction fun h => h1 (.inr (.inr h))
  have g1 := gt.num (wf1 (k := 118) (a := secret) (by decide) (by omega)) fun e => absurd (show (118 : UInt8) = 112 from e) (by decide)
  have p1 := (gX ts ⟨118,[secret]⟩).2
  generalize (fC ts ⟨118,[secret]⟩).1 = t1 at *
  have g2 := g1.num (wf1 (k := 112) (a := once) (by decide) (by omega)) fun e => by simp [fv]; omega
  have p2 := p1.trans (gX t1 ⟨112,[once]⟩).2
  split
  · exact ⟨g1.mono (by omega),p1,(fun h => by cases h),fun _ => rfl⟩
  split
  · exact ⟨g1.mono (by omega),p1,(fun h => by cases h),fun _ => rfl⟩
  rename_i h4
  split
  · exact ⟨g2.mono (by omega),p2,(fun h => by cases h),fun _ => rfl⟩
  rename_i h3
  have h3 : (gV ms ns && kM g ms ns) = true := by simpa using h3
  rw [Bool.and_eq_true] at h3
  obtain ⟨hp,hf⟩ := h3
  obtain ⟨q1,q2,q3,q4,q5,q6⟩ := gH hp
  obtain ⟨hok,hpv⟩ := base_ok hg (ts := t1) (once := once) hp
  have hcl := iz hok
  obtain ⟨b1,b2,b3,b4⟩ := bxs_spec (e := gS t1 g once ms ns) (once := once) (by omega) c3 (l := ms) (acc := []) g2
  simp only []
  generalize iE (gS t1 g once ms ns) once key (fC t1 ⟨112,[once]⟩).1 ms [] = B at *
  split
  · exact ⟨b1.mono (by omega),p2.trans b2,fun h => absurd h (by assumption),fun _ => rfl⟩
  rename_i h0
  have h0 : B.2.2 = 0 := Classical.byContradiction h0
  obtain ⟨k1,k2⟩ := b3 h0 (fun b hb => by cases hb)
  have okb : OkE { gS t1 g once ms ns with boxes := B.2.1 } := ⟨hok.prev,hok.ml,hok.ms,hok.el,hok.once,by show B.2.1.length ≤ 100; simp at k1; omega,fun b hb => by have := k2 b hb; omega,hok.sig⟩
  have hwl := iM okb
  have g3 := b1.num (wf2 (k := 103) (a := secret) (b := fV { gS t1 g once ms ns with boxes := B.2.1 }) (by decide) (by omega) (by omega)) fun e => absurd (show (103 : UInt8) = 112 from e) (by decide)
  refine ⟨g3.mono (by omega),(p2.trans b2).trans (gX _ _).2,fun _ => ?_,fun h => absurd rfl h⟩
  have hfew := hg.few
  have hn : (1 : Int) ≤ (g.L.length : Int) + 1 ∧ (g.L.length : Int) + 1 ≤ 65536 := by omega
  have hbl : B.2.1.length = ms.length := by rw [k1]; simp
  refine right_of hn.1 hn.2 hpv hp k2 ?_ hbl ?_
  · exact gW _ _
  · exact gW _ _
end Go.Proofs.YtjlnpngaiphnmaaGreat
end
section
set_option linter.unusedSimpArgs false
set_option linter.unusedVariables false
set_option maxRecDepth 20000
set_option maxHeartbeats 8000000
namespace Go.Proofs.YtjlnpngaiphnmaaGreat
open Go Go.Abs Go.Proofs
theorem i6 {G : AH} {a b : Nat} {o y : AObj} (h : G a = none) (h1 : ¬ a = b) : ((G.set a o).set b y).kill a = G.set b y := bH h h1
theorem copied_pure (ms : List Mem) (hl : ms.length ≤ 100000) (hb : ∀ m ∈ ms,m.pub.length ≤ 1000000 ∧ m.sgn.length ≤ 1000000) : APure Tryz.prog 55 [fE ms] (fE ms) := by
  have hml : (ms.flatMap fL).length = ms.length * 3 := fF fU ms
  have hmd := fun i (h : i < ms.length) => iJ h
  have hsn := fun i (h : i < ms.length) => jH fL h
  refine az (c := ⟨Tryz.prog,28,[(5,[0,0,0,2,0,0,2,2,0,0,2,0,0,2,0]),(1000004,[5])],[15,19],[(5,(.op 0 0 (.op 1 0 (.op 2 0 (.op 4 0 (.op 5 0 (.op 8 0 (.op 9 0 (.or (.op 3 3 (.or (.op 6 3 (.op 7 3 (.op 10 3 (.op 11 0 (.op 12 0 (.op 13 3 (.op 14 0 .nil))))))) (.op 7 3 (.op 6 3 (.op 10 3 (.op 11 0 (.op 12 0 (.op 13 3 (.op 14 0 .nil))))))))) (.op 7 3 (.op 3 3 (.op 6 3 (.op 10 3 (.op 11 0 (.op 12 0 (.op 13 3 (.op 14 0 .nil)))))))))))))))))]⟩) (rs := [ResultVar.tmp 2]) Tryz.mixed Tryz.func55 rfl rfl rfl (Nat.le_of_ble_eq_true rfl) (by kernel_rfl) fun H => ?_
  simp (disch := omega) only [↓aI,↓zP,aD,zD,aS,simprocAttr,Tryz.facts,zA]
  refine jn 3 (by simp (disch := omega) only [↓aI,↓zP,aD,zD,aS,simprocAttr,Tryz.facts]) fun kt hkt0 hkt => ?_
  refine br (c := ⟨Tryz.prog,28,[(5,[0,0,0,2,0,0,2,2,0,0,2,0,0,2,0]),(1000004,[5])],[15,19],[(5,(.op 0 0 (.op 1 0 (.op 2 0 (.op 4 0 (.op 5 0 (.op 8 0 (.op 9 0 (.or (.op 3 3 (.or (.op 6 3 (.op 7 3 (.op 10 3 (.op 11 0 (.op 12 0 (.op 13 3 (.op 14 0 .nil))))))) (.op 7 3 (.op 6 3 (.op 10 3 (.op 11 0 (.op 12 0 (.op 13 3 (.op 14 0 .nil))))))))) (.op 7 3 (.op 3 3 (.op 6 3 (.op 10 3 (.op 11 0 (.op 12 0 (.op 13 3 (.op 14 0 .nil)))))))))))))))))]⟩) Tryz.mixed (by kernel_rfl) (fun mm σ E => ∃ (i kt : Nat) (o : AObj),i + mm = ms.length ∧ E kt = some o ∧ kt ≠ 0 ∧ H kt = none ∧ Abs.Sub H E ∧ cy 30 3 o ((ms.take i).flatMap fL).length ∧
    σ 3 = .imm kt ((ms.take i).flatMap fL) i ∧ σ 6 = fE ms ∧ σ 7 = .sc (.int .i64 (ms.length : Nat)) ∧ σ 8 = .sc (.int .i64 (i : Nat))) ms.length ?_ ?_
  · refine ⟨0,kt,.nilt,by omega,set_get,hkt0,hkt,Sub.set_new hkt,.inr ⟨rfl,rfl⟩,?_⟩
    simp (disch := omega) only [↓aI,↓zP,aD,zD,aS,simprocAttr,Tryz.facts,zA]
    rfl
  · rintro mm σ E ⟨i,kt,o,him,hk,hk0,hH,hs,ho,s3,s6,s7,s8⟩
    by_cases hlt : i < ms.length
    · have hl := hmd i hlt
      have hc3 : i * 3 + 3 ≤ ms.length * 3 := by omega
      have hsn := hsn i hlt
      have hbm := hb _ (List.getElem_mem hlt)
      have hln : ((ms.take i).flatMap fL).length = i * 3 := by rw [fF fU,List.length_take]; omega
      generalize ms[i] = m at *
      obtain ⟨mi,mp,mg⟩ := m
      simp only [fL] at hl hsn hbm
      simp (disch := omega) only [↓aI,↓zP,aD,zD,aS,simprocAttr,Tryz.facts,zA,s3,s6,s7,s8,hml,hl,hc3,ah]
      intro k7 hk70 hk7
      rw [aj hk7]
      refine eI (fun σ F => ∃ (kt' : Nat) (o' : AObj),F kt' = some o' ∧ kt' ≠ 0 ∧ H kt' = none ∧ Abs.Sub H F ∧ cy 30 3 o' ((ms.take (i + 1)).flatMap fL).length ∧
        σ 3 = .imm kt' ((ms.take (i + 1)).flatMap fL) (i + 1) ∧ σ 6 = fE ms ∧ σ 7 = .sc (.int .i64 (ms.length : Nat)) ∧ σ 8 = .sc (.int .i64 (i : Nat))) ?_ ?_
      · simp (disch := omega) only [↓aI,↓zP,aD,zD,aS,simprocAttr,Tryz.facts,zA,s3,s6,s7,s8,hml,hl,hc3,ah]
        rw [hln] at ho
        have nt : ∀ {k : Nat},E k = none → ¬ k = kt := fun h e => by rw [e,hk] at h; cases h
        have nt' : ∀ {k : Nat},E k = none → ¬ kt = k := fun h e => nt h e.symm
        have fin : ∀ (F : AH) (kf : Nat) (of : AObj),Abs.Sub E F → ¬ kf = 0 → F kf = none → cy 30 3 of (i * 3 + 3) → F kt = some o →
          ∃ (kt' : Nat) (o' : AObj),((F.kill kt).set kf of) kt' = some o' ∧ kt' ≠ 0 ∧ H kt' = none ∧ Abs.Sub H ((F.kill kt).set kf of) ∧ cy 30 3 o' ((ms.take (i + 1)).flatMap fL).length ∧
            AV.imm kf ((ms.take i).flatMap fL ++ [.sc (.int .i64 mi),eu mp,eu mg]) (i + 1) = .imm kt' ((ms.take (i + 1)).flatMap fL) (i + 1) := fun F kf of hF h0 hf ht hFk => by
          have hfH : H kf = none := hs.free (hF.free hf)
          refine ⟨kf,of,set_get,h0,hfH,((hs.trans hF).kill_free hH).set_free hfH,?_,?_⟩
          · rw [hsn,List.length_append,hln]; exact ht
          · rw [hsn]
        refine And.intro ?_ ?_
        · intro k1 hk10 hk1
          try simp (disch := omega) only [↓aI,↓zP,aD,zD,aS,simprocAttr,Tryz.facts,zA,s3,s6,s7,s8,hml,hl,hc3,hk,ho,hln,ah,set_get,fO,aj hk1]
          refine And.intro ?_ ?_
          · intro k2 o2 hk20 hk2 ho2
            replace hk2 := am hk2
            try simp (disch := omega) only [↓aI,↓zP,aD,zD,aS,simprocAttr,Tryz.facts,zA,s3,s6,s7,s8,hml,hl,hc3,hk,ho,hln,ah,set_get,fO,aj hk1]
            intro k3 hk30 hk3
            try simp (disch := omega) only [↓aI,↓zP,aD,zD,aS,simprocAttr,Tryz.facts,zA,s3,s6,s7,s8,hml,hl,hc3,hk,ho,hln,ah,set_get,fO,aj hk3]
            intro k4 o4 hk40 hk4 ho4
            replace hk4 := am hk4
            have n24 := bK hk4
            replace hk4 := am hk4
            have nt2 := nt' hk2
            have nt4 := nt' hk4
            try simp (disch := omega) only [↓aI,↓zP,aD,zD,aS,simprocAttr,Tryz.facts,zA,s3,s6,s7,s8,hml,hl,hc3,hk,ho,nt2,nt4,hln,ah,set_get,aP,fO,aj hk3]
            intro kf of hkf0 hkf hof
            try simp (disch := omega) only [↓aI,↓zP,aD,zD,aS,simprocAttr,Tryz.facts,zA,s3,s6,s7,s8,hml,hl,hc3,hk,ho,nt2,nt4,hln,ah,set_get,aP,fO,aj hk3]
            exact fin _ kf of (((Abs.Sub.refl E).set_free hk2).set_free hk4) hkf0 hkf hof (by rw [aP nt4,aP nt2]; exact hk)
          · intro k3 hk30 hk3
            have n13 := bK hk3
            replace hk3 := am hk3
            try simp (disch := omega) only [↓aI,↓zP,aD,zD,aS,simprocAttr,Tryz.facts,zA,s3,s6,s7,s8,hml,hl,hc3,hk,ho,hln,ah,set_get,aP,fO,n13,i6 hk1 n13]
            intro k2 o2 hk20 hk2 ho2
            have n32 := bK hk2
            replace hk2 := am (am hk2)
            try simp (disch := omega) only [↓aI,↓zP,aD,zD,aS,simprocAttr,Tryz.facts,zA,s3,s6,s7,s8,hml,hl,hc3,hk,ho,hln,ah,set_get,aP,fO,n13,n32,i6 hk1 n13,i6 hk3 n32]
            intro k4 o4 hk40 hk4 ho4
            have n24 := bK hk4
            replace hk4 := am (am hk4)
            have nt2 := nt' hk2
            have nt4 := nt' hk4
            try simp (disch := omega) only [↓aI,↓zP,aD,zD,aS,simprocAttr,Tryz.facts,zA,s3,s6,s7,s8,hml,hl,hc3,hk,ho,nt2,nt4,hln,ah,set_get,aP,fO,n13,n32,i6 hk1 n13,i6 hk3 n32]
            intro kf of hkf0 hkf hof
            try simp (disch := omega) only [↓aI,↓zP,aD,zD,aS,simprocAttr,Tryz.facts,zA,s3,s6,s7,s8,hml,hl,hc3,hk,ho,nt2,nt4,hln,ah,set_get,aP,fO,n13,n32,i6 hk1 n13,i6 hk3 n32]
            exact fin _ kf of (((Abs.Sub.refl E).set_free hk2).set_free hk4) hkf0 hkf hof (by rw [aP nt4,aP nt2]; exact hk)
        · intro k3 hk30 hk3
          try simp (disch := omega) only [↓aI,↓zP,aD,zD,aS,simprocAttr,Tryz.facts,zA,s3,s6,s7,s8,hml,hl,hc3,ah,set_get,fO]
          intro k1 hk10 hk1
          have n31 := bK hk1
          try simp (disch := omega) only [↓aI,↓zP,aD,zD,aS,simprocAttr,Tryz.facts,zA,s3,s6,s7,s8,hml,hl,hc3,hk,ho,hln,ah,set_get,aP,fO,n31,aj hk1]
          intro k2 o2 hk20 hk2 ho2
          replace hk2 := am hk2
          have n32 := bK hk2
          replace hk2 := am hk2
          try simp (disch := omega) only [↓aI,↓zP,aD,zD,aS,simprocAttr,Tryz.facts,zA,s3,s6,s7,s8,hml,hl,hc3,hk,ho,hln,ah,set_get,aP,fO,n31,n32,aj hk1,i6 hk3 n32]
          intro k4 o4 hk40 hk4 ho4
          have n24 := bK hk4
          replace hk4 := am (am hk4)
          have nt2 := nt' hk2
          have nt4 := nt' hk4
          try simp (disch := omega) only [↓aI,↓zP,aD,zD,aS,simprocAttr,Tryz.facts,zA,s3,s6,s7,s8,hml,hl,hc3,hk,ho,nt2,nt4,hln,ah,set_get,aP,fO,n31,n32,aj hk1,i6 hk3 n32]
          intro kf of hkf0 hkf hof
          try simp (disch := omega) only [↓aI,↓zP,aD,zD,aS,simprocAttr,Tryz.facts,zA,s3,s6,s7,s8,hml,hl,hc3,hk,ho,nt2,nt4,hln,ah,set_get,aP,fO,n31,n32,aj hk1,i6 hk3 n32]
          exact fin _ kf of (((Abs.Sub.refl E).set_free hk2).set_free hk4) hkf0 hkf hof (by rw [aP nt4,aP nt2]; exact hk)
      · rintro σ F ⟨kt',o',g1,g2,g3,g4,g5,s3,s6,s7,s8⟩
        simp (disch := omega) only [↓aI,↓zP,aD,zD,aS,simprocAttr,Tryz.facts,zA,s3,s6,s7,s8]
        exact ⟨mm - 1,by omega,i + 1,kt',o',by omega,g1,g2,g3,g4,g5,rfl,rfl⟩
    · obtain rfl : i = ms.length := by omega
      rw [List.take_length] at s3
      simp (disch := omega) only [↓aI,↓zP,aD,zD,aS,simprocAttr,Tryz.facts,zA,s3,s6,s7,s8]
      exact hs
end Go.Proofs.YtjlnpngaiphnmaaGreat
end
section
set_option linter.unusedSimpArgs false
set_option linter.unusedVariables false
set_option maxRecDepth 20000
set_option maxHeartbeats 8000000
namespace Go.Proofs.YtjlnpngaiphnmaaGreat
open Go Go.Abs Go.Proofs
theorem fD {H : AH} {a b : Nat} {x y : AObj} (h : ¬ a = b) : (H.set b x).set a y = (H.set a y).set b x := by
  funext z
  simp only [AH.set]
  by_cases e1 : z = a
  · subst e1; simp [h]
  · simp [e1]
theorem gU {G : AH} {a : Nat} {o : AObj} : (G.set a o).kill a = G.kill a := by
  funext x
  simp only [AH.set,AH.kill]
  split <;> rfl
theorem gj {G : AH} {a c : Nat} {z : AObj} (h : ¬ a = c) : (G.set c z).kill a = (G.kill a).set c z := by
  funext x
  simp only [AH.set,AH.kill]
  by_cases e : x = a
  · subst e; simp [h]
  · simp [e]
theorem gI {G : AH} {a : Nat} (h : G a = none) : G.kill a = G := by
  funext x
  simp only [AH.kill]
  split
  · rename_i e; rw [e,h]
  · rfl
theorem ey {H : AH} {a : Nat} {x y : AObj} : (H.set a x).set a y = H.set a y := by
  funext z
  simp only [AH.set]
  split <;> rfl
abbrev iT (h : Nat) : AV := .ifc 47 (.ptr h 0)
theorem GT.ok {N : Nat} {ts : List Term} (g : GT N ts) : ∀ x ∈ ts,okT x := fun x hx => (g.wf x hx).1
theorem SS.up {H0 H F : AH} {h m d : Nat} {ts : List Term} (s : SS H0 H h m d ts) (f : Abs.Sub H F) : SS H0 F h m d ts := by
  obtain ⟨k,g,n1,n2,n3,hs⟩ := s
  obtain ⟨o,c1,c2⟩ := g.ht
  exact ⟨k,⟨g.k0,f _ _ g.hi,f _ _ g.hm,⟨o,f _ _ c1,c2⟩⟩,n1,n2,n3,hs.trans f⟩
theorem jk {c : Cfg} {l : List Oper} {t : STree} {K : Sg → AH → Prop} {σ : Sg} {H : AH} {k : Tie K} {k' : Tie l} (h : RunT c l t K σ H) : DrawT c l t K σ H k k' := eI K h fun _ _ h => h
variable {H0 H : AH} {h m d N : Nat} {ts : List Term}
theorem shr_tell (a p : List UInt8) (ha : a.length ≤ 100000000) (hp : p.length ≤ 100000000) (hN : N ≤ 1000000) (g : GT N ts) (s : SS H0 H h m d ts) :
    ACalls Tryz.prog 129 [.ptr h 0,eu a,eu p] H fun v H' => v = .tup [eu (iI ts a p).2.1,.sc (.int .i64 (iI ts a p).2.2)] ∧ SS H0 H' h m d (iI ts a p).1 := by
  have hg := g.mono hN
  have hs0 := s
  obtain ⟨k0,g0,n1,n2,n3,hs⟩ := s
  refine (shared_live H h m k0 d ts a p (by omega) hg.pub hg.wf hg.len g0).freeze fun v H' r => ?_
  unfold iI
  rcases r with ⟨hn,rfl,rfl⟩ | ⟨h32,hn,rfl,rfl⟩ | ⟨h32,hy,r,hr,rfl⟩
  · rw [if_pos hn]
    exact ⟨_,H',Abs.Sub.refl _,Frz.same,rfl,hs0⟩
  · rw [if_neg (by omega),if_pos hn]
    exact ⟨_,H',Abs.Sub.refl _,Frz.same,rfl,hs0⟩
  · rw [if_neg (by omega),if_neg (by rw [hy]; decide)]
    obtain ⟨H1,ss,kk,hk0,hk,rfl,rfl⟩ := jG g0 n1 n2 n3 hs hr
    refine ⟨_,H1,Abs.Sub.set_new hk,.tup2 (Frz.own set_get hk (by rw [gz]; omega)) .same,?_,ss⟩
    rw [List.take_of_length_le (by rw [gz]; omega)]
    rfl
theorem shr_V (ts : List Term) (d : Nat) (s p : List UInt8) : shV ts d s p = .tup [fw (iI ts s p).1 d,eu (iI ts s p).2.1,.sc (.int .i64 (iI ts s p).2.2)] := by
  unfold shV iI fP
  by_cases h1 : s.length = 32
  · cases h2 : (fN ts p 112).2 <;> simp [h1,h2,bw]
  · simp [h1,bw]
theorem vshr_pure (g : GT N ts) (hN : N ≤ 1000000) (d : Nat) (s p : List UInt8) : APure Tryz.prog 105 [fw ts d,eu s,eu p] (.tup [fw (iI ts s p).1 d,eu (iI ts s p).2.1,.sc (.int .i64 (iI ts s p).2.2)]) := by
  rw [← shr_V]
  have hg := g.mono hN
  exact vshared_pure ts d s p hg.pub hg.wf hg.len
theorem bky_tell (n id : Int) (a p : List UInt8) (ha : a.length ≤ 100000000) (hp : p.length ≤ 100000000) (hN : N ≤ 999990) (g : GT N ts) (s : SS H0 H h m d ts) :
    ACalls Tryz.prog 56 [iT h,.sc (.int .i64 n),.sc (.int .i64 id),eu a,eu p] H fun v H' => v = .tup [eu (gR ts n id a p).2.1,.sc (.int .i64 (gR ts n id a p).2.2)] ∧ SS H0 H' h m d (gR ts n id a p).1 := by
  have hs := shr_tell a p ha hp (by omega) g s
  obtain ⟨g1,p1,l1,e1⟩ := shr_spec g (s := a) (p := p)
  have w1 := iY [] (by simp) n
  have w2 := iY (fI n) (by have := fT n; omega) id
  rw [List.nil_append] at w1
  have hn2 := num2 n id
  have hdv := fun (hl : (iI ts a p).2.1.length = 32) (E : AH) (s : SS H0 E h m d (iI ts a p).1) => derive_tell (iI ts a p).2.1 (fI n ++ fI id) (wf2 (k := 107) (by decide) (by omega) (by omega)).1 (g1.mono (by omega)) hl s
  unfold gR
  unfold TellR at hdv
  change ∀ _,∀ E,∀ _,ACalls _ _ _ _ fun v H' => v = eu (fP (iI ts a p).1 ⟨107,[(iI ts a p).2.1,fI n ++ fI id]⟩) ∧ _ at hdv
  rw [show eu (fI n ++ fI id) = .imm 0 (bw (fI n ++ fI id)) ((fI n).length + (fI id).length) by rw [eu,List.length_append]] at hdv
  generalize iI ts a p = S at *
  generalize fP S.1 ⟨107,[S.2.1,fI n ++ fI id]⟩ = K at *
  obtain ⟨t1,sb,se⟩ := S
  simp only [] at *
  by_cases h0 : se = 0
  · subst h0
    rw [if_neg (by simp)]
    have hd := hdv (l1 rfl)
    refine ao (c := ⟨Tryz.prog,34,[(4,[0,0,0,0,0,0,0,0,0,2,0,0])],[],[]⟩) (rs := [ResultVar.tmp 10,ResultVar.tmp 11]) Tryz.mixed Tryz.func56 rfl rfl rfl (Nat.le_of_ble_eq_true rfl) (by kernel_rfl) ?_
    simp (disch := omega) only [↓aI,↓zP,aD,zD,aS,simprocAttr,Tryz.facts,zA]
    refine CallK.i hs ?_
    rintro v E ⟨rfl,s1⟩
    try simp (disch := omega) only [↓aI,↓zP,aD,zD,aS,simprocAttr,Tryz.facts,zA]
    first | refine CallK.p (w1) ?_ | refine CallP.i (w1) ?_
    simp (disch := omega) only [↓aI,↓zP,aD,zD,aS,simprocAttr,Tryz.facts,zA]
    first | refine CallK.p (w2) ?_ | refine CallP.i (w2) ?_
    simp (disch := omega) only [↓aI,↓zP,aD,zD,aS,simprocAttr,Tryz.facts,zA]
    refine CallK.i (hd _ s1) ?_
    rintro v E2 ⟨rfl,s2⟩
    simp (disch := omega) only [↓aI,↓zP,aD,zD,aS,simprocAttr,Tryz.facts,zA]
    exact ⟨_,rfl,_,Abs.Sub.refl _,rfl,s2⟩
  · rw [if_pos h0]
    have he : sb = [] := by
      rcases e1 with h | h | h
      · exact absurd h h0
      · cases h; rfl
      · cases h; rfl
    subst he
    refine ao (c := ⟨Tryz.prog,34,[(4,[0,0,0,0,0,0,0,0,0,2,0,0])],[],[]⟩) (rs := [ResultVar.tmp 10,ResultVar.tmp 11]) Tryz.mixed Tryz.func56 rfl rfl rfl (Nat.le_of_ble_eq_true rfl) (by kernel_rfl) ?_
    simp (disch := omega) only [↓aI,↓zP,aD,zD,aS,simprocAttr,Tryz.facts,zA]
    refine CallK.i hs ?_
    rintro v E ⟨rfl,s1⟩
    try simp (disch := omega) only [↓aI,↓zP,aD,zD,aS,simprocAttr,Tryz.facts,zA]
    exact ⟨_,rfl,_,Abs.Sub.refl _,rfl,s1⟩
theorem rbky_pure (n id : Int) (a p : List UInt8) (hN : N ≤ 999990) (g : GT N ts) (d : Nat) : APure Tryz.prog 94 [fw ts d,.sc (.int .i64 n),.sc (.int .i64 id),eu a,eu p] (.tup [fw (gR ts n id a p).1 d,eu (gR ts n id a p).2.1,.sc (.int .i64 (gR ts n id a p).2.2)]) := by
  have hs := vshr_pure g (by omega) d a p
  obtain ⟨g1,p1,l1,e1⟩ := shr_spec g (s := a) (p := p)
  have w1 := iN [] (by simp) n
  have w2 := iN (fI n) (by have := fT n; omega) id
  rw [List.nil_append] at w1
  have hn2 := num2 n id
  have hdv := fun (hl : (iI ts a p).2.1.length = 32) => vderive_pure (iI ts a p).1 d (iI ts a p).2.1 (fI n ++ fI id) (wf2 (k := 107) (by decide) (by omega) (by omega)).1 g1.ok (by have := g1.len; omega)
  unfold gR
  rw [show eu (fI n ++ fI id) = .imm 0 (bw (fI n ++ fI id)) ((fI n).length + (fI id).length) by rw [eu,List.length_append]] at hdv
  rw [show fW ⟨107,[(iI ts a p).2.1,fI n ++ fI id]⟩ (fC (iI ts a p).1 ⟨107,[(iI ts a p).2.1,fI n ++ fI id]⟩).2 = fP (iI ts a p).1 ⟨107,[(iI ts a p).2.1,fI n ++ fI id]⟩ from rfl] at hdv
  generalize iI ts a p = S at *
  generalize fP S.1 ⟨107,[S.2.1,fI n ++ fI id]⟩ = K at *
  obtain ⟨t1,sb,se⟩ := S
  simp only [] at *
  by_cases h0 : se = 0
  · subst h0
    rw [if_neg (by simp)]
    have hd := hdv (l1 rfl)
    rw [if_pos (l1 rfl)] at hd
    refine az (c := ⟨Tryz.prog,41,[(4,[0,0,0,0,0,0,0,0,0,0,2,2,0]),(1000004,[15])],[],[(4,(.op 1 0 (.op 2 0 (.op 3 0 (.op 4 0 (.op 5 0 (.op 0 4 (.op 6 0 (.op 7 0 (.op 8 0 (.op 9 0 (.op 10 3 (.op 11 2 (.op 12 0 .nil))))))))))))))]⟩) (rs := [ResultVar.cell 10 51,ResultVar.tmp 11,ResultVar.tmp 12]) Tryz.mixed Tryz.func94 rfl rfl rfl (Nat.le_of_ble_eq_true rfl) (by kernel_rfl) fun H => ?_
    simp (disch := omega) only [↓aI,↓zP,aD,zD,aS,simprocAttr,Tryz.facts,zA]
    intro b5 hb50 hb5 b10 hb100 hb10
    have n510 := bK hb10
    have n105 : ¬ b10 = b5 := fun e => n510 e.symm
    have f10 := am hb10
    simp (disch := omega) only [↓aI,↓zP,aD,zD,aS,simprocAttr,Tryz.facts,zA,aP,n510,n105]
    first | refine CallK.p (hs) ?_ | refine CallP.i (hs) ?_
    simp (disch := omega) only [↓aI,↓zP,aD,zD,aS,simprocAttr,Tryz.facts,zA,aP,n510,n105,ah]
    refine jk ?_
    simp (disch := omega) only [↓aI,↓zP,aD,zD,aS,simprocAttr,Tryz.facts,zA,aP,n510,n105,ah,fD n510,ey]
    first | refine CallK.p (w1) ?_ | refine CallP.i (w1) ?_
    simp (disch := omega) only [↓aI,↓zP,aD,zD,aS,simprocAttr,Tryz.facts,zA,aP,n510,n105,ah]
    first | refine CallK.p (w2) ?_ | refine CallP.i (w2) ?_
    simp (disch := omega) only [↓aI,↓zP,aD,zD,aS,simprocAttr,Tryz.facts,zA,aP,n510,n105,ah]
    first | refine CallK.p (hd) ?_ | refine CallP.i (hd) ?_
    simp (disch := omega) only [↓aI,↓zP,aD,zD,aS,simprocAttr,Tryz.facts,zA,aP,n510,n105,ah]
    intro b15 hb150 hb15
    have n515 := bK hb15
    have n1015 := bK (am hb15)
    have f15 := am (am (am hb15))
    have n155 : ¬ b15 = b5 := fun e => n515 e.symm
    have n1510 : ¬ b15 = b10 := fun e => n1015 e.symm
    simp (disch := omega) only [↓aI,↓zP,aD,zD,aS,simprocAttr,Tryz.facts,zA,aP,n510,n105,n515,n155,n1015,n1510,ah,fD n510,fD n515,fD n1015,ey,gU,gj,gI f15]
    exact ((Abs.Sub.refl H).set_free hb5).set_free f10
  · rw [if_pos h0]
    have he : sb = [] := by
      rcases e1 with h | h | h
      · exact absurd h h0
      · cases h; rfl
      · cases h; rfl
    subst he
    refine az (c := ⟨Tryz.prog,41,[(4,[0,0,0,0,0,0,0,0,0,0,2,2,0]),(1000004,[15])],[],[(4,(.op 1 0 (.op 2 0 (.op 3 0 (.op 4 0 (.op 5 0 (.op 0 4 (.op 6 0 (.op 7 0 (.op 8 0 (.op 9 0 (.op 10 3 (.op 11 2 (.op 12 0 .nil))))))))))))))]⟩) (rs := [ResultVar.cell 10 51,ResultVar.tmp 11,ResultVar.tmp 12]) Tryz.mixed Tryz.func94 rfl rfl rfl (Nat.le_of_ble_eq_true rfl) (by kernel_rfl) fun H => ?_
    simp (disch := omega) only [↓aI,↓zP,aD,zD,aS,simprocAttr,Tryz.facts,zA]
    intro b5 hb50 hb5 b10 hb100 hb10
    have n510 := bK hb10
    have n105 : ¬ b10 = b5 := fun e => n510 e.symm
    have f10 := am hb10
    simp (disch := omega) only [↓aI,↓zP,aD,zD,aS,simprocAttr,Tryz.facts,zA,aP,n510,n105]
    first | refine CallK.p (hs) ?_ | refine CallP.i (hs) ?_
    simp (disch := omega) only [↓aI,↓zP,aD,zD,aS,simprocAttr,Tryz.facts,zA,aP,n510,n105,ah,fD n510,ey]
    exact ⟨rfl,((Abs.Sub.refl H).set_free hb5).set_free f10⟩
end Go.Proofs.YtjlnpngaiphnmaaGreat
end
