/-
  Several texts in one: each says what it proves.
  Conditions: none. Lemmas only.
-/
import Derived.Test.YtjlnpngaiphnmaaRosG5
import Derived.Test.YtjlnpngaiphnmaaSuiG6
import Derived.Test.YtjlnpngaiphnmaaRosG3
import Derived.Test.YtjlnpngaiphnmaaRosG2
import Derived.Test.YtjlnpngaiphnmaaRosG1
set_option linter.all false
section
set_option linter.unusedSimpArgs false
set_option linter.unusedVariables false
set_option maxRecDepth 20000
set_option maxHeartbeats 4000000
namespace Go.Proofs.Ytjlnpngaiphnmaa
open Go Go.Abs Go.Proofs
def namT (ts : List Term) (t : Term) : List UInt8 := nameT t (numT ts t).2
def zeroE : Ent := ⟨0,[],[],[],[],[],[]⟩
abbrev hashTm (e : Ent) : Term := ⟨104,[wholeL e]⟩
structure LogM where
  L : List Ent
  D : List (List UInt8)
def digM (D : List (List UInt8)) (n : Int) : List UInt8 := if n < 1 ∨ (D.length : Int) < n then [] else D.getD (n.toNat - 1) []
def folM (g : LogM) (ms : List Mem) (ns : List Nd) : Bool := folD (lastM g.L) ms (leftM (g.L.map Ent.members)) [0,1,2,3,4] ns
def takeM (ts : List Term) (ad : List UInt8) (g : LogM) (e : Ent) : List Term × LogM × Int :=
  if rightE e = false then (ts,g,1)
  else if e.n ≤ (g.L.length : Int) then ((numT ts (hashTm e)).1,g,if namT ts (hashTm e) = digM g.D e.n then 16 else 18)
  else if ¬ e.n = (g.L.length : Int) + 1 then (ts,g,15)
  else if ¬ e.prev = digM g.D g.L.length then (ts,g,17)
  else if verT ts ad (wholeL e) e.sig = false then (ts,g,10)
  else if folM g e.members e.ends = false then (ts,g,19)
  else ((numT ts (hashTm e)).1,⟨g.L ++ [e],g.D ++ [namT ts (hashTm e)]⟩,0)
def shrM (ts : List Term) (s p : List UInt8) : List Term × List UInt8 × Int :=
  if ¬ s.length = 32 then (ts,[],1)
  else if (findT ts p 112).2 = false then (ts,[],8)
  else ((numT ts (shT s (partT (findT ts p 112).1 0))).1,namT ts (shT s (partT (findT ts p 112).1 0)),0)
def bkyM (ts : List Term) (n id : Int) (s p : List UInt8) : List Term × List UInt8 × Int :=
  if ¬ (shrM ts s p).2.2 = 0 then ((shrM ts s p).1,[],(shrM ts s p).2.2)
  else ((numT (shrM ts s p).1 ⟨107,[(shrM ts s p).2.1,vnum n ++ vnum id]⟩).1,namT (shrM ts s p).1 ⟨107,[(shrM ts s p).2.1,vnum n ++ vnum id]⟩,0)
def bxsM (e : Ent) (once key : List UInt8) : List Term → List Mem → List (List UInt8) → List Term × List (List UInt8) × Int
  | ts,[],acc => (ts,acc,0)
  | ts,m :: l,acc =>
    if ¬ (bkyM ts e.n m.id once m.pub).2.2 = 0 then ((bkyM ts e.n m.id once m.pub).1,acc,(bkyM ts e.n m.id once m.pub).2.2)
    else bxsM e once key (numT (bkyM ts e.n m.id once m.pub).1 (sealT (bkyM ts e.n m.id once m.pub).2.1 1 (coreL e) key)).1 l (acc ++ [namT (bkyM ts e.n m.id once m.pub).1 (sealT (bkyM ts e.n m.id once m.pub).2.1 1 (coreL e) key)])
def baseE (ts2 : List Term) (g : LogM) (once : List UInt8) (ms : List Mem) (ns : List Nd) : Ent := ⟨(g.L.length : Int) + 1,digM g.D g.L.length,ms,ns,namT ts2 ⟨112,[once]⟩,[],[]⟩
def makeM (ts : List Term) (ad : List UInt8) (g : LogM) (secret once key : List UInt8) (ms : List Mem) (ns : List Nd) : List Term × Ent × Int :=
  if ¬ secret.length = 32 ∨ ¬ once.length = 32 ∨ ¬ key.length = 32 then (ts,zeroE,1)
  else if ¬ namT ts ⟨118,[secret]⟩ = ad then ((numT ts ⟨118,[secret]⟩).1,zeroE,23)
  else if g.L.length = 65536 then ((numT ts ⟨118,[secret]⟩).1,zeroE,14)
  else if (partsL ms ns && folM g ms ns) = false then ((numT (numT ts ⟨118,[secret]⟩).1 ⟨112,[once]⟩).1,zeroE,19)
  else
    let ts2 := (numT ts ⟨118,[secret]⟩).1
    let e := baseE ts2 g once ms ns
    let b := bxsM e once key (numT ts2 ⟨112,[once]⟩).1 ms []
    if ¬ b.2.2 = 0 then (b.1,zeroE,b.2.2)
    else ((numT b.1 ⟨103,[secret,wholeL { e with boxes := b.2.1 }]⟩).1,{ e with boxes := b.2.1,sig := namT b.1 ⟨103,[secret,wholeL { e with boxes := b.2.1 }]⟩ },0)
def boxAt (e : Ent) (id : Int) : List UInt8 := match e.members.findIdx? (fun m => m.id == id) with
  | some i => e.boxes.getD i []
  | none => []
def opnM (ts : List Term) (key o b : List UInt8) : List UInt8 × Int := if opT ts key 1 o b = true then (partT (findT ts b 98).1 3,0) else ([],9)
def keyM (ts : List Term) (e : Ent) (id : Int) (secret : List UInt8) : List Term × List UInt8 × Int :=
  if (rightE e && memb e.members id) = false then (ts,[],13)
  else if ¬ (bkyM ts e.n id secret e.once).2.2 = 0 then ((bkyM ts e.n id secret e.once).1,[],(bkyM ts e.n id secret e.once).2.2)
  else ((bkyM ts e.n id secret e.once).1,
    if ¬ (opnM (bkyM ts e.n id secret e.once).1 (bkyM ts e.n id secret e.once).2.1 (coreL e) (boxAt e id)).2 = 0 then ([],(opnM (bkyM ts e.n id secret e.once).1 (bkyM ts e.n id secret e.once).2.1 (coreL e) (boxAt e id)).2)
    else if ¬ (opnM (bkyM ts e.n id secret e.once).1 (bkyM ts e.n id secret e.once).2.1 (coreL e) (boxAt e id)).1.length = 32 then ([],5)
    else ((opnM (bkyM ts e.n id secret e.once).1 (bkyM ts e.n id secret e.once).2.1 (coreL e) (boxAt e id)).1,0))
structure OkG (g : LogM) : Prop where
  len : g.D.length = g.L.length
  few : g.L.length ≤ 65536
  ent : ∀ e ∈ g.L,rightE e = true
  dig : ∀ x ∈ g.D,x.length = 32
def slimE (e : Ent) : Ent := ⟨e.n,[],e.members,e.ends,[],[],[]⟩
theorem slim_members (l : List Ent) : (l.map slimE).map Ent.members = l.map Ent.members := by rw [List.map_map]; rfl
theorem slim_last (l : List Ent) : lastM (l.map slimE) = lastM l := by
  unfold lastM
  rw [List.getLast?_map,Option.map_map]
  rfl
theorem right_parts {e : Ent} (h : rightE e = true) : 1 ≤ e.n ∧ e.n ≤ 65536 ∧ prevOk e = true ∧ partsL e.members e.ends = true ∧ (∀ b ∈ e.boxes,b.length = 48) ∧ e.once.length = 32 ∧ e.boxes.length = e.members.length ∧ e.sig.length = 64 := by
  unfold rightE at h
  simp only [Bool.and_eq_true,decide_eq_true_eq] at h
  obtain ⟨h1,h2,h3,h4,h5,h6,h7,h8⟩ := h
  refine ⟨h1,h2,h3,h4,fun b hb => ?_,h6,h7,h8⟩
  have := List.all_eq_true.1 h5 b hb
  unfold boxOk at this
  exact of_decide_eq_true this
theorem parts_facts {ms : List Mem} {ns : List Nd} (h : partsL ms ns = true) : ms.length ≤ 5 ∧ ns.length ≤ 5 ∧ riseL (-1) (ms.map Mem.id) = true ∧ riseL (-1) (ns.map Nd.author) = true ∧ (∀ m ∈ ms,m.pub.length = 32 ∧ m.sgn.length = 32) ∧ (∀ x ∈ ns,0 ≤ x.seq ∧ x.seq ≤ 1048576) := by
  have hl : ¬ (5 < ms.length ∨ 5 < ns.length) := fun hh => by rw [parts_long hh] at h; cases h
  unfold partsL at h
  simp only [Bool.and_eq_true,decide_eq_true_eq] at h
  obtain ⟨h1,h2,h3,h4,h5⟩ := h
  refine ⟨by omega,by omega,h2,h3,fun m hm => ?_,fun x hx => ?_⟩
  · have := List.all_eq_true.1 h4 m hm
    unfold keysOk at this
    simpa using this
  · have := List.all_eq_true.1 h5 x hx
    unfold seqOk at this
    simpa using this
theorem prev_le {e : Ent} (h : prevOk e = true) : e.prev.length ≤ 32 := by
  unfold prevOk at h
  simp only [Bool.or_eq_true,Bool.and_eq_true,decide_eq_true_eq] at h
  omega
theorem right_ok {e : Ent} (h : rightE e = true) : OkE e := by
  obtain ⟨h1,h2,h3,h4,h5,h6,h7,h8⟩ := right_parts h
  obtain ⟨p1,p2,p3,p4,p5,p6⟩ := parts_facts h4
  have hp := prev_le h3
  exact ⟨by omega,by omega,fun m hm => by have := p5 m hm; omega,by omega,by omega,by omega,fun b hb => by have := h5 b hb; omega,by omega⟩
theorem last_right {g : LogM} (hg : OkG g) : riseL (-1) ((lastM g.L).map Mem.id) = true ∧ (lastM g.L).length ≤ 5 := by
  unfold lastM
  rcases h : g.L.getLast? with _ | e
  · exact ⟨rfl,by simp⟩
  · have he := right_parts (hg.ent e (List.mem_of_getLast? h))
    obtain ⟨p1,p2,p3,_⟩ := parts_facts he.2.2.2.1
    exact ⟨p3,p1⟩
theorem fol_both {g : LogM} (hg : OkG g) {ms : List Mem} {ns : List Nd} (h : partsL ms ns = true) : folP (lastM (g.L.map slimE)) ms (goneM false ((g.L.map slimE).map Ent.members)) ns = folM g ms ns := by
  obtain ⟨l1,l2⟩ := last_right hg
  obtain ⟨p1,p2,p3,_⟩ := parts_facts h
  have hgl : goneM false (g.L.map Ent.members) = leftM (g.L.map Ent.members) := by
    funext id
    rw [gone_left]; simp
  rw [slim_last,slim_members,hgl]
  unfold folM
  exact (fol_eq _ _ l1 p3).symm
theorem digM_get {D : List (List UInt8)} {i : Nat} (h : i < D.length) : digM D ((i + 1 : Nat) : Int) = D[i] := by
  unfold digM
  rw [if_neg (by omega)]
  simp [List.getD,h]
theorem digM_zero {D : List (List UInt8)} {n : Int} (h : n < 1) : digM D n = [] := by unfold digM; rw [if_pos (.inl h)]
theorem wf_hash {e : Ent} (h : OkE e) : wfT (hashTm e) := wf1 (by decide) (by have := wholeL_len h; omega)
theorem GT.hash {N : Nat} {ts : List Term} (g : GT N ts) {e : Ent} (h : OkE e) : GT (N + 1) (numT ts (hashTm e)).1 := g.num (wf_hash h) fun e => absurd (show (104 : UInt8) = 112 from e) (by decide)
theorem namT_len (ts : List Term) (t : Term) : (namT ts t).length = sizeT t := nameT_length _ _
theorem OkG.take {g : LogM} (hg : OkG g) {ts : List Term} {ad : List UInt8} {e : Ent} : OkG (takeM ts ad g e).2.1 := by
  unfold takeM
  split
  · exact hg
  split
  · exact hg
  split
  · exact hg
  split
  · exact hg
  split
  · exact hg
  split
  · exact hg
  rename_i h1 h2 h3 h4 h5 h6
  have hr : rightE e = true := by simpa using h1
  have hn := (right_parts hr).2.1
  refine ⟨by simp [hg.len],by simp; omega,fun x hx => ?_,fun x hx => ?_⟩
  · rcases List.mem_append.1 hx with h | h
    · exact hg.ent x h
    · rw [List.mem_singleton.1 h]; exact hr
  · rcases List.mem_append.1 hx with h | h
    · exact hg.dig x h
    · rw [List.mem_singleton.1 h,namT_len]; rfl
theorem take_gt {N : Nat} {g : LogM} {ts : List Term} {ad : List UInt8} {e : Ent} (h : GT N ts) : GT (N + 1) (takeM ts ad g e).1 := by
  have hm := h.mono (Nat.le_succ N)
  unfold takeM
  split
  · exact hm
  rename_i h1
  have hr : rightE e = true := by simpa using h1
  have hh := h.hash (right_ok hr)
  split
  · exact hh
  split
  · exact hm
  split
  · exact hm
  split
  · exact hm
  split
  · exact hm
  · exact hh
end Go.Proofs.Ytjlnpngaiphnmaa
end
section
set_option linter.unusedSimpArgs false
set_option linter.unusedVariables false
set_option maxRecDepth 20000
set_option maxHeartbeats 4000000
namespace Go.Proofs.Ytjlnpngaiphnmaa
open Go Go.Abs Go.Proofs
variable {N : Nat} {ts : List Term}
theorem find_part {ts : List Term} (g : GT N ts) {p : List UInt8} (h : (findT ts p 112).2 = true) : (partT (findT ts p 112).1 0).length ≤ 1000000 := by
  have := findT_mem h
  exact g.pub _ this.1 this.2
theorem shT_size (a b : List UInt8) : sizeT (shT a b) = 32 := by unfold shT; split <;> rfl
theorem shr_spec (g : GT N ts) {s p : List UInt8} : GT (N + 1) (shrM ts s p).1 ∧ ts <+: (shrM ts s p).1 ∧ ((shrM ts s p).2.2 = 0 → (shrM ts s p).2.1.length = 32) ∧ ((shrM ts s p).2.2 = 0 ∨ (shrM ts s p).2 = ([],1) ∨ (shrM ts s p).2 = ([],8)) := by
  unfold shrM
  split
  · exact ⟨g.mono (Nat.le_succ N),List.prefix_rfl,(fun h => by cases h),.inr (.inl rfl)⟩
  rename_i h1
  split
  · exact ⟨g.mono (Nat.le_succ N),List.prefix_rfl,(fun h => by cases h),.inr (.inr rfl)⟩
  rename_i h2
  have h2 : (findT ts p 112).2 = true := by simpa using h2
  have hp := find_part g h2
  obtain ⟨w,k⟩ := shT_wf (a := s) (b := partT (findT ts p 112).1 0) (by omega) (by omega)
  refine ⟨g.num w fun e => absurd (k.symm.trans e) (by decide),(numT_nm _ _).2,fun _ => ?_,.inl rfl⟩
  rw [namT_len,shT_size]
theorem num2 (a b : Int) : (vnum a ++ vnum b).length ≤ 14 := by
  rw [List.length_append]
  have := vnum_length a
  have := vnum_length b
  omega
theorem bky_spec (g : GT N ts) {n id : Int} {s p : List UInt8} : GT (N + 2) (bkyM ts n id s p).1 ∧ ts <+: (bkyM ts n id s p).1 ∧ ((bkyM ts n id s p).2.2 = 0 → (bkyM ts n id s p).2.1.length = 32) ∧ ((bkyM ts n id s p).2.2 = 0 ∨ (bkyM ts n id s p).2 = ([],1) ∨ (bkyM ts n id s p).2 = ([],8)) := by
  obtain ⟨g1,p1,l1,e1⟩ := shr_spec g (s := s) (p := p)
  unfold bkyM
  split
  · rename_i h
    refine ⟨g1.mono (by omega),p1,fun h' => absurd h' h,?_⟩
    rcases e1 with e | e | e
    · exact absurd e h
    · exact .inr (.inl (by rw [e]))
    · exact .inr (.inr (by rw [e]))
  · rename_i h
    have h : (shrM ts s p).2.2 = 0 := Classical.byContradiction h
    have hl := l1 h
    have hn := num2 n id
    exact ⟨g1.num (wf2 (k := 107) (by decide) (by omega) (by omega)) fun e => absurd (show (107 : UInt8) = 112 from e) (by decide),p1.trans (numT_nm _ _).2,fun _ => by rw [namT_len]; rfl,.inl rfl⟩
theorem bxs_spec {e : Ent} {once key : List UInt8} (he : (coreL e).length ≤ 100000000) (hk : key.length = 32) : ∀ {l : List Mem} {N : Nat} {ts : List Term} {acc : List (List UInt8)}, GT N ts →
    GT (N + 3 * l.length) (bxsM e once key ts l acc).1 ∧ ts <+: (bxsM e once key ts l acc).1 ∧ ((bxsM e once key ts l acc).2.2 = 0 → (∀ b ∈ acc,b.length = 48) → (bxsM e once key ts l acc).2.1.length = acc.length + l.length ∧ ∀ b ∈ (bxsM e once key ts l acc).2.1,b.length = 48) ∧
      ((bxsM e once key ts l acc).2.2 = 0 ∨ (bxsM e once key ts l acc).2.2 = 1 ∨ (bxsM e once key ts l acc).2.2 = 8)
  | [],N,ts,acc,g => ⟨g,List.prefix_rfl,fun _ h => ⟨rfl,h⟩,.inl rfl⟩
  | m :: l,N,ts,acc,g => by
    obtain ⟨g1,p1,l1,e1⟩ := bky_spec g (n := e.n) (id := m.id) (s := once) (p := m.pub)
    unfold bxsM
    generalize bkyM ts e.n m.id once m.pub = B at *
    split
    · rename_i h
      refine ⟨g1.mono (by rw [List.length_cons]; omega),p1,fun h' => absurd h' h,?_⟩
      rcases e1 with e | e | e
      · exact .inl e
      · exact .inr (.inl (by rw [e]))
      · exact .inr (.inr (by rw [e]))
    · rename_i h
      have h : B.2.2 = 0 := Classical.byContradiction h
      have hl := l1 h
      have w : wfT (sealT B.2.1 1 (coreL e) key) := wf4 (by omega) (by rw [lowL_length]; omega) he (by omega)
      have g2 := g1.num w fun e => absurd (show (98 : UInt8) = 112 from e) (by decide)
      have hN : N + 2 + 1 + 3 * l.length = N + 3 * (m :: l).length := by rw [List.length_cons]; omega
      obtain ⟨r1,r2,r3,r4⟩ := bxs_spec he hk (l := l) (acc := acc ++ [namT B.1 (sealT B.2.1 1 (coreL e) key)]) g2
      rw [hN] at r1
      refine ⟨r1,(p1.trans (numT_nm _ _).2).trans r2,fun h0 ha => ?_,r4⟩
      have hb : ∀ b ∈ acc ++ [namT B.1 (sealT B.2.1 1 (coreL e) key)],b.length = 48 := fun b hb => by
        rcases List.mem_append.1 hb with hb | hb
        · exact ha b hb
        · rw [List.mem_singleton.1 hb,namT_len]
          show key.length + 16 = 48
          omega
      obtain ⟨q1,q2⟩ := r3 h0 hb
      refine ⟨?_,q2⟩
      rw [q1,List.length_append,List.length_cons]
      simp only [List.length_cons,List.length_nil]
      omega
theorem core_boxes (e : Ent) (b : List (List UInt8)) (s : List UInt8) : coreL { e with boxes := b,sig := s } = coreL e := rfl
theorem base_ok {g : LogM} (hg : OkG g) {ts : List Term} {once : List UInt8} {ms : List Mem} {ns : List Nd} (h : partsL ms ns = true) : OkE (baseE ts g once ms ns) ∧ prevOk (baseE ts g once ms ns) = true := by
  obtain ⟨p1,p2,p3,p4,p5,p6⟩ := parts_facts h
  have hl : (digM g.D g.L.length).length = 32 ∨ ((g.L.length : Int) + 1 = 1 ∧ (digM g.D g.L.length).length = 0) := by
    rcases Nat.eq_zero_or_pos g.L.length with h0 | h0
    · rw [h0]
      exact .inr ⟨rfl,by rw [digM_zero (by decide)]; rfl⟩
    · left
      obtain ⟨i,hi⟩ : ∃ i,g.L.length = i + 1 := ⟨g.L.length - 1,by omega⟩
      have hd : i < g.D.length := by rw [hg.len]; omega
      rw [hi,digM_get hd]
      exact hg.dig _ (List.getElem_mem hd)
  refine ⟨⟨by simp only [baseE]; omega,by simp only [baseE]; omega,fun m hm => by have := p5 m hm; omega,by simp only [baseE]; omega,by simp only [baseE]; rw [namT_len]; exact (show 32 ≤ 5000 by decide),by simp [baseE],fun b hb => by simp [baseE] at hb,by simp [baseE]⟩,?_⟩
  unfold prevOk
  rw [Bool.or_eq_true,Bool.and_eq_true,decide_eq_true_eq,decide_eq_true_eq,decide_eq_true_eq]
  exact hl
theorem right_of {e : Ent} (h1 : 1 ≤ e.n) (h2 : e.n ≤ 65536) (h3 : prevOk e = true) (h4 : partsL e.members e.ends = true) (h5 : ∀ b ∈ e.boxes,b.length = 48) (h6 : e.once.length = 32) (h7 : e.boxes.length = e.members.length) (h8 : e.sig.length = 64) : rightE e = true := by
  unfold rightE
  simp only [Bool.and_eq_true,decide_eq_true_eq]
  refine ⟨h1,h2,h3,h4,?_,h6,h7,h8⟩
  rw [List.all_eq_true]
  intro b hb
  unfold boxOk
  exact decide_eq_true (h5 b hb)
theorem make_spec {g : LogM} (hg : OkG g) (gt : GT N ts) {ad secret once key : List UInt8} {ms : List Mem} {ns : List Nd} :
    GT (N + 20) (makeM ts ad g secret once key ms ns).1 ∧ ts <+: (makeM ts ad g secret once key ms ns).1 ∧ ((makeM ts ad g secret once key ms ns).2.2 = 0 → rightE (makeM ts ad g secret once key ms ns).2.1 = true) ∧ (¬ (makeM ts ad g secret once key ms ns).2.2 = 0 → (makeM ts ad g secret once key ms ns).2.1 = zeroE) := by
  unfold makeM
  split
  · exact ⟨gt.mono (by omega),List.prefix_rfl,(fun h => by cases h),fun _ => rfl⟩
  rename_i h1
  have c1 : secret.length = 32 := Classical.byContradiction fun h => h1 (.inl h)
  have c2 : once.length = 32 := Classical.byContradiction fun h => h1 (.inr (.inl h))
  have c3 : key.length = 32 := Classical.byContradiction fun h => h1 (.inr (.inr h))
  have g1 := gt.num (wf1 (k := 118) (a := secret) (by decide) (by omega)) fun e => absurd (show (118 : UInt8) = 112 from e) (by decide)
  have p1 := (numT_nm ts ⟨118,[secret]⟩).2
  generalize (numT ts ⟨118,[secret]⟩).1 = t1 at *
  have g2 := g1.num (wf1 (k := 112) (a := once) (by decide) (by omega)) fun e => by simp [partT]; omega
  have p2 := p1.trans (numT_nm t1 ⟨112,[once]⟩).2
  split
  · exact ⟨g1.mono (by omega),p1,(fun h => by cases h),fun _ => rfl⟩
  split
  · exact ⟨g1.mono (by omega),p1,(fun h => by cases h),fun _ => rfl⟩
  rename_i h4
  split
  · exact ⟨g2.mono (by omega),p2,(fun h => by cases h),fun _ => rfl⟩
  rename_i h3
  have h3 : (partsL ms ns && folM g ms ns) = true := by simpa using h3
  rw [Bool.and_eq_true] at h3
  obtain ⟨hp,hf⟩ := h3
  obtain ⟨q1,q2,q3,q4,q5,q6⟩ := parts_facts hp
  obtain ⟨hok,hpv⟩ := base_ok hg (ts := t1) (once := once) hp
  have hcl := coreL_len hok
  obtain ⟨b1,b2,b3,b4⟩ := bxs_spec (e := baseE t1 g once ms ns) (once := once) (by omega) c3 (l := ms) (acc := []) g2
  simp only []
  generalize bxsM (baseE t1 g once ms ns) once key (numT t1 ⟨112,[once]⟩).1 ms [] = B at *
  split
  · exact ⟨b1.mono (by omega),p2.trans b2,fun h => absurd h (by assumption),fun _ => rfl⟩
  rename_i h0
  have h0 : B.2.2 = 0 := Classical.byContradiction h0
  obtain ⟨k1,k2⟩ := b3 h0 (fun b hb => by cases hb)
  have okb : OkE { baseE t1 g once ms ns with boxes := B.2.1 } := ⟨hok.prev,hok.ml,hok.ms,hok.el,hok.once,by show B.2.1.length ≤ 100; simp at k1; omega,fun b hb => by have := k2 b hb; omega,hok.sig⟩
  have hwl := wholeL_len okb
  have g3 := b1.num (wf2 (k := 103) (a := secret) (b := wholeL { baseE t1 g once ms ns with boxes := B.2.1 }) (by decide) (by omega) (by omega)) fun e => absurd (show (103 : UInt8) = 112 from e) (by decide)
  refine ⟨g3.mono (by omega),(p2.trans b2).trans (numT_nm _ _).2,fun _ => ?_,fun h => absurd rfl h⟩
  have hfew := hg.few
  have hn : (1 : Int) ≤ (g.L.length : Int) + 1 ∧ (g.L.length : Int) + 1 ≤ 65536 := by omega
  have hbl : B.2.1.length = ms.length := by rw [k1]; simp
  refine right_of hn.1 hn.2 hpv hp k2 ?_ hbl ?_
  · exact namT_len _ _
  · exact namT_len _ _
end Go.Proofs.Ytjlnpngaiphnmaa
end
section
set_option linter.unusedSimpArgs false
set_option linter.unusedVariables false
set_option maxRecDepth 20000
set_option maxHeartbeats 8000000
namespace Go.Proofs.Ytjlnpngaiphnmaa
open Go Go.Abs Go.Proofs
theorem kill_mid1 {G : AH} {a b : Nat} {o y : AObj} (h : G a = none) (h1 : ¬ a = b) : ((G.set a o).set b y).kill a = G.set b y := bH h h1
theorem copied_pure (ms : List Mem) (hl : ms.length ≤ 100000) (hb : ∀ m ∈ ms,m.pub.length ≤ 1000000 ∧ m.sgn.length ≤ 1000000) : APure Try.prog 29 [memsV ms] (memsV ms) := by
  have hml : (ms.flatMap memC).length = ms.length * 3 := flat_len memC_len ms
  have hmd := fun i (h : i < ms.length) => mem_load h
  have hsn := fun i (h : i < ms.length) => flat_snoc memC h
  refine az (c := ⟨Try.prog,28,[(5,[0,0,0,2,0,0,2,2,0,0,2,0,0,2,0]),(1000004,[5])],[15,19],[(5,(.op 0 0 (.op 1 0 (.op 2 0 (.op 4 0 (.op 5 0 (.op 8 0 (.op 9 0 (.or (.op 3 3 (.or (.op 6 3 (.op 7 3 (.op 10 3 (.op 11 0 (.op 12 0 (.op 13 3 (.op 14 0 .nil))))))) (.op 7 3 (.op 6 3 (.op 10 3 (.op 11 0 (.op 12 0 (.op 13 3 (.op 14 0 .nil))))))))) (.op 7 3 (.op 3 3 (.op 6 3 (.op 10 3 (.op 11 0 (.op 12 0 (.op 13 3 (.op 14 0 .nil)))))))))))))))))]⟩) (rs := [ResultVar.tmp 2]) Try.mixed Try.func29 rfl rfl rfl (Nat.le_of_ble_eq_true rfl) (by kernel_rfl) fun H => ?_
  simp (disch := omega) only [↓aI,↓zP,aD,zD,aS,simprocAttr,Try.facts,zA]
  refine tok_t 3 (by simp (disch := omega) only [↓aI,↓zP,aD,zD,aS,simprocAttr,Try.facts]) fun kt hkt0 hkt => ?_
  refine br (c := ⟨Try.prog,28,[(5,[0,0,0,2,0,0,2,2,0,0,2,0,0,2,0]),(1000004,[5])],[15,19],[(5,(.op 0 0 (.op 1 0 (.op 2 0 (.op 4 0 (.op 5 0 (.op 8 0 (.op 9 0 (.or (.op 3 3 (.or (.op 6 3 (.op 7 3 (.op 10 3 (.op 11 0 (.op 12 0 (.op 13 3 (.op 14 0 .nil))))))) (.op 7 3 (.op 6 3 (.op 10 3 (.op 11 0 (.op 12 0 (.op 13 3 (.op 14 0 .nil))))))))) (.op 7 3 (.op 3 3 (.op 6 3 (.op 10 3 (.op 11 0 (.op 12 0 (.op 13 3 (.op 14 0 .nil)))))))))))))))))]⟩) Try.mixed (by kernel_rfl) (fun mm σ E => ∃ (i kt : Nat) (o : AObj),i + mm = ms.length ∧ E kt = some o ∧ kt ≠ 0 ∧ H kt = none ∧ Abs.Sub H E ∧ cy 55 3 o ((ms.take i).flatMap memC).length ∧
    σ 3 = .imm kt ((ms.take i).flatMap memC) i ∧ σ 6 = memsV ms ∧ σ 7 = .sc (.int .i64 (ms.length : Nat)) ∧ σ 8 = .sc (.int .i64 (i : Nat))) ms.length ?_ ?_
  · refine ⟨0,kt,.nilt,by omega,set_get,hkt0,hkt,Sub.set_new hkt,.inr ⟨rfl,rfl⟩,?_⟩
    simp (disch := omega) only [↓aI,↓zP,aD,zD,aS,simprocAttr,Try.facts,zA]
    rfl
  · rintro mm σ E ⟨i,kt,o,him,hk,hk0,hH,hs,ho,s3,s6,s7,s8⟩
    by_cases hlt : i < ms.length
    · have hl := hmd i hlt
      have hc3 : i * 3 + 3 ≤ ms.length * 3 := by omega
      have hsn := hsn i hlt
      have hbm := hb _ (List.getElem_mem hlt)
      have hln : ((ms.take i).flatMap memC).length = i * 3 := by rw [flat_len memC_len,List.length_take]; omega
      generalize ms[i] = m at *
      obtain ⟨mi,mp,mg⟩ := m
      simp only [memC] at hl hsn hbm
      simp (disch := omega) only [↓aI,↓zP,aD,zD,aS,simprocAttr,Try.facts,zA,s3,s6,s7,s8,hml,hl,hc3,ah]
      intro k7 hk70 hk7
      rw [aj hk7]
      refine eI (fun σ F => ∃ (kt' : Nat) (o' : AObj),F kt' = some o' ∧ kt' ≠ 0 ∧ H kt' = none ∧ Abs.Sub H F ∧ cy 55 3 o' ((ms.take (i + 1)).flatMap memC).length ∧
        σ 3 = .imm kt' ((ms.take (i + 1)).flatMap memC) (i + 1) ∧ σ 6 = memsV ms ∧ σ 7 = .sc (.int .i64 (ms.length : Nat)) ∧ σ 8 = .sc (.int .i64 (i : Nat))) ?_ ?_
      · simp (disch := omega) only [↓aI,↓zP,aD,zD,aS,simprocAttr,Try.facts,zA,s3,s6,s7,s8,hml,hl,hc3,ah]
        rw [hln] at ho
        have nt : ∀ {k : Nat},E k = none → ¬ k = kt := fun h e => by rw [e,hk] at h; cases h
        have nt' : ∀ {k : Nat},E k = none → ¬ kt = k := fun h e => nt h e.symm
        have fin : ∀ (F : AH) (kf : Nat) (of : AObj),Abs.Sub E F → ¬ kf = 0 → F kf = none → cy 55 3 of (i * 3 + 3) → F kt = some o →
          ∃ (kt' : Nat) (o' : AObj),((F.kill kt).set kf of) kt' = some o' ∧ kt' ≠ 0 ∧ H kt' = none ∧ Abs.Sub H ((F.kill kt).set kf of) ∧ cy 55 3 o' ((ms.take (i + 1)).flatMap memC).length ∧
            AV.imm kf ((ms.take i).flatMap memC ++ [.sc (.int .i64 mi),bytesV mp,bytesV mg]) (i + 1) = .imm kt' ((ms.take (i + 1)).flatMap memC) (i + 1) := fun F kf of hF h0 hf ht hFk => by
          have hfH : H kf = none := hs.free (hF.free hf)
          refine ⟨kf,of,set_get,h0,hfH,((hs.trans hF).kill_free hH).set_free hfH,?_,?_⟩
          · rw [hsn,List.length_append,hln]; exact ht
          · rw [hsn]
        refine And.intro ?_ ?_
        · intro k1 hk10 hk1
          try simp (disch := omega) only [↓aI,↓zP,aD,zD,aS,simprocAttr,Try.facts,zA,s3,s6,s7,s8,hml,hl,hc3,hk,ho,hln,ah,set_get,encB_len,aj hk1]
          refine And.intro ?_ ?_
          · intro k2 o2 hk20 hk2 ho2
            replace hk2 := am hk2
            try simp (disch := omega) only [↓aI,↓zP,aD,zD,aS,simprocAttr,Try.facts,zA,s3,s6,s7,s8,hml,hl,hc3,hk,ho,hln,ah,set_get,encB_len,aj hk1]
            intro k3 hk30 hk3
            try simp (disch := omega) only [↓aI,↓zP,aD,zD,aS,simprocAttr,Try.facts,zA,s3,s6,s7,s8,hml,hl,hc3,hk,ho,hln,ah,set_get,encB_len,aj hk3]
            intro k4 o4 hk40 hk4 ho4
            replace hk4 := am hk4
            have n24 := bK hk4
            replace hk4 := am hk4
            have nt2 := nt' hk2
            have nt4 := nt' hk4
            try simp (disch := omega) only [↓aI,↓zP,aD,zD,aS,simprocAttr,Try.facts,zA,s3,s6,s7,s8,hml,hl,hc3,hk,ho,nt2,nt4,hln,ah,set_get,aP,encB_len,aj hk3]
            intro kf of hkf0 hkf hof
            try simp (disch := omega) only [↓aI,↓zP,aD,zD,aS,simprocAttr,Try.facts,zA,s3,s6,s7,s8,hml,hl,hc3,hk,ho,nt2,nt4,hln,ah,set_get,aP,encB_len,aj hk3]
            exact fin _ kf of (((Abs.Sub.refl E).set_free hk2).set_free hk4) hkf0 hkf hof (by rw [aP nt4,aP nt2]; exact hk)
          · intro k3 hk30 hk3
            have n13 := bK hk3
            replace hk3 := am hk3
            try simp (disch := omega) only [↓aI,↓zP,aD,zD,aS,simprocAttr,Try.facts,zA,s3,s6,s7,s8,hml,hl,hc3,hk,ho,hln,ah,set_get,aP,encB_len,n13,kill_mid1 hk1 n13]
            intro k2 o2 hk20 hk2 ho2
            have n32 := bK hk2
            replace hk2 := am (am hk2)
            try simp (disch := omega) only [↓aI,↓zP,aD,zD,aS,simprocAttr,Try.facts,zA,s3,s6,s7,s8,hml,hl,hc3,hk,ho,hln,ah,set_get,aP,encB_len,n13,n32,kill_mid1 hk1 n13,kill_mid1 hk3 n32]
            intro k4 o4 hk40 hk4 ho4
            have n24 := bK hk4
            replace hk4 := am (am hk4)
            have nt2 := nt' hk2
            have nt4 := nt' hk4
            try simp (disch := omega) only [↓aI,↓zP,aD,zD,aS,simprocAttr,Try.facts,zA,s3,s6,s7,s8,hml,hl,hc3,hk,ho,nt2,nt4,hln,ah,set_get,aP,encB_len,n13,n32,kill_mid1 hk1 n13,kill_mid1 hk3 n32]
            intro kf of hkf0 hkf hof
            try simp (disch := omega) only [↓aI,↓zP,aD,zD,aS,simprocAttr,Try.facts,zA,s3,s6,s7,s8,hml,hl,hc3,hk,ho,nt2,nt4,hln,ah,set_get,aP,encB_len,n13,n32,kill_mid1 hk1 n13,kill_mid1 hk3 n32]
            exact fin _ kf of (((Abs.Sub.refl E).set_free hk2).set_free hk4) hkf0 hkf hof (by rw [aP nt4,aP nt2]; exact hk)
        · intro k3 hk30 hk3
          try simp (disch := omega) only [↓aI,↓zP,aD,zD,aS,simprocAttr,Try.facts,zA,s3,s6,s7,s8,hml,hl,hc3,ah,set_get,encB_len]
          intro k1 hk10 hk1
          have n31 := bK hk1
          try simp (disch := omega) only [↓aI,↓zP,aD,zD,aS,simprocAttr,Try.facts,zA,s3,s6,s7,s8,hml,hl,hc3,hk,ho,hln,ah,set_get,aP,encB_len,n31,aj hk1]
          intro k2 o2 hk20 hk2 ho2
          replace hk2 := am hk2
          have n32 := bK hk2
          replace hk2 := am hk2
          try simp (disch := omega) only [↓aI,↓zP,aD,zD,aS,simprocAttr,Try.facts,zA,s3,s6,s7,s8,hml,hl,hc3,hk,ho,hln,ah,set_get,aP,encB_len,n31,n32,aj hk1,kill_mid1 hk3 n32]
          intro k4 o4 hk40 hk4 ho4
          have n24 := bK hk4
          replace hk4 := am (am hk4)
          have nt2 := nt' hk2
          have nt4 := nt' hk4
          try simp (disch := omega) only [↓aI,↓zP,aD,zD,aS,simprocAttr,Try.facts,zA,s3,s6,s7,s8,hml,hl,hc3,hk,ho,nt2,nt4,hln,ah,set_get,aP,encB_len,n31,n32,aj hk1,kill_mid1 hk3 n32]
          intro kf of hkf0 hkf hof
          try simp (disch := omega) only [↓aI,↓zP,aD,zD,aS,simprocAttr,Try.facts,zA,s3,s6,s7,s8,hml,hl,hc3,hk,ho,nt2,nt4,hln,ah,set_get,aP,encB_len,n31,n32,aj hk1,kill_mid1 hk3 n32]
          exact fin _ kf of (((Abs.Sub.refl E).set_free hk2).set_free hk4) hkf0 hkf hof (by rw [aP nt4,aP nt2]; exact hk)
      · rintro σ F ⟨kt',o',g1,g2,g3,g4,g5,s3,s6,s7,s8⟩
        simp (disch := omega) only [↓aI,↓zP,aD,zD,aS,simprocAttr,Try.facts,zA,s3,s6,s7,s8]
        exact ⟨mm - 1,by omega,i + 1,kt',o',by omega,g1,g2,g3,g4,g5,rfl,rfl⟩
    · obtain rfl : i = ms.length := by omega
      rw [List.take_length] at s3
      simp (disch := omega) only [↓aI,↓zP,aD,zD,aS,simprocAttr,Try.facts,zA,s3,s6,s7,s8]
      exact hs
end Go.Proofs.Ytjlnpngaiphnmaa
end
section
set_option linter.unusedSimpArgs false
set_option linter.unusedVariables false
set_option maxRecDepth 20000
set_option maxHeartbeats 8000000
namespace Go.Proofs.Ytjlnpngaiphnmaa
open Go Go.Abs Go.Proofs
theorem set_flip {H : AH} {a b : Nat} {x y : AObj} (h : ¬ a = b) : (H.set b x).set a y = (H.set a y).set b x := by
  funext z
  simp only [AH.set]
  by_cases e1 : z = a
  · subst e1; simp [h]
  · simp [e1]
theorem kill_ss {G : AH} {a : Nat} {o : AObj} : (G.set a o).kill a = G.kill a := by
  funext x
  simp only [AH.set,AH.kill]
  split <;> rfl
theorem kill_sc {G : AH} {a c : Nat} {z : AObj} (h : ¬ a = c) : (G.set c z).kill a = (G.kill a).set c z := by
  funext x
  simp only [AH.set,AH.kill]
  by_cases e : x = a
  · subst e; simp [h]
  · simp [e]
theorem kill_nn {G : AH} {a : Nat} (h : G a = none) : G.kill a = G := by
  funext x
  simp only [AH.kill]
  split
  · rename_i e; rw [e,h]
  · rfl
theorem set_twice {H : AH} {a : Nat} {x y : AObj} : (H.set a x).set a y = H.set a y := by
  funext z
  simp only [AH.set]
  split <;> rfl
abbrev idealV (h : Nat) : AV := .ifc 25 (.ptr h 0)
theorem GT.ok {N : Nat} {ts : List Term} (g : GT N ts) : ∀ x ∈ ts,okT x := fun x hx => (g.wf x hx).1
theorem SS.up {H0 H F : AH} {h m d : Nat} {ts : List Term} (s : SS H0 H h m d ts) (f : Abs.Sub H F) : SS H0 F h m d ts := by
  obtain ⟨k,g,n1,n2,n3,hs⟩ := s
  obtain ⟨o,c1,c2⟩ := g.ht
  exact ⟨k,⟨g.k0,f _ _ g.hi,f _ _ g.hm,⟨o,f _ _ c1,c2⟩⟩,n1,n2,n3,hs.trans f⟩
theorem draw_one {c : Cfg} {l : List Oper} {t : STree} {K : Sg → AH → Prop} {σ : Sg} {H : AH} {k : Tie K} {k' : Tie l} (h : RunT c l t K σ H) : DrawT c l t K σ H k k' := eI K h fun _ _ h => h
variable {H0 H : AH} {h m d N : Nat} {ts : List Term}
theorem shr_tell (a p : List UInt8) (ha : a.length ≤ 100000000) (hp : p.length ≤ 100000000) (hN : N ≤ 1000000) (g : GT N ts) (s : SS H0 H h m d ts) :
    ACalls Try.prog 110 [.ptr h 0,bytesV a,bytesV p] H fun v H' => v = .tup [bytesV (shrM ts a p).2.1,.sc (.int .i64 (shrM ts a p).2.2)] ∧ SS H0 H' h m d (shrM ts a p).1 := by
  have hg := g.mono hN
  have hs0 := s
  obtain ⟨k0,g0,n1,n2,n3,hs⟩ := s
  refine (shared_live H h m k0 d ts a p (by omega) hg.pub hg.wf hg.len g0).freeze fun v H' r => ?_
  unfold shrM
  rcases r with ⟨hn,rfl,rfl⟩ | ⟨h32,hn,rfl,rfl⟩ | ⟨h32,hy,r,hr,rfl⟩
  · rw [if_pos hn]
    exact ⟨_,H',Abs.Sub.refl _,Frz.same,rfl,hs0⟩
  · rw [if_neg (by omega),if_pos hn]
    exact ⟨_,H',Abs.Sub.refl _,Frz.same,rfl,hs0⟩
  · rw [if_neg (by omega),if_neg (by rw [hy]; decide)]
    obtain ⟨H1,ss,kk,hk0,hk,rfl,rfl⟩ := name_give g0 n1 n2 n3 hs hr
    refine ⟨_,H1,Abs.Sub.set_new hk,.tup2 (Frz.own set_get hk (by rw [encB_length]; omega)) .same,?_,ss⟩
    rw [List.take_of_length_le (by rw [encB_length]; omega)]
    rfl
theorem shr_V (ts : List Term) (d : Nat) (s p : List UInt8) : shV ts d s p = .tup [vaultV (shrM ts s p).1 d,bytesV (shrM ts s p).2.1,.sc (.int .i64 (shrM ts s p).2.2)] := by
  unfold shV shrM namT
  by_cases h1 : s.length = 32
  · cases h2 : (findT ts p 112).2 <;> simp [h1,h2,bw]
  · simp [h1,bw]
theorem vshr_pure (g : GT N ts) (hN : N ≤ 1000000) (d : Nat) (s p : List UInt8) : APure Try.prog 76 [vaultV ts d,bytesV s,bytesV p] (.tup [vaultV (shrM ts s p).1 d,bytesV (shrM ts s p).2.1,.sc (.int .i64 (shrM ts s p).2.2)]) := by
  rw [← shr_V]
  have hg := g.mono hN
  exact vshared_pure ts d s p hg.pub hg.wf hg.len
theorem bky_tell (n id : Int) (a p : List UInt8) (ha : a.length ≤ 100000000) (hp : p.length ≤ 100000000) (hN : N ≤ 999990) (g : GT N ts) (s : SS H0 H h m d ts) :
    ACalls Try.prog 45 [idealV h,.sc (.int .i64 n),.sc (.int .i64 id),bytesV a,bytesV p] H fun v H' => v = .tup [bytesV (bkyM ts n id a p).2.1,.sc (.int .i64 (bkyM ts n id a p).2.2)] ∧ SS H0 H' h m d (bkyM ts n id a p).1 := by
  have hs := shr_tell a p ha hp (by omega) g s
  obtain ⟨g1,p1,l1,e1⟩ := shr_spec g (s := a) (p := p)
  have w1 := wnum_pure [] (by simp) n
  have w2 := wnum_pure (vnum n) (by have := vnum_length n; omega) id
  rw [List.nil_append] at w1
  have hn2 := num2 n id
  have hdv := fun (hl : (shrM ts a p).2.1.length = 32) (E : AH) (s : SS H0 E h m d (shrM ts a p).1) => derive_tell (shrM ts a p).2.1 (vnum n ++ vnum id) (wf2 (k := 107) (by decide) (by omega) (by omega)).1 (g1.mono (by omega)) hl s
  unfold bkyM
  unfold TellR at hdv
  change ∀ _,∀ E,∀ _,ACalls _ _ _ _ fun v H' => v = bytesV (namT (shrM ts a p).1 ⟨107,[(shrM ts a p).2.1,vnum n ++ vnum id]⟩) ∧ _ at hdv
  rw [show bytesV (vnum n ++ vnum id) = .imm 0 (bw (vnum n ++ vnum id)) ((vnum n).length + (vnum id).length) by rw [bytesV,List.length_append]] at hdv
  generalize shrM ts a p = S at *
  generalize namT S.1 ⟨107,[S.2.1,vnum n ++ vnum id]⟩ = K at *
  obtain ⟨t1,sb,se⟩ := S
  simp only [] at *
  by_cases h0 : se = 0
  · subst h0
    rw [if_neg (by simp)]
    have hd := hdv (l1 rfl)
    refine ao (c := ⟨Try.prog,34,[(4,[0,0,0,0,0,0,0,0,0,2,0,0])],[],[]⟩) (rs := [ResultVar.tmp 10,ResultVar.tmp 11]) Try.mixed Try.func45 rfl rfl rfl (Nat.le_of_ble_eq_true rfl) (by kernel_rfl) ?_
    simp (disch := omega) only [↓aI,↓zP,aD,zD,aS,simprocAttr,Try.facts,zA]
    refine CallK.i hs ?_
    rintro v E ⟨rfl,s1⟩
    try simp (disch := omega) only [↓aI,↓zP,aD,zD,aS,simprocAttr,Try.facts,zA]
    first | refine CallK.p (w1) ?_ | refine CallP.i (w1) ?_
    simp (disch := omega) only [↓aI,↓zP,aD,zD,aS,simprocAttr,Try.facts,zA]
    first | refine CallK.p (w2) ?_ | refine CallP.i (w2) ?_
    simp (disch := omega) only [↓aI,↓zP,aD,zD,aS,simprocAttr,Try.facts,zA]
    refine CallK.i (hd _ s1) ?_
    rintro v E2 ⟨rfl,s2⟩
    simp (disch := omega) only [↓aI,↓zP,aD,zD,aS,simprocAttr,Try.facts,zA]
    exact ⟨_,rfl,_,Abs.Sub.refl _,rfl,s2⟩
  · rw [if_pos h0]
    have he : sb = [] := by
      rcases e1 with h | h | h
      · exact absurd h h0
      · cases h; rfl
      · cases h; rfl
    subst he
    refine ao (c := ⟨Try.prog,34,[(4,[0,0,0,0,0,0,0,0,0,2,0,0])],[],[]⟩) (rs := [ResultVar.tmp 10,ResultVar.tmp 11]) Try.mixed Try.func45 rfl rfl rfl (Nat.le_of_ble_eq_true rfl) (by kernel_rfl) ?_
    simp (disch := omega) only [↓aI,↓zP,aD,zD,aS,simprocAttr,Try.facts,zA]
    refine CallK.i hs ?_
    rintro v E ⟨rfl,s1⟩
    try simp (disch := omega) only [↓aI,↓zP,aD,zD,aS,simprocAttr,Try.facts,zA]
    exact ⟨_,rfl,_,Abs.Sub.refl _,rfl,s1⟩
theorem rbky_pure (n id : Int) (a p : List UInt8) (hN : N ≤ 999990) (g : GT N ts) (d : Nat) : APure Try.prog 51 [vaultV ts d,.sc (.int .i64 n),.sc (.int .i64 id),bytesV a,bytesV p] (.tup [vaultV (bkyM ts n id a p).1 d,bytesV (bkyM ts n id a p).2.1,.sc (.int .i64 (bkyM ts n id a p).2.2)]) := by
  have hs := vshr_pure g (by omega) d a p
  obtain ⟨g1,p1,l1,e1⟩ := shr_spec g (s := a) (p := p)
  have w1 := num21_pure [] (by simp) n
  have w2 := num21_pure (vnum n) (by have := vnum_length n; omega) id
  rw [List.nil_append] at w1
  have hn2 := num2 n id
  have hdv := fun (hl : (shrM ts a p).2.1.length = 32) => vderive_pure (shrM ts a p).1 d (shrM ts a p).2.1 (vnum n ++ vnum id) (wf2 (k := 107) (by decide) (by omega) (by omega)).1 g1.ok (by have := g1.len; omega)
  unfold bkyM
  rw [show bytesV (vnum n ++ vnum id) = .imm 0 (bw (vnum n ++ vnum id)) ((vnum n).length + (vnum id).length) by rw [bytesV,List.length_append]] at hdv
  rw [show nameT ⟨107,[(shrM ts a p).2.1,vnum n ++ vnum id]⟩ (numT (shrM ts a p).1 ⟨107,[(shrM ts a p).2.1,vnum n ++ vnum id]⟩).2 = namT (shrM ts a p).1 ⟨107,[(shrM ts a p).2.1,vnum n ++ vnum id]⟩ from rfl] at hdv
  generalize shrM ts a p = S at *
  generalize namT S.1 ⟨107,[S.2.1,vnum n ++ vnum id]⟩ = K at *
  obtain ⟨t1,sb,se⟩ := S
  simp only [] at *
  by_cases h0 : se = 0
  · subst h0
    rw [if_neg (by simp)]
    have hd := hdv (l1 rfl)
    rw [if_pos (l1 rfl)] at hd
    refine az (c := ⟨Try.prog,41,[(4,[0,0,0,0,0,0,0,0,0,0,2,2,0]),(1000004,[15])],[],[(4,(.op 1 0 (.op 2 0 (.op 3 0 (.op 4 0 (.op 5 0 (.op 0 4 (.op 6 0 (.op 7 0 (.op 8 0 (.op 9 0 (.op 10 3 (.op 11 2 (.op 12 0 .nil))))))))))))))]⟩) (rs := [ResultVar.cell 10 29,ResultVar.tmp 11,ResultVar.tmp 12]) Try.mixed Try.func51 rfl rfl rfl (Nat.le_of_ble_eq_true rfl) (by kernel_rfl) fun H => ?_
    simp (disch := omega) only [↓aI,↓zP,aD,zD,aS,simprocAttr,Try.facts,zA]
    intro b5 hb50 hb5 b10 hb100 hb10
    have n510 := bK hb10
    have n105 : ¬ b10 = b5 := fun e => n510 e.symm
    have f10 := am hb10
    simp (disch := omega) only [↓aI,↓zP,aD,zD,aS,simprocAttr,Try.facts,zA,aP,n510,n105]
    first | refine CallK.p (hs) ?_ | refine CallP.i (hs) ?_
    simp (disch := omega) only [↓aI,↓zP,aD,zD,aS,simprocAttr,Try.facts,zA,aP,n510,n105,ah]
    refine draw_one ?_
    simp (disch := omega) only [↓aI,↓zP,aD,zD,aS,simprocAttr,Try.facts,zA,aP,n510,n105,ah,set_flip n510,set_twice]
    first | refine CallK.p (w1) ?_ | refine CallP.i (w1) ?_
    simp (disch := omega) only [↓aI,↓zP,aD,zD,aS,simprocAttr,Try.facts,zA,aP,n510,n105,ah]
    first | refine CallK.p (w2) ?_ | refine CallP.i (w2) ?_
    simp (disch := omega) only [↓aI,↓zP,aD,zD,aS,simprocAttr,Try.facts,zA,aP,n510,n105,ah]
    first | refine CallK.p (hd) ?_ | refine CallP.i (hd) ?_
    simp (disch := omega) only [↓aI,↓zP,aD,zD,aS,simprocAttr,Try.facts,zA,aP,n510,n105,ah]
    intro b15 hb150 hb15
    have n515 := bK hb15
    have n1015 := bK (am hb15)
    have f15 := am (am (am hb15))
    have n155 : ¬ b15 = b5 := fun e => n515 e.symm
    have n1510 : ¬ b15 = b10 := fun e => n1015 e.symm
    simp (disch := omega) only [↓aI,↓zP,aD,zD,aS,simprocAttr,Try.facts,zA,aP,n510,n105,n515,n155,n1015,n1510,ah,set_flip n510,set_flip n515,set_flip n1015,set_twice,kill_ss,kill_sc,kill_nn f15]
    exact ((Abs.Sub.refl H).set_free hb5).set_free f10
  · rw [if_pos h0]
    have he : sb = [] := by
      rcases e1 with h | h | h
      · exact absurd h h0
      · cases h; rfl
      · cases h; rfl
    subst he
    refine az (c := ⟨Try.prog,41,[(4,[0,0,0,0,0,0,0,0,0,0,2,2,0]),(1000004,[15])],[],[(4,(.op 1 0 (.op 2 0 (.op 3 0 (.op 4 0 (.op 5 0 (.op 0 4 (.op 6 0 (.op 7 0 (.op 8 0 (.op 9 0 (.op 10 3 (.op 11 2 (.op 12 0 .nil))))))))))))))]⟩) (rs := [ResultVar.cell 10 29,ResultVar.tmp 11,ResultVar.tmp 12]) Try.mixed Try.func51 rfl rfl rfl (Nat.le_of_ble_eq_true rfl) (by kernel_rfl) fun H => ?_
    simp (disch := omega) only [↓aI,↓zP,aD,zD,aS,simprocAttr,Try.facts,zA]
    intro b5 hb50 hb5 b10 hb100 hb10
    have n510 := bK hb10
    have n105 : ¬ b10 = b5 := fun e => n510 e.symm
    have f10 := am hb10
    simp (disch := omega) only [↓aI,↓zP,aD,zD,aS,simprocAttr,Try.facts,zA,aP,n510,n105]
    first | refine CallK.p (hs) ?_ | refine CallP.i (hs) ?_
    simp (disch := omega) only [↓aI,↓zP,aD,zD,aS,simprocAttr,Try.facts,zA,aP,n510,n105,ah,set_flip n510,set_twice]
    exact ⟨rfl,((Abs.Sub.refl H).set_free hb5).set_free f10⟩
end Go.Proofs.Ytjlnpngaiphnmaa
end
