/-
  Several texts in one: each says what it proves.
  Conditions: none. Lemmas only.
-/
import Derived.Test.YtaehlpkinbpmbaaSuiG5
set_option linter.all false
section
set_option linter.unusedSimpArgs false
set_option linter.unusedVariables false
set_option maxRecDepth 20000
namespace Go.Proofs.Ytaehlpkinbpmbaa
open Go Go.Abs Go.Proofs

def SS (H0 H : AH) (h m d : Nat) (ts : List Term) : Prop := ∃ k,IsI H h m k d ts ∧ H0 h = none ∧ H0 m = none ∧ H0 k = none ∧ Abs.Sub H0 H
theorem SS.sub {H0 H : AH} {h m d : Nat} {ts : List Term} (s : SS H0 H h m d ts) : Abs.Sub H0 H := by obtain ⟨k,_,_,_,_,h⟩ := s; exact h
theorem SS.less {H0 H1 H : AH} {h m d : Nat} {ts : List Term} (s : SS H0 H h m d ts) (hs : Abs.Sub H1 H0) : SS H1 H h m d ts := by
  obtain ⟨k,g,a,b,c,e⟩ := s
  exact ⟨k,g,hs.free a,hs.free b,hs.free c,hs.trans e⟩
theorem SS.of_new {H : AH} {v : AV} {H' : AH} (n : NewI H v H') : ∃ h m,v = .ptr h 0 ∧ SS H H' h m 0 [] := by
  obtain ⟨h,m,k,rfl,g,n1,n2,n3,ho⟩ := n
  exact ⟨h,m,rfl,k,g,n1,n2,n3,fun x o hx => by rw [ho x (bA hx n1) (bA hx n2) (bA hx n3)]; exact hx⟩
theorem SS.of_clone {H : AH} {d : Nat} {ts : List Term} {v : AV} {H' : AH} (n : CloneR H d ts v H') : ∃ h m,v = .ptr h 0 ∧ SS H H' h m d ts := by
  obtain ⟨h,m,k,rfl,g,n1,n2,n3,ho⟩ := n
  exact ⟨h,m,rfl,k,g,n1,n2,n3,fun x o hx => by rw [ho x (bA hx n1) (bA hx n2) (bA hx n3)]; exact hx⟩
theorem SS.step {H0 H H' : AH} {h m k d d' : Nat} {ts ts' : List Term} (g : IsI H h m k d ts) (n1 : H0 h = none) (n2 : H0 m = none) (n3 : H0 k = none) (hs : Abs.Sub H0 H) (s : StepI H h m k d' ts' H') : SS H0 H' h m d' ts' := by
  obtain ⟨k',hk,g',ho⟩ := s
  have n4 : H0 k' = none := by
    rcases hk with rfl | ⟨-,hf⟩
    · exact n3
    · exact hs.free hf
  exact ⟨k',g',n1,n2,n4,fun x o hx => by rw [ho x (bA hx n1) (bA hx n2) (bA hx n3) (bA hx n4)]; exact hs x o hx⟩
theorem SS.box {H0 H : AH} {h m d : Nat} {ts : List Term} (s : SS H0 H h m d ts) {b : Nat} {o : AObj} (hb : H b = none) : SS (H0.set b o) (H.set b o) h m d ts := by
  obtain ⟨k,⟨k0,hi,hm,oo,hk,ho⟩,a,e,f,g⟩ := s
  have h1 := bA hi hb
  have h2 := bA hm hb
  have h3 := bA hk hb
  refine ⟨k,⟨k0,by rw [aP h1]; exact hi,by rw [aP h2]; exact hm,oo,by rw [aP h3]; exact hk,ho⟩,by rw [aP h1]; exact a,by rw [aP h2]; exact e,by rw [aP h3]; exact f,g.mset⟩
theorem SS.put {H0 H : AH} {h m d : Nat} {ts : List Term} (s : SS H0 H h m d ts) {b : Nat} {o o' : AObj} (hb : H0 b = some o) : SS (H0.set b o') (H.set b o') h m d ts := by
  obtain ⟨k,⟨k0,hi,hm,oo,hk,ho⟩,a,e,f,g⟩ := s
  have h1 : ¬ h = b := fun x => bA hb a x.symm
  have h2 : ¬ m = b := fun x => bA hb e x.symm
  have h3 : ¬ k = b := fun x => bA hb f x.symm
  refine ⟨k,⟨k0,by rw [aP h1]; exact hi,by rw [aP h2]; exact hm,oo,by rw [aP h3]; exact hk,ho⟩,by rw [aP h1]; exact a,by rw [aP h2]; exact e,by rw [aP h3]; exact f,g.mset⟩
theorem SS.kill {H0 H : AH} {h m d : Nat} {ts : List Term} (s : SS H0 H h m d ts) {b : Nat} {o : AObj} (hb : H0 b = some o) : SS (H0.kill b) (H.kill b) h m d ts := by
  obtain ⟨k,⟨k0,hi,hm,oo,hk,ho⟩,a,e,f,g⟩ := s
  have h1 : ¬ h = b := fun x => bA hb a x.symm
  have h2 : ¬ m = b := fun x => bA hb e x.symm
  have h3 : ¬ k = b := fun x => bA hb f x.symm
  refine ⟨k,⟨k0,by rw [bZ h1]; exact hi,by rw [bZ h2]; exact hm,oo,by rw [bZ h3]; exact hk,ho⟩,by rw [bZ h1]; exact a,by rw [bZ h2]; exact e,by rw [bZ h3]; exact f,g.mkill⟩
theorem SS.get {H0 H : AH} {h m d : Nat} {ts : List Term} (s : SS H0 H h m d ts) : ∃ k,H h = some (.cells [.imm k (dC ts) ts.length,.mp m,.sc (.int .i64 d)] 82 3) := by
  obtain ⟨k,g,_⟩ := s
  exact ⟨k,g.hi⟩
structure GT (N : Nat) (ts : List Term) : Prop where
  wf : ∀ x ∈ ts,wfT x
  len : ts.length ≤ N
  nd : ts.Nodup
  pub : ∀ x ∈ ts,x.kind = 112 → (partT x 0).length ≤ 1000000
theorem GT.nil {N : Nat} : GT N [] := ⟨(fun _ h => by cases h),Nat.zero_le _,.nil,(fun _ h => by cases h)⟩
theorem GT.num {N : Nat} {ts : List Term} (g : GT N ts) {t : Term} (ht : wfT t) (hp : t.kind = 112 → (partT t 0).length ≤ 1000000) : GT (N + 1) (numT ts t).1 := by
  unfold numT
  split
  · exact ⟨g.wf,Nat.le_succ_of_le g.len,g.nd,g.pub⟩
  · rename_i hn
    refine ⟨fun x hx => ?_,by simp; exact g.len,?_,fun x hx => ?_⟩
    · rcases List.mem_append.1 hx with h | h
      · exact g.wf x h
      · rw [List.mem_singleton.1 h]; exact ht
    · rw [List.nodup_append]
      exact ⟨g.nd,by simp,fun a ha b hb => by rw [List.mem_singleton.1 hb]; rintro rfl; exact hn ha⟩
    · rcases List.mem_append.1 hx with h | h
      · exact g.pub x h
      · rw [List.mem_singleton.1 h]; exact hp
theorem GT.mono {N M : Nat} {ts : List Term} (g : GT N ts) (h : N ≤ M) : GT M ts := ⟨g.wf,Nat.le_trans g.len h,g.nd,g.pub⟩

def TellR (H0 : AH) (h m d : Nat) (ts : List Term) (t : Term) (v : AV) (H' : AH) : Prop := v = bytesV (nameT t (numT ts t).2) ∧ SS H0 H' h m d (numT ts t).1
def GiveR (H0 : AH) (h m d : Nat) (ts : List Term) (l : List UInt8) (v : AV) (H' : AH) : Prop := ∃ H1,SS H0 H1 h m d ts ∧ OwnB l H1 v H'
theorem GiveR.tell {H0 : AH} {h m d : Nat} {ts : List Term} {l : List UInt8} {v : AV} {H' : AH} (g : GiveR H0 h m d ts l v H') : ∃ v' H2,Abs.Sub H2 H' ∧ Frz H' H2 v v' ∧ v' = bytesV l ∧ SS H0 H2 h m d ts := by
  obtain ⟨H1,s,kk,hk0,hk,rfl,rfl⟩ := g
  refine ⟨_,H1,Abs.Sub.set_new hk,Frz.own set_get hk (by rw [encB_length]; omega),?_,s⟩
  rw [List.take_of_length_le (by rw [encB_length]; omega)]
theorem GiveR.less {H0 H2 : AH} {h m d : Nat} {ts : List Term} {l : List UInt8} {v : AV} {H' : AH} (g : GiveR H0 h m d ts l v H') (hs : Abs.Sub H2 H0) : GiveR H2 h m d ts l v H' := by
  obtain ⟨H1,s,o⟩ := g
  exact ⟨H1,s.less hs,o⟩
theorem name_give {H0 H : AH} {h m k d : Nat} {ts : List Term} {t : Term} {v : AV} {H' : AH} (g : IsI H h m k d ts) (n1 : H0 h = none) (n2 : H0 m = none) (n3 : H0 k = none) (hs : Abs.Sub H0 H) (r : NameR H h m k d ts t v H') :
    GiveR H0 h m d (numT ts t).1 (nameT t (numT ts t).2) v H' := by
  obtain ⟨H1,s,o⟩ := r
  exact ⟨H1,SS.step g n1 n2 n3 hs s,o⟩

theorem public_give {H0 H : AH} {h m d : Nat} {ts : List Term} (a : List UInt8) (ht : okT ⟨112,[a]⟩) (hg : GT 1000000 ts) (h32 : a.length = 32) (s : SS H0 H h m d ts) : ACalls Try.prog 110 [.ptr h 0,bytesV a] H (GiveR H0 h m d (numT ts ⟨112,[a]⟩).1 (nameT ⟨112,[a]⟩ (numT ts ⟨112,[a]⟩).2)) := by
  obtain ⟨k,g,n1,n2,n3,hs⟩ := s
  refine (public_live H h m k d ts a ht (fun x hx => (hg.wf x hx).1) hg.len g).mono fun v H' r => ?_
  rcases r with ⟨_,r⟩ | ⟨hn,_⟩
  · exact name_give g n1 n2 n3 hs r
  · exact absurd h32 hn
theorem public_none {H0 H : AH} {h m d : Nat} {ts : List Term} (a : List UInt8) (ht : okT ⟨112,[a]⟩) (hg : GT 1000000 ts) (h32 : a.length ≠ 32) (s : SS H0 H h m d ts) : ACalls Try.prog 110 [.ptr h 0,bytesV a] H fun v H' => v = .imm 0 [] 0 ∧ SS H0 H' h m d ts := by
  have s' := s
  obtain ⟨k,g,n1,n2,n3,hs⟩ := s
  refine (public_live H h m k d ts a ht (fun x hx => (hg.wf x hx).1) hg.len g).mono fun v H' r => ?_
  rcases r with ⟨hn,_⟩ | ⟨_,h1,h2⟩
  · exact absurd hn h32
  · exact ⟨h1,by rw [h2]; exact s'⟩
theorem public_tell {H0 H : AH} {h m d : Nat} {ts : List Term} (a : List UInt8) (ht : okT ⟨112,[a]⟩) (hg : GT 1000000 ts) (h32 : a.length = 32) (s : SS H0 H h m d ts) : ACalls Try.prog 110 [.ptr h 0,bytesV a] H (TellR H0 h m d ts ⟨112,[a]⟩) :=
  (public_give a ht hg h32 s).freeze fun v H' r => by
    obtain ⟨v',H2,a,b,c,e⟩ := r.tell
    exact ⟨v',H2,a,b,c,e⟩

theorem derive_give {H0 H : AH} {h m d : Nat} {ts : List Term} (a b : List UInt8) (ht : okT ⟨107,[a,b]⟩) (hg : GT 1000000 ts) (h32 : a.length = 32) (s : SS H0 H h m d ts) : ACalls Try.prog 108 [.ptr h 0,bytesV a,bytesV b] H (GiveR H0 h m d (numT ts ⟨107,[a,b]⟩).1 (nameT ⟨107,[a,b]⟩ (numT ts ⟨107,[a,b]⟩).2)) := by
  obtain ⟨k,g,n1,n2,n3,hs⟩ := s
  refine (derive_live H h m k d ts a b ht (fun x hx => (hg.wf x hx).1) hg.len g).mono fun v H' r => ?_
  rcases r with ⟨_,r⟩ | ⟨hn,_⟩
  · exact name_give g n1 n2 n3 hs r
  · exact absurd h32 hn
theorem derive_none {H0 H : AH} {h m d : Nat} {ts : List Term} (a b : List UInt8) (ht : okT ⟨107,[a,b]⟩) (hg : GT 1000000 ts) (h32 : a.length ≠ 32) (s : SS H0 H h m d ts) : ACalls Try.prog 108 [.ptr h 0,bytesV a,bytesV b] H fun v H' => v = .imm 0 [] 0 ∧ SS H0 H' h m d ts := by
  have s' := s
  obtain ⟨k,g,n1,n2,n3,hs⟩ := s
  refine (derive_live H h m k d ts a b ht (fun x hx => (hg.wf x hx).1) hg.len g).mono fun v H' r => ?_
  rcases r with ⟨hn,_⟩ | ⟨_,h1,h2⟩
  · exact absurd hn h32
  · exact ⟨h1,by rw [h2]; exact s'⟩
theorem derive_tell {H0 H : AH} {h m d : Nat} {ts : List Term} (a b : List UInt8) (ht : okT ⟨107,[a,b]⟩) (hg : GT 1000000 ts) (h32 : a.length = 32) (s : SS H0 H h m d ts) : ACalls Try.prog 108 [.ptr h 0,bytesV a,bytesV b] H (TellR H0 h m d ts ⟨107,[a,b]⟩) :=
  (derive_give a b ht hg h32 s).freeze fun v H' r => by
    obtain ⟨v',H2,a,b,c,e⟩ := r.tell
    exact ⟨v',H2,a,b,c,e⟩

theorem signer_give {H0 H : AH} {h m d : Nat} {ts : List Term} (a : List UInt8) (ht : okT ⟨118,[a]⟩) (hg : GT 1000000 ts) (h32 : a.length = 32) (s : SS H0 H h m d ts) : ACalls Try.prog 17 [.ptr h 0,bytesV a] H (GiveR H0 h m d (numT ts ⟨118,[a]⟩).1 (nameT ⟨118,[a]⟩ (numT ts ⟨118,[a]⟩).2)) := by
  obtain ⟨k,g,n1,n2,n3,hs⟩ := s
  refine (signer_live H h m k d ts a ht (fun x hx => (hg.wf x hx).1) hg.len g).mono fun v H' r => ?_
  rcases r with ⟨_,r⟩ | ⟨hn,_⟩
  · exact name_give g n1 n2 n3 hs r
  · exact absurd h32 hn
theorem signer_none {H0 H : AH} {h m d : Nat} {ts : List Term} (a : List UInt8) (ht : okT ⟨118,[a]⟩) (hg : GT 1000000 ts) (h32 : a.length ≠ 32) (s : SS H0 H h m d ts) : ACalls Try.prog 17 [.ptr h 0,bytesV a] H fun v H' => v = .imm 0 [] 0 ∧ SS H0 H' h m d ts := by
  have s' := s
  obtain ⟨k,g,n1,n2,n3,hs⟩ := s
  refine (signer_live H h m k d ts a ht (fun x hx => (hg.wf x hx).1) hg.len g).mono fun v H' r => ?_
  rcases r with ⟨hn,_⟩ | ⟨_,h1,h2⟩
  · exact absurd hn h32
  · exact ⟨h1,by rw [h2]; exact s'⟩
theorem signer_tell {H0 H : AH} {h m d : Nat} {ts : List Term} (a : List UInt8) (ht : okT ⟨118,[a]⟩) (hg : GT 1000000 ts) (h32 : a.length = 32) (s : SS H0 H h m d ts) : ACalls Try.prog 17 [.ptr h 0,bytesV a] H (TellR H0 h m d ts ⟨118,[a]⟩) :=
  (signer_give a ht hg h32 s).freeze fun v H' r => by
    obtain ⟨v',H2,a,b,c,e⟩ := r.tell
    exact ⟨v',H2,a,b,c,e⟩

theorem sign_give {H0 H : AH} {h m d : Nat} {ts : List Term} (a b : List UInt8) (ht : okT ⟨103,[a,b]⟩) (hg : GT 1000000 ts) (h32 : a.length = 32) (s : SS H0 H h m d ts) : ACalls Try.prog 113 [.ptr h 0,bytesV a,bytesV b] H (GiveR H0 h m d (numT ts ⟨103,[a,b]⟩).1 (nameT ⟨103,[a,b]⟩ (numT ts ⟨103,[a,b]⟩).2)) := by
  obtain ⟨k,g,n1,n2,n3,hs⟩ := s
  refine (sign_live H h m k d ts a b ht (fun x hx => (hg.wf x hx).1) hg.len g).mono fun v H' r => ?_
  rcases r with ⟨_,r⟩ | ⟨hn,_⟩
  · exact name_give g n1 n2 n3 hs r
  · exact absurd h32 hn
theorem sign_none {H0 H : AH} {h m d : Nat} {ts : List Term} (a b : List UInt8) (ht : okT ⟨103,[a,b]⟩) (hg : GT 1000000 ts) (h32 : a.length ≠ 32) (s : SS H0 H h m d ts) : ACalls Try.prog 113 [.ptr h 0,bytesV a,bytesV b] H fun v H' => v = .imm 0 [] 0 ∧ SS H0 H' h m d ts := by
  have s' := s
  obtain ⟨k,g,n1,n2,n3,hs⟩ := s
  refine (sign_live H h m k d ts a b ht (fun x hx => (hg.wf x hx).1) hg.len g).mono fun v H' r => ?_
  rcases r with ⟨hn,_⟩ | ⟨_,h1,h2⟩
  · exact absurd hn h32
  · exact ⟨h1,by rw [h2]; exact s'⟩
theorem sign_tell {H0 H : AH} {h m d : Nat} {ts : List Term} (a b : List UInt8) (ht : okT ⟨103,[a,b]⟩) (hg : GT 1000000 ts) (h32 : a.length = 32) (s : SS H0 H h m d ts) : ACalls Try.prog 113 [.ptr h 0,bytesV a,bytesV b] H (TellR H0 h m d ts ⟨103,[a,b]⟩) :=
  (sign_give a b ht hg h32 s).freeze fun v H' r => by
    obtain ⟨v',H2,a,b,c,e⟩ := r.tell
    exact ⟨v',H2,a,b,c,e⟩

theorem seal_give {H0 H : AH} {h m d : Nat} {ts : List Term} (a : List UInt8) (n : Nat) (o x : List UInt8) (hn : n < 9223372036854775808) (ht : okT ⟨98,[a,lowL 8 n,o,x]⟩) (hg : GT 1000000 ts) (h32 : a.length = 32) (s : SS H0 H h m d ts) : ACalls Try.prog 111 [.ptr h 0,bytesV a,.sc (.int .i64 n),bytesV o,bytesV x] H (GiveR H0 h m d (numT ts ⟨98,[a,lowL 8 n,o,x]⟩).1 (nameT ⟨98,[a,lowL 8 n,o,x]⟩ (numT ts ⟨98,[a,lowL 8 n,o,x]⟩).2)) := by
  obtain ⟨k,g,n1,n2,n3,hs⟩ := s
  refine (seal_live H h m k d ts a n o x hn ht (fun x hx => (hg.wf x hx).1) hg.len g).mono fun v H' r => ?_
  rcases r with ⟨_,r⟩ | ⟨hn,_⟩
  · exact name_give g n1 n2 n3 hs r
  · exact absurd h32 hn
theorem seal_none {H0 H : AH} {h m d : Nat} {ts : List Term} (a : List UInt8) (n : Nat) (o x : List UInt8) (hn : n < 9223372036854775808) (ht : okT ⟨98,[a,lowL 8 n,o,x]⟩) (hg : GT 1000000 ts) (h32 : a.length ≠ 32) (s : SS H0 H h m d ts) : ACalls Try.prog 111 [.ptr h 0,bytesV a,.sc (.int .i64 n),bytesV o,bytesV x] H fun v H' => v = .imm 0 [] 0 ∧ SS H0 H' h m d ts := by
  have s' := s
  obtain ⟨k,g,n1,n2,n3,hs⟩ := s
  refine (seal_live H h m k d ts a n o x hn ht (fun x hx => (hg.wf x hx).1) hg.len g).mono fun v H' r => ?_
  rcases r with ⟨hn,_⟩ | ⟨_,h1,h2⟩
  · exact absurd hn h32
  · exact ⟨h1,by rw [h2]; exact s'⟩
theorem seal_tell {H0 H : AH} {h m d : Nat} {ts : List Term} (a : List UInt8) (n : Nat) (o x : List UInt8) (hn : n < 9223372036854775808) (ht : okT ⟨98,[a,lowL 8 n,o,x]⟩) (hg : GT 1000000 ts) (h32 : a.length = 32) (s : SS H0 H h m d ts) : ACalls Try.prog 111 [.ptr h 0,bytesV a,.sc (.int .i64 n),bytesV o,bytesV x] H (TellR H0 h m d ts ⟨98,[a,lowL 8 n,o,x]⟩) :=
  (seal_give a n o x hn ht hg h32 s).freeze fun v H' r => by
    obtain ⟨v',H2,a,b,c,e⟩ := r.tell
    exact ⟨v',H2,a,b,c,e⟩

theorem hash_give {H0 H : AH} {h m d : Nat} {ts : List Term} (a : List UInt8) (ht : okT ⟨104,[a]⟩) (hg : GT 1000000 ts) (s : SS H0 H h m d ts) : ACalls Try.prog 51 [.ptr h 0,bytesV a] H (GiveR H0 h m d (numT ts ⟨104,[a]⟩).1 (nameT ⟨104,[a]⟩ (numT ts ⟨104,[a]⟩).2)) := by
  obtain ⟨k,g,n1,n2,n3,hs⟩ := s
  exact (hash_live H h m k d ts a ht (fun x hx => (hg.wf x hx).1) hg.len g).mono fun v H' r => name_give g n1 n2 n3 hs r
theorem hash_tell {H0 H : AH} {h m d : Nat} {ts : List Term} (a : List UInt8) (ht : okT ⟨104,[a]⟩) (hg : GT 1000000 ts) (s : SS H0 H h m d ts) : ACalls Try.prog 51 [.ptr h 0,bytesV a] H (TellR H0 h m d ts ⟨104,[a]⟩) :=
  (hash_give a ht hg s).freeze fun v H' r => by
    obtain ⟨v',H2,a,b,c,e⟩ := r.tell
    exact ⟨v',H2,a,b,c,e⟩
theorem draw_give {H0 H : AH} {h m d : Nat} {ts : List Term} (hd : d ≤ 1000000) (hg : GT 1000000 ts) (s : SS H0 H h m d ts) : ACalls Try.prog 10 [.ptr h 0] H (GiveR H0 h m (d + 1) (numT ts ⟨115,[lowL 8 (d + 1)]⟩).1 (nameT ⟨115,[lowL 8 (d + 1)]⟩ (numT ts ⟨115,[lowL 8 (d + 1)]⟩).2)) := by
  obtain ⟨k,g,n1,n2,n3,hs⟩ := s
  refine (draw_live H h m k d ts hd (fun x hx => (hg.wf x hx).1) hg.len g).mono fun v H' r => ?_
  obtain ⟨H1,st,o⟩ := r
  exact ⟨H1,SS.step g n1 n2 n3 hs st,o⟩
theorem draw_tell {H0 H : AH} {h m d : Nat} {ts : List Term} (hd : d ≤ 1000000) (hg : GT 1000000 ts) (s : SS H0 H h m d ts) : ACalls Try.prog 10 [.ptr h 0] H fun v H' => v = bytesV (nameT ⟨115,[lowL 8 (d + 1)]⟩ (numT ts ⟨115,[lowL 8 (d + 1)]⟩).2) ∧ SS H0 H' h m (d + 1) (numT ts ⟨115,[lowL 8 (d + 1)]⟩).1 :=
  (draw_give hd hg s).freeze fun v H' r => by
    obtain ⟨v',H2,a,b,c,e⟩ := r.tell
    exact ⟨v',H2,a,b,c,e⟩
theorem verify_ss {H0 H : AH} {h m d : Nat} {ts : List Term} (key b sig : List UInt8) (h1 : key.length ≤ 140737488355328) (h2 : sig.length ≤ 140737488355328) (hg : GT 1000000 ts) (s : SS H0 H h m d ts) : ACalls Try.prog 114 [.ptr h 0,bytesV key,bytesV b,bytesV sig] H fun v H' => v = .sc (.bool (verT ts key b sig)) ∧ H' = H := by
  obtain ⟨k,g,n1,n2,n3,hs⟩ := s
  exact verify_live H h m k d ts key b sig h1 h2 hg.wf hg.len g
theorem len_ss {H0 H : AH} {h m d : Nat} {ts : List Term} (s : SS H0 H h m d ts) : ACalls Try.prog 31 [.ptr h 0] H fun v H' => v = .sc (.int .i64 ts.length) ∧ H' = H := by
  obtain ⟨k,g,n1,n2,n3,hs⟩ := s
  exact len_live H h m k d ts g
theorem new_ss (H : AH) : ACalls Try.prog 9 [] H fun v H' => ∃ h m,v = .ptr h 0 ∧ SS H H' h m 0 [] := (new_live H).mono fun v H' r => SS.of_new r
theorem open_none {H0 H : AH} {h m d : Nat} {ts : List Term} (key : List UInt8) (n : Int) (o b : List UInt8) (hn : key.length ≠ 32 ∨ n < 0) (s : SS H0 H h m d ts) : ACalls Try.prog 109 [.ptr h 0,bytesV key,.sc (.int .i64 n),bytesV o,bytesV b] H fun v H' => v = .tup [.imm 0 [] 0,.sc (.int .i64 1)] ∧ H' = H := by
  obtain ⟨k,g,n1,n2,n3,hs⟩ := s
  exact open_arg H h m k d ts key n o b hn g
theorem open_ss {H0 H : AH} {h m d : Nat} {ts : List Term} (key : List UInt8) (n : Nat) (o b : List UInt8) (h32 : key.length = 32) (hn : n < 9223372036854775808) (h1 : b.length ≤ 140737488355328) (hg : GT 1000000 ts) (s : SS H0 H h m d ts) : ACalls Try.prog 109 [.ptr h 0,bytesV key,.sc (.int .i64 n),bytesV o,bytesV b] H (OpenR H ts key n o b) := by
  obtain ⟨k,g,n1,n2,n3,hs⟩ := s
  exact open_live H h m k d ts key n o b h32 hn h1 hg.wf hg.len g
theorem open_tell {H0 H : AH} {h m d : Nat} {ts : List Term} (key : List UInt8) (n : Nat) (o b : List UInt8) (h32 : key.length = 32) (hn : n < 9223372036854775808) (h1 : b.length ≤ 140737488355328) (hg : GT 1000000 ts) (s : SS H0 H h m d ts) : ACalls Try.prog 109 [.ptr h 0,bytesV key,.sc (.int .i64 n),bytesV o,bytesV b] H fun v H' => v = openV ts key n o b ∧ H' = H :=
  (open_ss key n o b h32 hn h1 hg s).freeze fun v H' r => by
    unfold openV
    rcases r with ⟨a,rfl,rfl⟩ | ⟨a,r,⟨kk,hk0,hk,rfl,rfl⟩,rfl⟩
    · exact ⟨_,_,Abs.Sub.refl _,.same,by rw [a]; rfl,rfl⟩
    · refine ⟨_,H,Abs.Sub.set_new hk,.tup2 (Frz.own set_get hk (by rw [encB_length]; omega)) .same,?_,rfl⟩
      rw [a,List.take_of_length_le (by rw [encB_length]; omega)]; rfl
theorem seal_neg {H : AH} {h : Nat} (n : Int) (a b c : List UInt8) (hn : n < 0) : ACalls Try.prog 111 [.ptr h 0,bytesV a,.sc (.int .i64 n),bytesV b,bytesV c] H fun v H' => v = .imm 0 [] 0 ∧ H' = H := by
  have hb : decide (n < 0) = true := by simpa using hn
  refine ao (c := ⟨Try.prog,21,[],[],[]⟩) (rs := [ResultVar.tmp 10]) Try.mixed Try.func111 rfl rfl rfl (Nat.le_of_ble_eq_true rfl) (by kernel_rfl) ?_
  simp (disch := omega) only [↓aI,↓zP,aD,zD,aS,simprocAttr,Try.facts,hb]
  exact ⟨_,rfl,H,Abs.Sub.refl _,rfl,rfl⟩
end Go.Proofs.Ytaehlpkinbpmbaa
end
section
set_option linter.unusedSimpArgs false
set_option linter.unusedVariables false
set_option maxHeartbeats 2000000
set_option maxRecDepth 20000
namespace Go.Proofs.Ytaehlpkinbpmbaa
open Go Go.Abs Go.Proofs

theorem numT_new {ts : List Term} {t : Term} (h : t ∉ ts) : numT ts t = (ts ++ [t],ts.length + 1) := by rw [numT,if_neg h]
theorem wfT_of {t : Term} (h : t.kind ≠ 98 ∧ t.kind ≠ 103 ∧ t.kind ≠ 118 ∧ t.kind ≠ 112) (h1 : t.parts.length ≤ 1000000) (h2 : t.parts.flatten.length ≤ 1000000000000) : wfT t :=
  ⟨⟨fun e => absurd e h.1,h1,h2⟩,fun e => absurd e h.2.1,fun e => absurd e h.2.2.1,fun e => absurd e h.2.2.2⟩
theorem name_get0 {t : Term} {n : Nat} : (bw (nameT t n))[0]? = some (.sc (.int .u8 t.kind.toNat)) := rfl
theorem name_get1 {t : Term} {n : Nat} : (bw (nameT t n))[1]? = some (.sc (.int .u8 (UInt8.ofNat n).toNat)) := rfl

theorem awake_facts : ∃ (L1 L2 : List Term) (N1 N2 : List UInt8), GT 1000000 L1 ∧ GT 1000000 L2 ∧ L2.length = 2 ∧ N1.length = 32 ∧ N2.length = 32 ∧
    (bw N1)[0]? = some (.sc (.int .u8 115)) ∧ (bw N1)[1]? = some (.sc (.int .u8 1)) ∧ (bw N2)[0]? = some (.sc (.int .u8 104)) ∧ (bw N2)[1]? = some (.sc (.int .u8 2)) ∧
    (numT [] ⟨115,[lowL 8 (0 + 1)]⟩).1 = L1 ∧ nameT ⟨115,[lowL 8 (0 + 1)]⟩ (numT [] ⟨115,[lowL 8 (0 + 1)]⟩).2 = N1 ∧
    (numT L1 ⟨104,[[97]]⟩).1 = L2 ∧ nameT ⟨104,[[97]]⟩ (numT L1 ⟨104,[[97]]⟩).2 = N2 ∧ (numT L2 ⟨104,[[97]]⟩).1 = L2 ∧ nameT ⟨104,[[97]]⟩ (numT L2 ⟨104,[[97]]⟩).2 = N2 := by
  have w1 : wfT ⟨115,[lowL 8 1]⟩ := wfT_of (by simp) (by simp) (by simp [lowL_length])
  have w2 : wfT ⟨104,[[97]]⟩ := wfT_of (by simp) (by simp) (by simp)
  have z1 : numT [] ⟨115,[lowL 8 1]⟩ = ([⟨115,[lowL 8 1]⟩],1) := numT_new (by simp)
  have z2 : numT [⟨115,[lowL 8 1]⟩] ⟨104,[[97]]⟩ = ([⟨115,[lowL 8 1]⟩,⟨104,[[97]]⟩],2) := numT_new (by simp)
  have z3 : numT [⟨115,[lowL 8 1]⟩,⟨104,[[97]]⟩] ⟨104,[[97]]⟩ = ([⟨115,[lowL 8 1]⟩,⟨104,[[97]]⟩],2) := by decide
  have g1 : GT 1000000 [⟨115,[lowL 8 1]⟩] := by have := (GT.nil (N := 0)).num w1 (fun h => absurd h (by simp)); rw [z1] at this; exact this.mono (by omega)
  have g2 : GT 1000000 [⟨115,[lowL 8 1]⟩,⟨104,[[97]]⟩] := by have := ((GT.nil (N := 0)).num w1 (fun h => absurd h (by simp))).num w2 (fun h => absurd h (by simp)); rw [z1,z2] at this; exact this.mono (by omega)
  exact ⟨[⟨115,[lowL 8 1]⟩],[⟨115,[lowL 8 1]⟩,⟨104,[[97]]⟩],nameT ⟨115,[lowL 8 1]⟩ 1,nameT ⟨104,[[97]]⟩ 2,g1,g2,rfl,by rw [nameT_length]; rfl,by rw [nameT_length]; rfl,rfl,rfl,rfl,rfl,by rw [z1],by rw [z1],by rw [z2],by rw [z2],by rw [z3],by rw [z3]⟩
theorem awake_pure : APure Try.prog 22 [] (.sc (.bool true)) := by
  obtain ⟨L1,L2,N1,N2,g1,g2,hL,l1,l2,e0,e1,e2,e3,a1,a2,b1,b2,c1,c2⟩ := awake_facts
  have w2 : okT ⟨104,[[97]]⟩ := (wfT_of (t := ⟨104,[[97]]⟩) (by simp) (by simp) (by simp)).1
  have hd := fun (H : AH) (H1 : AH) (h m : Nat) (s : SS H H1 h m 0 []) => draw_tell (d := 0) (by omega) GT.nil s
  have h1 := fun (H : AH) (H1 : AH) (h m : Nat) (s : SS H H1 h m (0 + 1) L1) => (show ACalls Try.prog 51 [.ptr h 0,.imm 0 (bw [97]) 1] H1 _ from hash_tell [97] w2 g1 s)
  have h2 := fun (H : AH) (H1 : AH) (h m : Nat) (s : SS H H1 h m (0 + 1) L2) => (show ACalls Try.prog 51 [.ptr h 0,.imm 0 (bw [97]) 1] H1 _ from hash_tell [97] w2 g2 s)
  have h3 := fun (H : AH) (H1 : AH) (h m : Nat) (s : SS H H1 h m (0 + 1) L2) => len_ss s
  unfold TellR at h1 h2
  simp only [a1,a2] at hd
  simp only [b1,b2] at h1
  simp only [c1,c2] at h2
  simp only [hL] at h3
  have he : ([.sc (.int .u8 97)] : List AV) = bw [97] := rfl
  clear a1 a2 b1 b2 c1 c2
  generalize ([97] : List UInt8) = Z at *
  refine az (c := ⟨Try.prog,60,[(2000005,[0,1,2,3,4,5,6,7,8,9,10,11,12,13,14,15,16,17,18,19,20,21,22,23,24,25,26,27,28,29,30,31,32,33,38,39,34,35,36,37,40,41,42,43,44,45,46,47]),(5,[0,1,0,0,0,0,1,0,0,0,0,0,1,0,0,0,0,1,0,0,0,0,0,1,0,0,0,0,0,1,0,0,0,0,0,0,2,2,2,0,0,0,0,0,2,0,0,0]),(4000005,[0]),(4000004,[1,2,3])],[1000010,1000047],[]⟩) (rs := [ResultVar.tmp 0]) Try.mixed Try.func22 rfl rfl rfl (Nat.le_of_ble_eq_true rfl) (by kernel_rfl) fun H => ?_
  simp (disch := omega) only [↓aI,↓zP,aD,zD,aS,simprocAttr,Try.facts]
  refine CallK.i (new_ss H) ?_
  rintro v H1 ⟨h,m,rfl,s1⟩
  simp (disch := omega) only [↓aI,↓zP,aD,zD,aS,simprocAttr,Try.facts]
  refine CallK.i (hd _ _ _ _ s1) ?_
  rintro v H2 ⟨rfl,s2⟩
  simp (disch := omega) only [↓aI,↓zP,aD,zD,aS,simprocAttr,Try.facts]
  intro k hk0 hk
  simp (disch := omega) only [↓aI,↓zP,aD,zD,aS,simprocAttr,Try.facts,aj hk,he]
  refine CallK.i (h1 _ _ _ _ s2) ?_
  rintro v H3 ⟨rfl,s3⟩
  simp (disch := omega) only [↓aI,↓zP,aD,zD,aS,simprocAttr,Try.facts,l1,l2,e0,e1,e2,e3]
  intro k2 hk20 hk2
  simp (disch := omega) only [↓aI,↓zP,aD,zD,aS,simprocAttr,Try.facts,aj hk2,he]
  refine CallK.i (h2 _ _ _ _ s3) ?_
  rintro v H4 ⟨rfl,s4⟩
  simp (disch := omega) only [↓aI,↓zP,aD,zD,aS,simprocAttr,Try.facts,l1,l2]
  refine CallK.i (h3 _ _ _ _ s4) ?_
  rintro v H5 ⟨rfl,rfl⟩
  simp (disch := omega) only [↓aI,↓zP,aD,zD,aS,simprocAttr,Try.facts]
  exact s4.sub
end Go.Proofs.Ytaehlpkinbpmbaa
end
section
set_option linter.unusedSimpArgs false
set_option linter.unusedVariables false
set_option maxRecDepth 20000
namespace Go.Proofs.Ytaehlpkinbpmbaa
open Go Go.Abs Go.Proofs

theorem nameT_inj {x y : Term} {n m : Nat} (hn : n < 18446744073709551616) (hm : m < 18446744073709551616) (h : nameT x n = nameT y m) : n = m := by
  rw [← name_num (x := x) hn,h,name_num hm]
theorem findT_spec {ts : List Term} {b : List UInt8} {kd : UInt8} (h : (findT ts b kd).2 = true) : ∃ i,∃ hi : i < ts.length,ts[i].kind = kd ∧ b = nameT ts[i] (i + 1) ∧ (findT ts b kd).1 = ts[i] := by
  unfold findT at h ⊢
  split at h
  · cases h
  · rename_i h1
    rw [if_neg h1]
    split at h
    · cases h
    · rename_i h2
      rw [if_neg h2]
      have hj : numB b - 1 < ts.length := by omega
      have hg : ts.getD (numB b - 1) ⟨0,[]⟩ = ts[numB b - 1] := by simp [List.getD,hj]
      simp only [hg,decide_eq_true_eq] at h ⊢
      exact ⟨_,hj,h.1,by rw [show numB b - 1 + 1 = numB b by omega]; exact h.2,rfl⟩
theorem apart1 (a b : List UInt8) (ha : a.length ≤ 100000000) (hb : b.length ≤ 100000000) : ∃ (L1 L2 : List Term) (NA NB : List UInt8), GT 1 L1 ∧ GT 2 L2 ∧ (∀ x ∈ L2, x.kind = 104) ∧
    (numT [] ⟨104,[a]⟩).1 = L1 ∧ nameT ⟨104,[a]⟩ (numT [] ⟨104,[a]⟩).2 = NA ∧ (numT L1 ⟨104,[b]⟩).1 = L2 ∧ nameT ⟨104,[b]⟩ (numT L1 ⟨104,[b]⟩).2 = NB ∧ (NA == NB) = (a == b) ∧ okT ⟨104,[a]⟩ ∧ okT ⟨104,[b]⟩ := by
  have wa : wfT ⟨104,[a]⟩ := wfT_of (by simp) (by simp) (by simp; omega)
  have wb : wfT ⟨104,[b]⟩ := wfT_of (by simp) (by simp) (by simp; omega)
  have z1 : numT [] ⟨104,[a]⟩ = ([⟨104,[a]⟩],1) := numT_new (by simp)
  have g1 := (GT.nil (N := 0)).num wa (fun h => absurd h (by simp))
  have g2 := g1.num wb (fun h => absurd h (by simp))
  have k2 : ∀ x ∈ (numT (numT [] ⟨104,[a]⟩).1 ⟨104,[b]⟩).1,x.kind = 104 := by
    rw [z1]
    unfold numT
    split
    · simp
    · simp
  refine ⟨_,_,_,_,g1,g2,k2,rfl,rfl,rfl,rfl,?_,wa.1,wb.1⟩
  rw [z1]
  by_cases hab : a = b
  · subst hab
    have z2 : numT [⟨104,[a]⟩] ⟨104,[a]⟩ = ([⟨104,[a]⟩],1) := by simp [numT]
    rw [z2]
    simp
  · have z2 : numT [⟨104,[a]⟩] ⟨104,[b]⟩ = ([⟨104,[a]⟩,⟨104,[b]⟩],2) := numT_new (by simp; exact fun h => hab h.symm)
    rw [z2]
    have h1 : (a == b) = false := by simpa using hab
    rw [h1]
    simp only [beq_eq_false_iff_ne,ne_eq]
    intro h
    have := nameT_inj (by omega) (by omega) h
    omega
theorem apart2 (a b s x : List UInt8) (n : Nat) (L2 : List Term) (g2 : GT 2 L2) (hk : ∀ x ∈ L2, x.kind = 104) (ha : a.length ≤ 100000000) (hx : x.length ≤ 100000000) (hs : s.length = 32) :
    ∃ (L3 L4 L5 : List Term) (box sig key : List UInt8),GT 3 L3 ∧ GT 4 L4 ∧ GT 5 L5 ∧ (numT L2 ⟨98,[s,lowL 8 n,a,x]⟩).1 = L3 ∧ nameT ⟨98,[s,lowL 8 n,a,x]⟩ (numT L2 ⟨98,[s,lowL 8 n,a,x]⟩).2 = box ∧
      (numT L3 ⟨103,[s,a]⟩).1 = L4 ∧ nameT ⟨103,[s,a]⟩ (numT L3 ⟨103,[s,a]⟩).2 = sig ∧ (numT L4 ⟨118,[s]⟩).1 = L5 ∧ nameT ⟨118,[s]⟩ (numT L4 ⟨118,[s]⟩).2 = key ∧
      okT ⟨98,[s,lowL 8 n,a,x]⟩ ∧ okT ⟨103,[s,a]⟩ ∧ okT ⟨118,[s]⟩ ∧ box.length ≤ 140737488355328 ∧ sig.length ≤ 140737488355328 ∧ key.length ≤ 140737488355328 ∧
      opT L5 s n b box = (a == b) ∧ (opT L5 s n a x = true → (x == box) = true) ∧ verT L5 key b sig = (a == b) ∧ (verT L5 key a x = true → (x == sig) = true) := by
  have wS : wfT ⟨98,[s,lowL 8 n,a,x]⟩ := ⟨⟨fun _ => by simp,by simp,by simp [lowL_length]; omega⟩,fun h => absurd h (by simp),fun h => absurd h (by simp),fun h => absurd h (by simp)⟩
  have wG : wfT ⟨103,[s,a]⟩ := ⟨⟨fun h => absurd h (by simp),by simp,by simp; omega⟩,fun h => by simp,fun h => absurd h (by simp),fun h => absurd h (by simp)⟩
  have wV : wfT ⟨118,[s]⟩ := ⟨⟨fun h => absurd h (by simp),by simp,by simp; omega⟩,fun h => absurd h (by simp),fun h => by simp,fun h => absurd h (by simp)⟩
  generalize hS : (⟨98,[s,lowL 8 n,a,x]⟩ : Term) = S at *
  generalize hG : (⟨103,[s,a]⟩ : Term) = G at *
  generalize hV : (⟨118,[s]⟩ : Term) = V at *
  have kS : S.kind = 98 := by rw [← hS]
  have kG : G.kind = 103 := by rw [← hG]
  have kV : V.kind = 118 := by rw [← hV]
  have z1 : numT L2 S = (L2 ++ [S],L2.length + 1) := numT_new fun h => by have := hk _ h; rw [kS] at this; exact absurd this (by decide)
  have z2 : numT (L2 ++ [S]) G = (L2 ++ [S] ++ [G],L2.length + 1 + 1) := by
    rw [numT_new fun h => ?_]
    · simp
    · rcases List.mem_append.1 h with h | h
      · have := hk _ h; rw [kG] at this; exact absurd this (by decide)
      · rw [List.mem_singleton.1 h] at kG; rw [kS] at kG; exact absurd kG (by decide)
  have z3 : numT (L2 ++ [S] ++ [G]) V = (L2 ++ [S] ++ [G] ++ [V],L2.length + 1 + 1 + 1) := by
    rw [numT_new fun h => ?_]
    · simp
    · rcases List.mem_append.1 h with h | h
      · rcases List.mem_append.1 h with h | h
        · have := hk _ h; rw [kV] at this; exact absurd this (by decide)
        · rw [List.mem_singleton.1 h] at kV; rw [kS] at kV; exact absurd kV (by decide)
      · rw [List.mem_singleton.1 h] at kV; rw [kG] at kV; exact absurd kV (by decide)
  have g3 := g2.num wS (fun h => by rw [kS] at h; exact absurd h (by decide))
  have g4 := g3.num wG (fun h => by rw [kG] at h; exact absurd h (by decide))
  have g5 := g4.num wV (fun h => by rw [kV] at h; exact absurd h (by decide))
  rw [z1] at g3 g4 g5
  simp only [z2] at g4 g5
  simp only [z3] at g5
  have hl2 := g2.len
  have hL5 : (L2 ++ [S] ++ [G] ++ [V]).length ≤ 1000000 := by simp; omega
  have i1 : L2.length < (L2 ++ [S] ++ [G] ++ [V]).length := by simp
  have i2 : L2.length + 1 < (L2 ++ [S] ++ [G] ++ [V]).length := by simp
  have i3 : L2.length + 1 + 1 < (L2 ++ [S] ++ [G] ++ [V]).length := by simp
  have e1 : (L2 ++ [S] ++ [G] ++ [V])[L2.length] = S := by simp
  have e2 : (L2 ++ [S] ++ [G] ++ [V])[L2.length + 1] = G := by simp
  have e3 : (L2 ++ [S] ++ [G] ++ [V])[L2.length + 1 + 1] = V := by rw [List.getElem_append_right (by simp)]; simp
  have only : ∀ i (hi : i < (L2 ++ [S] ++ [G] ++ [V]).length),((L2 ++ [S] ++ [G] ++ [V])[i].kind = 98 → i = L2.length) ∧ ((L2 ++ [S] ++ [G] ++ [V])[i].kind = 103 → i = L2.length + 1) := by
    intro i hi
    rcases Nat.lt_or_ge i L2.length with h | h
    · have : (L2 ++ [S] ++ [G] ++ [V])[i] = L2[i] := by simp [List.append_assoc,h]
      rw [this]
      have := hk _ (List.getElem_mem h)
      rw [this]
      exact ⟨fun h => absurd h (by decide),fun h => absurd h (by decide)⟩
    · rcases Nat.lt_or_ge i (L2.length + 1) with h | h
      · obtain rfl : i = L2.length := by omega
        rw [e1,kS]; exact ⟨fun _ => rfl,fun h => absurd h (by decide)⟩
      · rcases Nat.lt_or_ge i (L2.length + 1 + 1) with h | h
        · obtain rfl : i = L2.length + 1 := by omega
          rw [e2,kG]; exact ⟨fun h => absurd h (by decide),fun _ => rfl⟩
        · obtain rfl : i = L2.length + 1 + 1 := by simp at hi; omega
          rw [e3,kV]; exact ⟨fun h => absurd h (by decide),fun h => absurd h (by decide)⟩
  refine ⟨L2 ++ [S],L2 ++ [S] ++ [G],L2 ++ [S] ++ [G] ++ [V],nameT S (L2.length + 1),nameT G (L2.length + 1 + 1),nameT V (L2.length + 1 + 1 + 1),g3,g4,g5,by rw [z1],by rw [z1],by rw [z2],by rw [z2],by rw [z3],by rw [z3],wS.1,wG.1,wV.1,?_,?_,?_,?_,?_,?_,?_⟩
  · rw [nameT_length]; have := sizeT_le wS.1; omega
  · rw [nameT_length]; have := sizeT_le wG.1; omega
  · rw [nameT_length]; have := sizeT_le wV.1; omega
  · have := findT_hit (b := nameT S (L2.length + 1)) (kd := 98) i1 hL5 (by rw [e1]; exact kS) (by rw [e1])
    rw [e1] at this
    simp only [opT,this]
    rw [← hS]
    simp [partT]
  · intro h
    simp only [opT,Bool.and_eq_true] at h
    obtain ⟨i,hi,h1,h2,-⟩ := findT_spec h.1.1.1
    obtain rfl := (only i hi).1 h1
    rw [e1] at h2
    simp [h2]
  · have h1 := findT_hit (b := nameT G (L2.length + 1 + 1)) (kd := 103) i2 hL5 (by rw [e2]; exact kG) (by rw [e2])
    have h2 := findT_hit (b := nameT V (L2.length + 1 + 1 + 1)) (kd := 118) i3 hL5 (by rw [e3]; exact kV) (by rw [e3])
    rw [e2] at h1
    rw [e3] at h2
    simp only [verT,h1,h2]
    rw [← hG,← hV]
    simp [partT]
  · intro h
    simp only [verT,Bool.and_eq_true] at h
    obtain ⟨i,hi,h1,h2,-⟩ := findT_spec h.1.1.1
    obtain rfl := (only i hi).2 h1
    rw [e2] at h2
    simp [h2]
end Go.Proofs.Ytaehlpkinbpmbaa
end
section
set_option linter.unusedSimpArgs false
set_option linter.unusedVariables false
set_option maxRecDepth 20000
set_option maxHeartbeats 2000000
namespace Go.Proofs.Ytaehlpkinbpmbaa
open Go Go.Abs Go.Proofs
def Nm (ts : List Term) (t : Term) (b : List UInt8) : Prop := ∃ i,∃ h : i < ts.length,ts[i] = t ∧ b = nameT t (i + 1)
theorem Nm.len {ts : List Term} {t : Term} {b : List UInt8} (n : Nm ts t b) : b.length = sizeT t := by
  obtain ⟨i,h,rfl,rfl⟩ := n
  exact nameT_length _ _
theorem Nm.mem {ts : List Term} {t : Term} {b : List UInt8} (n : Nm ts t b) : t ∈ ts := by
  obtain ⟨i,h,rfl,rfl⟩ := n
  exact List.getElem_mem h
theorem Nm.up {ts ts' : List Term} {t : Term} {b : List UInt8} (n : Nm ts t b) (p : ts <+: ts') : Nm ts' t b := by
  obtain ⟨r,rfl⟩ := p
  obtain ⟨i,h,h1,h2⟩ := n
  exact ⟨i,by rw [List.length_append]; omega,by rw [List.getElem_append_left h]; exact h1,h2⟩
theorem Nm.inj {ts : List Term} {t u : Term} {b : List UInt8} (n : Nm ts t b) (m : Nm ts u b) (hl : ts.length ≤ 1000000) : t = u := by
  obtain ⟨i,h,rfl,rfl⟩ := n
  obtain ⟨j,h',rfl,e⟩ := m
  have := nameT_inj (by omega) (by omega) e
  obtain rfl : i = j := by omega
  rfl
theorem Nm.one {ts : List Term} {t : Term} {b c : List UInt8} (n : Nm ts t b) (m : Nm ts t c) (nd : ts.Nodup) : b = c := by
  obtain ⟨i,h,e1,rfl⟩ := n
  obtain ⟨j,h',e2,rfl⟩ := m
  rw [(List.getElem_inj nd).1 (e1.trans e2.symm)]
theorem Nm.find {ts : List Term} {t : Term} {b : List UInt8} (n : Nm ts t b) (hl : ts.length ≤ 1000000) : findT ts b t.kind = (t,true) := by
  obtain ⟨i,h,rfl,rfl⟩ := n
  exact findT_hit h hl rfl rfl
theorem Nm.of_find {ts : List Term} {b : List UInt8} {kd : UInt8} (h : (findT ts b kd).2 = true) : Nm ts (findT ts b kd).1 b ∧ (findT ts b kd).1.kind = kd := by
  obtain ⟨i,hi,h1,h2,h3⟩ := findT_spec h
  rw [h3]
  exact ⟨⟨i,hi,rfl,h2⟩,h1⟩
theorem numT_nm (ts : List Term) (t : Term) : Nm (numT ts t).1 t (nameT t (numT ts t).2) ∧ ts <+: (numT ts t).1 := by
  unfold numT
  split
  · rename_i h
    exact ⟨⟨ts.idxOf t,List.idxOf_lt_length_of_mem h,List.getElem_idxOf _,rfl⟩,List.prefix_rfl⟩
  · exact ⟨⟨ts.length,by simp,by simp,rfl⟩,List.prefix_append _ _⟩
def AnsR (H0 : AH) (h m d N : Nat) (ts : List Term) (t : Term) (v : AV) (H' : AH) : Prop := ∃ b ts',v = bytesV b ∧ SS H0 H' h m d ts' ∧ Nm ts' t b ∧ ts <+: ts' ∧ GT (N + 1) ts'
theorem TellR.ans {H0 : AH} {h m d N : Nat} {ts : List Term} {t : Term} {v : AV} {H' : AH} (g : GT N ts) (ht : wfT t) (hp : t.kind = 112 → (partT t 0).length ≤ 1000000) (r : TellR H0 h m d ts t v H') : AnsR H0 h m d N ts t v H' :=
  ⟨_,_,r.1,r.2,(numT_nm ts t).1,(numT_nm ts t).2,g.num ht hp⟩
variable {H0 H : AH} {h m d N : Nat} {ts : List Term}
abbrev drawT (d : Nat) : Term := ⟨115,[lowL 8 (d + 1)]⟩
theorem wf1 {k : UInt8} {a : List UInt8} (hk : k ≠ 98 ∧ k ≠ 103) (ha : a.length ≤ 100000000) : wfT ⟨k,[a]⟩ :=
  ⟨⟨fun e => absurd e hk.1,by simp,by simp; omega⟩,fun e => absurd e hk.2,fun _ => by simp,fun _ => by simp⟩
theorem wf2 {k : UInt8} {a b : List UInt8} (hk : k ≠ 98) (ha : a.length ≤ 100000000) (hb : b.length ≤ 100000000) : wfT ⟨k,[a,b]⟩ :=
  ⟨⟨fun e => absurd e hk,by simp,by simp; omega⟩,fun _ => by simp,fun _ => by simp,fun _ => by simp⟩
theorem wf4 {k : UInt8} {a b c e : List UInt8} (ha : a.length ≤ 100000000) (hb : b.length ≤ 100000000) (hc : c.length ≤ 100000000) (he : e.length ≤ 100000000) : wfT ⟨k,[a,b,c,e]⟩ :=
  ⟨⟨fun _ => by simp,by simp,by simp; omega⟩,fun _ => by simp,fun _ => by simp,fun _ => by simp⟩
theorem draw_ans (hd : d ≤ 1000000) (hN : N ≤ 1000000) (g : GT N ts) (s : SS H0 H h m d ts) : ACalls Try.prog 10 [.ptr h 0] H (AnsR H0 h m (d + 1) N ts (drawT d)) :=
  (draw_tell hd (g.mono hN) s).mono fun v H' r => TellR.ans g (wf1 (by decide) (by rw [lowL_length]; omega)) (fun e => absurd (show (115 : UInt8) = 112 from e) (by decide)) r
theorem hash_ans (a : List UInt8) (ha : a.length ≤ 100000000) (hN : N ≤ 1000000) (g : GT N ts) (s : SS H0 H h m d ts) : ACalls Try.prog 51 [.ptr h 0,bytesV a] H (AnsR H0 h m d N ts ⟨104,[a]⟩) :=
  have w := wf1 (k := 104) (by decide) ha
  (hash_tell a w.1 (g.mono hN) s).mono fun v H' r => TellR.ans g w (fun e => absurd (show (104 : UInt8) = 112 from e) (by decide)) r
theorem public_ans (a : List UInt8) (ha : a.length = 32) (hN : N ≤ 1000000) (g : GT N ts) (s : SS H0 H h m d ts) : ACalls Try.prog 110 [.ptr h 0,bytesV a] H (AnsR H0 h m d N ts ⟨112,[a]⟩) :=
  have w := wf1 (k := 112) (a := a) (by decide) (by omega)
  (public_tell a w.1 (g.mono hN) ha s).mono fun v H' r => TellR.ans g w (fun _ => by simp [partT]; omega) r
theorem signer_ans (a : List UInt8) (ha : a.length = 32) (hN : N ≤ 1000000) (g : GT N ts) (s : SS H0 H h m d ts) : ACalls Try.prog 17 [.ptr h 0,bytesV a] H (AnsR H0 h m d N ts ⟨118,[a]⟩) :=
  have w := wf1 (k := 118) (a := a) (by decide) (by omega)
  (signer_tell a w.1 (g.mono hN) ha s).mono fun v H' r => TellR.ans g w (fun e => absurd (show (118 : UInt8) = 112 from e) (by decide)) r
theorem derive_ans (a b : List UInt8) (ha : a.length = 32) (hb : b.length ≤ 100000000) (hN : N ≤ 1000000) (g : GT N ts) (s : SS H0 H h m d ts) : ACalls Try.prog 108 [.ptr h 0,bytesV a,bytesV b] H (AnsR H0 h m d N ts ⟨107,[a,b]⟩) :=
  have w := wf2 (k := 107) (a := a) (b := b) (by decide) (by omega) hb
  (derive_tell a b w.1 (g.mono hN) ha s).mono fun v H' r => TellR.ans g w (fun e => absurd (show (107 : UInt8) = 112 from e) (by decide)) r
theorem sign_ans (a b : List UInt8) (ha : a.length = 32) (hb : b.length ≤ 100000000) (hN : N ≤ 1000000) (g : GT N ts) (s : SS H0 H h m d ts) : ACalls Try.prog 113 [.ptr h 0,bytesV a,bytesV b] H (AnsR H0 h m d N ts ⟨103,[a,b]⟩) :=
  have w := wf2 (k := 103) (a := a) (b := b) (by decide) (by omega) hb
  (sign_tell a b w.1 (g.mono hN) ha s).mono fun v H' r => TellR.ans g w (fun e => absurd (show (103 : UInt8) = 112 from e) (by decide)) r
abbrev sealT (a : List UInt8) (n : Nat) (o x : List UInt8) : Term := ⟨98,[a,lowL 8 n,o,x]⟩
theorem seal_ans (a : List UInt8) (n : Nat) (o x : List UInt8) (ha : a.length = 32) (hn : n < 9223372036854775808) (ho : o.length ≤ 100000000) (hx : x.length ≤ 100000000) (hN : N ≤ 1000000) (g : GT N ts) (s : SS H0 H h m d ts) :
    ACalls Try.prog 111 [.ptr h 0,bytesV a,.sc (.int .i64 n),bytesV o,bytesV x] H (AnsR H0 h m d N ts (sealT a n o x)) :=
  have w : wfT (sealT a n o x) := wf4 (by omega) (by rw [lowL_length]; omega) ho hx
  (seal_tell a n o x hn w.1 (g.mono hN) ha s).mono fun v H' r => TellR.ans g w (fun e => absurd (show (98 : UInt8) = 112 from e) (by decide)) r
theorem open_ans (a : List UInt8) (n : Nat) (o x b : List UInt8) (ha : a.length = 32) (hn : n < 9223372036854775808) (hN : N ≤ 1000000) (g : GT N ts) (s : SS H0 H h m d ts) (k : Nm ts (sealT a n o x) b) :
    ACalls Try.prog 109 [.ptr h 0,bytesV a,.sc (.int .i64 n),bytesV o,bytesV b] H fun v H' => v = .tup [bytesV x,.sc (.int .i64 0)] ∧ H' = H := by
  have hg := g.mono hN
  have hb : b.length ≤ 140737488355328 := by
    rw [k.len]
    have := sizeT_le (hg.wf _ k.mem).1
    omega
  refine (open_tell a n o b ha hn hb hg s).mono fun v H' r => ?_
  have hf := k.find hg.len
  have e : openV ts a n o b = .tup [bytesV x,.sc (.int .i64 0)] := by
    unfold openV opT
    rw [hf]
    simp [partT]
  rw [← e]
  exact r
theorem verify_ans (a b c q : List UInt8) (hc : c.length ≤ 100000000) (hq : q.length ≤ 100000000) (hN : N ≤ 1000000) (g : GT N ts) (s : SS H0 H h m d ts) :
    ACalls Try.prog 114 [.ptr h 0,bytesV c,bytesV b,bytesV q] H fun v H' => v = .sc (.bool (verT ts c b q)) ∧ H' = H :=
  verify_ss c b q (by omega) (by omega) (g.mono hN) s
theorem ver_yes {a b c q : List UInt8} (hl : ts.length ≤ 1000000) (k : Nm ts ⟨118,[a]⟩ c) (l : Nm ts ⟨103,[a,b]⟩ q) : verT ts c b q = true := by
  unfold verT
  have h1 := k.find hl
  have h2 := l.find hl
  simp only [] at h1 h2
  rw [h1,h2]
  simp [partT]
theorem cmp_anti : ∀ a b : List UInt8,Lib.compareBytes b a = - Lib.compareBytes a b
  | [],[] => rfl
  | [],_ :: _ => rfl
  | _ :: _,[] => rfl
  | x :: a,y :: b => by
    have ih := cmp_anti a b
    unfold Lib.compareBytes
    by_cases h1 : x < y
    · have h2 : ¬ y < x := fun h => absurd (UInt8.lt_trans h1 h) (UInt8.lt_irrefl x)
      rw [if_neg h2,if_pos h1,if_pos h1]; rfl
    · by_cases h2 : y < x
      · rw [if_pos h2,if_neg h1,if_pos h2]
      · rw [if_neg h2,if_neg h1,if_neg h1,if_neg h2,ih]
theorem cmp_same : ∀ a b : List UInt8,Lib.compareBytes a b = 0 → a = b
  | [],[],_ => rfl
  | [],_ :: _,h => by cases h
  | _ :: _,[],h => by cases h
  | x :: a,y :: b,h => by
    unfold Lib.compareBytes at h
    by_cases h1 : x < y
    · rw [if_pos h1] at h; cases h
    · by_cases h2 : y < x
      · rw [if_neg h1,if_pos h2] at h; cases h
      · rw [if_neg h1,if_neg h2] at h
        have e : x = y := by
          have a1 : ¬ x.toNat < y.toNat := fun h => h1 h
          have a2 : ¬ y.toNat < x.toNat := fun h => h2 h
          exact UInt8.toNat_inj.1 (by omega)
        rw [e,cmp_same a b h]
theorem shT_comm (a b : List UInt8) : shT a b = shT b a := by
  unfold shT
  have h := cmp_anti a b
  by_cases h1 : 0 < Lib.compareBytes a b
  · rw [if_pos h1,if_neg (by omega)]
  · by_cases h2 : 0 < Lib.compareBytes b a
    · rw [if_neg h1,if_pos h2]
    · rw [cmp_same a b (by omega)]
theorem shT_wf {a b : List UInt8} (ha : a.length ≤ 100000000) (hb : b.length ≤ 100000000) : wfT (shT a b) ∧ (shT a b).kind = 100 := by
  unfold shT
  split
  · exact ⟨wf2 (by decide) hb ha,rfl⟩
  · exact ⟨wf2 (by decide) ha hb,rfl⟩
theorem shared_ans (a b p : List UInt8) (ha : a.length = 32) (hb : b.length ≤ 1000000) (hN : N ≤ 1000000) (g : GT N ts) (s : SS H0 H h m d ts) (k : Nm ts ⟨112, [b]⟩ p) :
    ACalls Try.prog 112 [.ptr h 0,bytesV a,bytesV p] H fun v H' => ∃ r,v = .tup [r,.sc (.int .i64 0)] ∧ AnsR H0 h m d N ts (shT a b) r H' := by
  have hg := g.mono hN
  have hp : p.length ≤ 140737488355328 := by
    rw [k.len]
    have := sizeT_le (hg.wf _ k.mem).1
    omega
  obtain ⟨w,wk⟩ := shT_wf (a := a) (b := b) (by omega) (by omega)
  have hf := k.find hg.len
  simp only [] at hf
  have hpt : partT (⟨112,[b]⟩ : Term) 0 = b := rfl
  obtain ⟨k0,g0,n1,n2,n3,hs⟩ := s
  refine (shared_live H h m k0 d ts a p hp hg.pub hg.wf hg.len g0).freeze fun v H' r => ?_
  rcases r with ⟨hn,_⟩ | ⟨_,hn,_⟩ | ⟨_,_,r,hr,rfl⟩
  · exact absurd ha hn
  · rw [hf] at hn; cases hn
  · rw [hf] at hr
    simp only [hpt] at hr
    obtain ⟨H1,ss,kk,hk0,hk,rfl,rfl⟩ := name_give g0 n1 n2 n3 hs hr
    refine ⟨_,H1,Abs.Sub.set_new hk,.tup2 (Frz.own set_get hk (by rw [encB_length]; omega)) .same,bytesV (nameT (shT a b) (numT ts (shT a b)).2),?_,?_⟩
    · rw [List.take_of_length_le (by rw [encB_length]; omega)]
    · exact TellR.ans g w (fun e => absurd (wk.symm.trans e) (by decide)) ⟨rfl,ss⟩
end Go.Proofs.Ytaehlpkinbpmbaa
end
