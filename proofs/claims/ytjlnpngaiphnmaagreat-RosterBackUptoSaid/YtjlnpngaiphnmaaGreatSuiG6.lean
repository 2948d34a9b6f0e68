/-
  Several texts in one: each says what it proves.
  Conditions: none. Lemmas only.
-/
import Derived.Test.YtjlnpngaiphnmaaGreatSuiG5
set_option linter.all false
section
set_option linter.unusedSimpArgs false
set_option linter.unusedVariables false
set_option maxRecDepth 20000
namespace Go.Proofs.YtjlnpngaiphnmaaGreat
open Go Go.Abs Go.Proofs

def SS (H0 H : AH) (h m d : Nat) (ts : List Term) : Prop := ∃ k,IsI H h m k d ts ∧ H0 h = none ∧ H0 m = none ∧ H0 k = none ∧ Abs.Sub H0 H
theorem SS.sub {H0 H : AH} {h m d : Nat} {ts : List Term} (s : SS H0 H h m d ts) : Abs.Sub H0 H := by obtain ⟨k,_,_,_,_,h⟩ := s; exact h
theorem SS.less {H0 H1 H : AH} {h m d : Nat} {ts : List Term} (s : SS H0 H h m d ts) (hs : Abs.Sub H1 H0) : SS H1 H h m d ts := by
  obtain ⟨k,g,a,b,c,e⟩ := s
  exact ⟨k,g,hs.free a,hs.free b,hs.free c,hs.trans e⟩
theorem SS.of_new {H : AH} {v : AV} {H' : AH} (n : NewI H v H') : ∃ h m,v = .ptr h 0 ∧ SS H H' h m 0 [] := by
  obtain ⟨h,m,k,rfl,g,n1,n2,n3,ho⟩ := n
  exact ⟨h,m,rfl,k,g,n1,n2,n3,fun x o hx => by rw [ho x (bA hx n1) (bA hx n2) (bA hx n3)]; exact hx⟩
theorem SS.step {H0 H H' : AH} {h m k d d' : Nat} {ts ts' : List Term} (g : IsI H h m k d ts) (n1 : H0 h = none) (n2 : H0 m = none) (n3 : H0 k = none) (hs : Abs.Sub H0 H) (s : StepI H h m k d' ts' H') : SS H0 H' h m d' ts' := by
  obtain ⟨k',hk,g',ho⟩ := s
  have n4 : H0 k' = none := by
    rcases hk with rfl | ⟨-,hf⟩
    · exact n3
    · exact hs.free hf
  exact ⟨k',g',n1,n2,n4,fun x o hx => by rw [ho x (bA hx n1) (bA hx n2) (bA hx n3) (bA hx n4)]; exact hs x o hx⟩
theorem SS.box {H0 H : AH} {h m d : Nat} {ts : List Term} (s : SS H0 H h m d ts) {b : Nat} {o : AObj} (hb : H b = none) : SS (H0.set b o) (H.set b o) h m d ts := by
  obtain ⟨k,⟨k0,hi,hm,oo,hk,ho⟩,a,e,f,g⟩ := s
  have h1 := bA hi hb
  have h2 := bA hm hb
  have h3 := bA hk hb
  refine ⟨k,⟨k0,by rw [aP h1]; exact hi,by rw [aP h2]; exact hm,oo,by rw [aP h3]; exact hk,ho⟩,by rw [aP h1]; exact a,by rw [aP h2]; exact e,by rw [aP h3]; exact f,g.mset⟩
theorem SS.put {H0 H : AH} {h m d : Nat} {ts : List Term} (s : SS H0 H h m d ts) {b : Nat} {o o' : AObj} (hb : H0 b = some o) : SS (H0.set b o') (H.set b o') h m d ts := by
  obtain ⟨k,⟨k0,hi,hm,oo,hk,ho⟩,a,e,f,g⟩ := s
  have h1 : ¬ h = b := fun x => bA hb a x.symm
  have h2 : ¬ m = b := fun x => bA hb e x.symm
  have h3 : ¬ k = b := fun x => bA hb f x.symm
  refine ⟨k,⟨k0,by rw [aP h1]; exact hi,by rw [aP h2]; exact hm,oo,by rw [aP h3]; exact hk,ho⟩,by rw [aP h1]; exact a,by rw [aP h2]; exact e,by rw [aP h3]; exact f,g.mset⟩
theorem SS.kill {H0 H : AH} {h m d : Nat} {ts : List Term} (s : SS H0 H h m d ts) {b : Nat} {o : AObj} (hb : H0 b = some o) : SS (H0.kill b) (H.kill b) h m d ts := by
  obtain ⟨k,⟨k0,hi,hm,oo,hk,ho⟩,a,e,f,g⟩ := s
  have h1 : ¬ h = b := fun x => bA hb a x.symm
  have h2 : ¬ m = b := fun x => bA hb e x.symm
  have h3 : ¬ k = b := fun x => bA hb f x.symm
  refine ⟨k,⟨k0,by rw [bZ h1]; exact hi,by rw [bZ h2]; exact hm,oo,by rw [bZ h3]; exact hk,ho⟩,by rw [bZ h1]; exact a,by rw [bZ h2]; exact e,by rw [bZ h3]; exact f,g.mkill⟩
theorem SS.get {H0 H : AH} {h m d : Nat} {ts : List Term} (s : SS H0 H h m d ts) : ∃ k,H h = some (.cells [.imm k (dC ts) ts.length,.mp m,.sc (.int .i64 d)] 103 3) := by
  obtain ⟨k,g,_⟩ := s
  exact ⟨k,g.hi⟩
structure GT (N : Nat) (ts : List Term) : Prop where
  wf : ∀ x ∈ ts,wfT x
  len : ts.length ≤ N
  nd : ts.Nodup
  pub : ∀ x ∈ ts,x.kind = 112 → (fv x 0).length ≤ 1000000
theorem GT.nil {N : Nat} : GT N [] := ⟨(fun _ h => by cases h),Nat.zero_le _,.nil,(fun _ h => by cases h)⟩
theorem GT.num {N : Nat} {ts : List Term} (g : GT N ts) {t : Term} (ht : wfT t) (hp : t.kind = 112 → (fv t 0).length ≤ 1000000) : GT (N + 1) (fC ts t).1 := by
  unfold fC
  split
  · exact ⟨g.wf,Nat.le_succ_of_le g.len,g.nd,g.pub⟩
  · rename_i hn
    refine ⟨fun x hx => ?_,by simp; exact g.len,?_,fun x hx => ?_⟩
    · rcases List.mem_append.1 hx with h | h
      · exact g.wf x h
      · rw [List.mem_singleton.1 h]; exact ht
    · rw [List.nodup_append]
      exact ⟨g.nd,by simp,fun a ha b hb => by rw [List.mem_singleton.1 hb]; rintro rfl; exact hn ha⟩
    · rcases List.mem_append.1 hx with h | h
      · exact g.pub x h
      · rw [List.mem_singleton.1 h]; exact hp
theorem GT.mono {N M : Nat} {ts : List Term} (g : GT N ts) (h : N ≤ M) : GT M ts := ⟨g.wf,Nat.le_trans g.len h,g.nd,g.pub⟩

def TellR (H0 : AH) (h m d : Nat) (ts : List Term) (t : Term) (v : AV) (H' : AH) : Prop := v = eu (fW t (fC ts t).2) ∧ SS H0 H' h m d (fC ts t).1
def GiveR (H0 : AH) (h m d : Nat) (ts : List Term) (l : List UInt8) (v : AV) (H' : AH) : Prop := ∃ H1,SS H0 H1 h m d ts ∧ OwnB l H1 v H'
theorem GiveR.tell {H0 : AH} {h m d : Nat} {ts : List Term} {l : List UInt8} {v : AV} {H' : AH} (g : GiveR H0 h m d ts l v H') : ∃ v' H2,Abs.Sub H2 H' ∧ Frz H' H2 v v' ∧ v' = eu l ∧ SS H0 H2 h m d ts := by
  obtain ⟨H1,s,kk,hk0,hk,rfl,rfl⟩ := g
  refine ⟨_,H1,Abs.Sub.set_new hk,Frz.own set_get hk (by rw [gz]; omega),?_,s⟩
  rw [List.take_of_length_le (by rw [gz]; omega)]
theorem GiveR.less {H0 H2 : AH} {h m d : Nat} {ts : List Term} {l : List UInt8} {v : AV} {H' : AH} (g : GiveR H0 h m d ts l v H') (hs : Abs.Sub H2 H0) : GiveR H2 h m d ts l v H' := by
  obtain ⟨H1,s,o⟩ := g
  exact ⟨H1,s.less hs,o⟩
theorem jG {H0 H : AH} {h m k d : Nat} {ts : List Term} {t : Term} {v : AV} {H' : AH} (g : IsI H h m k d ts) (n1 : H0 h = none) (n2 : H0 m = none) (n3 : H0 k = none) (hs : Abs.Sub H0 H) (r : NameR H h m k d ts t v H') :
    GiveR H0 h m d (fC ts t).1 (fW t (fC ts t).2) v H' := by
  obtain ⟨H1,s,o⟩ := r
  exact ⟨H1,SS.step g n1 n2 n3 hs s,o⟩

theorem public_give {H0 H : AH} {h m d : Nat} {ts : List Term} (a : List UInt8) (ht : okT ⟨112,[a]⟩) (hg : GT 1000000 ts) (h32 : a.length = 32) (s : SS H0 H h m d ts) : ACalls Tryz.prog 75 [.ptr h 0,eu a] H (GiveR H0 h m d (fC ts ⟨112,[a]⟩).1 (fW ⟨112,[a]⟩ (fC ts ⟨112,[a]⟩).2)) := by
  obtain ⟨k,g,n1,n2,n3,hs⟩ := s
  refine (public_live H h m k d ts a ht (fun x hx => (hg.wf x hx).1) hg.len g).mono fun v H' r => ?_
  rcases r with ⟨_,r⟩ | ⟨hn,_⟩
  · exact jG g n1 n2 n3 hs r
  · exact absurd h32 hn
theorem public_tell {H0 H : AH} {h m d : Nat} {ts : List Term} (a : List UInt8) (ht : okT ⟨112,[a]⟩) (hg : GT 1000000 ts) (h32 : a.length = 32) (s : SS H0 H h m d ts) : ACalls Tryz.prog 75 [.ptr h 0,eu a] H (TellR H0 h m d ts ⟨112,[a]⟩) :=
  (public_give a ht hg h32 s).freeze fun v H' r => by
    obtain ⟨v',H2,a,b,c,e⟩ := r.tell
    exact ⟨v',H2,a,b,c,e⟩

theorem derive_give {H0 H : AH} {h m d : Nat} {ts : List Term} (a b : List UInt8) (ht : okT ⟨107,[a,b]⟩) (hg : GT 1000000 ts) (h32 : a.length = 32) (s : SS H0 H h m d ts) : ACalls Tryz.prog 124 [.ptr h 0,eu a,eu b] H (GiveR H0 h m d (fC ts ⟨107,[a,b]⟩).1 (fW ⟨107,[a,b]⟩ (fC ts ⟨107,[a,b]⟩).2)) := by
  obtain ⟨k,g,n1,n2,n3,hs⟩ := s
  refine (derive_live H h m k d ts a b ht (fun x hx => (hg.wf x hx).1) hg.len g).mono fun v H' r => ?_
  rcases r with ⟨_,r⟩ | ⟨hn,_⟩
  · exact jG g n1 n2 n3 hs r
  · exact absurd h32 hn
theorem derive_tell {H0 H : AH} {h m d : Nat} {ts : List Term} (a b : List UInt8) (ht : okT ⟨107,[a,b]⟩) (hg : GT 1000000 ts) (h32 : a.length = 32) (s : SS H0 H h m d ts) : ACalls Tryz.prog 124 [.ptr h 0,eu a,eu b] H (TellR H0 h m d ts ⟨107,[a,b]⟩) :=
  (derive_give a b ht hg h32 s).freeze fun v H' r => by
    obtain ⟨v',H2,a,b,c,e⟩ := r.tell
    exact ⟨v',H2,a,b,c,e⟩

theorem signer_give {H0 H : AH} {h m d : Nat} {ts : List Term} (a : List UInt8) (ht : okT ⟨118,[a]⟩) (hg : GT 1000000 ts) (h32 : a.length = 32) (s : SS H0 H h m d ts) : ACalls Tryz.prog 76 [.ptr h 0,eu a] H (GiveR H0 h m d (fC ts ⟨118,[a]⟩).1 (fW ⟨118,[a]⟩ (fC ts ⟨118,[a]⟩).2)) := by
  obtain ⟨k,g,n1,n2,n3,hs⟩ := s
  refine (signer_live H h m k d ts a ht (fun x hx => (hg.wf x hx).1) hg.len g).mono fun v H' r => ?_
  rcases r with ⟨_,r⟩ | ⟨hn,_⟩
  · exact jG g n1 n2 n3 hs r
  · exact absurd h32 hn
theorem signer_tell {H0 H : AH} {h m d : Nat} {ts : List Term} (a : List UInt8) (ht : okT ⟨118,[a]⟩) (hg : GT 1000000 ts) (h32 : a.length = 32) (s : SS H0 H h m d ts) : ACalls Tryz.prog 76 [.ptr h 0,eu a] H (TellR H0 h m d ts ⟨118,[a]⟩) :=
  (signer_give a ht hg h32 s).freeze fun v H' r => by
    obtain ⟨v',H2,a,b,c,e⟩ := r.tell
    exact ⟨v',H2,a,b,c,e⟩

theorem sign_give {H0 H : AH} {h m d : Nat} {ts : List Term} (a b : List UInt8) (ht : okT ⟨103,[a,b]⟩) (hg : GT 1000000 ts) (h32 : a.length = 32) (s : SS H0 H h m d ts) : ACalls Tryz.prog 130 [.ptr h 0,eu a,eu b] H (GiveR H0 h m d (fC ts ⟨103,[a,b]⟩).1 (fW ⟨103,[a,b]⟩ (fC ts ⟨103,[a,b]⟩).2)) := by
  obtain ⟨k,g,n1,n2,n3,hs⟩ := s
  refine (sign_live H h m k d ts a b ht (fun x hx => (hg.wf x hx).1) hg.len g).mono fun v H' r => ?_
  rcases r with ⟨_,r⟩ | ⟨hn,_⟩
  · exact jG g n1 n2 n3 hs r
  · exact absurd h32 hn
theorem sign_tell {H0 H : AH} {h m d : Nat} {ts : List Term} (a b : List UInt8) (ht : okT ⟨103,[a,b]⟩) (hg : GT 1000000 ts) (h32 : a.length = 32) (s : SS H0 H h m d ts) : ACalls Tryz.prog 130 [.ptr h 0,eu a,eu b] H (TellR H0 h m d ts ⟨103,[a,b]⟩) :=
  (sign_give a b ht hg h32 s).freeze fun v H' r => by
    obtain ⟨v',H2,a,b,c,e⟩ := r.tell
    exact ⟨v',H2,a,b,c,e⟩

theorem seal_give {H0 H : AH} {h m d : Nat} {ts : List Term} (a : List UInt8) (n : Nat) (o x : List UInt8) (hn : n < 9223372036854775808) (ht : okT ⟨98,[a,fh 8 n,o,x]⟩) (hg : GT 1000000 ts) (h32 : a.length = 32) (s : SS H0 H h m d ts) : ACalls Tryz.prog 128 [.ptr h 0,eu a,.sc (.int .i64 n),eu o,eu x] H (GiveR H0 h m d (fC ts ⟨98,[a,fh 8 n,o,x]⟩).1 (fW ⟨98,[a,fh 8 n,o,x]⟩ (fC ts ⟨98,[a,fh 8 n,o,x]⟩).2)) := by
  obtain ⟨k,g,n1,n2,n3,hs⟩ := s
  refine (seal_live H h m k d ts a n o x hn ht (fun x hx => (hg.wf x hx).1) hg.len g).mono fun v H' r => ?_
  rcases r with ⟨_,r⟩ | ⟨hn,_⟩
  · exact jG g n1 n2 n3 hs r
  · exact absurd h32 hn
theorem seal_tell {H0 H : AH} {h m d : Nat} {ts : List Term} (a : List UInt8) (n : Nat) (o x : List UInt8) (hn : n < 9223372036854775808) (ht : okT ⟨98,[a,fh 8 n,o,x]⟩) (hg : GT 1000000 ts) (h32 : a.length = 32) (s : SS H0 H h m d ts) : ACalls Tryz.prog 128 [.ptr h 0,eu a,.sc (.int .i64 n),eu o,eu x] H (TellR H0 h m d ts ⟨98,[a,fh 8 n,o,x]⟩) :=
  (seal_give a n o x hn ht hg h32 s).freeze fun v H' r => by
    obtain ⟨v',H2,a,b,c,e⟩ := r.tell
    exact ⟨v',H2,a,b,c,e⟩

theorem hash_give {H0 H : AH} {h m d : Nat} {ts : List Term} (a : List UInt8) (ht : okT ⟨104,[a]⟩) (hg : GT 1000000 ts) (s : SS H0 H h m d ts) : ACalls Tryz.prog 125 [.ptr h 0,eu a] H (GiveR H0 h m d (fC ts ⟨104,[a]⟩).1 (fW ⟨104,[a]⟩ (fC ts ⟨104,[a]⟩).2)) := by
  obtain ⟨k,g,n1,n2,n3,hs⟩ := s
  exact (hash_live H h m k d ts a ht (fun x hx => (hg.wf x hx).1) hg.len g).mono fun v H' r => jG g n1 n2 n3 hs r
theorem hash_tell {H0 H : AH} {h m d : Nat} {ts : List Term} (a : List UInt8) (ht : okT ⟨104,[a]⟩) (hg : GT 1000000 ts) (s : SS H0 H h m d ts) : ACalls Tryz.prog 125 [.ptr h 0,eu a] H (TellR H0 h m d ts ⟨104,[a]⟩) :=
  (hash_give a ht hg s).freeze fun v H' r => by
    obtain ⟨v',H2,a,b,c,e⟩ := r.tell
    exact ⟨v',H2,a,b,c,e⟩
theorem draw_give {H0 H : AH} {h m d : Nat} {ts : List Term} (hd : d ≤ 1000000) (hg : GT 1000000 ts) (s : SS H0 H h m d ts) : ACalls Tryz.prog 20 [.ptr h 0] H (GiveR H0 h m (d + 1) (fC ts ⟨115,[fh 8 (d + 1)]⟩).1 (fW ⟨115,[fh 8 (d + 1)]⟩ (fC ts ⟨115,[fh 8 (d + 1)]⟩).2)) := by
  obtain ⟨k,g,n1,n2,n3,hs⟩ := s
  refine (draw_live H h m k d ts hd (fun x hx => (hg.wf x hx).1) hg.len g).mono fun v H' r => ?_
  obtain ⟨H1,st,o⟩ := r
  exact ⟨H1,SS.step g n1 n2 n3 hs st,o⟩
theorem ja {H0 H : AH} {h m d : Nat} {ts : List Term} (hd : d ≤ 1000000) (hg : GT 1000000 ts) (s : SS H0 H h m d ts) : ACalls Tryz.prog 20 [.ptr h 0] H fun v H' => v = eu (fW ⟨115,[fh 8 (d + 1)]⟩ (fC ts ⟨115,[fh 8 (d + 1)]⟩).2) ∧ SS H0 H' h m (d + 1) (fC ts ⟨115,[fh 8 (d + 1)]⟩).1 :=
  (draw_give hd hg s).freeze fun v H' r => by
    obtain ⟨v',H2,a,b,c,e⟩ := r.tell
    exact ⟨v',H2,a,b,c,e⟩
theorem verify_ss {H0 H : AH} {h m d : Nat} {ts : List Term} (key b sig : List UInt8) (h1 : key.length ≤ 140737488355328) (h2 : sig.length ≤ 140737488355328) (hg : GT 1000000 ts) (s : SS H0 H h m d ts) : ACalls Tryz.prog 131 [.ptr h 0,eu key,eu b,eu sig] H fun v H' => v = .sc (.bool (verT ts key b sig)) ∧ H' = H := by
  obtain ⟨k,g,n1,n2,n3,hs⟩ := s
  exact verify_live H h m k d ts key b sig h1 h2 hg.wf hg.len g
theorem new_ss (H : AH) : ACalls Tryz.prog 71 [] H fun v H' => ∃ h m,v = .ptr h 0 ∧ SS H H' h m 0 [] := (new_live H).mono fun v H' r => SS.of_new r
theorem open_ss {H0 H : AH} {h m d : Nat} {ts : List Term} (key : List UInt8) (n : Nat) (o b : List UInt8) (h32 : key.length = 32) (hn : n < 9223372036854775808) (h1 : b.length ≤ 140737488355328) (hg : GT 1000000 ts) (s : SS H0 H h m d ts) : ACalls Tryz.prog 127 [.ptr h 0,eu key,.sc (.int .i64 n),eu o,eu b] H (OpenR H ts key n o b) := by
  obtain ⟨k,g,n1,n2,n3,hs⟩ := s
  exact open_live H h m k d ts key n o b h32 hn h1 hg.wf hg.len g
theorem open_tell {H0 H : AH} {h m d : Nat} {ts : List Term} (key : List UInt8) (n : Nat) (o b : List UInt8) (h32 : key.length = 32) (hn : n < 9223372036854775808) (h1 : b.length ≤ 140737488355328) (hg : GT 1000000 ts) (s : SS H0 H h m d ts) : ACalls Tryz.prog 127 [.ptr h 0,eu key,.sc (.int .i64 n),eu o,eu b] H fun v H' => v = openV ts key n o b ∧ H' = H :=
  (open_ss key n o b h32 hn h1 hg s).freeze fun v H' r => by
    unfold openV
    rcases r with ⟨a,rfl,rfl⟩ | ⟨a,r,⟨kk,hk0,hk,rfl,rfl⟩,rfl⟩
    · exact ⟨_,_,Abs.Sub.refl _,.same,by rw [a]; rfl,rfl⟩
    · refine ⟨_,H,Abs.Sub.set_new hk,.tup2 (Frz.own set_get hk (by rw [gz]; omega)) .same,?_,rfl⟩
      rw [a,List.take_of_length_le (by rw [gz]; omega)]; rfl
end Go.Proofs.YtjlnpngaiphnmaaGreat
end
section
set_option linter.unusedSimpArgs false
set_option linter.unusedVariables false
set_option maxHeartbeats 2000000
set_option maxRecDepth 20000
namespace Go.Proofs.YtjlnpngaiphnmaaGreat
open Go Go.Abs Go.Proofs

end Go.Proofs.YtjlnpngaiphnmaaGreat
end
section
set_option linter.unusedSimpArgs false
set_option linter.unusedVariables false
set_option maxRecDepth 20000
namespace Go.Proofs.YtjlnpngaiphnmaaGreat
open Go Go.Abs Go.Proofs

theorem nameT_inj {x y : Term} {n m : Nat} (hn : n < 18446744073709551616) (hm : m < 18446744073709551616) (h : fW x n = fW y m) : n = m := by
  rw [← name_num (x := x) hn,h,name_num hm]
end Go.Proofs.YtjlnpngaiphnmaaGreat
end
section
set_option linter.unusedSimpArgs false
set_option linter.unusedVariables false
set_option maxRecDepth 20000
set_option maxHeartbeats 2000000
namespace Go.Proofs.YtjlnpngaiphnmaaGreat
open Go Go.Abs Go.Proofs
def Nm (ts : List Term) (t : Term) (b : List UInt8) : Prop := ∃ i,∃ h : i < ts.length,ts[i] = t ∧ b = fW t (i + 1)
theorem Nm.len {ts : List Term} {t : Term} {b : List UInt8} (n : Nm ts t b) : b.length = iP t := by
  obtain ⟨i,h,rfl,rfl⟩ := n
  exact j4 _ _
theorem Nm.mem {ts : List Term} {t : Term} {b : List UInt8} (n : Nm ts t b) : t ∈ ts := by
  obtain ⟨i,h,rfl,rfl⟩ := n
  exact List.getElem_mem h
theorem Nm.up {ts ts' : List Term} {t : Term} {b : List UInt8} (n : Nm ts t b) (p : ts <+: ts') : Nm ts' t b := by
  obtain ⟨r,rfl⟩ := p
  obtain ⟨i,h,h1,h2⟩ := n
  exact ⟨i,by rw [List.length_append]; omega,by rw [List.getElem_append_left h]; exact h1,h2⟩
theorem Nm.inj {ts : List Term} {t u : Term} {b : List UInt8} (n : Nm ts t b) (m : Nm ts u b) (hl : ts.length ≤ 1000000) : t = u := by
  obtain ⟨i,h,rfl,rfl⟩ := n
  obtain ⟨j,h',rfl,e⟩ := m
  have := nameT_inj (by omega) (by omega) e
  obtain rfl : i = j := by omega
  rfl
theorem Nm.one {ts : List Term} {t : Term} {b c : List UInt8} (n : Nm ts t b) (m : Nm ts t c) (nd : ts.Nodup) : b = c := by
  obtain ⟨i,h,e1,rfl⟩ := n
  obtain ⟨j,h',e2,rfl⟩ := m
  rw [(List.getElem_inj nd).1 (e1.trans e2.symm)]
theorem Nm.find {ts : List Term} {t : Term} {b : List UInt8} (n : Nm ts t b) (hl : ts.length ≤ 1000000) : fN ts b t.kind = (t,true) := by
  obtain ⟨i,h,rfl,rfl⟩ := n
  exact findT_hit h hl rfl rfl
theorem gX (ts : List Term) (t : Term) : Nm (fC ts t).1 t (fW t (fC ts t).2) ∧ ts <+: (fC ts t).1 := by
  unfold fC
  split
  · rename_i h
    exact ⟨⟨ts.idxOf t,List.idxOf_lt_length_of_mem h,List.getElem_idxOf _,rfl⟩,List.prefix_rfl⟩
  · exact ⟨⟨ts.length,by simp,by simp,rfl⟩,List.prefix_append _ _⟩
variable {H0 H : AH} {h m d N : Nat} {ts : List Term}
abbrev fJ (d : Nat) : Term := ⟨115,[fh 8 (d + 1)]⟩
theorem wf1 {k : UInt8} {a : List UInt8} (hk : k ≠ 98 ∧ k ≠ 103) (ha : a.length ≤ 100000000) : wfT ⟨k,[a]⟩ :=
  ⟨⟨fun e => absurd e hk.1,by simp,by simp; omega⟩,fun e => absurd e hk.2,fun _ => by simp,fun _ => by simp⟩
theorem wf2 {k : UInt8} {a b : List UInt8} (hk : k ≠ 98) (ha : a.length ≤ 100000000) (hb : b.length ≤ 100000000) : wfT ⟨k,[a,b]⟩ :=
  ⟨⟨fun e => absurd e hk,by simp,by simp; omega⟩,fun _ => by simp,fun _ => by simp,fun _ => by simp⟩
theorem wf4 {k : UInt8} {a b c e : List UInt8} (ha : a.length ≤ 100000000) (hb : b.length ≤ 100000000) (hc : c.length ≤ 100000000) (he : e.length ≤ 100000000) : wfT ⟨k,[a,b,c,e]⟩ :=
  ⟨⟨fun _ => by simp,by simp,by simp; omega⟩,fun _ => by simp,fun _ => by simp,fun _ => by simp⟩
abbrev il (a : List UInt8) (n : Nat) (o x : List UInt8) : Term := ⟨98,[a,fh 8 n,o,x]⟩
theorem ver_yes {a b c q : List UInt8} (hl : ts.length ≤ 1000000) (k : Nm ts ⟨118,[a]⟩ c) (l : Nm ts ⟨103,[a,b]⟩ q) : verT ts c b q = true := by
  unfold verT
  have h1 := k.find hl
  have h2 := l.find hl
  simp only [] at h1 h2
  rw [h1,h2]
  simp [fv]
theorem cmp_anti : ∀ a b : List UInt8,Lib.compareBytes b a = - Lib.compareBytes a b
  | [],[] => rfl
  | [],_ :: _ => rfl
  | _ :: _,[] => rfl
  | x :: a,y :: b => by
    have ih := cmp_anti a b
    unfold Lib.compareBytes
    by_cases h1 : x < y
    · have h2 : ¬ y < x := fun h => absurd (UInt8.lt_trans h1 h) (UInt8.lt_irrefl x)
      rw [if_neg h2,if_pos h1,if_pos h1]; rfl
    · by_cases h2 : y < x
      · rw [if_pos h2,if_neg h1,if_pos h2]
      · rw [if_neg h2,if_neg h1,if_neg h1,if_neg h2,ih]
theorem cmp_same : ∀ a b : List UInt8,Lib.compareBytes a b = 0 → a = b
  | [],[],_ => rfl
  | [],_ :: _,h => by cases h
  | _ :: _,[],h => by cases h
  | x :: a,y :: b,h => by
    unfold Lib.compareBytes at h
    by_cases h1 : x < y
    · rw [if_pos h1] at h; cases h
    · by_cases h2 : y < x
      · rw [if_neg h1,if_pos h2] at h; cases h
      · rw [if_neg h1,if_neg h2] at h
        have e : x = y := by
          have a1 : ¬ x.toNat < y.toNat := fun h => h1 h
          have a2 : ¬ y.toNat < x.toNat := fun h => h2 h
          exact UInt8.toNat_inj.1 (by omega)
        rw [e,cmp_same a b h]
theorem shT_comm (a b : List UInt8) : shT a b = shT b a := by
  unfold shT
  have h := cmp_anti a b
  by_cases h1 : 0 < Lib.compareBytes a b
  · rw [if_pos h1,if_neg (by omega)]
  · by_cases h2 : 0 < Lib.compareBytes b a
    · rw [if_neg h1,if_pos h2]
    · rw [cmp_same a b (by omega)]
theorem shT_wf {a b : List UInt8} (ha : a.length ≤ 100000000) (hb : b.length ≤ 100000000) : wfT (shT a b) ∧ (shT a b).kind = 100 := by
  unfold shT
  split
  · exact ⟨wf2 (by decide) hb ha,rfl⟩
  · exact ⟨wf2 (by decide) ha hb,rfl⟩
end Go.Proofs.YtjlnpngaiphnmaaGreat
end
