/-
  Several texts in one: each says what it proves.
  Conditions: none. Lemmas only.
-/
import Derived.Test.YtjlnpngaiphnmaaGreatRzG1
import Derived.Test.YtjlnpngaiphnmaaGreatRosG6
import Derived.Test.YtjlnpngaiphnmaaGreatRosG8
import Derived.Test.YtjlnpngaiphnmaaGreatRosG3
set_option linter.all false
section
set_option linter.unusedSimpArgs false
set_option linter.unusedVariables false
set_option maxRecDepth 20000
set_option maxHeartbeats 8000000
namespace Go.Proofs.YtjlnpngaiphnmaaGreat
open Go Go.Abs Go.Proofs
structure Bx (H E : AH) (bs : List (Nat × AObj)) : Prop where
  own : ∀ p ∈ bs,E p.1 = some p.2 ∧ H p.1 = none
  nd : (bs.map Prod.fst).Nodup
  sub : Abs.Sub H E
theorem Bx.nil {H : AH} : Bx H H [] := ⟨(fun p hp => by cases hp),List.nodup_nil,Abs.Sub.refl _⟩
theorem Bx.ne' {H E : AH} {bs : List (Nat × AObj)} (f : Bx H E bs) {x : Nat} (h : E x = none) : ∀ p ∈ bs,¬ p.1 = x := fun p hp e => by
  have := (f.own p hp).1
  rw [e,h] at this
  cases this
theorem Bx.box {H E : AH} {bs : List (Nat × AObj)} (f : Bx H E bs) {x : Nat} (o : AObj) (h : E x = none) : Bx H (E.set x o) (bs ++ [(x,o)]) := by
  have hx := f.sub.free h
  refine ⟨fun p hp => ?_,?_,f.sub.set_free hx⟩
  · rcases List.mem_append.1 hp with hp | hp
    · rw [aP (f.ne' h p hp)]; exact f.own p hp
    · rw [List.mem_singleton.1 hp]; exact ⟨set_get,hx⟩
  · rw [List.map_append,List.nodup_append]
    refine ⟨f.nd,by simp,?_⟩
    intro a ha b hb
    obtain ⟨p,hp,rfl⟩ := List.mem_map.1 ha
    simp at hb
    subst hb
    exact f.ne' h p hp
theorem fst_set' : ∀ (l : List (Nat × AObj)) (i b : Nat) (o o' : AObj),l[i]? = some (b,o) → (l.set i (b,o')).map Prod.fst = l.map Prod.fst
  | [],i,b,o,o',h => by simp at h
  | p :: l,0,b,o,o',h => by simp at h; simp [h]
  | p :: l,i + 1,b,o,o',h => by simp at h; simp [fst_set' l i b o o' h]
theorem nd_inj' {l : List Nat} (h : l.Nodup) {i j : Nat} (hi : i < l.length) (hj : j < l.length) (e : l[i] = l[j]) : i = j := by
  have hp := List.pairwise_iff_getElem.1 h
  rcases Nat.lt_trichotomy i j with hlt | rfl | hlt
  · exact absurd e (hp i j hi hj hlt)
  · rfl
  · exact absurd e.symm (hp j i hj hi hlt)
theorem Bx.ne {H E : AH} {bs : List (Nat × AObj)} (f : Bx H E bs) (i j : Nat) {b b' : Nat} {o o' : AObj} (hi : bs[i]? = some (b,o)) (hj : bs[j]? = some (b',o')) (hij : i ≠ j) : ¬ b = b' := by
  intro e
  obtain ⟨hi1,hi2⟩ := List.getElem?_eq_some_iff.1 hi
  obtain ⟨hj1,hj2⟩ := List.getElem?_eq_some_iff.1 hj
  have h1 : (bs.map Prod.fst)[i]'(by simpa using hi1) = (bs.map Prod.fst)[j]'(by simpa using hj1) := by
    simp [hi2,hj2,e]
  exact hij (nd_inj' f.nd _ _ h1)
theorem Bx.at {H E : AH} {bs : List (Nat × AObj)} (f : Bx H E bs) (i : Nat) {b : Nat} {o : AObj} (hi : bs[i]? = some (b,o)) : E b = some o := (f.own _ (List.mem_of_getElem? hi)).1
theorem Bx.put {H E : AH} {bs : List (Nat × AObj)} (f : Bx H E bs) (i : Nat) {b : Nat} {o : AObj} (o' : AObj) (h : bs[i]? = some (b,o)) : Bx H (E.set b o') (bs.set i (b,o')) := by
  obtain ⟨g1,g3⟩ := f.own (b,o) (List.mem_of_getElem? h)
  refine ⟨fun p hp => ?_,by rw [fst_set' _ _ _ _ _ h]; exact f.nd,f.sub.set_free g3⟩
  obtain ⟨j,hj,e⟩ := List.mem_iff_getElem.1 hp
  by_cases hij : i = j
  · subst hij
    rw [List.getElem_set_self] at e
    subst e
    exact ⟨set_get,g3⟩
  · rw [List.getElem_set_ne hij] at e
    rw [List.length_set] at hj
    subst e
    have hne : ¬ b = (bs[j]).1 := f.ne i j h (by rw [List.getElem?_eq_getElem hj]) hij
    rw [aP (fun e => hne e.symm)]
    exact f.own _ (List.getElem_mem hj)
theorem map_erase : ∀ (l : List (Nat × AObj)) (i : Nat),(l.eraseIdx i).map Prod.fst = (l.map Prod.fst).eraseIdx i
  | [],i => by simp
  | p :: l,0 => by simp
  | p :: l,i + 1 => by simp [map_erase l i]
theorem Bx.forget {H E : AH} {bs : List (Nat × AObj)} (f : Bx H E bs) (i : Nat) : Bx H E (bs.eraseIdx i) :=
  ⟨fun p hp => f.own p (List.mem_of_mem_eraseIdx hp),by rw [map_erase]; exact f.nd.sublist (List.eraseIdx_sublist _ _),f.sub⟩
theorem Bx.kill {H E : AH} {bs : List (Nat × AObj)} (f : Bx H E bs) (i : Nat) {b : Nat} {o : AObj} (h : bs[i]? = some (b,o)) : Bx H (E.kill b) (bs.eraseIdx i) := by
  have g := f.forget i
  obtain ⟨g1,g3⟩ := f.own (b,o) (List.mem_of_getElem? h)
  refine ⟨fun p hp => ?_,g.nd,f.sub.kill_free g3⟩
  have hne : ¬ p.1 = b := fun e => by
    obtain ⟨j,hj,e2⟩ := List.mem_iff_getElem.1 hp
    have hk : ∃ k,k ≠ i ∧ bs[k]? = some p := by
      rw [List.length_eraseIdx] at hj
      rw [List.getElem_eraseIdx] at e2
      split at e2
      · exact ⟨j,by omega,by rw [← e2]; exact List.getElem?_eq_getElem _⟩
      · exact ⟨j + 1,by omega,by rw [← e2]; exact List.getElem?_eq_getElem _⟩
    obtain ⟨k,hki,hk⟩ := hk
    exact f.ne k i (b := p.1) (o := p.2) hk h hki e
  rw [bZ hne]
  exact g.own p hp
abbrev rsO (s : RS) : AObj := .cells [.imm 0 (bw s.1) s.1.length,.sc (.int .i64 s.2)] 36 2
abbrev rsZ : AObj := .cells [.sc (.slice none 0 0),.sc (.int .i64 0)] 36 2
abbrev enO (l : List AV) : AObj := .cells l 27 7
abbrev nlS : AV := .sc (.slice none 0 0)
abbrev inA (n : Int) : AV := .sc (.int .i64 n)
end Go.Proofs.YtjlnpngaiphnmaaGreat
end
section
set_option linter.unusedSimpArgs false
set_option linter.unusedVariables false
set_option maxRecDepth 20000
set_option maxHeartbeats 4000000
namespace Go.Proofs.YtjlnpngaiphnmaaGreat
open Go Go.Abs Go.Proofs
theorem rdMem_of {m : Mem} (h : 0 ≤ m.id ∧ m.id ≤ 4) (h1 : m.pub.length = 32) (h2 : m.sgn.length = 32) (r : List UInt8) : gY (j7 m ++ r,0) = ((r,0),m) := by
  have e : j7 m ++ r = fI m.id ++ (fj m.pub ++ (fj m.sgn ++ r)) := by unfold j7; simp only [List.append_assoc]
  have r1 := kF (z := m.id) (lo := 0) (hi := 4) h (by omega)
  have r2 := rdTx_of (b := m.pub) (most := 64) (by omega) (by omega)
  have r3 := rdTx_of (b := m.sgn) (most := 64) (by omega) (by omega)
  unfold gY
  rw [e]
  simp only [r1,r2,r3]
theorem rdNd_of {x : Nd} (h : 0 ≤ x.author ∧ x.author ≤ 4) (h1 : 0 ≤ x.seq ∧ x.seq ≤ 1048576) (r : List UInt8) : iR (ndL x ++ r,0) = ((r,0),x) := by
  have e : ndL x ++ r = fI x.author ++ (fI x.seq ++ r) := by unfold ndL; simp only [List.append_assoc]
  have r1 := kF (z := x.author) (lo := 0) (hi := 4) h (by omega)
  have r2 := kF (z := x.seq) (lo := 0) (hi := 1048576) h1 (by omega)
  unfold iR
  rw [e]
  simp only [r1,r2]
theorem rdBx_of {b : List UInt8} (h : b.length = 48) (r : List UInt8) : io (fj b ++ r,0) = ((r,0),b) := rdTx_of (by omega) (by omega) r
theorem rdRep_at {α : Type} {one : RS → RS × α} {put : α → List UInt8} (l : List α) (h : ∀ x ∈ l,∀ r,one (put x ++ r,0) = ((r,0),x)) (r : List UInt8) : ∀ i,i ≤ l.length → ig one i (l.flatMap put ++ r,0) = (((l.drop i).flatMap put ++ r,0),l.take i)
  | 0,_ => by simp [ig]
  | i + 1,hi => by
    have ih := rdRep_at l h r i (by omega)
    have hd : l.drop i = l[i] :: l.drop (i + 1) := List.drop_eq_getElem_cons (by omega)
    unfold ig
    rw [ih]
    simp only []
    rw [hd,List.flatMap_cons,List.append_assoc,h _ (List.getElem_mem (by omega)),take_snoc (by omega)]
theorem rdRep_of {α : Type} {one : RS → RS × α} {put : α → List UInt8} (l : List α) (h : ∀ x ∈ l,∀ r,one (put x ++ r,0) = ((r,0),x)) (r : List UInt8) : ig one l.length (l.flatMap put ++ r,0) = ((r,0),l) := by
  have := rdRep_at l h r l.length (Nat.le_refl _)
  simpa using this
theorem rdList_of {α : Type} {one : RS → RS × α} {put : α → List UInt8} (l : List α) (hl : l.length ≤ 5) (h : ∀ x ∈ l,∀ r,one (put x ++ r,0) = ((r,0),x)) (r : List UInt8) : fR one (fI l.length ++ (l.flatMap put ++ r),0) = ((r,0),l) := by
  have r1 := kF (z := (l.length : Int)) (lo := 0) (hi := 5) ⟨by omega,by omega⟩ (by omega) (l.flatMap put ++ r)
  unfold fR
  rw [r1]
  simp only [Int.toNat_natCast]
  exact rdRep_of l h r
theorem rise_bnd : ∀ {l : List Int} {last : Int},gC last l = true → (∀ x ∈ l,last < x ∧ x < 5) ∧ True
  | l,last,h => ⟨jp h,trivial⟩
theorem rdEnt_of {e : Ent} (h : gK e = true) (r : List UInt8) : jq (jy e ++ r,0) = ((r,0),e) := by
  obtain ⟨h1,h2,h3,h4,h5,h6,h7,h8⟩ := fy h
  obtain ⟨p1,p2,p3,p4,p5,p6⟩ := gH h4
  have hp := prev_le h3
  obtain ⟨q1,q2⟩ := rise_bnd p3
  obtain ⟨q3,q4⟩ := rise_bnd p4
  have e0 : jy e ++ r = fI 1 ++ (fI e.n ++ (fj e.prev ++ (fI e.members.length ++ (e.members.flatMap j7 ++ (fI e.ends.length ++ (e.ends.flatMap ndL ++ (fj e.once ++ (fI e.boxes.length ++ (e.boxes.flatMap fj ++ (fj e.sig ++ r)))))))))) := by
    unfold jy fV gE
    simp only [List.append_assoc]
  have r1 := kF (z := 1) (lo := 1) (hi := 1) ⟨by omega,by omega⟩ (by omega)
  have r2 := kF (z := e.n) (lo := 1) (hi := 65536) ⟨by omega,by omega⟩ (by omega)
  have r3 := rdTx_of (b := e.prev) (most := 64) (by omega) (by omega)
  have r4 := rdList_of (one := gY) (put := j7) e.members p1 fun m hm r => by
    have := p5 m hm
    have hb := q1 m.id (List.mem_map.2 ⟨m,hm,rfl⟩)
    exact rdMem_of ⟨by omega,by omega⟩ this.1 this.2 r
  have r5 := rdList_of (one := iR) (put := ndL) e.ends p2 fun x hx r => by
    have := p6 x hx
    have hb := q3 x.author (List.mem_map.2 ⟨x,hx,rfl⟩)
    exact rdNd_of ⟨by omega,by omega⟩ this r
  have r6 := rdTx_of (b := e.once) (most := 64) (by omega) (by omega)
  have r7 := rdList_of (one := io) (put := fj) e.boxes (by omega) fun b hb r => rdBx_of (h5 b hb) r
  have r8 := rdTx_of (b := e.sig) (most := 64) (by omega) (by omega)
  unfold jq
  rw [e0]
  simp only [r1,r2,r3,r4,r5,r6,r7,r8]
  have he : (⟨e.n,e.prev,e.members,e.ends,e.once,e.boxes,e.sig⟩ : Ent) = e := rfl
  rw [he]
  unfold fixE failS
  simp only [h,if_true]
end Go.Proofs.YtjlnpngaiphnmaaGreat
end
