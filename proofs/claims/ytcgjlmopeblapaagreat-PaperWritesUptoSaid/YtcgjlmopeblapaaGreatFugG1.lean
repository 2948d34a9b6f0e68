/-
  Several texts in one: each says what it proves.
  Conditions: none. Lemmas only.
-/
import Derived.Test.YtcgjlmopeblapaaGreatAbsG5
import Derived.Test.YtcgjlmopeblapaaGreatFugFacts
import Derived.Test.YtcgjlmopeblapaaGreatAbsG6
set_option linter.all false
section
namespace Go.Fug

theorem eY {α : Type} {P : List α → Prop} (nil : P []) (snoc : ∀ l a,P l → P (l ++ [a])) : ∀ l,P l := fun l => by
  rw [← List.reverse_reverse l]
  generalize l.reverse = r
  induction r with
  | nil => exact nil
  | cons a r ih => rw [List.reverse_cons]; exact snoc _ a ih
abbrev EId := Int × Int
structure Ins where
  id : EId
  par : EId
  right : Bool
  rune : Int
deriving DecidableEq
structure Nd where
  id : EId
  rune : Int
  gone : Bool
deriving DecidableEq

def less (x y : EId) : Bool := decide (x.1 < y.1) || (decide (x.1 = y.1) && decide (x.2 < y.2))
theorem less_irr (x : EId) : less x x = false := by simp [less]
theorem less_trans {x y z : EId} (h : less x y = true) (g : less y z = true) : less x z = true := by
  simp only [less,Bool.or_eq_true,decide_eq_true_eq,Bool.and_eq_true] at *
  omega
theorem less_tot {x y : EId} (h : less x y = false) (hne : x ≠ y) : less y x = true := by
  obtain ⟨a,b⟩ := x
  obtain ⟨c,d⟩ := y
  simp only [less,Bool.or_eq_false_iff,Bool.and_eq_false_iff,decide_eq_false_iff_not,Bool.or_eq_true,decide_eq_true_eq,Bool.and_eq_true,ne_eq,Prod.mk.injEq] at *
  omega
theorem less_asym {x y : EId} (h : less x y = true) : less y x = false := by
  cases e : less y x with
  | false => rfl
  | true => have := less_trans h e; rw [less_irr] at this; cases this

def dq : List EId → EId → List EId
  | [],x => [x]
  | y :: l,x => if less y x then y :: dq l x else x :: y :: l
def cR : List EId → EId → Nat
  | [],_ => 0
  | y :: l,x => if less y x then cR l x + 1 else 0
theorem placeL_le (l : List EId) (x : EId) : cR l x ≤ l.length := by
  induction l with
  | nil => simp [cR]
  | cons y l ih => simp only [cR]; split <;> simp <;> omega
theorem placeL_lt {l : List EId} {x : EId} {i : Nat} (h : i < cR l x) : ∃ y,l[i]? = some y ∧ less y x = true := by
  induction l generalizing i with
  | nil => simp [cR] at h
  | cons y l ih =>
    simp only [cR] at h
    split at h
    · rename_i hy
      cases i with
      | zero => exact ⟨y,rfl,hy⟩
      | succ i => simpa using ih (by omega)
    · omega
theorem placeL_at {l : List EId} {x y : EId} (h : l[cR l x]? = some y) : less y x = false := by
  induction l with
  | nil => simp at h
  | cons z l ih =>
    simp only [cR] at h
    split at h
    · exact ih (by simpa using h)
    · rename_i hz
      simp at h
      subst h
      simpa using hz
theorem putL_eq (l : List EId) (x : EId) : dq l x = l.take (cR l x) ++ [x] ++ l.drop (cR l x) := by
  induction l with
  | nil => rfl
  | cons y l ih =>
    simp only [dq,cR]
    split
    · simp [ih]
    · simp
theorem putL_length (l : List EId) (x : EId) : (dq l x).length = l.length + 1 := by
  induction l with
  | nil => rfl
  | cons y l ih => simp only [dq]; split <;> simp [ih]
theorem mem_putL {l : List EId} {x y : EId} : y ∈ dq l x ↔ y = x ∨ y ∈ l := by
  induction l with
  | nil => simp [dq]
  | cons z l ih =>
    simp only [dq]
    split
    · simp only [List.mem_cons,ih]
      constructor
      · rintro (h | h | h)
        · exact .inr (.inl h)
        · exact .inl h
        · exact .inr (.inr h)
      · rintro (h | h | h)
        · exact .inr (.inl h)
        · exact .inl h
        · exact .inr (.inr h)
    · simp

def kids (L : List Ins) (p : EId) (r : Bool) : List EId := L.foldl (fun acc i => if i.par = p ∧ i.right = r then dq acc i.id else acc) []
theorem kids_nil (p : EId) (r : Bool) : kids [] p r = [] := rfl
theorem cP (L : List Ins) (i : Ins) (p : EId) (r : Bool) : kids (L ++ [i]) p r = if i.par = p ∧ i.right = r then dq (kids L p r) i.id else kids L p r := by simp [kids,List.foldl_append]
theorem mem_kids {L : List Ins} {p x : EId} {r : Bool} : x ∈ kids L p r ↔ ∃ i ∈ L,i.id = x ∧ i.par = p ∧ i.right = r := by
  induction L using eY with
  | nil => simp [kids_nil]
  | snoc L i ih =>
    rw [cP]
    split
    · rename_i h
      rw [mem_putL,ih]
      constructor
      · rintro (h1 | ⟨j,h1,h2⟩)
        · exact ⟨i,by simp,h1.symm,h⟩
        · exact ⟨j,by simp [h1],h2⟩
      · rintro ⟨j,h1,h2,h3⟩
        rcases List.mem_append.1 h1 with h4 | h4
        · exact .inr ⟨j,h4,h2,h3⟩
        · rw [List.mem_singleton.1 h4] at h2
          exact .inl h2.symm
    · rename_i h
      rw [ih]
      constructor
      · rintro ⟨j,h1,h2⟩; exact ⟨j,by simp [h1],h2⟩
      · rintro ⟨j,h1,h2,h3⟩
        rcases List.mem_append.1 h1 with h4 | h4
        · exact ⟨j,h4,h2,h3⟩
        · rw [List.mem_singleton.1 h4] at h3
          exact absurd h3 h
theorem cr (L : List Ins) (p : EId) (r : Bool) : (kids L p r).length ≤ L.length := by
  induction L using eY with
  | nil => simp [kids_nil]
  | snoc L i ih =>
    rw [cP]
    split
    · rw [putL_length]; simp; exact ih
    · simp; omega

abbrev bL : EId := (0,0)
def okI (i : Ins) : Bool := decide (0 ≤ i.id.1) && decide (i.id.1 < 5) && decide (1 ≤ i.id.2) && decide (i.id.2 ≤ 1099511627776) && decide (0 ≤ i.rune) && decide (i.rune ≤ 1114111) && (decide (i.rune < 55296) || decide (57343 < i.rune)) && (i.right || decide (i.par ≠ bL))

structure Good (L : List Ins) : Prop where
  ok : ∀ i ∈ L,okI i = true
  nd : (L.map (·.id)).Nodup
  up : ∀ j (h : j < L.length),L[j].par = bL ∨ ∃ k,∃ (hk : k < j),(L[k]'(by omega)).id = L[j].par

theorem okI_ne {i : Ins} (h : okI i = true) : i.id ≠ bL := by
  simp only [okI,Bool.and_eq_true,decide_eq_true_eq] at h
  intro e
  have : i.id.2 = 0 := by rw [e]
  omega

theorem Good.nil : Good [] := ⟨by simp,by simp,by simp⟩
theorem Good.snoc {L : List Ins} {i : Ins} (g : Good L) (h : okI i = true) (hn : i.id ∉ L.map (·.id)) (hp : i.par = bL ∨ i.par ∈ L.map (·.id)) : Good (L ++ [i]) := by
  refine ⟨?_,?_,?_⟩
  · intro j hj
    rcases List.mem_append.1 hj with h1 | h1
    · exact g.ok j h1
    · rw [List.mem_singleton.1 h1]; exact h
  · rw [List.map_append,List.nodup_append]
    refine ⟨g.nd,by simp,?_⟩
    intro a ha b hb
    simp at hb
    subst hb
    rintro rfl
    exact hn ha
  · intro j hj
    by_cases h1 : j < L.length
    · rw [List.getElem_append_left h1]
      rcases g.up j h1 with h2 | ⟨k,hk,h2⟩
      · exact .inl h2
      · exact .inr ⟨k,hk,by rw [List.getElem_append_left (by omega)]; exact h2⟩
    · have hj' : j = L.length := by simp at hj; omega
      subst hj'
      rw [List.getElem_append_right (by omega)]
      simp only [Nat.sub_self,List.getElem_cons_zero]
      rcases hp with h2 | h2
      · exact .inl h2
      · obtain ⟨x,hx,hxe⟩ := List.mem_map.1 h2
        obtain ⟨k,hk,rfl⟩ := List.mem_iff_getElem.1 hx
        exact .inr ⟨k,hk,by rw [List.getElem_append_left hk]; exact hxe⟩

inductive Deep (L : List Ins) : Nat → EId → Prop where
  | mk (n : Nat) (x : EId) (h : ∀ i ∈ L,i.par = x → 0 < n) (g : ∀ i ∈ L,i.par = x → Deep L (n - 1) i.id) : Deep L n x
theorem Deep.kid {L : List Ins} {n : Nat} {x y : EId} {r : Bool} (d : Deep L n x) (h : y ∈ kids L x r) : ∃ m,n = m + 1 ∧ Deep L m y := by
  obtain ⟨i,h1,rfl,h3,-⟩ := mem_kids.1 h
  cases d with
  | mk _ _ h g => exact ⟨n - 1,by have := h i h1 h3; omega,g i h1 h3⟩
theorem Good.deep_at {L : List Ins} (g : Good L) : ∀ (n j : Nat) (h : j < L.length),L.length ≤ n + j + 1 → Deep L n L[j].id := by
  have below : ∀ j (h : j < L.length) i,i ∈ L → i.par = L[j].id → ∃ k,∃ (hk : k < L.length),j < k ∧ L[k] = i := by
    intro j h i hi hp
    obtain ⟨k,hk,rfl⟩ := List.mem_iff_getElem.1 hi
    refine ⟨k,hk,?_,rfl⟩
    rcases g.up k hk with h1 | ⟨q,hq,h1⟩
    · rw [hp] at h1
      exact absurd h1 (okI_ne (g.ok _ (List.getElem_mem h)))
    · have hqj : q = j := by
        have e : (L.map (·.id))[q]'(by simp; omega) = (L.map (·.id))[j]'(by simpa using h) := by simp [h1,hp]
        exact (List.getElem_inj g.nd).1 e
      omega
  intro n
  induction n with
  | zero =>
    intro j h hn
    refine .mk _ _ (fun i hi hp => ?_) fun i hi hp => ?_
    all_goals
      obtain ⟨k,hk,h1,h2⟩ := below j h i hi hp
      omega
  | succ n ih =>
    intro j h hn
    refine .mk _ _ (fun i hi hp => by omega) fun i hi hp => ?_
    obtain ⟨k,hk,h1,rfl⟩ := below j h i hi hp
    exact ih k hk (by omega)
theorem Good.deep {L : List Ins} (g : Good L) (x : EId) : Deep L (L.length + 1) x := by
  refine .mk _ _ (fun i hi hp => by omega) fun i hi hp => ?_
  obtain ⟨k,hk,rfl⟩ := List.mem_iff_getElem.1 hi
  exact g.deep_at _ k hk (by omega)

def bl (L : List Ins) (G : List EId) (x : EId) : Nd := ⟨x,((L.find? fun i => decide (i.id = x)).map (·.rune)).getD 0,decide (x ∈ G)⟩
def below (L : List Ins) (G : List EId) : Nat → EId → Bool → List Nd
  | 0,_,_ => []
  | n + 1,x,r => (kids L x r).flatMap fun y => below L G n y false ++ [bl L G y] ++ below L G n y true
theorem below_deep {L : List Ins} {G : List EId} : ∀ {n m : Nat} {x : EId} {r : Bool},Deep L n x → n ≤ m → below L G m x r = below L G n x r := by
  intro n
  induction n with
  | zero =>
    intro m x r d h
    have : kids L x r = [] := by
      cases e : kids L x r with
      | nil => rfl
      | cons y l => obtain ⟨m,h1,-⟩ := d.kid (y := y) (r := r) (by rw [e]; simp); omega
    cases m with
    | zero => rfl
    | succ m => simp [below,this]
  | succ n ih =>
    intro m x r d h
    obtain ⟨m,rfl⟩ : ∃ k,m = k + 1 := ⟨m - 1,by omega⟩
    simp only [below]
    have : ∀ y ∈ kids L x r,∀ b,below L G m y b = below L G n y b := fun y hy b => by
      obtain ⟨k,h1,h2⟩ := d.kid hy
      obtain rfl : k = n := by omega
      exact ih h2 (by omega)
    have hg : ∀ (l : List EId),(∀ y ∈ l,∀ b,below L G m y b = below L G n y b) → (l.flatMap fun y => below L G m y false ++ [bl L G y] ++ below L G m y true) = l.flatMap fun y => below L G n y false ++ [bl L G y] ++ below L G n y true := by
      intro l hl
      induction l with
      | nil => rfl
      | cons y l ihl =>
        simp only [List.flatMap_cons]
        rw [ihl fun z hz => hl z (by simp [hz]),hl y (by simp),hl y (by simp)]
    exact hg _ this
def bF (L : List Ins) (G : List EId) : List Nd := below L G (L.length + 1) bL true
def all (L : List Ins) (G : List EId) (x : EId) (r : Bool) : List Nd := below L G (L.length + 1) x r
theorem Good.all_eq {L : List Ins} {G : List EId} (g : Good L) (x : EId) (r : Bool) : all L G x r = (kids L x r).flatMap fun y => all L G y false ++ [bl L G y] ++ all L G y true := by
  show below L G (L.length + 1) x r = _
  rw [← below_deep (m := L.length + 1 + 1) (g.deep x) (by omega)]
  rfl

def insI (l : List Ins) (i : Ins) : List Ins := l.filter (fun y => less y.id i.id) ++ [i] ++ l.filter (fun y => !less y.id i.id)
def cG (L : List Ins) (p : EId) (r : Bool) : List Ins := L.foldl (fun acc i => if i.par = p ∧ i.right = r then insI acc i else acc) []
theorem eg (L : List Ins) (i : Ins) (p : EId) (r : Bool) : cG (L ++ [i]) p r = if i.par = p ∧ i.right = r then insI (cG L p r) i else cG L p r := by simp [cG,List.foldl_append]
theorem mem_insI {l : List Ins} {i y : Ins} : y ∈ insI l i ↔ y = i ∨ y ∈ l := by
  simp only [insI,List.mem_append,List.mem_filter,List.mem_singleton,Bool.not_eq_true']
  cases less y.id i.id <;> simp [or_comm]
theorem insI_length (l : List Ins) (i : Ins) : (insI l i).length = l.length + 1 := by
  have : ∀ l : List Ins,(l.filter (fun y => less y.id i.id)).length + (l.filter (fun y => !less y.id i.id)).length = l.length := by
    intro l
    induction l with
    | nil => rfl
    | cons y l ih =>
      simp only [List.filter_cons]
      cases less y.id i.id <;> simp <;> omega
  have := this l
  simp only [insI,List.length_append,List.length_singleton]
  omega
theorem mem_kidsI {L : List Ins} {p : EId} {r : Bool} {i : Ins} (h : i ∈ cG L p r) : i ∈ L ∧ i.par = p ∧ i.right = r := by
  induction L using eY with
  | nil => simp [cG] at h
  | snoc L j ih =>
    rw [eg] at h
    split at h
    · rename_i hj
      rcases mem_insI.1 h with e | e
      · subst e; exact ⟨by simp,hj⟩
      · obtain ⟨a,b⟩ := ih e; exact ⟨by simp [a],b⟩
    · obtain ⟨a,b⟩ := ih h; exact ⟨by simp [a],b⟩
theorem kidsI_length (L : List Ins) (p : EId) (r : Bool) : (cG L p r).length ≤ L.length := by
  induction L using eY with
  | nil => simp [cG]
  | snoc L i ih =>
    rw [eg]
    split
    · rw [insI_length]; simp; exact ih
    · simp; omega
def Sorted (l : List EId) : Prop := l.Pairwise fun a b => less a b = true
theorem Sorted.low {l : List EId} (s : Sorted l) (x : EId) : l.filter (fun y => less y x) = l.take (cR l x) ∧ l.filter (fun y => !less y x) = l.drop (cR l x) := by
  induction l with
  | nil => exact ⟨rfl,rfl⟩
  | cons y l ih =>
    obtain ⟨h1,h2⟩ := List.pairwise_cons.1 s
    obtain ⟨i1,i2⟩ := ih h2
    cases e : less y x with
    | true => simp [cR,e,i1,i2]
    | false =>
      have : ∀ z ∈ l,less z x = false := fun z hz => by
        cases e' : less z x with
        | false => rfl
        | true => have := less_trans (h1 z hz) e'; rw [e] at this; cases this
      refine ⟨?_,?_⟩
      · simp only [cR,e,Bool.false_eq_true,if_false,List.take_zero,List.filter_cons]
        exact List.filter_eq_nil_iff.2 fun z hz => by simp [this z hz]
      · simp only [cR,e,Bool.false_eq_true,if_false,List.drop_zero,List.filter_cons,Bool.not_false,if_true]
        congr 1
        exact List.filter_eq_self.2 fun z hz => by simp [this z hz]
theorem Sorted.put {l : List EId} (s : Sorted l) {x : EId} (h : x ∉ l) : Sorted (dq l x) := by
  induction l with
  | nil => simp [dq,Sorted]
  | cons y l ih =>
    obtain ⟨h1,h2⟩ := List.pairwise_cons.1 s
    simp only [dq]
    split
    · rename_i hy
      refine List.pairwise_cons.2 ⟨fun z hz => ?_,ih h2 (fun h' => h (by simp [h']))⟩
      rcases mem_putL.1 hz with e | e
      · rw [e]; exact hy
      · exact h1 z e
    · rename_i hy
      have hxy : less x y = true := less_tot (by simpa using hy) (fun e => h (by simp [e]))
      refine List.pairwise_cons.2 ⟨fun z hz => ?_,s⟩
      rcases List.mem_cons.1 hz with e | e
      · rw [e]; exact hxy
      · exact less_trans hxy (h1 z e)
theorem insI_map {l : List Ins} (i : Ins) (s : Sorted (l.map (·.id))) : (insI l i).map (·.id) = dq (l.map (·.id)) i.id := by
  obtain ⟨h1,h2⟩ := s.low i.id
  rw [putL_eq,← h1,← h2]
  simp only [insI,List.map_append,List.map_cons,List.map_nil,List.filter_map]
  rfl
theorem kids_sorted {L : List Ins} (h : (L.map (·.id)).Nodup) (p : EId) (r : Bool) : Sorted (kids L p r) := by
  induction L using eY with
  | nil => simp [kids_nil,Sorted]
  | snoc L i ih =>
    rw [List.map_append,List.nodup_append] at h
    have := ih h.1
    rw [cP]
    split
    · refine this.put fun hm => ?_
      obtain ⟨j,h1,h2,-⟩ := mem_kids.1 hm
      exact h.2.2 j.id (List.mem_map.2 ⟨j,h1,rfl⟩) i.id (by simp) h2
    · exact this
theorem kidsI_map {L : List Ins} (h : (L.map (·.id)).Nodup) (p : EId) (r : Bool) : (cG L p r).map (·.id) = kids L p r := by
  induction L using eY with
  | nil => rfl
  | snoc L i ih =>
    rw [List.map_append,List.nodup_append] at h
    have := ih h.1
    rw [eg,cP]
    split
    · rw [insI_map _ (by rw [this]; exact kids_sorted h.1 p r),this]
    · exact this
theorem find_id {L : List Ins} (h : (L.map (·.id)).Nodup) {i : Ins} (hi : i ∈ L) : L.find? (fun j => decide (j.id = i.id)) = some i := by
  induction L with
  | nil => cases hi
  | cons j L ih =>
    rw [List.map_cons] at h
    obtain ⟨h1,h2⟩ := List.nodup_cons.1 h
    rw [List.find?_cons]
    rcases List.mem_cons.1 hi with e | e
    · subst e; simp
    · have : ¬ j.id = i.id := fun e' => h1 (by rw [e']; exact List.mem_map.2 ⟨i,e,rfl⟩)
      simp only [this,decide_false]
      exact ih h2 e
theorem ndOf_mem {L : List Ins} (h : (L.map (·.id)).Nodup) (G : List EId) {i : Ins} (hi : i ∈ L) : bl L G i.id = ⟨i.id,i.rune,decide (i.id ∈ G)⟩ := by
  unfold bl
  rw [find_id h hi]; rfl
def belowI (L : List Ins) (G : List EId) : Nat → EId → Bool → List Nd
  | 0,_,_ => []
  | n + 1,x,r => (cG L x r).flatMap fun i => belowI L G n i.id false ++ [⟨i.id,i.rune,decide (i.id ∈ G)⟩] ++ belowI L G n i.id true
theorem belowI_eq {L : List Ins} (h : (L.map (·.id)).Nodup) (G : List EId) : ∀ (n : Nat) (x : EId) (r : Bool),belowI L G n x r = below L G n x r
  | 0,_,_ => rfl
  | n + 1,x,r => by
    simp only [belowI,below]
    rw [← kidsI_map h,List.flatMap_map]
    have : ∀ (l : List Ins),(∀ i ∈ l,i ∈ L) → (l.flatMap fun i => belowI L G n i.id false ++ [⟨i.id,i.rune,decide (i.id ∈ G)⟩] ++ belowI L G n i.id true) = l.flatMap fun i => below L G n i.id false ++ [bl L G i.id] ++ below L G n i.id true := by
      intro l hl
      induction l with
      | nil => rfl
      | cons i l ih =>
        simp only [List.flatMap_cons]
        rw [ih fun j hj => hl j (by simp [hj]),belowI_eq h,belowI_eq h,ndOf_mem h G (hl i (by simp))]
    exact this _ fun i hi => (mem_kidsI hi).1
end Go.Fug
end
section
set_option linter.unusedSimpArgs false
set_option linter.unusedVariables false
set_option maxRecDepth 8000
set_option maxHeartbeats 4000000
namespace Go.Proofs.YtcgjlmopeblapaaGreat
open Go Go.Abs Go.Proofs Go.Fug

def idC (x : EId) : List AV := [.sc (.int .i64 x.1),.sc (.int .i64 x.2)]
abbrev idV (x : EId) : AV := .agg [.sc (.int .i64 x.1),.sc (.int .i64 x.2)]
def cB (l : List EId) : List AV := l.flatMap idC
abbrev idsV (l : List EId) : AV := .imm 0 (cB l) l.length
theorem bU (l : List EId) : (cB l).length = l.length * 2 := by
  induction l with
  | nil => rfl
  | cons t r ih => simp only [cB,List.flatMap_cons,List.length_append,List.length_cons] at *; rw [ih]; simp [idC]; omega
theorem idsC_drop {l : List EId} {i : Nat} (h : i < l.length) : (cB l).drop (i * 2) = idC l[i] ++ cB (l.drop (i + 1)) := by
  induction l generalizing i with
  | nil => simp at h
  | cons t r ih =>
    cases i with
    | zero => simp [cB]
    | succ i =>
      have e : (i + 1) * 2 = (i * 2) + 1 + 1 := by omega
      have e1 : cB (t :: r) = .sc (.int .i64 t.1) :: .sc (.int .i64 t.2) :: cB r := rfl
      rw [e,e1,List.drop_succ_cons,List.drop_succ_cons,ih (by simpa using h)]
      rfl
theorem eR {l : List EId} {i : Nat} (h : i < l.length) : ((cB l).drop (i * 2)).take 2 = [.sc (.int .i64 l[i].1),.sc (.int .i64 l[i].2)] := by
  rw [idsC_drop h]; rfl
theorem idsC_append (l r : List EId) : cB l ++ cB r = cB (l ++ r) := by simp [cB]
theorem idsC_snoc (l : List EId) (x : EId) : cB l ++ [.sc (.int .i64 x.1),.sc (.int .i64 x.2)] = cB (l ++ [x]) := by simp [cB,idC]
theorem idsC_take (l : List EId) (i : Nat) : (cB l).take (i * 2) = cB (l.take i) := by
  induction l generalizing i with
  | nil => simp [cB]
  | cons t r ih =>
    cases i with
    | zero => simp [cB]
    | succ i =>
      have e : (i + 1) * 2 = (i * 2) + 1 + 1 := by omega
      have e1 : cB (t :: r) = .sc (.int .i64 t.1) :: .sc (.int .i64 t.2) :: cB r := rfl
      rw [e,e1,List.take_succ_cons,List.take_succ_cons,ih,List.take_succ_cons]
      rfl
theorem idsC_dropN (l : List EId) (i : Nat) : (cB l).drop (i * 2) = cB (l.drop i) := by
  induction l generalizing i with
  | nil => simp [cB]
  | cons t r ih =>
    cases i with
    | zero => simp [cB]
    | succ i =>
      have e : (i + 1) * 2 = (i * 2) + 1 + 1 := by omega
      have e1 : cB (t :: r) = .sc (.int .i64 t.1) :: .sc (.int .i64 t.2) :: cB r := rfl
      rw [e,e1,List.drop_succ_cons,List.drop_succ_cons,ih,List.drop_succ_cons]

def cA (i : Ins) : List AV := [.sc (.int .i64 i.id.1),.sc (.int .i64 i.id.2),.sc (.int .i64 i.par.1),.sc (.int .i64 i.par.2),.sc (.bool i.right),.sc (.int .i32 i.rune)]

theorem less_pure (x y : EId) : APure Tryz.prog 114 [idV x,idV y] (.sc (.bool (less x y))) := by
  obtain ⟨a,b⟩ := x
  obtain ⟨c,e⟩ := y
  have hB : less (a,b) (c,e) = (decide (a < c) || (decide (a = c) && decide (b < e))) := rfl
  generalize less (a,b) (c,e) = B at *
  refine az (c := ⟨Tryz.prog,24,[(1000000,[3,2])],[],[]⟩) (rs := [ResultVar.tmp 4]) Tryz.mixed Tryz.func114 rfl rfl rfl (Nat.le_of_ble_eq_true rfl) (by kernel_rfl) fun H => ?_
  simp (disch := omega) only [↓aI,↓zP,aD,zD,aS,simprocAttr,Tryz.facts]
  intro k0 hk00 hk0 k1 hk10 hk1
  try simp (disch := omega) only [↓aI,↓zP,aD,zD,aS,simprocAttr,Tryz.facts,aj hk1,aj hk0]
  by_cases h0 : a < c
  · have e0_0 : decide (a < c) = true := by simp; omega
    simp (disch := omega) only [↓aI,↓zP,aD,zD,aS,simprocAttr,Tryz.facts,aj hk1,aj hk0,e0_0]
    refine ⟨?_,Abs.Sub.refl _⟩
    rw [hB]
    first | (simp; done) | (simp; omega)
  · have e0_0 : decide (a < c) = false := by simp; omega
    by_cases h1 : a = c
    · have e1_0 : (a == c) = true := by simp; omega
      by_cases h2 : b < e
      · have e2_0 : decide (b < e) = true := by simp; omega
        simp (disch := omega) only [↓aI,↓zP,aD,zD,aS,simprocAttr,Tryz.facts,aj hk1,aj hk0,e0_0,e1_0,e2_0]
        refine ⟨?_,Abs.Sub.refl _⟩
        rw [hB]
        first | (simp; done) | (simp; omega)
      · have e2_0 : decide (b < e) = false := by simp; omega
        simp (disch := omega) only [↓aI,↓zP,aD,zD,aS,simprocAttr,Tryz.facts,aj hk1,aj hk0,e0_0,e1_0,e2_0]
        refine ⟨?_,Abs.Sub.refl _⟩
        rw [hB]
        first | (simp; done) | (simp; omega)
    · have e1_0 : (a == c) = false := by simp; omega
      simp (disch := omega) only [↓aI,↓zP,aD,zD,aS,simprocAttr,Tryz.facts,aj hk1,aj hk0,e0_0,e1_0]
      refine ⟨?_,Abs.Sub.refl _⟩
      rw [hB]
      first | (simp; done) | (simp; omega)

theorem rless_pure (x y : EId) : APure Tryz.prog 70 [idV x,idV y] (.sc (.bool (less x y))) := by
  obtain ⟨a,b⟩ := x
  obtain ⟨c,e⟩ := y
  have hB : less (a,b) (c,e) = (decide (a < c) || (decide (a = c) && decide (b < e))) := rfl
  generalize less (a,b) (c,e) = B at *
  refine az (c := ⟨Tryz.prog,20,[(1000000,[3,2])],[],[]⟩) (rs := [ResultVar.tmp 4]) Tryz.mixed Tryz.func70 rfl rfl rfl (Nat.le_of_ble_eq_true rfl) (by kernel_rfl) fun H => ?_
  simp (disch := omega) only [↓aI,↓zP,aD,zD,aS,simprocAttr,Tryz.facts]
  intro k0 hk00 hk0 k1 hk10 hk1
  try simp (disch := omega) only [↓aI,↓zP,aD,zD,aS,simprocAttr,Tryz.facts,aj hk1,aj hk0]
  by_cases h0 : a = c
  · have n0_0 : (a != c) = false := by simp; omega
    by_cases h1 : b < e
    · have e1_0 : decide (b < e) = true := by simp; omega
      simp (disch := omega) only [↓aI,↓zP,aD,zD,aS,simprocAttr,Tryz.facts,aj hk1,aj hk0,n0_0,e1_0]
      refine ⟨?_,Abs.Sub.refl _⟩
      rw [hB]
      first | (simp; done) | (simp; omega)
    · have e1_0 : decide (b < e) = false := by simp; omega
      simp (disch := omega) only [↓aI,↓zP,aD,zD,aS,simprocAttr,Tryz.facts,aj hk1,aj hk0,n0_0,e1_0]
      refine ⟨?_,Abs.Sub.refl _⟩
      rw [hB]
      first | (simp; done) | (simp; omega)
  · have n0_0 : (a != c) = true := by simp; omega
    by_cases h1 : a < c
    · have e1_0 : decide (a < c) = true := by simp; omega
      simp (disch := omega) only [↓aI,↓zP,aD,zD,aS,simprocAttr,Tryz.facts,aj hk1,aj hk0,n0_0,e1_0]
      refine ⟨?_,Abs.Sub.refl _⟩
      rw [hB]
      first | (simp; done) | (simp; omega)
    · have e1_0 : decide (a < c) = false := by simp; omega
      simp (disch := omega) only [↓aI,↓zP,aD,zD,aS,simprocAttr,Tryz.facts,aj hk1,aj hk0,n0_0,e1_0]
      refine ⟨?_,Abs.Sub.refl _⟩
      rw [hB]
      first | (simp; done) | (simp; omega)

def okR (i : Ins) : Bool := !(decide (i.id.1 < 0) || decide (5 ≤ i.id.1) || decide (i.id.2 < 1) || decide (1099511627776 < i.id.2)) && (decide (0 ≤ i.rune) && decide (i.rune ≤ 1114111) && (decide (i.rune < 55296) || decide (57343 < i.rune)))

theorem ee (i : Ins) : APure Tryz.prog 100 [.agg (cA i)] (.sc (.bool (okR i))) := by
  obtain ⟨⟨a,c⟩,⟨pa,pc⟩,ri,ru⟩ := i
  simp only [cA]
  have hB : okR ⟨(a,c),(pa,pc),ri,ru⟩ = (!(decide (a < 0) || decide (5 ≤ a) || decide (c < 1) || decide (1099511627776 < c)) && (decide (0 ≤ ru) && decide (ru ≤ 1114111) && (decide (ru < 55296) || decide (57343 < ru)))) := rfl
  generalize okR _ = B at *
  refine az (c := ⟨Tryz.prog,43,[(1000000,[1])],[],[]⟩) (rs := [ResultVar.tmp 2]) Tryz.mixed Tryz.func100 rfl rfl rfl (Nat.le_of_ble_eq_true rfl) (by kernel_rfl) fun H => ?_
  simp (disch := omega) only [↓aI,↓zP,aD,zD,aS,simprocAttr,Tryz.facts]
  intro k0 hk00 hk0
  try simp (disch := omega) only [↓aI,↓zP,aD,zD,aS,simprocAttr,Tryz.facts,aj hk0]
  by_cases h0 : a < 0
  · have e0_0 : decide (a < 0) = true := by simp; omega
    simp (disch := omega) only [↓aI,↓zP,aD,zD,aS,simprocAttr,Tryz.facts,aj hk0,e0_0]
    refine ⟨?_,Abs.Sub.refl _⟩
    rw [hB]
    first | (simp; done) | (simp; omega)
  · have e0_0 : decide (a < 0) = false := by simp; omega
    by_cases h1 : 5 ≤ a
    · have e1_0 : decide (5 ≤ a) = true := by simp; omega
      have e1_1 : decide (a ≥ 5) = true := by simp; omega
      simp (disch := omega) only [↓aI,↓zP,aD,zD,aS,simprocAttr,Tryz.facts,aj hk0,e0_0,e1_0,e1_1]
      refine ⟨?_,Abs.Sub.refl _⟩
      rw [hB]
      first | (simp; done) | (simp; omega)
    · have e1_0 : decide (5 ≤ a) = false := by simp; omega
      have e1_1 : decide (a ≥ 5) = false := by simp; omega
      by_cases h2 : c < 1
      · have e2_0 : decide (c < 1) = true := by simp; omega
        simp (disch := omega) only [↓aI,↓zP,aD,zD,aS,simprocAttr,Tryz.facts,aj hk0,e0_0,e1_0,e1_1,e2_0]
        refine ⟨?_,Abs.Sub.refl _⟩
        rw [hB]
        first | (simp; done) | (simp; omega)
      · have e2_0 : decide (c < 1) = false := by simp; omega
        by_cases h3 : 1099511627776 < c
        · have e3_0 : decide (1099511627776 < c) = true := by simp; omega
          have e3_1 : decide (c > 1099511627776) = true := by simp; omega
          simp (disch := omega) only [↓aI,↓zP,aD,zD,aS,simprocAttr,Tryz.facts,aj hk0,e0_0,e1_0,e1_1,e2_0,e3_0,e3_1]
          refine ⟨?_,Abs.Sub.refl _⟩
          rw [hB]
          first | (simp; done) | (simp; omega)
        · have e3_0 : decide (1099511627776 < c) = false := by simp; omega
          have e3_1 : decide (c > 1099511627776) = false := by simp; omega
          by_cases h4 : 0 ≤ ru
          · have e4_0 : decide (0 ≤ ru) = true := by simp; omega
            have e4_1 : decide (ru ≥ 0) = true := by simp; omega
            by_cases h5 : ru ≤ 1114111
            · have e5_0 : decide (ru ≤ 1114111) = true := by simp; omega
              by_cases h6 : ru < 55296
              · have e6_0 : decide (ru < 55296) = true := by simp; omega
                simp (disch := omega) only [↓aI,↓zP,aD,zD,aS,simprocAttr,Tryz.facts,aj hk0,e0_0,e1_0,e1_1,e2_0,e3_0,e3_1,e4_0,e4_1,e5_0,e6_0]
                refine ⟨?_,Abs.Sub.refl _⟩
                rw [hB]
                first | (simp; done) | (simp; omega)
              · have e6_0 : decide (ru < 55296) = false := by simp; omega
                by_cases h7 : 57343 < ru
                · have e7_0 : decide (57343 < ru) = true := by simp; omega
                  have e7_1 : decide (ru > 57343) = true := by simp; omega
                  simp (disch := omega) only [↓aI,↓zP,aD,zD,aS,simprocAttr,Tryz.facts,aj hk0,e0_0,e1_0,e1_1,e2_0,e3_0,e3_1,e4_0,e4_1,e5_0,e6_0,e7_0,e7_1]
                  refine ⟨?_,Abs.Sub.refl _⟩
                  rw [hB]
                  first | (simp; done) | (simp; omega)
                · have e7_0 : decide (57343 < ru) = false := by simp; omega
                  have e7_1 : decide (ru > 57343) = false := by simp; omega
                  simp (disch := omega) only [↓aI,↓zP,aD,zD,aS,simprocAttr,Tryz.facts,aj hk0,e0_0,e1_0,e1_1,e2_0,e3_0,e3_1,e4_0,e4_1,e5_0,e6_0,e7_0,e7_1]
                  refine ⟨?_,Abs.Sub.refl _⟩
                  rw [hB]
                  first | (simp; done) | (simp; omega)
            · have e5_0 : decide (ru ≤ 1114111) = false := by simp; omega
              simp (disch := omega) only [↓aI,↓zP,aD,zD,aS,simprocAttr,Tryz.facts,aj hk0,e0_0,e1_0,e1_1,e2_0,e3_0,e3_1,e4_0,e4_1,e5_0]
              refine ⟨?_,Abs.Sub.refl _⟩
              rw [hB]
              first | (simp; done) | (simp; omega)
          · have e4_0 : decide (0 ≤ ru) = false := by simp; omega
            have e4_1 : decide (ru ≥ 0) = false := by simp; omega
            simp (disch := omega) only [↓aI,↓zP,aD,zD,aS,simprocAttr,Tryz.facts,aj hk0,e0_0,e1_0,e1_1,e2_0,e3_0,e3_1,e4_0,e4_1]
            refine ⟨?_,Abs.Sub.refl _⟩
            rw [hB]
            first | (simp; done) | (simp; omega)
end Go.Proofs.YtcgjlmopeblapaaGreat
end
section
set_option linter.unusedSimpArgs false
set_option linter.unusedVariables false
set_option maxRecDepth 8000
set_option maxHeartbeats 4000000
namespace Go.Proofs.YtcgjlmopeblapaaGreat
open Go Go.Abs Go.Proofs Go.Fug

theorem dT {p : Prop} [Decidable p] (h : p) : decide p = true := by simpa using h
theorem dF {p : Prop} [Decidable p] (h : ¬ p) : decide p = false := by simpa using h
theorem qT {a b : Int} (h : a = b) : (a == b) = true := by simpa using h
theorem qF {a b : Int} (h : ¬ a = b) : (a == b) = false := by simpa using h
theorem nT {a b : Int} (h : ¬ a = b) : (a != b) = true := by simpa using h
theorem nF {a b : Int} (h : a = b) : (a != b) = false := by simpa using h
def zA := And.intro @dT <| And.intro @dF <| And.intro @qT <| And.intro @qF <| And.intro @nT <| And.intro @nF <| And.intro Bool.false_and Bool.and_false

theorem side_pure (b : Bool) : APure Tryz.prog 102 [.sc (.bool b)] (.sc (.int .i64 (if b then 1 else 0))) := by
  refine az (c := ⟨Tryz.prog,4,[],[],[]⟩) (rs := [ResultVar.tmp 2]) Tryz.mixed Tryz.func102 rfl rfl rfl (Nat.le_of_ble_eq_true rfl) (by kernel_rfl) fun H => ?_
  cases b with
  | true =>
    simp (disch := omega) only [↓aI,↓zP,aD,zD,aS,simprocAttr,Tryz.facts]
    exact Abs.Sub.refl _
  | false =>
    simp (disch := omega) only [↓aI,↓zP,aD,zD,aS,simprocAttr,Tryz.facts]
    exact Abs.Sub.refl _

theorem rright_pure (i : Ins) : APure Tryz.prog 78 [.agg (cA i)] (.sc (.bool (okI i))) := by
  obtain ⟨⟨a,c⟩,⟨pa,pc⟩,ri,ru⟩ := i
  simp only [cA]
  have hB : okI ⟨(a,c),(pa,pc),ri,ru⟩ = (decide (0 ≤ a) && decide (a < 5) && decide (1 ≤ c) && decide (c ≤ 1099511627776) && decide (0 ≤ ru) && decide (ru ≤ 1114111) && (decide (ru < 55296) || decide (57343 < ru)) && (ri || decide ((pa,pc) ≠ bL))) := rfl
  have h1 : (0 ≤ a ∧ a < 5 ∧ 1 ≤ c ∧ c ≤ 1099511627776) ∨ a < 0 ∨ (0 ≤ a ∧ 5 ≤ a) ∨ (0 ≤ a ∧ a < 5 ∧ c < 1) ∨ (0 ≤ a ∧ a < 5 ∧ 1 ≤ c ∧ 1099511627776 < c) := by omega
  have h2 : ru < 0 ∨ (0 ≤ ru ∧ ru < 55296) ∨ (55296 ≤ ru ∧ ru ≤ 57343) ∨ (57343 < ru ∧ ru ≤ 1114111) ∨ 1114111 < ru := by omega
  have h3 : (pa = 0 ∧ pc = 0) ∨ pa ≠ 0 ∨ (pa = 0 ∧ pc ≠ 0) := by omega
  generalize okI _ = B at *
  refine az (c := ⟨Tryz.prog,61,[(1000000,[1]),(4000004,[2]),(4000003,[1,3,4,5]),(4000002,[1,3,4]),(4000001,[1,3])],[],[]⟩) (rs := [ResultVar.tmp 2]) Tryz.mixed Tryz.func78 rfl rfl rfl (Nat.le_of_ble_eq_true rfl) (by kernel_rfl) fun H => ?_
  simp (disch := omega) only [↓aI,↓zP,aD,zD,aS,simprocAttr,Tryz.facts]
  intro k0 hk00 hk0
  rcases h1 with h | h | h | h | h <;> rcases h2 with g | g | g | g | g <;> simp (disch := omega) only [↓aI,↓zP,aD,zD,aS,simprocAttr,Tryz.facts,dT,dF,qT,qF,nT,nF,aj hk0]
  all_goals first
    | (have hb : B = false := by (rw [hB]; simp; omega)
       exact ⟨by simp [hb],Abs.Sub.refl _⟩)
    | (cases ri with
       | true =>
         simp (disch := omega) only [↓aI,↓zP,aD,zD,aS,simprocAttr,Tryz.facts,dT,dF,qT,qF,nT,nF,aj hk0]
         have hb : B = true := by (rw [hB]; simp; omega)
         exact ⟨by simp [hb],Abs.Sub.refl _⟩
       | false =>
         rcases h3 with f | f | f
         · simp (disch := omega) only [↓aI,↓zP,aD,zD,aS,simprocAttr,Tryz.facts,dT,dF,qT,qF,nT,nF,aj hk0]
           have hb : B = false := by (rw [hB]; simp [bL]; omega)
           exact ⟨by simp [hb],Abs.Sub.refl _⟩
         · simp (disch := omega) only [↓aI,↓zP,aD,zD,aS,simprocAttr,Tryz.facts,dT,dF,qT,qF,nT,nF,aj hk0]
           have hb : B = true := by (rw [hB]; simp [bL]; omega)
           exact ⟨by simp [hb],Abs.Sub.refl _⟩
         · simp (disch := omega) only [↓aI,↓zP,aD,zD,aS,simprocAttr,Tryz.facts,dT,dF,qT,qF,nT,nF,aj hk0]
           have hb : B = true := by (rw [hB]; simp [bL]; omega)
           exact ⟨by simp [hb],Abs.Sub.refl _⟩)

theorem put_pure (l : List EId) (x : EId) (hl : l.length ≤ 1000000) : APure Tryz.prog 101 [idsV l,idV x] (idsV (dq l x)) := by
  have hle := placeL_le l x
  have hlt := fun i => placeL_lt (l := l) (x := x) (i := i)
  have hat := fun y => placeL_at (l := l) (x := x) (y := y)
  have hp := putL_eq l x
  have hpl := putL_length l x
  have hless := fun y => less_pure y x
  have hil := bU l
  generalize dq l x = R at *
  generalize cR l x = p at *
  obtain ⟨a,c⟩ := x
  refine az (c := ⟨Tryz.prog,34,[(2,[0,0,1,0,0,0,0,0,1,1,0,0]),(2000004,[1,2,3,5,6,0,4,7,8]),(4,[0,0,0,0,0,2,2,2,0]),(1000000,[3])],[21],[]⟩) (rs := [ResultVar.tmp 4]) Tryz.mixed Tryz.func101 rfl rfl rfl (Nat.le_of_ble_eq_true rfl) (by kernel_rfl) fun H => ?_
  simp (disch := omega) only [↓aI,↓zP,aD,zD,aS,simprocAttr,Tryz.facts]
  intro k hk0 hk
  simp (disch := omega) only [↓aI,↓zP,aD,zD,aS,simprocAttr,Tryz.facts,aj hk]
  refine br (c := ⟨Tryz.prog,34,[(2,[0,0,1,0,0,0,0,0,1,1,0,0]),(2000004,[1,2,3,5,6,0,4,7,8]),(4,[0,0,0,0,0,2,2,2,0]),(1000000,[3])],[21],[]⟩) Tryz.mixed (by kernel_rfl) (fun mm σ H' => H' = H ∧ ∃ i,i + mm = p ∧ σ 0 = .imm 0 (cB l) l.length ∧ σ 3 = .ip [.sc (.int .i64 a),.sc (.int .i64 c)] 0 ∧ σ 5 = .sc (.int .i64 (i : Nat))) p ?_ ?_
  · refine ⟨rfl,0,by omega,?_⟩
    simp (disch := omega) only [↓aI,↓zP,aD,zD,aS,simprocAttr,Tryz.facts]
    try rfl
  · rintro mm σ H' ⟨rfl,i,him,h0,h3,h5⟩
    by_cases hip : i < p
    · obtain ⟨y,hy,hly⟩ := hlt i hip
      have hil' : i < l.length := by omega
      have hld := eR hil'
      have hyi : l[i] = y := by rw [List.getElem?_eq_getElem hil'] at hy; exact Option.some.inj hy
      rw [hyi] at hld
      have hly' := hless y
      rw [hly] at hly'
      obtain ⟨y1,y2⟩ := y
      have hle' : i * 2 + 2 ≤ l.length * 2 := by omega
      simp (disch := omega) only [↓aI,↓zP,aD,zD,aS,simprocAttr,Tryz.facts,h0,h3,h5,dT,dF,hld,hil,hle']
      first | refine CallK.p (hly') ?_ | refine CallP.i (hly') ?_
      simp (disch := omega) only [↓aI,↓zP,aD,zD,aS,simprocAttr,Tryz.facts,h0,h3,h5,dT,dF,hld,hil,hle']
      exact ⟨mm - 1,by omega,i + 1,by omega,rfl⟩
    · obtain rfl : i = p := by omega
      have hcut : (cB l).take (i * 2) = cB (l.take i) := idsC_take l i
      have hcut2 : (cB l).drop (i * 2) = cB (l.drop i) := idsC_dropN l i
      have hil2 := bU (l.take i)
      have hil3 := bU (l.drop i)
      have hl2 : (l.take i).length = i := by rw [List.length_take]; omega
      have hl3 : (l.drop i).length = l.length - i := by rw [List.length_drop]
      have hq1 : cB (l.take i) ++ [.sc (.int .i64 a),.sc (.int .i64 c)] = cB (l.take i ++ [(a,c)]) := idsC_snoc _ (a,c)
      have hq2 : (cB (l.take i ++ [(a,c)])).length = (i + 1) * 2 := by rw [bU,List.length_append,hl2]; rfl
      have hq3 : (cB (l.drop i)).take ((l.length - i) * 2) = cB (l.drop i) := List.take_of_length_le (by omega)
      have hq4 : cB (l.take i ++ [(a,c)]) ++ cB (l.drop i) = cB (l.take i ++ [(a,c)] ++ l.drop i) := idsC_append _ _
      have hq5 : i + 1 + (l.length - i) = l.length + 1 := by omega
      by_cases hil' : i < l.length
      · have hld := eR hil'
        have hly := hat l[i] (List.getElem?_eq_getElem hil')
        have hly' := hless l[i]
        rw [hly] at hly'
        generalize l[i] = y at *
        obtain ⟨y1,y2⟩ := y
        have hle' : i * 2 + 2 ≤ l.length * 2 := by omega
        simp (disch := omega) only [↓aI,↓zP,aD,zD,aS,simprocAttr,Tryz.facts,h0,h3,h5,dT,dF,hld,hil,hle']
        first | refine CallK.p (hly') ?_ | refine CallP.i (hly') ?_
        simp (disch := omega) only [↓aI,↓zP,aD,zD,aS,simprocAttr,Tryz.facts,h0,h3,h5,dT,dF,hld,hil,hle',hcut,hcut2,hil2,hil3,hl2,hl3,Nat.sub_zero]
        intro kb hkb0 hkb
        simp (disch := omega) only [↓aI,↓zP,aD,zD,aS,simprocAttr,Tryz.facts,h0,h3,h5,dT,dF,hil,hcut,hcut2,hil2,hil3,hl2,hl3,Nat.sub_zero,hkb0]
        intro k4 o4 hk40 hk4 ho4
        replace hk4 := am hk4
        simp (disch := omega) only [↓aI,↓zP,aD,zD,aS,simprocAttr,Tryz.facts,h0,h3,h5,dT,dF,hil,hcut,hcut2,hil2,hil3,hl2,hl3,Nat.sub_zero,ho4,hk40,hq1,hq2,hq3,hq4,hq5]
        intro k5 o5 hk50 hk5 ho5
        replace hk5 := am hk5
        simp (disch := omega) only [↓aI,↓zP,aD,zD,aS,simprocAttr,Tryz.facts,h0,h3,h5,dT,dF,hil,hcut,hcut2,hil2,hil3,hl2,hl3,Nat.sub_zero,ho5,hk50,hq1,hq2,hq3,hq4,hq5]
        intro k6 o6 hk60 hk6 ho6
        replace hk6 := am hk6
        exact ⟨by rw [← hp,← hpl],Abs.Sub.set_new hk6⟩
      · simp (disch := omega) only [↓aI,↓zP,aD,zD,aS,simprocAttr,Tryz.facts,h0,h3,h5,dT,dF,hil,hcut,hcut2,hil2,hil3,hl2,hl3,Nat.sub_zero]
        intro kb hkb0 hkb
        simp (disch := omega) only [↓aI,↓zP,aD,zD,aS,simprocAttr,Tryz.facts,h0,h3,h5,dT,dF,hil,hcut,hcut2,hil2,hil3,hl2,hl3,Nat.sub_zero,hkb0]
        intro k4 o4 hk40 hk4 ho4
        replace hk4 := am hk4
        simp (disch := omega) only [↓aI,↓zP,aD,zD,aS,simprocAttr,Tryz.facts,h0,h3,h5,dT,dF,hil,hcut,hcut2,hil2,hil3,hl2,hl3,Nat.sub_zero,ho4,hk40,hq1,hq2,hq3,hq4,hq5]
        intro k5 o5 hk50 hk5 ho5
        replace hk5 := am hk5
        simp (disch := omega) only [↓aI,↓zP,aD,zD,aS,simprocAttr,Tryz.facts,h0,h3,h5,dT,dF,hil,hcut,hcut2,hil2,hil3,hl2,hl3,Nat.sub_zero,ho5,hk50,hq1,hq2,hq3,hq4,hq5]
        intro k6 o6 hk60 hk6 ho6
        replace hk6 := am hk6
        exact ⟨by rw [← hp,← hpl],Abs.Sub.set_new hk6⟩
end Go.Proofs.YtcgjlmopeblapaaGreat
end
