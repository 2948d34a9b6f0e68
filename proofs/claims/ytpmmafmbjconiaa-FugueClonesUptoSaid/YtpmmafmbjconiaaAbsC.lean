/-
  An abstract logic over the model's walks, part C: a region that draws its order.
  Conditions: none. Lemmas only.
-/
import Derived.Test.YtpmmafmbjconiaaAbsB
set_option linter.all false
namespace Go.Abs
open Go Go.RowKit

section
variable {P : Program} {N : Nat} {ops : Array Oper} {E : Nat → Bool}

/-- operation number 'i' comes up; E: may it change what is live? -/
def aOp (P : Program) (N : Nat) (ops : Array Oper) (E : Nat → Bool) (i : Nat) (K : Sg → AH → Prop) (σ : Sg) (H : AH) : Prop :=
  match ops[i]? with
  | none => K σ H
  | some o => (∀ x, o.dst = some x → x < N) ∧ ∃ b, wantB ops σ o = some b ∧
      (b = true → ∃ R, Eff P H o σ.ev R ∧ (E i = false → ∃ v, R = fun v' H' => v' = v ∧ H' = H) ∧ ∀ v H', R v H' → K (σ.put o.dst v) H') ∧
      (b = false → K (σ.put o.dst (.tup [])) H)

theorem aOp_mono {i : Nat} {K K' : Sg → AH → Prop} {σ : Sg} {H : AH} (hk : ∀ σ H, K σ H → K' σ H) (h : aOp P N ops E i K σ H) : aOp P N ops E i K' σ H := by
  unfold aOp at *
  split
  · rename_i ho; simp only [ho] at h; exact hk _ _ h
  · rename_i o ho
    simp only [ho] at h
    obtain ⟨h1, b, h2, h3, h4⟩ := h
    exact ⟨h1, b, h2, fun hb => let ⟨R, r1, r2, r3⟩ := h3 hb; ⟨R, r1, r2, fun v H' hr => hk _ _ (r3 v H' hr)⟩, fun hb => hk _ _ (h4 hb)⟩

def wpAnyA (P : Program) (N : Nat) (ops : Array Oper) (E : Nat → Bool) (K : Sg → AH → Prop) : Nat → Array Bool → Sg → AH → Prop
  | 0, listed, σ, H => Region.ready .any ops listed = [] ∧ K σ H
  | fuel + 1, listed, σ, H => (Region.ready .any ops listed = [] → K σ H) ∧
      ∀ i ∈ Region.ready .any ops listed, aOp P N ops E i (wpAnyA P N ops E K fuel (listed.setIfInBounds i true)) σ H

theorem wpOp_of_aOp {Γ : Ctx} {B : Nat} {Q : Exit → Act → World → Prop} {i : Nat} {K : Sg → AH → Prop} {K' : Act → World → Prop} (hK : ∀ σ H a w, K σ H → G N Γ B σ H a w → K' a w) {σ : Sg} {H : AH} {a : Act} {w : World} {ro : Option Nat}
    (g : G N Γ B σ H a w) (h : aOp P N ops E i K σ H) : wpOpIn (FW ro) 0 P ops Q i K' a w := by
  unfold aOp at h
  unfold wpOpIn
  split
  · rename_i ho; simp only [ho] at h; exact hK _ _ _ _ h g
  · rename_i o ho
    simp only [ho] at h
    obtain ⟨hd, b, hb, h1, h2⟩ := h
    obtain ⟨n, i, c, g1, g2, g3, g4, g5⟩ := id g
    rw [wantB_spec g5 hb]
    cases b with
    | true =>
      obtain ⟨R, hE, _, hR⟩ := h1 rfl
      simp only [if_true]
      exact hE.wp g hd fun v H' a' w' hr g' => hK _ _ _ _ (hR v H' hr) g'
    | false =>
      simp only [Bool.false_eq_true, if_false]
      exact ⟨fun _ _ => trivial, hK _ _ _ _ (h2 rfl) (g.put hd)⟩

theorem wpAny_of_A {ro : Option Nat} {Γ : Ctx} {B : Nat} {Q : Exit → Act → World → Prop} {K : Sg → AH → Prop} (hK : ∀ σ H a w, K σ H → G N Γ B σ H a w → Q .normal a w) : ∀ (fuel : Nat) (listed : Array Bool) (σ : Sg) (H : AH) (a : Act) (w : World),
    G N Γ B σ H a w → wpAnyA P N ops E K fuel listed σ H → wpAnyIn (FW ro) 0 P .any ops Q fuel listed a w
  | 0, _, _, _, _, _, g, h => ⟨h.1, hK _ _ _ _ h.2 g⟩
  | fuel + 1, _, _, _, _, _, g, h => ⟨fun h0 => hK _ _ _ _ (h.1 h0) g, fun i hi => wpOp_of_aOp (fun _ _ _ _ h' g' => wpAny_of_A hK fuel _ _ _ _ _ g' h') g (h.2 i hi)⟩

/-- operation 'o' yields v here; 'f': whatever is live -/
def YA (P : Program) (N : Nat) (ops : Array Oper) (f : Bool) (o : Oper) (v : AV) (σ : Sg) (H : AH) : Prop :=
  (∀ x, o.dst = some x → x < N) ∧ ∃ b, wantB ops σ o = some b ∧ (b = true → Quiet P H o σ.ev v ∧ (f = true → ∀ H', Quiet P H' o σ.ev v)) ∧ (b = false → v = .tup [])

theorem put_ne {σ : Sg} {d : Option Tmp} {v : AV} {t : Tmp} (h : d ≠ some t) : σ.put d v t = σ t := by
  cases d with
  | none => rfl
  | some x =>
    show (if t = x then v else σ t) = _
    rw [if_neg (fun e => h (by rw [e]))]

theorem ev_put {o : Oper} {σ : Sg} {d : Option Tmp} {v : AV} (h : ∀ t, d = some t → t ∉ o.looksAt ops) : ∀ x ∈ o.op.operands, (σ.put d v).ev x = σ.ev x := by
  intro x hx
  cases x with
  | tmp t =>
    refine put_ne fun e => h t e ?_
    unfold Oper.looksAt
    rw [List.mem_append]
    left
    rw [List.mem_filterMap]
    exact ⟨.tmp t, by simpa using hx, rfl⟩
  | _ => rfl

theorem wantB_put {o : Oper} {σ : Sg} {d : Option Tmp} {v : AV} (h : ∀ t, d = some t → t ∉ o.looksAt ops) : wantB ops (σ.put d v) o = wantB ops σ o := by
  unfold wantB
  cases hg : o.guard with
  | none => rfl
  | some p =>
    obtain ⟨j, want⟩ := p
    simp only []
    cases hj : (ops[j]?).bind (·.dst) with
    | none => rfl
    | some t =>
      simp only []
      rw [put_ne (fun e => h t e (by
        unfold Oper.looksAt
        rw [List.mem_append]
        right
        simp only [hg, hj]
        simp))]

theorem put_comm {σ : Sg} {d e : Option Tmp} {u v : AV} (h : ∀ t, d = some t → e ≠ some t) : (σ.put d u).put e v = (σ.put e v).put d u := by
  cases d with
  | none => rfl
  | some x =>
    cases e with
    | none => rfl
    | some y =>
      have hne : x ≠ y := fun he => h x rfl (by rw [he])
      funext t
      show (if t = y then v else if t = x then u else σ t) = if t = x then u else if t = y then v else σ t
      by_cases h1 : t = y
      · have h2 : t ≠ x := fun h2 => hne (by rw [← h2, h1])
        rw [if_pos h1, if_neg h2, if_pos h1]
      · rw [if_neg h1, if_neg h1]

theorem YA.put {f : Bool} {o : Oper} {v : AV} {σ : Sg} {H : AH} (h : YA P N ops f o v σ H) {d : Option Tmp} {u : AV} (hd : ∀ t, d = some t → t ∉ o.looksAt ops) : YA P N ops f o v (σ.put d u) H := by
  obtain ⟨h1, b, h2, h3, h4⟩ := h
  exact ⟨h1, b, by rw [wantB_put hd]; exact h2, fun hb => ⟨(h3 hb).1.congr (ev_put hd), fun hf H' => ((h3 hb).2 hf H').congr (ev_put hd)⟩, h4⟩

theorem YA.live {o : Oper} {v : AV} {σ : Sg} {H : AH} (h : YA P N ops true o v σ H) (H' : AH) : YA P N ops true o v σ H' := by
  obtain ⟨h1, b, h2, h3, h4⟩ := h
  exact ⟨h1, b, h2, fun hb => ⟨(h3 hb).2 rfl H', (h3 hb).2⟩, h4⟩

theorem YA.aOp {f : Bool} {i : Nat} {o : Oper} {v : AV} {σ : Sg} {H : AH} {K : Sg → AH → Prop} (ho : ops[i]? = some o) (h : YA P N ops f o v σ H) (hK : K (σ.put o.dst v) H) : aOp P N ops E i K σ H := by
  obtain ⟨h1, b, h2, h3, h4⟩ := h
  unfold Abs.aOp
  simp only [ho]
  refine ⟨h1, b, h2, fun hb => ⟨_, (h3 hb).1, fun _ => ⟨v, rfl⟩, fun v' H' ⟨e1, e2⟩ => by subst e1 e2; exact hK⟩, fun hb => by rw [← h4 hb]; exact hK⟩

/-- another one, apart from 'oi', comes up ahead of it: it makes no difference -/
theorem aOp_put {f : Bool} {j : Nat} {oi oj : Oper} {v : AV} {σ : Sg} {H : AH} {K : Sg → AH → Prop} (hj : ops[j]? = some oj) (hap : oi.apart ops oj = true) (hf : f = true ∨ E j = false)
    (hy : YA P N ops f oi v σ H) (h : aOp P N ops E j K (σ.put oi.dst v) H) : aOp P N ops E j (fun σ' H' => YA P N ops f oi v σ' H' ∧ K (σ'.put oi.dst v) H') σ H := by
  obtain ⟨a1, a2, a3⟩ := Oper.apart_spec hap
  unfold Abs.aOp at *
  simp only [hj] at *
  obtain ⟨h1, b, h2, h3, h4⟩ := h
  rw [wantB_put a1] at h2
  refine ⟨h1, b, h2, fun hb => ?_, fun hb => ⟨hy.put a3, by rw [← put_comm a2]; exact h4 hb⟩⟩
  obtain ⟨R, r1, r2, r3⟩ := h3 hb
  refine ⟨R, r1.congr (fun x hx => (ev_put a1 x hx).symm), r2, fun u H' hr => ⟨?_, by rw [← put_comm a2]; exact r3 u H' hr⟩⟩
  rcases hf with hf | hf
  · subst hf; exact (hy.put a3).live H'
  · obtain ⟨u', hu⟩ := r2 hf
    rw [hu] at hr
    rw [hr.2]
    exact hy.put a3

/-- what these wait for, each once -/
def waits (ops : Array Oper) (front : List Nat) : List Nat :=
  (front.flatMap fun j => match ops[j]? with | some oj => (oj.after.toList.filter fun e => Region.binds .any e).map (·.on) | none => []).eraseDups
def reach (ops : Array Oper) (i : Nat) : Nat → List Nat → Bool
  | 0, _ => false
  | fuel + 1, front => front.contains i || (!front.isEmpty && reach ops i fuel (waits ops front))
/-- does 'j' wait for 'i', directly or through others? -/
def deps (ops : Array Oper) (fuel j i : Nat) : Bool := reach ops i fuel (waits ops [j])

def Closed (ops : Array Oper) (listed : Array Bool) : Prop := ∀ j oj, ops[j]? = some oj → listed.getD j false = true → ∀ e ∈ oj.after, Region.binds .any e = true → listed.getD e.on false = true

theorem Closed.set {listed : Array Bool} {i : Nat} (h : Closed ops listed) (hi : i ∈ Region.ready .any ops listed) : Closed ops (listed.setIfInBounds i true) := by
  intro j oj hj hl e he hb
  by_cases hij : i = j
  · subst hij
    obtain ⟨_, o, ho, hall⟩ := mem_ready.1 hi
    have : oj = o := Option.some.inj (hj.symm.trans ho)
    subst this
    exact getD_set_true (hall e he hb)
  · rw [getD_set_ne false hij] at hl
    exact getD_set_true (h j oj hj hl e he hb)

theorem waits_listed {listed : Array Bool} (h : Closed ops listed) {front : List Nat} (hf : ∀ j ∈ front, listed.getD j false = true) : ∀ k ∈ waits ops front, listed.getD k false = true := by
  intro k hk
  unfold waits at hk
  rw [List.mem_eraseDups] at hk
  obtain ⟨j, hj, hk⟩ := List.mem_flatMap.1 hk
  cases ho : ops[j]? with
  | none => simp [ho] at hk
  | some oj =>
    simp only [ho, List.mem_map, List.mem_filter] at hk
    obtain ⟨e, ⟨he, hb⟩, rfl⟩ := hk
    exact h j oj ho (hf j hj) e (by simpa using he) hb
theorem reach_listed {listed : Array Bool} (h : Closed ops listed) {i : Nat} : ∀ (fuel : Nat) (front : List Nat), (∀ j ∈ front, listed.getD j false = true) → reach ops i fuel front = true → listed.getD i false = true
  | 0, _, _, hr => by simp [reach] at hr
  | fuel + 1, front, hf, hr => by
    simp only [reach, Bool.or_eq_true, Bool.and_eq_true] at hr
    rcases hr with hr | hr
    · exact hf i (by simpa using hr)
    · exact reach_listed h fuel _ (waits_listed h hf) hr.2
theorem deps_listed {listed : Array Bool} (h : Closed ops listed) (fuel j i : Nat) (oj : Oper) (hj : ops[j]? = some oj) (hall : ∀ e ∈ oj.after, Region.binds .any e = true → listed.getD e.on false = true) (hd : deps ops fuel j i = true) : listed.getD i false = true := by
  refine reach_listed h fuel _ (fun k hk => ?_) hd
  unfold waits at hk
  rw [List.mem_eraseDups] at hk
  simp only [List.flatMap_cons, List.flatMap_nil, List.append_nil, hj, List.mem_map, List.mem_filter] at hk
  obtain ⟨e, ⟨he, hb⟩, rfl⟩ := hk
  exact hall e (by simpa using he) hb

theorem wpAnyA_first {K : Sg → AH → Prop} {f : Bool} {i : Nat} {oi : Oper} {v : AV} (hi : ops[i]? = some oi) (hE : f = true ∨ ∀ j, E j = true → j < ops.size → j ≠ i → deps ops ops.size j i = true) :
    ∀ (fuel : Nat) (listed : Array Bool) (σ : Sg) (H : AH), Closed ops listed →
      (∀ j oj, ops[j]? = some oj → j ≠ i → listed.getD j true = false → (∀ e ∈ oj.after, Region.binds .any e = true → e.on ≠ i) → oi.apart ops oj = true) →
      i ∈ Region.ready .any ops listed → YA P N ops f oi v σ H →
      wpAnyA P N ops E K fuel (listed.setIfInBounds i true) (σ.put oi.dst v) H → wpAnyA P N ops E K (fuel + 1) listed σ H := by
  intro fuel
  induction fuel with
  | zero =>
    intro listed σ H _ _ hr hy X
    refine ⟨fun h => (by rw [h] at hr; cases hr), fun j hj => ?_⟩
    by_cases hji : j = i
    · subst hji; exact hy.aOp hi X
    · have := ready_mono hj hji
      rw [X.1] at this
      cases this
  | succ fuel ih =>
    intro listed σ H hc hfree hr hy X
    refine ⟨fun h => (by rw [h] at hr; cases hr), fun j hj => ?_⟩
    by_cases hji : j = i
    · subst hji; exact hy.aOp hi X
    · have h1 := X.2 j (ready_mono hj hji)
      obtain ⟨hjun, oj, hoj, hall⟩ := mem_ready.1 hj
      have hun : listed.getD i false = false := by
        have h0 := (mem_ready.1 hr).1
        rcases Nat.lt_or_ge i listed.size with h' | h'
        · simp [h'] at h0 ⊢; exact h0
        · simp [Array.getElem?_eq_none h']
      have hnot : ∀ e ∈ oj.after, Region.binds .any e = true → e.on ≠ i := fun e he hb heq => by
        have h1 := hall e he hb
        rw [heq, hun] at h1
        cases h1
      have hf : f = true ∨ E j = false := by
        rcases hE with h | h
        · exact .inl h
        · cases hej : E j with
          | false => exact .inr rfl
          | true =>
            have := deps_listed hc _ j i oj hoj hall (h j hej (Array.getElem?_eq_some_iff.1 hoj).1 hji)
            rw [hun] at this
            cases this
      have h2 := aOp_put hoj (hfree j oj hoj hji hjun hnot) hf hy h1
      have hfree' : ∀ k ok, ops[k]? = some ok → k ≠ i → (listed.setIfInBounds j true).getD k true = false →
          (∀ e ∈ ok.after, Region.binds .any e = true → e.on ≠ i) → oi.apart ops ok = true := fun k ok hk hki hun hno => by
        refine hfree k ok hk hki ?_ hno
        by_cases hjk : j = k
        · subst hjk; exact hjun
        · rw [getD_set_ne true hjk] at hun; exact hun
      refine aOp_mono (fun σ' H' h3 => ih (listed.setIfInBounds j true) σ' H' (hc.set hj) hfree' (ready_mono hr (Ne.symm hji)) h3.1 ?_) h2
      rw [Array.setIfInBounds_comm _ _ hji]
      exact h3.2

/-- a chosen order: of each operation its number and its kind: 0: yields a value whatever is live; 1: yields a value of what is live, and what changes that waits for it; 2: changes what is live, and is the only one that may come up -/
def schedB (ops : Array Oper) (E : Nat → Bool) : List (Nat × Nat) → Array Bool → Bool
  | [], listed => (Region.ready .any ops listed).isEmpty
  | (i, k) :: rest, listed => (Region.ready .any ops listed).contains i &&
      (match k with
       | 0 => Region.free .any ops listed i
       | 1 => Region.free .any ops listed i && (List.range ops.size).all (fun j => !E j || j == i || deps ops ops.size j i)
       | _ => E i && (Region.ready .any ops listed).all (· == i)) &&
      schedB ops E rest (listed.setIfInBounds i true)

def ASched (P : Program) (N : Nat) (ops : Array Oper) (K : Sg → AH → Prop) : List (Nat × Nat) → Sg → AH → Prop
  | [], σ, H => K σ H
  | (i, k) :: rest, σ, H => match ops[i]? with
    | none => False
    | some o => (∀ x, o.dst = some x → x < N) ∧ ∃ b, wantB ops σ o = some b ∧
      (b = true → match k with
        | 0 => ∃ v, (∀ H', Quiet P H' o σ.ev v) ∧ ASched P N ops K rest (σ.put o.dst v) H
        | 1 => ∃ v, Quiet P H o σ.ev v ∧ ASched P N ops K rest (σ.put o.dst v) H
        | _ => ∃ R, Eff P H o σ.ev R ∧ ∀ v H', R v H' → ASched P N ops K rest (σ.put o.dst v) H') ∧
      (b = false → ASched P N ops K rest (σ.put o.dst (.tup [])) H)

theorem ready_lt {i : Nat} {listed : Array Bool} (h : i ∈ Region.ready .any ops listed) : i < ops.size := by
  obtain ⟨_, o, ho, _⟩ := mem_ready.1 h
  exact (Array.getElem?_eq_some_iff.1 ho).1

theorem wpAnyA_sched {K : Sg → AH → Prop} : ∀ (sch : List (Nat × Nat)) (listed : Array Bool) (σ : Sg) (H : AH), Closed ops listed → schedB ops E sch listed = true → ASched P N ops K sch σ H → wpAnyA P N ops E K sch.length listed σ H
  | [], listed, σ, H, _, hB, h => ⟨by simpa [schedB] using hB, h⟩
  | (i, k) :: rest, listed, σ, H, hc, hB, h => by
    simp only [schedB, Bool.and_eq_true] at hB
    obtain ⟨⟨hr, hk⟩, hB'⟩ := hB
    have hr' : i ∈ Region.ready .any ops listed := by simpa using hr
    simp only [ASched] at h
    cases hi : ops[i]? with
    | none => simp [hi] at h
    | some o =>
      simp only [hi] at h
      obtain ⟨hd, b, hb, h1, h2⟩ := h
      have ih := fun σ H => wpAnyA_sched (K := K) rest (listed.setIfInBounds i true) σ H (hc.set hr') hB'
      match k with
      | 0 =>
        simp only [] at hk h1
        cases b with
        | true =>
          obtain ⟨v, q, hs⟩ := h1 rfl
          exact wpAnyA_first (f := true) hi (.inl rfl) _ _ _ _ hc (Region.free_spec hi hk) hr' ⟨hd, true, hb, fun _ => ⟨q H, fun _ => q⟩, fun h => by cases h⟩ (ih _ _ hs)
        | false =>
          exact wpAnyA_first (f := true) hi (.inl rfl) _ _ _ _ hc (Region.free_spec hi hk) hr' ⟨hd, false, hb, (fun h => by cases h), fun _ => rfl⟩ (ih _ _ (h2 rfl))
      | 1 =>
        simp only [Bool.and_eq_true] at hk h1
        have hE : ∀ j, E j = true → j < ops.size → j ≠ i → deps ops ops.size j i = true := fun j hj hlt hne => by
          have := List.all_eq_true.1 hk.2 j (List.mem_range.2 hlt)
          simpa [hj, hne] using this
        cases b with
        | true =>
          obtain ⟨v, q, hs⟩ := h1 rfl
          exact wpAnyA_first (f := false) hi (.inr hE) _ _ _ _ hc (Region.free_spec hi hk.1) hr' ⟨hd, true, hb, fun _ => ⟨q, fun h => by cases h⟩, fun h => by cases h⟩ (ih _ _ hs)
        | false =>
          exact wpAnyA_first (f := false) hi (.inr hE) _ _ _ _ hc (Region.free_spec hi hk.1) hr' ⟨hd, false, hb, (fun h => by cases h), fun _ => rfl⟩ (ih _ _ (h2 rfl))
      | k + 2 =>
        simp only [Bool.and_eq_true] at hk h1
        refine ⟨fun h => (by rw [h] at hr'; cases hr'), fun j hj => ?_⟩
        have : j = i := by simpa using List.all_eq_true.1 hk.2 j hj
        subst this
        unfold Abs.aOp
        simp only [hi]
        exact ⟨hd, b, hb, fun hbt => let ⟨R, r1, r2⟩ := h1 hbt; ⟨R, r1, (fun he => by rw [hk.1] at he; cases he), fun v H' hr => ih _ _ (r2 v H' hr)⟩, fun hbf => ih _ _ (h2 hbf)⟩

theorem closed_none (ops : Array Oper) (m : Nat) : Closed ops (Array.replicate m false) := by
  intro j oj _ hl
  rcases Nat.lt_or_ge j m with h | h
  · simp [h] at hl
  · simp [h] at hl

def effOf (sch : List (Nat × Nat)) (i : Nat) : Bool := sch.any fun p => p.1 == i && decide (2 ≤ p.2)

theorem awp_draw {Γ : Ctx} {Q : Exit → Sg → AH → Prop} {σ : Sg} {H : AH} {id : Nat} {l : List Oper} (sch : List (Nat × Nat)) (hm : P.follows .mixedOrders = true)
    (hB : (decide (sch.length = l.length) && schedB l.toArray (effOf sch) sch (Array.replicate l.length false)) = true)
    (h : ASched P N l.toArray (Q .normal) sch σ H) : AWp P N Γ (.region id l.toArray true) Q σ H := by
  intro ro _ B a w g
  simp only [Bool.and_eq_true, decide_eq_true_eq] at hB
  refine wpIn_region_any hm ?_
  have g' : G N Γ B σ H a { w with drawn := w.drawn + 1 } := by
    obtain ⟨n, i, c, g1, g2, g3, g4, g5⟩ := g
    have e := Ext.heap (C := ⟨H, n, i, c, w⟩) { w with drawn := w.drawn + 1 } rfl rfl rfl rfl
    exact ⟨n, i, c, g1.heap _ rfl rfl rfl rfl, g2.trans e, g3, g4.ext e, fun t => (g5 t).ext e⟩
  refine wpAny_of_A (K := Q .normal) (E := effOf sch) (fun σ H a w q g => ⟨σ, H, g, q⟩) _ _ _ _ _ _ g' ?_
  have := wpAnyA_sched (E := effOf sch) sch (Array.replicate l.length false) σ H (closed_none _ _) hB.2 h
  rw [hB.1] at this
  simpa using this
/-! ### a tree of orders: where more than one operation that changes what is live may come up, each is gone on with -/
inductive STree where
  | nil
  | op (i k : Nat) (t : STree)
  | or (a b : STree)
def STree.heads : STree → List Nat
  | .nil => []
  | .op i k _ => bif Nat.ble 2 k then [i] else []
  | .or a b => a.heads ++ b.heads
def STree.depth : STree → Nat
  | .nil => 0
  | .op _ _ t => t.depth + 1
  | .or a _ => a.depth
def STree.eff : STree → Bool
  | .nil => false
  | .op _ k _ => Nat.ble 2 k
  | .or _ _ => true
def STree.effs : STree → List Nat
  | .nil => []
  | .op i k t => bif Nat.ble 2 k then i :: t.effs else t.effs
  | .or a b => a.effs ++ b.effs
def covers (ops : Array Oper) (t : STree) (listed : Array Bool) : Bool := !t.eff || (Region.ready .any ops listed).all (fun j => t.heads.contains j)
def chkT (ops : Array Oper) (E : Nat → Bool) : STree → Array Bool → Bool
  | .nil, listed => (Region.ready .any ops listed).isEmpty
  | .op i k t, listed => (Region.ready .any ops listed).contains i &&
      (match k with
       | 0 => Region.free .any ops listed i
       | 1 => Region.free .any ops listed i && (List.range ops.size).all (fun j => !E j || j == i || deps ops ops.size j i)
       | _ => E i) && covers ops t (listed.setIfInBounds i true) && chkT ops E t (listed.setIfInBounds i true)
  | .or a b, listed => a.eff && b.eff && a.depth == b.depth && chkT ops E a listed && chkT ops E b listed
def ATree (P : Program) (N : Nat) (ops : Array Oper) (K : Sg → AH → Prop) : STree → Sg → AH → Prop
  | .nil, σ, H => K σ H
  | .op i k t, σ, H => match ops[i]? with
    | none => False
    | some o => (∀ x, o.dst = some x → x < N) ∧ ∃ b, wantB ops σ o = some b ∧
      (b = true → match k with
        | 0 => ∃ v, (∀ H', Quiet P H' o σ.ev v) ∧ ATree P N ops K t (σ.put o.dst v) H
        | 1 => ∃ v, Quiet P H o σ.ev v ∧ ATree P N ops K t (σ.put o.dst v) H
        | _ => ∃ R, Eff P H o σ.ev R ∧ ∀ v H', R v H' → ATree P N ops K t (σ.put o.dst v) H') ∧
      (b = false → ATree P N ops K t (σ.put o.dst (.tup [])) H)
  | .or a b, σ, H => ATree P N ops K a σ H ∧ ATree P N ops K b σ H

theorem chkT_ready : ∀ (t : STree) (listed : Array Bool), t.eff = true → chkT ops E t listed = true → ∃ j, j ∈ Region.ready .any ops listed ∧ j ∈ t.heads
  | .nil, _, h, _ => by cases h
  | .op i k t, listed, h, hc => by
    simp only [chkT, Bool.and_eq_true] at hc
    have he : Nat.ble 2 k = true := h
    exact ⟨i, by simpa using hc.1.1.1, by simp [STree.heads, he]⟩
  | .or a b, listed, _, hc => by
    simp only [chkT, Bool.and_eq_true] at hc
    obtain ⟨j, h1, h2⟩ := chkT_ready a listed hc.1.1.1.1 hc.1.2
    exact ⟨j, h1, by simp [STree.heads, h2]⟩

theorem wpAnyA_tree {K : Sg → AH → Prop} : ∀ (t : STree) (listed : Array Bool) (σ : Sg) (H : AH), Closed ops listed → chkT ops E t listed = true → ATree P N ops K t σ H →
    (covers ops t listed = true → wpAnyA P N ops E K t.depth listed σ H) ∧ (∀ j ∈ t.heads, ∃ d, t.depth = d + 1 ∧ aOp P N ops E j (wpAnyA P N ops E K d (listed.setIfInBounds j true)) σ H)
  | .nil, listed, σ, H, _, hB, h => ⟨fun _ => ⟨by simpa [chkT] using hB, h⟩, fun j hj => by cases hj⟩
  | .op i k t, listed, σ, H, hc, hB, h => by
    have hB0 := hB
    simp only [chkT, Bool.and_eq_true] at hB
    obtain ⟨⟨⟨hr, hk⟩, hcov⟩, hB'⟩ := hB
    have hr' : i ∈ Region.ready .any ops listed := by simpa using hr
    simp only [ATree] at h
    cases hi : ops[i]? with
    | none => simp [hi] at h
    | some o =>
      simp only [hi] at h
      obtain ⟨hd, b, hb, h1, h2⟩ := h
      have ih := fun σ H g => (wpAnyA_tree (K := K) t (listed.setIfInBounds i true) σ H (hc.set hr') hB' g).1 hcov
      match k with
      | 0 =>
        simp only [] at hk h1
        refine ⟨fun _ => ?_, fun j hj => by cases (show j ∈ ([] : List Nat) from hj)⟩
        cases b with
        | true =>
          obtain ⟨v, q, hs⟩ := h1 rfl
          exact wpAnyA_first (f := true) hi (.inl rfl) _ _ _ _ hc (Region.free_spec hi hk) hr' ⟨hd, true, hb, fun _ => ⟨q H, fun _ => q⟩, fun h => by cases h⟩ (ih _ _ hs)
        | false =>
          exact wpAnyA_first (f := true) hi (.inl rfl) _ _ _ _ hc (Region.free_spec hi hk) hr' ⟨hd, false, hb, (fun h => by cases h), fun _ => rfl⟩ (ih _ _ (h2 rfl))
      | 1 =>
        simp only [Bool.and_eq_true] at hk h1
        refine ⟨fun _ => ?_, fun j hj => by cases (show j ∈ ([] : List Nat) from hj)⟩
        have hE : ∀ j, E j = true → j < ops.size → j ≠ i → deps ops ops.size j i = true := fun j hj hlt hne => by
          have := List.all_eq_true.1 hk.2 j (List.mem_range.2 hlt)
          simpa [hj, hne] using this
        cases b with
        | true =>
          obtain ⟨v, q, hs⟩ := h1 rfl
          exact wpAnyA_first (f := false) hi (.inr hE) _ _ _ _ hc (Region.free_spec hi hk.1) hr' ⟨hd, true, hb, fun _ => ⟨q, fun h => by cases h⟩, fun h => by cases h⟩ (ih _ _ hs)
        | false =>
          exact wpAnyA_first (f := false) hi (.inr hE) _ _ _ _ hc (Region.free_spec hi hk.1) hr' ⟨hd, false, hb, (fun h => by cases h), fun _ => rfl⟩ (ih _ _ (h2 rfl))
      | k + 2 =>
        simp only [] at hk h1
        have hop : aOp P N ops E i (wpAnyA P N ops E K t.depth (listed.setIfInBounds i true)) σ H := by
          unfold Abs.aOp
          simp only [hi]
          exact ⟨hd, b, hb, fun hbt => let ⟨R, r1, r2⟩ := h1 hbt; ⟨R, r1, (fun he => by rw [hk] at he; cases he), fun v H' hr => ih _ _ (r2 v H' hr)⟩, fun hbf => ih _ _ (h2 hbf)⟩
        have hh : (STree.op i (k + 2) t).heads = [i] := rfl
        refine ⟨fun hcv => ⟨fun h => (by rw [h] at hr'; cases hr'), fun j hj => ?_⟩, fun j hj => ?_⟩
        · simp only [covers, hh, Bool.or_eq_true, Bool.not_eq_true', List.all_eq_true] at hcv
          rcases hcv with hcv | hcv
          · cases hcv
          · have := hcv j hj
            have : j = i := by simpa using this
            subst this
            exact hop
        · rw [hh] at hj
          obtain rfl := List.mem_singleton.1 hj
          exact ⟨t.depth, rfl, hop⟩
  | .or a b, listed, σ, H, hc, hB, h => by
    have hB0 := hB
    simp only [chkT, Bool.and_eq_true, beq_iff_eq] at hB
    obtain ⟨⟨⟨⟨ha, hb⟩, hd⟩, hA⟩, hB'⟩ := hB
    have iha := (wpAnyA_tree (K := K) a listed σ H hc hA h.1).2
    have ihb := (wpAnyA_tree (K := K) b listed σ H hc hB' h.2).2
    have key : ∀ j ∈ (STree.or a b).heads, ∃ d, (STree.or a b).depth = d + 1 ∧ aOp P N ops E j (wpAnyA P N ops E K d (listed.setIfInBounds j true)) σ H := fun j hj => by
      rcases List.mem_append.1 hj with hj | hj
      · exact iha j hj
      · obtain ⟨d, h1, h2⟩ := ihb j hj
        exact ⟨d, hd.trans h1, h2⟩
    refine ⟨fun hcv => ?_, key⟩
    obtain ⟨j0, hj0, hh0⟩ := chkT_ready (.or a b) listed rfl hB0
    obtain ⟨d, hdd, -⟩ := key j0 hh0
    rw [hdd]
    refine ⟨fun h => (by rw [h] at hj0; cases hj0), fun j hj => ?_⟩
    simp only [covers, Bool.or_eq_true, Bool.not_eq_true', List.all_eq_true] at hcv
    rcases hcv with hcv | hcv
    · cases hcv
    · obtain ⟨d', h1, h2⟩ := key j (by simpa using hcv j hj)
      have : d = d' := by omega
      subst this
      exact h2

theorem awp_drawT {Γ : Ctx} {Q : Exit → Sg → AH → Prop} {σ : Sg} {H : AH} {id : Nat} {l : List Oper} (t : STree) (hm : P.follows .mixedOrders = true)
    (hB : (decide (t.depth = l.length) && covers l.toArray t (Array.replicate l.length false) && chkT l.toArray (fun i => t.effs.contains i) t (Array.replicate l.length false)) = true)
    (h : ATree P N l.toArray (Q .normal) t σ H) : AWp P N Γ (.region id l.toArray true) Q σ H := by
  intro ro _ B a w g
  simp only [Bool.and_eq_true, decide_eq_true_eq] at hB
  refine wpIn_region_any hm ?_
  have g' : G N Γ B σ H a { w with drawn := w.drawn + 1 } := by
    obtain ⟨n, i, c, g1, g2, g3, g4, g5⟩ := g
    have e := Ext.heap (C := ⟨H, n, i, c, w⟩) { w with drawn := w.drawn + 1 } rfl rfl rfl rfl
    exact ⟨n, i, c, g1.heap _ rfl rfl rfl rfl, g2.trans e, g3, g4.ext e, fun t => (g5 t).ext e⟩
  refine wpAny_of_A (K := Q .normal) (E := fun i => t.effs.contains i) (fun σ H a w q g => ⟨σ, H, g, q⟩) _ _ _ _ _ _ g' ?_
  have := (wpAnyA_tree (E := fun i => t.effs.contains i) t (Array.replicate l.length false) σ H (closed_none _ _) hB.2 h).1 hB.1.2
  rw [hB.1.1] at this
  simpa using this
end
end Go.Abs
