/-
  An abstract logic over the model's walks, part B: states, operations, regions (in whatever order), statements, loops, calls.
  Conditions: none. Lemmas only.
-/
import Derived.Test.YtjglpngjpiflhaaAbsA
set_option linter.all false
namespace Go.Abs
open Go Go.RowKit

abbrev Sg := Nat → AV
def Sg.put (σ : Sg) (d : Option Tmp) (v : AV) : Sg := match d with
  | some t => fun x => if x = t then v else σ x
  | none => σ

/-- a value of the program's text -/
def cst : Value → AV
  | .agg cs => if cs.all (·.oneCell') then .agg (cs.toList.map fun c => match c with | .slice none 0 0 => .imm 0 [] 0 | c => .sc c) else .any
  | v => .sc v

def Sg.ev (σ : Sg) : Operand → AV
  | .tmp t => σ t
  | .const v => cst v
  | .global g => .sc (.pointer (some ⟨g, 0, none⟩))
  | .func f => .fn (.func f) [] []

/-- without its token -/
def AV.strip : AV → AV
  | .imm _ cells n => .imm 0 cells n
  | .sc (.slice none 0 0) => .imm 0 [] 0
  | v => v

theorem VR.nil {C : Ctx} : VR C (.imm 0 [] 0) (.slice none 0 0) :=
  .imm 0 [] 0 none 0 (Nat.zero_le _) (Nat.zero_le _) (fun h => absurd rfl h) 0 0 (fun h => absurd rfl h) (fun _ => undef) (fun j h => absurd h (by simp)) (fun j h => absurd h (by simp))

theorem VR.strip {C : Ctx} {a : AV} {v : Value} (h : VR C a v) : VR C a.strip v := by
  cases h with
  | imm k cells n A cap hn hm hk b o ha u hc hv => exact .imm 0 cells n A cap hn hm (fun h => absurd rfl h) b o ha u hc hv
  | sc v =>
    unfold AV.strip
    split
    · contradiction
    · rename_i h; cases h; exact .nil
    · exact .sc v
  | any v => exact .any v
  | ip cells off b o u hc hv => exact .ip cells off b o u hc hv
  | own h off n cap hh hn hm hc => exact .own h off n cap hh hn hm hc
  | ptr h off hh => exact .ptr h off hh
  | mp h hh => exact .mp h hh
  | agg cells vs hs h1 hv => exact .agg cells vs hs h1 hv
  | tup cells vs hs hv => exact .tup cells vs hs hv
  | fn f fi ca vf vc h1 h2 g1 g2 => exact .fn f fi ca vf vc h1 h2 g1 g2
  | ifc t a v h => exact .ifc t a v h

/-- the relation of a state: Γ is how it stood when the call began -/
def G (N : Nat) (Γ : Ctx) (σ : Sg) (H : AH) (a : Act) (w : World) : Prop :=
  ∃ n i c, WR ⟨H, n, i, c, w⟩ ∧ Ext Γ ⟨H, n, i, c, w⟩ ∧ a.tmps.size = N ∧ a.defers = [] ∧ ∀ t, VR ⟨H, n, i, c, w⟩ (σ t) (a.tmps.getD t undef)

def Upon (P : Program) (r : Result Next) (Post : Value → World → Prop) : Prop := match r with
  | .ok (.value u) w' => Post u w'
  | .ok .skip w' => Post undef w'
  | .ok (.enter f args) w' => Calls P f args w' fun e w'' => ∃ u, e = .returned u ∧ Post u w''
  | _ => False

/-- what an operation does: R of what it yields, and of what is live then -/
def Eff (P : Program) (H : AH) (o : Oper) (ρ : Operand → AV) (R : AV → AH → Prop) : Prop :=
  ∀ (n : Nat) (i c : Nat → Nat) (w : World) (ρ' : Operand → Value), WR ⟨H, n, i, c, w⟩ → (∀ x ∈ o.op.operands, VR ⟨H, n, i, c, w⟩ (ρ x) (ρ' x)) →
    Upon P ((execOp ρ' o).run P w) fun u w' => ∃ v H' n' i' c', R v H' ∧ WR ⟨H', n', i', c', w'⟩ ∧ Ext ⟨H, n, i, c, w⟩ ⟨H', n', i', c', w'⟩ ∧ VR ⟨H', n', i', c', w'⟩ v u

theorem Upon.mono {P : Program} {r : Result Next} {Post Post' : Value → World → Prop} (h : Upon P r Post) (hp : ∀ u w, Post u w → Post' u w) : Upon P r Post' := by
  cases r with
  | ok n w =>
    cases n <;> simp only [Upon] at h ⊢
    case value u => exact hp _ _ h
    case skip => exact hp _ _ h
    case enter f args => exact h.mono fun e w'' ⟨u, he, hu⟩ => ⟨u, he, hp _ _ hu⟩
  | halt x w => exact h

theorem Eff.mono {P : Program} {H : AH} {o : Oper} {ρ : Operand → AV} {R R' : AV → AH → Prop} (h : Eff P H o ρ R) (hr : ∀ v H', R v H' → R' v H') : Eff P H o ρ R' :=
  fun n i c w ρ' g hx => (h n i c w ρ' g hx).mono fun u w' ⟨v, H', n', i', c', h1, h2⟩ => ⟨v, H', n', i', c', hr _ _ h1, h2⟩

theorem Eff.congr {P : Program} {H : AH} {o : Oper} {ρ ρ' : Operand → AV} {R : AV → AH → Prop} (h : Eff P H o ρ R) (he : ∀ x ∈ o.op.operands, ρ' x = ρ x) : Eff P H o ρ' R :=
  fun n i c w r g hx => h n i c w r g fun x hm => by rw [← he x hm]; exact hx x hm

/-- one value, and nothing else -/
def Quiet (P : Program) (H : AH) (o : Oper) (ρ : Operand → AV) (v : AV) : Prop := Eff P H o ρ fun v' H' => v' = v ∧ H' = H

theorem ev_rel {C : Ctx} {σ : Sg} {a : Act} (h : ∀ t, VR C (σ t) (a.tmps.getD t undef)) (x : Operand) : VR C (σ.ev x) (a.eval x) := by
  cases x with
  | tmp t => exact h t
  | const v =>
    show VR C (cst v) v
    unfold cst
    split
    · rename_i cs
      split
      case isFalse => exact .any _
      rename_i hall
      refine .agg _ _ (by simp) (fun j hj => ?_) fun j hj => ?_
      · have := Array.all_eq_true.1 hall j hj
        simpa [hj] using this
      simp only [List.getElem_map, Array.getElem_toList]
      have hj' : j < cs.size := by simpa using hj
      have e1 : cs.getD j undef = cs[j] := by simp [hj']
      rw [e1]
      generalize cs[j] = x
      split
      · exact .nil
      · exact .sc _
    · exact .sc _
  | global g => exact .sc _
  | func f => exact .fn _ _ _ _ _ rfl rfl (fun j h => absurd h (by simp)) (fun j h => absurd h (by simp))

theorem getD_put {a : Act} {d : Tmp} {u : Value} (hd : d < a.tmps.size) (t : Tmp) : (a.put (some d) u).tmps.getD t undef = if t = d then u else a.tmps.getD t undef := by
  show (a.tmps.setIfInBounds d u).getD t undef = _
  by_cases h : t = d
  · subst h; simp [hd]
  · simp [Array.getElem?_setIfInBounds_ne (Ne.symm h), h]

theorem put_size (a : Act) (d : Option Tmp) (u : Value) : (a.put d u).tmps.size = a.tmps.size := by
  cases d <;> simp [Act.put]
theorem put_defers (a : Act) (d : Option Tmp) (u : Value) : (a.put d u).defers = a.defers := by
  cases d <;> rfl

theorem rel_put {C : Ctx} {σ : Sg} {a : Act} {N : Nat} (hs : a.tmps.size = N) (h : ∀ t, VR C (σ t) (a.tmps.getD t undef)) {d : Option Tmp} (hd : ∀ x, d = some x → x < N) {v : AV} {u : Value} (hv : VR C v u) :
    ∀ t, VR C (σ.put d v t) ((a.put d u).tmps.getD t undef) := by
  intro t
  cases d with
  | none => exact h t
  | some x =>
    rw [getD_put (by rw [hs]; exact hd x rfl)]
    show VR C (if t = x then v else σ t) _
    split
    · exact hv
    · exact h t

theorem VR.skipped {C : Ctx} : VR C (.tup []) undef := .tup [] #[] rfl (fun j h => absurd h (by simp))

theorem G.put {N : Nat} {Γ : Ctx} {σ : Sg} {H : AH} {a : Act} {w : World} (g : G N Γ σ H a w) {d : Option Tmp} (hd : ∀ x, d = some x → x < N) : G N Γ (σ.put d (.tup [])) H (a.put d undef) w := by
  obtain ⟨n, i, c, h1, h2, h3, h4, h5⟩ := g
  exact ⟨n, i, c, h1, h2, (put_size ..).trans h3, (put_defers ..).trans h4, rel_put h3 h5 hd VR.skipped⟩

theorem Eff.wp {P : Program} {N : Nat} {Γ : Ctx} {σ : Sg} {H : AH} {a : Act} {w : World} {o : Oper} {R : AV → AH → Prop} (hG : G N Γ σ H a w) (hd : ∀ x, o.dst = some x → x < N) (h : Eff P H o σ.ev R)
    {K : Act → World → Prop} {Q : Exit → Act → World → Prop} (hK : ∀ v H' a' w', R v H' → G N Γ (σ.put o.dst v) H' a' w' → K a' w') : o.wp P a w K Q := by
  obtain ⟨n, i, c, h1, h2, h3, h4, h5⟩ := hG
  have := h n i c w a.eval h1 fun x _ => ev_rel h5 x
  have fin : ∀ u w', (∃ v H' n' i' c', R v H' ∧ WR ⟨H', n', i', c', w'⟩ ∧ Ext ⟨H, n, i, c, w⟩ ⟨H', n', i', c', w'⟩ ∧ VR ⟨H', n', i', c', w'⟩ v u) → K (a.put o.dst u) w' := by
    rintro u w' ⟨v, H', n', i', c', g1, g2, g3, g4⟩
    exact hK v H' _ _ g1 ⟨n', i', c', g2, h2.trans g3, (put_size ..).trans h3, (put_defers ..).trans h4, rel_put h3 (fun t => (h5 t).ext g3) hd g4⟩
  unfold Oper.wp
  generalize (execOp a.eval o).run P w = r at this
  cases r with
  | ok nx w' =>
    cases nx <;> simp only [Upon] at this <;> simp only [Oper.upon]
    case value u => exact fin u w' this
    case skip => exact fin undef w' this
    case enter f args =>
      refine this.mono fun e w'' ⟨u, he, hu⟩ => ?_
      subst he
      exact fin u w'' hu
  | halt x w' => simp only [Upon] at this

def wantB (ops : Array Oper) (σ : Sg) (o : Oper) : Option Bool := match o.guard with
  | none => some true
  | some (j, want) => match (ops[j]?).bind (·.dst) with
    | some d => match σ d with
      | .sc (.bool b) => some (b == want)
      | .tup [] => some false
      | _ => none
    | none => none

def boolOf : Option Value → Option Bool
  | some (.bool b) => some b
  | _ => none
theorem yielded_eq (ops : Array Oper) (tmps : Array Value) (j : Nat) : yielded ops tmps j = boolOf (((ops[j]?).bind (·.dst)).bind (tmps[·]?)) := by
  unfold yielded boolOf
  split <;> simp_all

theorem wantB_spec {C : Ctx} {σ : Sg} {a : Act} (h : ∀ t, VR C (σ t) (a.tmps.getD t undef)) {ops : Array Oper} {o : Oper} {b : Bool} (hw : wantB ops σ o = some b) : Region.wanted o (yielded ops a.tmps) = b := by
  unfold wantB at hw
  unfold Region.wanted
  cases hg : o.guard with
  | none => simp only [hg] at hw; injection hw
  | some p =>
    obtain ⟨j, want⟩ := p
    simp only [hg] at hw ⊢
    rw [yielded_eq]
    cases hj : (ops[j]?).bind (·.dst) with
    | none => simp [hj] at hw
    | some d =>
      simp only [hj] at hw
      have hd := h d
      simp only [Option.bind_some]
      split at hw
      · rename_i x hx
        rw [hx] at hd
        have hh : Value.bool x = a.tmps.getD d undef := by
          generalize a.tmps.getD d undef = z at hd
          cases hd
          rfl
        have : a.tmps[d]? = some (.bool x) := by
          rcases Nat.lt_or_ge d a.tmps.size with h1 | h1
          · simp [h1] at hh ⊢; exact hh.symm
          · simp [Array.getElem?_eq_none h1, undef] at hh
        rw [this]
        simp only [Option.some.injEq, boolOf] at hw ⊢
        rw [← hw]
        cases x <;> cases want <;> rfl
      · rename_i hx
        rw [hx] at hd
        have hh : Value.tuple #[] = a.tmps.getD d undef := by
          generalize a.tmps.getD d undef = z at hd
          cases hd
          rename_i vs hs _
          rw [Array.eq_empty_of_size_eq_zero hs]
        have hne : boolOf a.tmps[d]? = none := by
          rcases Nat.lt_or_ge d a.tmps.size with h1 | h1
          · simp [h1] at hh ⊢; rw [← hh]; rfl
          · simp [Array.getElem?_eq_none h1, boolOf]
        rw [hne]
        injection hw with hw
      · cases hw

/-- a region in the order of the text -/
def ARun (P : Program) (N : Nat) (ops : Array Oper) : List Oper → (Sg → AH → Prop) → Sg → AH → Prop
  | [], K, σ, H => K σ H
  | o :: rest, K, σ, H => (∀ x, o.dst = some x → x < N) ∧ ∃ b, wantB ops σ o = some b ∧
      (b = true → ∃ R, Eff P H o σ.ev R ∧ ∀ v H', R v H' → ARun P N ops rest K (σ.put o.dst v) H') ∧
      (b = false → ARun P N ops rest K (σ.put o.dst (.tup [])) H)

theorem ARun.sound {P : Program} {N : Nat} {Γ : Ctx} {ops : Array Oper} {K : Sg → AH → Prop} {Q : Exit → Act → World → Prop} (hK : ∀ σ H a w, K σ H → G N Γ σ H a w → Q .normal a w) :
    ∀ (l : List Oper) (σ : Sg) (H : AH) (a : Act) (w : World), ARun P N ops l K σ H → G N Γ σ H a w → wpList P ops Q l a w
  | [], σ, H, a, w, h, g => hK σ H a w h g
  | o :: rest, σ, H, a, w, ⟨hd, b, hb, h1, h2⟩, g => by
    obtain ⟨n, i, c, g1, g2, g3, g4, g5⟩ := id g
    have hw := wantB_spec g5 hb
    simp only [wpList]
    rw [hw]
    cases b with
    | true =>
      obtain ⟨R, hE, hR⟩ := h1 rfl
      simp only [if_true]
      exact .inl (hE.wp g hd fun v H' a' w' hr g' => ARun.sound hK rest _ _ _ _ (hR v H' hr) g')
    | false =>
      simp only [Bool.false_eq_true, if_false]
      exact ARun.sound hK rest _ _ _ _ (h2 rfl) (g.put hd)

/-! ### statements -/
def AWp (P : Program) (N : Nat) (Γ : Ctx) (c : Code) (Q : Exit → Sg → AH → Prop) (σ : Sg) (H : AH) : Prop :=
  ∀ a w, G N Γ σ H a w → c.wp P (fun e a' w' => ∃ σ' H', G N Γ σ' H' a' w' ∧ Q e σ' H') a w

def AThen (next : Sg → AH → Prop) (Q : Exit → Sg → AH → Prop) : Exit → Sg → AH → Prop
  | .normal, σ, H => next σ H
  | e, σ, H => Q e σ H
def ABlock (id : Nat) (Q : Exit → Sg → AH → Prop) : Exit → Sg → AH → Prop
  | .exit id', σ, H => if id' = id then Q .normal σ H else Q (.exit id') σ H
  | e, σ, H => Q e σ H

section rules
variable {P : Program} {N : Nat} {Γ : Ctx} {Q : Exit → Sg → AH → Prop} {σ : Sg} {H : AH}

theorem AWp.mono {c : Code} {Q' : Exit → Sg → AH → Prop} (h : AWp P N Γ c Q σ H) (hq : ∀ e σ H, Q e σ H → Q' e σ H) : AWp P N Γ c Q' σ H :=
  fun a w g => wp_mono (h a w g) fun e a w ⟨σ', H', g', q⟩ => ⟨σ', H', g', hq _ _ _ q⟩
theorem awp_skip (h : Q .normal σ H) : AWp P N Γ .skip Q σ H := fun a w g => wp_skip ⟨σ, H, g, h⟩
theorem awp_ret (h : Q .ret σ H) : AWp P N Γ .ret Q σ H := fun a w g => wp_ret ⟨σ, H, g, h⟩
theorem awp_exit {id : Nat} (h : Q (.exit id) σ H) : AWp P N Γ (.exit id) Q σ H := fun a w g => wp_exit ⟨σ, H, g, h⟩
theorem awp_label {l : Nat} (h : Q .normal σ H) : AWp P N Γ (.label l) Q σ H := fun a w g => wp_label ⟨σ, H, g, h⟩
theorem awp_goto {l : Nat} (h : Q (.goto l) σ H) : AWp P N Γ (.goto l) Q σ H := fun a w g => wp_goto ⟨σ, H, g, h⟩
theorem awp_seq {x y : Code} (h : AWp P N Γ x (AThen (AWp P N Γ y Q) Q) σ H) : AWp P N Γ (.seq x y) Q σ H := by
  intro a w g
  refine wp_seq (wp_mono (h a w g) ?_)
  rintro e a' w' ⟨σ', H', g', q⟩
  cases e with
  | normal => exact q a' w' g'
  | _ => exact ⟨σ', H', g', q⟩
theorem awp_block {id : Nat} {c : Code} (h : AWp P N Γ c (ABlock id Q) σ H) : AWp P N Γ (.block id c) Q σ H := by
  intro a w g
  refine wp_block (wp_mono (h a w g) ?_)
  rintro e a' w' ⟨σ', H', g', q⟩
  cases e with
  | exit id' =>
    simp only [Exit.inBlock, ABlock] at q ⊢
    split
    · rename_i he; simp only [he, if_true] at q; exact ⟨σ', H', g', q⟩
    · rename_i he; simp only [he, if_false] at q; exact ⟨σ', H', g', q⟩
  | _ => exact ⟨σ', H', g', q⟩
theorem awp_cond {c : Operand} {x y : Code} {b : Bool} (hc : σ.ev c = .sc (.bool b)) (ht : b = true → AWp P N Γ x Q σ H) (hf : b = false → AWp P N Γ y Q σ H) : AWp P N Γ (.cond c x y) Q σ H := by
  intro a w g
  obtain ⟨n, i, cc, g1, g2, g3, g4, g5⟩ := id g
  have h := ev_rel g5 c
  rw [hc] at h
  have h' : a.eval c = .bool b := by
    generalize a.eval c = z at h
    cases h
    rfl
  refine wp_cond_split h' (fun hb => ht hb a w g) (fun hb => hf hb a w g)
theorem awp_region {id : Nat} {l : List Oper} (h : ARun P N l.toArray l (Q .normal) σ H) : AWp P N Γ (.region id l.toArray false) Q σ H := by
  intro a w g
  refine wp_region_lit (ARun.sound (K := Q .normal) ?_ l σ H a w h g)
  intro σ H a w q g
  exact ⟨σ, H, g, q⟩

/-- a loop: a relation with a number that every round lowers -/
theorem awp_loop {c : Code} (I : Nat → Sg → AH → Prop) (m : Nat) (h0 : I m σ H) (round : ∀ m σ H, I m σ H → AWp P N Γ c (AThen (fun σ' H' => ∃ m', m' < m ∧ I m' σ' H') Q) σ H) : AWp P N Γ (.loop c) Q σ H := by
  intro a w g b k cs
  have key : ∀ m σ H a w, I m σ H → G N Γ σ H a w →
      ∃ e a' w', (∃ σ' H', G N Γ σ' H' a' w' ∧ Q e σ' H') ∧ Arrives P (lone (b.at a (.code c :: .inLoop c :: k)) cs w) b k cs e a' w' := by
    intro m
    induction m using Nat.strongRecOn with
    | _ m ih =>
      intro σ H a w hI g
      obtain ⟨e, a₁, w₁, hq, harr⟩ := round m σ H hI a w g b (.inLoop c :: k) cs
      cases e with
      | normal =>
        obtain ⟨σ', H', g', m', hlt, hI'⟩ := hq
        obtain ⟨e₂, a₂, w₂, hq₂, harr₂⟩ := ih m' hlt σ' H' a₁ w₁ hI' g'
        exact ⟨e₂, a₂, w₂, hq₂, .of_steps (Steps.trans harr (.one step_inLoop)) harr₂⟩
      | exit id => exact ⟨_, a₁, w₁, hq, .pass (x := .inLoop c) rfl (fun _ _ => .inl (by simp)) harr⟩
      | goto l => exact ⟨_, a₁, w₁, hq, .pass (x := .inLoop c) rfl (fun _ _ => .inl (by simp)) harr⟩
      | ret => exact ⟨_, a₁, w₁, hq, .pass (x := .inLoop c) rfl (fun _ _ => .inl (by simp)) harr⟩
      | panic ch => exact ⟨_, a₁, w₁, hq, .pass (x := .inLoop c) rfl (fun _ _ => .inl (by simp)) harr⟩
      | outgrown => exact ⟨_, a₁, w₁, hq, .pass (x := .inLoop c) rfl (fun _ _ => .inl (by simp)) harr⟩
  obtain ⟨e, a', w', hq, harr⟩ := key m σ H a w h0 g
  exact ⟨e, a', w', hq, .of_steps (.one step_loop) harr⟩

/-- a ghost step: the state read otherwise -/
theorem awp_ghost {c : Code} {σ' : Sg} {H' : AH} (hg : ∀ a w, G N Γ σ H a w → G N Γ σ' H' a w) (h : AWp P N Γ c Q σ' H') : AWp P N Γ c Q σ H := fun a w g => h a w (hg a w g)
theorem awp_ghost_ex {c : Code} {T : Type} {σ' : T → Sg} {H' : T → AH} {p : T → Prop} (hg : ∀ a w, G N Γ σ H a w → ∃ x, p x ∧ G N Γ (σ' x) (H' x) a w) (h : ∀ x, p x → AWp P N Γ c Q (σ' x) (H' x)) : AWp P N Γ c Q σ H :=
  fun a w g => let ⟨x, hp, g'⟩ := hg a w g; h x hp a w g'
end rules
end Go.Abs
