/-
  Bytes and terms as abstract values: what more than one seat's walks want.
  Conditions: none. Lemmas only.
-/
import Derived.Test.YtpmmafmbjconiaaAbsRun
set_option linter.all false
namespace Go.Abs
open Go Go.RowKit

/-- a number's bytes, the lowest first -/
def lowL : Nat → Nat → List UInt8
  | 0, _ => []
  | k + 1, n => UInt8.ofNat n :: lowL k (n / 256)
theorem lowL_length (k n : Nat) : (lowL k n).length = k := by
  induction k generalizing n with
  | zero => rfl
  | succ k ih => simp [lowL, ih]
theorem lowL_get (k n i : Nat) (h : i < k) : (lowL k n)[i]? = some (UInt8.ofNat (n / 256 ^ i)) := by
  induction k generalizing n i with
  | zero => omega
  | succ k ih =>
    cases i with
    | zero => simp [lowL]
    | succ i =>
      simp only [lowL, List.getElem?_cons_succ]
      rw [ih _ _ (by omega), Nat.div_div_eq_div_mul, Nat.pow_succ, Nat.mul_comm 256]
theorem lowL_take (k n i : Nat) (h : i < k) : (lowL k n).take (i + 1) = (lowL k n).take i ++ [UInt8.ofNat (n / 256 ^ i)] := by
  rw [List.take_add_one, lowL_get k n i h]; rfl
/-- what bytes are worth, the lowest first -/
def worthL : List UInt8 → Nat
  | [] => 0
  | b :: r => b.toNat + 256 * worthL r
theorem worthL_lt (l : List UInt8) : worthL l < 256 ^ l.length := by
  induction l with
  | nil => simp [worthL]
  | cons b r ih =>
    have := b.toNat_lt
    simp only [worthL, List.length_cons, Nat.pow_succ]
    omega
theorem worthL_snoc (l : List UInt8) (b : UInt8) : worthL (l ++ [b]) = worthL l + 256 ^ l.length * b.toNat := by
  induction l with
  | nil => simp [worthL]
  | cons c r ih => simp only [List.cons_append, worthL, ih, List.length_cons, Nat.pow_succ]; rw [Nat.mul_add, Nat.mul_comm (256 ^ r.length) 256, Nat.mul_assoc]; omega
theorem or_add (a b i : Nat) (h : a < 256 ^ i) : a ||| b * 2 ^ (8 * i) = a + 256 ^ i * b := by
  have e : (256 : Nat) ^ i = 2 ^ (8 * i) := by rw [show (256 : Nat) = 2 ^ 8 from rfl, ← Nat.pow_mul]
  rw [e] at h ⊢
  rw [Nat.or_comm, Nat.mul_comm b, ← Nat.two_pow_add_eq_or_of_lt h b]; omega
theorem worthL_low (s n : Nat) : worthL (lowL s n) = n % 256 ^ s := by
  induction s generalizing n with
  | zero => simp [lowL, worthL, Nat.mod_one]
  | succ s ih =>
    simp only [lowL, worthL, ih, UInt8.toNat_ofNat']
    have e : 256 ^ (s + 1) = 256 * 256 ^ s := by rw [Nat.pow_succ, Nat.mul_comm]
    rw [e, Nat.mod_mul]
theorem lowL_worth (l : List UInt8) : lowL l.length (worthL l) = l := by
  induction l with
  | nil => rfl
  | cons b r ih =>
    simp only [List.length_cons, lowL, worthL]
    have h1 : (b.toNat + 256 * worthL r) / 256 = worthL r := by have := b.toNat_lt; omega
    have h2 : UInt8.ofNat (b.toNat + 256 * worthL r) = b := by
      apply UInt8.toNat_inj.1
      have := b.toNat_lt
      rw [UInt8.toNat_ofNat']; omega
    rw [h1, h2, ih]
theorem lowL_inj {k n m : Nat} (hn : n < 256 ^ k) (hm : m < 256 ^ k) (h : lowL k n = lowL k m) : n = m := by
  have := congrArg worthL h
  rw [worthL_low, worthL_low, Nat.mod_eq_of_lt hn, Nat.mod_eq_of_lt hm] at this
  exact this

/-- lists of bytes -/
abbrev rowsV (ls : List (List UInt8)) : AV := .imm 0 (ls.map bytesV) ls.length
theorem getR {ls : List (List UInt8)} {i : Nat} (h : i < ls.length) : (ls.map bytesV)[i]? = some (.imm 0 (encB ls[i]) ls[i].length) := by simp [h]
theorem repA_bytes (n : Nat) : repA [.sc (.int .u8 0)] n = encB (List.replicate n 0) := by
  induction n with
  | zero => rfl
  | succ n ih =>
    show .sc (.int .u8 0) :: repA [.sc (.int .u8 0)] n = _
    rw [ih, List.replicate_succ]; rfl
theorem put_bytes {l : List UInt8} {i : Nat} {b : UInt8} (h : i < l.length) : putCells (encB l) i [.sc (.int .u8 b.toNat)] = encB (l.set i b) := by
  rw [putCells_eq, encB_drop, encB_take]
  have e : ([.sc (.int .u8 b.toNat)] : List AV) = encB [b] := rfl
  rw [e, encB_append, encB_append, List.set_eq_take_append_cons_drop, if_pos h]
  rfl

/-- a kind and its parts -/
structure Term where
  kind : UInt8
  parts : List (List UInt8)
deriving DecidableEq
def Term.cells (t : Term) : List AV := [.sc (.int .u8 t.kind.toNat), rowsV t.parts]
def termsC (ts : List Term) : List AV := ts.flatMap Term.cells
theorem termsC_length (ts : List Term) : (termsC ts).length = ts.length * 2 := by
  induction ts with
  | nil => rfl
  | cons t r ih => simp only [termsC, List.flatMap_cons, List.length_append, List.length_cons] at *; rw [ih]; simp [Term.cells]; omega
theorem termsC_drop {ts : List Term} {i : Nat} (h : i < ts.length) : (termsC ts).drop (i * 2) = ts[i].cells ++ termsC (ts.drop (i + 1)) := by
  induction ts generalizing i with
  | nil => simp at h
  | cons t r ih =>
    cases i with
    | zero => simp [termsC]
    | succ i =>
      have e : (i + 1) * 2 = (i * 2) + 1 + 1 := by omega
      have e1 : termsC (t :: r) = .sc (.int .u8 t.kind.toNat) :: rowsV t.parts :: termsC r := rfl
      rw [e, e1, List.drop_succ_cons, List.drop_succ_cons, ih (by simpa using h)]
      rfl
theorem termsC_load {ts : List Term} {i : Nat} (h : i < ts.length) : ((termsC ts).drop (i * 2)).take 2 = [.sc (.int .u8 ts[i].kind.toNat), .imm 0 (ts[i].parts.map bytesV) ts[i].parts.length] := by
  rw [termsC_drop h]; rfl
theorem termsC_0 {ts : List Term} {i : Nat} (h : i < ts.length) : (termsC ts)[i * 2]? = some (.sc (.int .u8 ts[i].kind.toNat)) := by
  have := congrArg (·[0]?) (termsC_drop h)
  simpa [Term.cells] using this
theorem termsC_1 {ts : List Term} {i : Nat} (h : i < ts.length) : (termsC ts)[i * 2 + 1]? = some (.imm 0 (ts[i].parts.map bytesV) ts[i].parts.length) := by
  have := congrArg (·[1]?) (termsC_drop h)
  simpa [Term.cells] using this
theorem termsC_snoc (ts : List Term) (t : Term) : termsC ts ++ [.sc (.int .u8 t.kind.toNat), .imm 0 (t.parts.map bytesV) t.parts.length] = termsC (ts ++ [t]) := by simp [termsC, Term.cells]
abbrev termV (t : Term) : AV := .agg [.sc (.int .u8 t.kind.toNat), .imm 0 (t.parts.map bytesV) t.parts.length]
/-! ### boxes of the call's own -/
theorem kill_box {H : AH} {k : Nat} {o : AObj} (h : H k = none) : (H.set k o).kill k = H := by
  funext j
  simp only [AH.set, AH.kill]
  split
  · rename_i e; rw [e, h]
  · rfl
theorem Sub.box {H : AH} {k : Nat} {o : AObj} (h : H k = none) : Abs.Sub H ((H.set k o).kill k) := by rw [kill_box h]; exact Abs.Sub.refl _
/-! ### a call's answer, read otherwise -/
def Frz (H H0 : AH) (a b : AV) : Prop := ∀ (C : Ctx) (u : Value), C.H = H → WR C → Abs.Sub H0 H → VR C a u → VR { C with H := H0 } b u
theorem Frz.same {H H0 : AH} {a : AV} : Frz H H0 a a := fun C u h _ hs hv => hv.ext (Ext.weaken (C := C) H0 (by rw [h]; exact hs))
theorem Frz.strip {H H0 : AH} {a : AV} : Frz H H0 a a.strip := fun C u h _ hs hv => (hv.ext (Ext.weaken (C := C) H0 (by rw [h]; exact hs))).strip
theorem Frz.own {H H0 : AH} {k n : Nat} {cs : List AV} {e s : Nat} (hk : H k = some (.cells cs e s)) (h0 : H0 k = none) (hn : n * s ≤ cs.length) : Frz H H0 (.own k 0 n) (.imm 0 (cs.take (n * s)) n) := by
  intro C u h g hs hv
  subst h
  have := frz_sound g hs hv (fun hh off m cs' e' s' e1 e2 => by cases e1; rw [hk] at e2; cases e2; omega)
  have e5 : frz C.H H0 (.own k 0 n) = .imm 0 (cs.take (n * s)) n := by simp [frz, h0, hk]
  rw [e5] at this
  exact this
theorem Frz.tup2 {H H0 : AH} {a b a' b' : AV} (h : Frz H H0 a a') (g : Frz H H0 b b') : Frz H H0 (.tup [a, b]) (.tup [a', b']) := by
  intro C u hc w hs hv
  cases hv with
  | tup _ vs hsz hv =>
    refine .tup _ vs (by simpa using hsz) fun j hj => ?_
    match j, hj with
    | 0, _ => exact h C _ hc w hs (hv 0 (by simp))
    | 1, _ => exact g C _ hc w hs (hv 1 (by simp))
theorem ACalls.freeze {P : Program} {f : FuncId} {args : List AV} {H : AH} {R R' : AV → AH → Prop} (h : ACalls P f args H R) (hr : ∀ v H', R v H' → ∃ v' H0, Abs.Sub H0 H' ∧ Frz H' H0 v v' ∧ R' v' H0) : ACalls P f args H R' := by
  intro n i c w vs g hx
  refine (h n i c w vs g hx).mono ?_
  rintro u w' ⟨v, H', n', i', c', h2, h3, h4, h5⟩
  obtain ⟨v', H0, g1, g2, g3⟩ := hr v H' h2
  exact ⟨v', H0, n', i', c', g3, h3.weaken H0 g1, h4.trans (Ext.weaken (C := ⟨H', n', i', c', w'⟩) H0 g1), g2 ⟨H', n', i', c', w'⟩ u rfl h3 g1 h5⟩
/-- a row of bytes of the call's own -/
def OwnB (l : List UInt8) (H : AH) (v : AV) (H' : AH) : Prop := ∃ k, k ≠ 0 ∧ H k = none ∧ v = .own k 0 l.length ∧ H' = H.set k (.cells (encB l) 5 1)
theorem OwnB.pure {P : Program} {f : FuncId} {args : List AV} {l : List UInt8} (h : ∀ H, ACalls P f args H (OwnB l H)) : APure P f args (bytesV l) := fun H => (h H).freeze (by
  rintro v H' ⟨k, hk0, hk, rfl, rfl⟩
  refine ⟨_, H, Abs.Sub.set_new hk, Frz.own set_get hk (by rw [encB_length]; omega), ?_, rfl⟩
  rw [List.take_of_length_le (by rw [encB_length]; omega)])
end Go.Abs
