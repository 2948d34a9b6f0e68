/-
  The walks of the suite layer: any question to both.
  Conditions: none. Lemmas only.
-/
import Derived.Test.YtmgbcjnhmgfhkaaSuiTb
set_option linter.all false
set_option linter.unusedSimpArgs false
set_option linter.unusedVariables false
set_option maxRecDepth 8000
namespace Go.Proofs.Ytmgbcjnhmgfhkaa
open Go Go.Abs Go.Proofs

/-- few terms, of short parts -/
structure GB (N B : Nat) (ts : List Term) : Prop where
  gt : GT N ts
  short : ∀ x ∈ ts, ∀ p ∈ x.parts, p.length ≤ B
theorem GB.nil {N B : Nat} : GB N B [] := ⟨.nil, fun _ h => by cases h⟩
theorem GB.mono {N B N' B' : Nat} {ts : List Term} (g : GB N B ts) (h : N ≤ N') (h' : B ≤ B') : GB N' B' ts := ⟨g.gt.mono h, fun x hx p hp => Nat.le_trans (g.short x hx p hp) h'⟩
theorem GB.num {N B : Nat} {ts : List Term} (g : GB N B ts) {t : Term} (ht : wfT t) (hp : t.kind = 112 → (partT t 0).length ≤ 1000000) (hq : ∀ p ∈ t.parts, p.length ≤ B) : GB (N + 1) B (numT ts t).1 := by
  refine ⟨g.gt.num ht hp, ?_⟩
  unfold numT
  split
  · exact g.short
  · intro x hx
    rcases List.mem_append.1 hx with h | h
    · exact g.short x h
    · rw [List.mem_singleton.1 h]; exact hq
theorem partT_le {B : Nat} {t : Term} (h : ∀ p ∈ t.parts, p.length ≤ B) (j : Nat) : (partT t j).length ≤ B := by
  unfold partT
  rw [List.getD_eq_getElem?_getD]
  cases hg : t.parts[j]? with
  | none => simp
  | some p => exact h p (List.mem_of_getElem? hg)
theorem sizeT_leB {B : Nat} {t : Term} (h : ∀ p ∈ t.parts, p.length ≤ B) : sizeT t ≤ B + 64 := by
  have := partT_le h 3
  unfold partT at this
  unfold sizeT
  split
  · omega
  · split <;> omega
theorem of_le {B : Nat} {p : PartT} {l : List (List UInt8)} (hr : p.raw.length ≤ B) (hl : ∀ x ∈ l, x.length ≤ B) : (p.of l).length ≤ B := by
  unfold PartT.of
  split
  · rw [List.getD_eq_getElem?_getD]
    cases hg : l[p.from_.toNat - 1]? with
    | none => simp
    | some q => exact hl q (List.mem_of_getElem? hg)
  · exact hr
/-- a question's outcome, whatever it is -/
def AnyR (H0 : AH) (h m d N B : Nat) (v : AV) (H' : AH) : Prop :=
  ∃ ts' d' w, AskedR H0 h m d' ts' w v H' ∧ GB (N + 1) (B + 64) ts' ∧ d' ≤ d + 1 ∧ w.length ≤ B + 64
theorem AnyR.none {H0 H' : AH} {h m d N B : Nat} {ts : List Term} {v : AV} (g : GB N B ts) (r : AskedR H0 h m d ts [] v H') : AnyR H0 h m d N B v H' :=
  ⟨ts, d, [], r, g.mono (by omega) (by omega), by omega, by simp⟩
theorem AnyR.new {H0 H' : AH} {h m d d' N B : Nat} {ts : List Term} {t : Term} {v : AV} (g : GB N B ts) (ht : wfT t) (hp : t.kind = 112 → (partT t 0).length ≤ 1000000) (hq : ∀ p ∈ t.parts, p.length ≤ B) (hd : d' ≤ d + 1)
    (r : AskedR H0 h m d' (numT ts t).1 (nameT t (numT ts t).2) v H') : AnyR H0 h m d N B v H' :=
  ⟨_, d', _, r, (g.num ht hp hq).mono (Nat.le_refl _) (by omega), hd, by rw [nameT_length]; exact sizeT_leB hq⟩

theorem asked_live (H0 H : AH) (h m d N B : Nat) (ts : List Term) (k : AskT) (l : List (List UInt8)) (hl : l.length ≤ 1000000) (hN : N ≤ 1000000) (hB : B ≤ 100000000) (hB0 : 32 ≤ B)
    (hra : k.a.raw.length ≤ B) (hrb : k.b.raw.length ≤ B) (hrc : k.c.raw.length ≤ B) (hls : ∀ x ∈ l, x.length ≤ B)
    (hka : -9223372036854775808 ≤ k.a.from_ ∧ k.a.from_ < 9223372036854775808) (hkb : -9223372036854775808 ≤ k.b.from_ ∧ k.b.from_ < 9223372036854775808) (hkc : -9223372036854775808 ≤ k.c.from_ ∧ k.c.from_ < 9223372036854775808)
    (hkn : k.n < 9223372036854775808)
    (g : GB N B ts) (hd : d ≤ 1000000) (s : SS H0 H h m d ts) : ACalls Try.prog 17 [.ptr h 0, vaultV ts d, .agg (askC k), rowsV l] H (AnyR H0 h m d N B) := by
  have ea : k.a.of l = k.a.of l := rfl
  have eb : k.b.of l = k.b.of l := rfl
  have ec : k.c.of l = k.c.of l := rfl
  have la := of_le hra hls
  have lb := of_le hrb hls
  have lc := of_le hrc hls
  have hg := g.gt.mono hN
  generalize ha : k.a.of l = a at *
  generalize hb : k.b.of l = b at *
  generalize hc : k.c.of l = c at *
  have la' : a.length ≤ 100000000 := by omega
  have lb' : b.length ≤ 100000000 := by omega
  have lc' : c.length ≤ 100000000 := by omega
  by_cases k0 : k.kind = 0
  · refine (asked_draw H0 H h m d ts k l a b c hl ha hb hc la' lb' lc' hka hkb hkc hg hd s k0).mono fun v H' r => AnyR.new g ⟨⟨fun h => absurd h (by simp), by simp, by simp [lowL_length]⟩, by simp, by simp, by simp⟩ (by simp) ?_ (by omega) r
    intro p hp
    simp only [List.mem_singleton] at hp
    subst hp
    rw [lowL_length]; omega
  by_cases k1 : k.kind = 1
  · refine (asked_hash H0 H h m d ts k l a b c hl ha hb hc la' lb' lc' hka hkb hkc hg hd s k1).mono fun v H' r => AnyR.new g ⟨⟨fun h => absurd h (by simp), by simp, by simp; omega⟩, by simp, by simp, by simp⟩ (by simp) ?_ (by omega) r
    intro p hp
    simp only [List.mem_singleton] at hp
    subst hp
    exact la
  by_cases k2 : k.kind = 2
  · by_cases h32 : a.length = 32
    · refine (asked_public_yes H0 H h m d ts k l a b c hl ha hb hc la' lb' lc' hka hkb hkc hg hd s k2 h32).mono fun v H' r => AnyR.new g ⟨⟨fun h => absurd h (by simp), by simp, by simp; omega⟩, by simp, by simp, by simp⟩ (fun _ => by simp [partT]; omega) ?_ (by omega) r
      intro p hp
      simp only [List.mem_singleton] at hp
      subst hp
      exact la
    · exact (asked_public_no H0 H h m d ts k l a b c hl ha hb hc la' lb' lc' hka hkb hkc hg hd s k2 h32).mono fun v H' r => AnyR.none g r
  by_cases k3 : k.kind = 3
  · by_cases h32 : a.length = 32
    · cases hf : (findT ts b 112).2 with
      | false => exact (asked_shared_miss H0 H h m d ts k l a b c hl ha hb hc la' lb' lc' hka hkb hkc hg hd s k3 h32 hf).mono fun v H' r => AnyR.none g r
      | true =>
        have hm := findT_mem hf
        have hq := partT_le (g.short _ hm.1) 0
        have hpl := g.gt.pub _ hm.1 hm.2
        refine (asked_shared_hit H0 H h m d ts k l a b c hl ha hb hc la' lb' lc' hka hkb hkc hg hd s k3 h32 hf).mono fun v H' r => AnyR.new g ?_ (fun e => absurd e (by simp [shT])) ?_ (by omega) r
        · generalize partT (findT ts b 112).1 0 = Q at *
          unfold shT
          split
          · exact ⟨⟨fun h => absurd h (by simp), by simp, by simp; omega⟩, by simp, by simp, by simp⟩
          · exact ⟨⟨fun h => absurd h (by simp), by simp, by simp; omega⟩, by simp, by simp, by simp⟩
        · generalize partT (findT ts b 112).1 0 = Q at *
          intro p hp
          unfold shT at hp
          split at hp
          · rcases List.mem_cons.1 hp with h | h
            · rw [h]; exact hq
            · rw [List.mem_singleton.1 h]; exact la
          · rcases List.mem_cons.1 hp with h | h
            · rw [h]; exact la
            · rw [List.mem_singleton.1 h]; exact hq
    · exact (asked_shared_arg H0 H h m d ts k l a b c hl ha hb hc la' lb' lc' hka hkb hkc hg hd s k3 h32).mono fun v H' r => AnyR.none g r
  by_cases k4 : k.kind = 4
  · by_cases h32 : a.length = 32
    · refine (asked_derive_yes H0 H h m d ts k l a b c hl ha hb hc la' lb' lc' hka hkb hkc hg hd s k4 h32).mono fun v H' r => AnyR.new g ⟨⟨fun h => absurd h (by simp), by simp, by simp; omega⟩, by simp, by simp, by simp⟩ (by simp) ?_ (by omega) r
      intro p hp
      rcases List.mem_cons.1 hp with h | h
      · rw [h]; exact la
      · rw [List.mem_singleton.1 h]; exact lb
    · exact (asked_derive_no H0 H h m d ts k l a b c hl ha hb hc la' lb' lc' hka hkb hkc hg hd s k4 h32).mono fun v H' r => AnyR.none g r
  by_cases k5 : k.kind = 5
  · by_cases h32 : a.length = 32
    · refine (asked_signer_yes H0 H h m d ts k l a b c hl ha hb hc la' lb' lc' hka hkb hkc hg hd s k5 h32).mono fun v H' r => AnyR.new g ⟨⟨fun h => absurd h (by simp), by simp, by simp; omega⟩, by simp, by simp, by simp⟩ (by simp) ?_ (by omega) r
      intro p hp
      simp only [List.mem_singleton] at hp
      subst hp
      exact la
    · exact (asked_signer_no H0 H h m d ts k l a b c hl ha hb hc la' lb' lc' hka hkb hkc hg hd s k5 h32).mono fun v H' r => AnyR.none g r
  by_cases k6 : k.kind = 6
  · by_cases h32 : a.length = 32
    · refine (asked_sign_yes H0 H h m d ts k l a b c hl ha hb hc la' lb' lc' hka hkb hkc hg hd s k6 h32).mono fun v H' r => AnyR.new g ⟨⟨fun h => absurd h (by simp), by simp, by simp; omega⟩, by simp, by simp, by simp⟩ (by simp) ?_ (by omega) r
      intro p hp
      rcases List.mem_cons.1 hp with h | h
      · rw [h]; exact la
      · rw [List.mem_singleton.1 h]; exact lb
    · exact (asked_sign_no H0 H h m d ts k l a b c hl ha hb hc la' lb' lc' hka hkb hkc hg hd s k6 h32).mono fun v H' r => AnyR.none g r
  by_cases k7 : k.kind = 7
  · exact (asked_verify H0 H h m d ts k l a b c hl ha hb hc la' lb' lc' hka hkb hkc hg hd s k7).mono fun v H' r => AnyR.none g r
  by_cases k8 : k.kind = 8
  · by_cases hn : k.n < 0
    · exact (asked_seal_neg H0 H h m d ts k l a b c hl ha hb hc la' lb' lc' hka hkb hkc hg hd s k8 hn).mono fun v H' r => AnyR.none g r
    · obtain ⟨q, hq⟩ : ∃ q : Nat, k.n = q := ⟨k.n.toNat, by omega⟩
      have hq9 : q < 9223372036854775808 := by omega
      by_cases h32 : a.length = 32
      · refine (asked_seal_yes H0 H h m d ts k l a b c hl ha hb hc la' lb' lc' hka hkb hkc hg hd s k8 q hq hq9 h32).mono fun v H' r => AnyR.new g ⟨⟨fun _ => by simp, by simp, by simp [lowL_length]; omega⟩, by simp, by simp, by simp⟩ (by simp) ?_ (by omega) r
        intro p hp
        rcases List.mem_cons.1 hp with h | h
        · rw [h]; exact la
        rcases List.mem_cons.1 h with h | h
        · rw [h, lowL_length]; omega
        rcases List.mem_cons.1 h with h | h
        · rw [h]; exact lb
        · rw [List.mem_singleton.1 h]; exact lc
      · exact (asked_seal_no H0 H h m d ts k l a b c hl ha hb hc la' lb' lc' hka hkb hkc hg hd s k8 q hq hq9 h32).mono fun v H' r => AnyR.none g r
  by_cases k9 : k.kind = 9
  · by_cases hno : a.length ≠ 32 ∨ k.n < 0
    · exact (asked_open_arg H0 H h m d ts k l a b c hl ha hb hc la' lb' lc' hka hkb hkc hg hd s k9 hno).mono fun v H' r => AnyR.none g r
    · have h32 : a.length = 32 := by omega
      obtain ⟨q, hq⟩ : ∃ q : Nat, k.n = q := ⟨k.n.toNat, by omega⟩
      have hq9 : q < 9223372036854775808 := by omega
      cases ho : opT ts a q b c with
      | false => exact (asked_open_miss H0 H h m d ts k l a b c hl ha hb hc la' lb' lc' hka hkb hkc hg hd s k9 q hq hq9 h32 ho).mono fun v H' r => AnyR.none g r
      | true =>
        have hf : (findT ts c 98).2 = true := by
          unfold opT at ho
          simp only [Bool.and_eq_true] at ho
          exact ho.1.1.1
        have hq := partT_le (g.short _ (findT_mem hf).1) 3
        exact (asked_open_hit H0 H h m d ts k l a b c hl ha hb hc la' lb' lc' hka hkb hkc hg hd s k9 q (by assumption) hq9 h32 ho).mono fun v H' r => ⟨_, _, _, r, g.mono (by omega) (by omega), by omega, by omega⟩
  · exact (asked_other H0 H h m d ts k l a b c hl ha hb hc la' lb' lc' hka hkb hkc hg hd s ⟨k0, k1, k2, k3, k4, k5, k6, k7, k8, k9⟩).mono fun v H' r => AnyR.none g r
end Go.Proofs.Ytmgbcjnhmgfhkaa
