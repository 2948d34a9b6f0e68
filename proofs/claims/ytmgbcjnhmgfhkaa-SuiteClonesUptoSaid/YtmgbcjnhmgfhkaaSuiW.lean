/-
  The walks of the suite layer: two ideal suites beside one another; the law of clones: its walk.
  Conditions: none. Lemmas only.
-/
import Derived.Test.YtmgbcjnhmgfhkaaSuiU
set_option linter.all false
set_option linter.unusedSimpArgs false
set_option linter.unusedVariables false
set_option maxRecDepth 8000
set_option maxHeartbeats 4000000
namespace Go.Proofs.Ytmgbcjnhmgfhkaa
open Go Go.Abs Go.Proofs

theorem IsI.mono {H H' : AH} {h m k d : Nat} {ts : List Term} (g : IsI H h m k d ts) (hs : Abs.Sub H H') : IsI H' h m k d ts := by
  obtain ⟨k0, hi, hm, o, h1, h2⟩ := g
  exact ⟨k0, hs _ _ hi, hs _ _ hm, o, hs _ _ h1, h2⟩
/-- two ideal suites, apart from one another and from what is live in Z -/
def Duo (Z H : AH) (h m d : Nat) (ts : List Term) (h2 m2 d2 : Nat) (ts2 : List Term) : Prop := ∃ Z1, SS Z1 H h m d ts ∧ SS Z Z1 h2 m2 d2 ts2
section
variable {Z H : AH} {h m d : Nat} {ts : List Term} {h2 m2 d2 : Nat} {ts2 : List Term}
theorem Duo.sub (p : Duo Z H h m d ts h2 m2 d2 ts2) : Abs.Sub Z H := by
  obtain ⟨Z1, s, s2⟩ := p
  exact s2.sub.trans s.sub
theorem Duo.swap (p : Duo Z H h m d ts h2 m2 d2 ts2) : Duo Z H h2 m2 d2 ts2 h m d ts := by
  obtain ⟨Z1, ⟨k, g, n1, n2, n3, hs⟩, ⟨k2, g2, q1, q2, q3, hs2⟩⟩ := p
  obtain ⟨o2, ho2, -⟩ := g2.ht
  have z1 := g2.hi
  have z2 := g2.hm
  have ne : ∀ x, Z1 x = none → ¬ (x = h2 ∨ x = m2 ∨ x = k2) := fun x hx e => by
    rcases e with e | e | e
    · rw [e, z1] at hx; cases hx
    · rw [e, z2] at hx; cases hx
    · rw [e, ho2] at hx; cases hx
  refine ⟨fun x => if x = h2 ∨ x = m2 ∨ x = k2 then none else H x, ⟨k2, g2.mono hs, by simp, by simp, by simp, fun x o hx => ?_⟩, ⟨k, ?_, hs2.free n1, hs2.free n2, hs2.free n3, fun x o hx => ?_⟩⟩
  · simp only [] at hx
    split at hx
    · cases hx
    · exact hx
  · obtain ⟨k0, hi, hm, o, h1, h2⟩ := g
    refine ⟨k0, ?_, ?_, o, ?_, h2⟩
    · simp only [if_neg (ne _ n1)]; exact hi
    · simp only [if_neg (ne _ n2)]; exact hm
    · simp only [if_neg (ne _ n3)]; exact h1
  · have hne : ¬ (x = h2 ∨ x = m2 ∨ x = k2) := fun e => by
      rcases e with e | e | e
      · rw [e, q1] at hx; cases hx
      · rw [e, q2] at hx; cases hx
      · rw [e, q3] at hx; cases hx
    simp only [if_neg hne]
    exact hs _ _ (hs2 _ _ hx)
theorem Duo.box (p : Duo Z H h m d ts h2 m2 d2 ts2) {b : Nat} {o : AObj} (hb : H b = none) : Duo (Z.set b o) (H.set b o) h m d ts h2 m2 d2 ts2 := by
  obtain ⟨Z1, s, s2⟩ := p
  exact ⟨Z1.set b o, s.box hb, s2.box (s.sub.free hb)⟩
theorem Duo.put (p : Duo Z H h m d ts h2 m2 d2 ts2) {b : Nat} {o o' : AObj} (hb : Z b = some o) : Duo (Z.set b o') (H.set b o') h m d ts h2 m2 d2 ts2 := by
  obtain ⟨Z1, s, s2⟩ := p
  exact ⟨Z1.set b o', s.put (s2.sub _ _ hb), s2.put hb⟩
theorem Duo.kill (p : Duo Z H h m d ts h2 m2 d2 ts2) {b : Nat} {o : AObj} (hb : Z b = some o) : Duo (Z.kill b) (H.kill b) h m d ts h2 m2 d2 ts2 := by
  obtain ⟨Z1, s, s2⟩ := p
  exact ⟨Z1.kill b, s.kill (s2.sub _ _ hb), s2.kill hb⟩
theorem Duo.less (p : Duo Z H h m d ts h2 m2 d2 ts2) {Z' : AH} (hs : Abs.Sub Z' Z) : Duo Z' H h m d ts h2 m2 d2 ts2 := by
  obtain ⟨Z1, s, s2⟩ := p
  exact ⟨Z1, s, s2.less hs⟩
end
theorem frz_tup4 {H H0 : AH} {a b c e a' b' c' e' : AV} (h1 : Frz H H0 a a') (h2 : Frz H H0 b b') (h3 : Frz H H0 c c') (h4 : Frz H H0 e e') : Frz H H0 (.tup [a, b, c, e]) (.tup [a', b', c', e']) := by
  intro C u hc w hs hv
  cases hv with
  | tup _ vs hsz hv =>
    refine .tup _ vs (by simpa using hsz) fun j hj => ?_
    match j, hj with
    | 0, _ => exact h1 C _ hc w hs (hv 0 (by simp))
    | 1, _ => exact h2 C _ hc w hs (hv 1 (by simp))
    | 2, _ => exact h3 C _ hc w hs (hv 2 (by simp))
    | 3, _ => exact h4 C _ hc w hs (hv 3 (by simp))
/-- a question's outcome: both answers are alike -/
def TellQ (h m d N B : Nat) (X : Nat → List Term → AH → Prop) (v : AV) (H' : AH) : Prop :=
  ∃ ts' d' w, v = .tup [vaultV ts' d', bytesV w, bytesV w, .sc (.bool true)] ∧ X d' ts' H' ∧ GB (N + 1) (B + 64) ts' ∧ d' ≤ d + 1 ∧ w.length ≤ B + 64
theorem asked_tell (H0 H : AH) (h m d N B : Nat) (ts : List Term) (k : AskT) (l : List (List UInt8)) (hl : l.length ≤ 1000000) (hN : N ≤ 1000000) (hB : B ≤ 100000000) (hB0 : 32 ≤ B)
    (hra : k.a.raw.length ≤ B) (hrb : k.b.raw.length ≤ B) (hrc : k.c.raw.length ≤ B) (hls : ∀ x ∈ l, x.length ≤ B)
    (hka : -9223372036854775808 ≤ k.a.from_ ∧ k.a.from_ < 9223372036854775808) (hkb : -9223372036854775808 ≤ k.b.from_ ∧ k.b.from_ < 9223372036854775808) (hkc : -9223372036854775808 ≤ k.c.from_ ∧ k.c.from_ < 9223372036854775808)
    (hkn : k.n < 9223372036854775808)
    (g : GB N B ts) (hd : d ≤ 1000000) (s : SS H0 H h m d ts) : ACalls Try.prog 17 [.ptr h 0, vaultV ts d, .agg (askC k), rowsV l] H (TellQ h m d N B fun d' ts' H' => SS H0 H' h m d' ts') := by
  refine (asked_live H0 H h m d N B ts k l hl hN hB hB0 hra hrb hrc hls hka hkb hkc hkn g hd s).freeze ?_
  rintro v H' ⟨ts', d', w, ⟨r, rfl, hg⟩, g', hd', hw⟩
  rcases hg with ⟨rfl, rfl, s2⟩ | hg
  · exact ⟨_, H', Abs.Sub.refl _, .same, ts', d', [], rfl, s2, g', hd', hw⟩
  · obtain ⟨v', H2, h1, h2, rfl, s2⟩ := hg.tell
    exact ⟨_, H2, h1, frz_tup4 .same h2 .same .same, ts', d', w, rfl, s2, g', hd', hw⟩
theorem TellQ.mono {h m d N B : Nat} {X Y : Nat → List Term → AH → Prop} {v : AV} {H' : AH} (q : TellQ h m d N B X v H') (f : ∀ d' ts' H', X d' ts' H' → Y d' ts' H') : TellQ h m d N B Y v H' := by
  obtain ⟨ts', d', w, h1, h2, h3⟩ := q
  exact ⟨ts', d', w, h1, f _ _ _ h2, h3⟩
theorem asked_duo (Z H : AH) (h m d N B : Nat) (ts : List Term) (h2 m2 d2 : Nat) (ts2 : List Term) (k : AskT) (l : List (List UInt8)) (hl : l.length ≤ 1000000) (hN : N ≤ 1000000) (hB : B ≤ 100000000) (hB0 : 32 ≤ B)
    (hra : k.a.raw.length ≤ B) (hrb : k.b.raw.length ≤ B) (hrc : k.c.raw.length ≤ B) (hls : ∀ x ∈ l, x.length ≤ B)
    (hka : -9223372036854775808 ≤ k.a.from_ ∧ k.a.from_ < 9223372036854775808) (hkb : -9223372036854775808 ≤ k.b.from_ ∧ k.b.from_ < 9223372036854775808) (hkc : -9223372036854775808 ≤ k.c.from_ ∧ k.c.from_ < 9223372036854775808)
    (hkn : k.n < 9223372036854775808)
    (g : GB N B ts) (hd : d ≤ 1000000) (s : Duo Z H h m d ts h2 m2 d2 ts2) : ACalls Try.prog 17 [.ptr h 0, vaultV ts d, .agg (askC k), rowsV l] H (TellQ h m d N B fun d' ts' H' => Duo Z H' h m d' ts' h2 m2 d2 ts2) := by
  obtain ⟨Z1, s1, s2⟩ := s
  exact (asked_tell Z1 H h m d N B ts k l hl hN hB hB0 hra hrb hrc hls hka hkb hkc hkn g hd s1).mono fun v H' q => q.mono fun d' ts' H' s => ⟨Z1, s, s2⟩
end Go.Proofs.Ytmgbcjnhmgfhkaa
