/-
  The walks of the suite layer: the law that is asked of texts that are apart: what is told.
  Conditions: none. Lemmas only.
-/
import Derived.Test.YtmgbcjnhmgfhkaaSuiP
set_option linter.all false
set_option linter.unusedSimpArgs false
set_option linter.unusedVariables false
set_option maxRecDepth 4000
namespace Go.Proofs.Ytmgbcjnhmgfhkaa
open Go Go.Abs Go.Proofs

theorem nameT_inj {x y : Term} {n m : Nat} (hn : n < 18446744073709551616) (hm : m < 18446744073709551616) (h : nameT x n = nameT y m) : n = m := by
  rw [← name_num (x := x) hn, h, name_num hm]
theorem findT_spec {ts : List Term} {b : List UInt8} {kd : UInt8} (h : (findT ts b kd).2 = true) : ∃ i, ∃ hi : i < ts.length, ts[i].kind = kd ∧ b = nameT ts[i] (i + 1) ∧ (findT ts b kd).1 = ts[i] := by
  unfold findT at h ⊢
  split at h
  · cases h
  · rename_i h1
    rw [if_neg h1]
    split at h
    · cases h
    · rename_i h2
      rw [if_neg h2]
      have hj : numB b - 1 < ts.length := by omega
      have hg : ts.getD (numB b - 1) ⟨0, []⟩ = ts[numB b - 1] := by simp [List.getD, hj]
      simp only [hg, decide_eq_true_eq] at h ⊢
      exact ⟨_, hj, h.1, by rw [show numB b - 1 + 1 = numB b by omega]; exact h.2, rfl⟩
theorem apart1 (a b : List UInt8) (ha : a.length ≤ 100000000) (hb : b.length ≤ 100000000) : ∃ (L1 L2 : List Term) (NA NB : List UInt8), GT 1 L1 ∧ GT 2 L2 ∧ (∀ x ∈ L2, x.kind = 104) ∧
    (numT [] ⟨104, [a]⟩).1 = L1 ∧ nameT ⟨104, [a]⟩ (numT [] ⟨104, [a]⟩).2 = NA ∧ (numT L1 ⟨104, [b]⟩).1 = L2 ∧ nameT ⟨104, [b]⟩ (numT L1 ⟨104, [b]⟩).2 = NB ∧ (NA == NB) = (a == b) ∧ okT ⟨104, [a]⟩ ∧ okT ⟨104, [b]⟩ := by
  have wa : wfT ⟨104, [a]⟩ := wfT_of (by simp) (by simp) (by simp; omega)
  have wb : wfT ⟨104, [b]⟩ := wfT_of (by simp) (by simp) (by simp; omega)
  have z1 : numT [] ⟨104, [a]⟩ = ([⟨104, [a]⟩], 1) := numT_new (by simp)
  have g1 := (GT.nil (N := 0)).num wa (fun h => absurd h (by simp))
  have g2 := g1.num wb (fun h => absurd h (by simp))
  have k2 : ∀ x ∈ (numT (numT [] ⟨104, [a]⟩).1 ⟨104, [b]⟩).1, x.kind = 104 := by
    rw [z1]
    unfold numT
    split
    · simp
    · simp
  refine ⟨_, _, _, _, g1, g2, k2, rfl, rfl, rfl, rfl, ?_, wa.1, wb.1⟩
  rw [z1]
  by_cases hab : a = b
  · subst hab
    have z2 : numT [⟨104, [a]⟩] ⟨104, [a]⟩ = ([⟨104, [a]⟩], 1) := by simp [numT]
    rw [z2]
    simp
  · have z2 : numT [⟨104, [a]⟩] ⟨104, [b]⟩ = ([⟨104, [a]⟩, ⟨104, [b]⟩], 2) := numT_new (by simp; exact fun h => hab h.symm)
    rw [z2]
    have h1 : (a == b) = false := by simpa using hab
    rw [h1]
    simp only [beq_eq_false_iff_ne, ne_eq]
    intro h
    have := nameT_inj (by omega) (by omega) h
    omega
theorem apart2 (a b s x : List UInt8) (n : Nat) (L2 : List Term) (g2 : GT 2 L2) (hk : ∀ x ∈ L2, x.kind = 104) (ha : a.length ≤ 100000000) (hx : x.length ≤ 100000000) (hs : s.length = 32) :
    ∃ (L3 L4 L5 : List Term) (box sig key : List UInt8), GT 3 L3 ∧ GT 4 L4 ∧ GT 5 L5 ∧ (numT L2 ⟨98, [s, lowL 8 n, a, x]⟩).1 = L3 ∧ nameT ⟨98, [s, lowL 8 n, a, x]⟩ (numT L2 ⟨98, [s, lowL 8 n, a, x]⟩).2 = box ∧
      (numT L3 ⟨103, [s, a]⟩).1 = L4 ∧ nameT ⟨103, [s, a]⟩ (numT L3 ⟨103, [s, a]⟩).2 = sig ∧ (numT L4 ⟨118, [s]⟩).1 = L5 ∧ nameT ⟨118, [s]⟩ (numT L4 ⟨118, [s]⟩).2 = key ∧
      okT ⟨98, [s, lowL 8 n, a, x]⟩ ∧ okT ⟨103, [s, a]⟩ ∧ okT ⟨118, [s]⟩ ∧ box.length ≤ 140737488355328 ∧ sig.length ≤ 140737488355328 ∧ key.length ≤ 140737488355328 ∧
      opT L5 s n b box = (a == b) ∧ (opT L5 s n a x = true → (x == box) = true) ∧ verT L5 key b sig = (a == b) ∧ (verT L5 key a x = true → (x == sig) = true) := by
  have wS : wfT ⟨98, [s, lowL 8 n, a, x]⟩ := ⟨⟨fun _ => by simp, by simp, by simp [lowL_length]; omega⟩, fun h => absurd h (by simp), fun h => absurd h (by simp), fun h => absurd h (by simp)⟩
  have wG : wfT ⟨103, [s, a]⟩ := ⟨⟨fun h => absurd h (by simp), by simp, by simp; omega⟩, fun h => by simp, fun h => absurd h (by simp), fun h => absurd h (by simp)⟩
  have wV : wfT ⟨118, [s]⟩ := ⟨⟨fun h => absurd h (by simp), by simp, by simp; omega⟩, fun h => absurd h (by simp), fun h => by simp, fun h => absurd h (by simp)⟩
  generalize hS : (⟨98, [s, lowL 8 n, a, x]⟩ : Term) = S at *
  generalize hG : (⟨103, [s, a]⟩ : Term) = G at *
  generalize hV : (⟨118, [s]⟩ : Term) = V at *
  have kS : S.kind = 98 := by rw [← hS]
  have kG : G.kind = 103 := by rw [← hG]
  have kV : V.kind = 118 := by rw [← hV]
  have z1 : numT L2 S = (L2 ++ [S], L2.length + 1) := numT_new fun h => by have := hk _ h; rw [kS] at this; exact absurd this (by decide)
  have z2 : numT (L2 ++ [S]) G = (L2 ++ [S] ++ [G], L2.length + 1 + 1) := by
    rw [numT_new fun h => ?_]
    · simp
    · rcases List.mem_append.1 h with h | h
      · have := hk _ h; rw [kG] at this; exact absurd this (by decide)
      · rw [List.mem_singleton.1 h] at kG; rw [kS] at kG; exact absurd kG (by decide)
  have z3 : numT (L2 ++ [S] ++ [G]) V = (L2 ++ [S] ++ [G] ++ [V], L2.length + 1 + 1 + 1) := by
    rw [numT_new fun h => ?_]
    · simp
    · rcases List.mem_append.1 h with h | h
      · rcases List.mem_append.1 h with h | h
        · have := hk _ h; rw [kV] at this; exact absurd this (by decide)
        · rw [List.mem_singleton.1 h] at kV; rw [kS] at kV; exact absurd kV (by decide)
      · rw [List.mem_singleton.1 h] at kV; rw [kG] at kV; exact absurd kV (by decide)
  have g3 := g2.num wS (fun h => by rw [kS] at h; exact absurd h (by decide))
  have g4 := g3.num wG (fun h => by rw [kG] at h; exact absurd h (by decide))
  have g5 := g4.num wV (fun h => by rw [kV] at h; exact absurd h (by decide))
  rw [z1] at g3 g4 g5
  simp only [z2] at g4 g5
  simp only [z3] at g5
  have hl2 := g2.len
  have hL5 : (L2 ++ [S] ++ [G] ++ [V]).length ≤ 1000000 := by simp; omega
  have i1 : L2.length < (L2 ++ [S] ++ [G] ++ [V]).length := by simp
  have i2 : L2.length + 1 < (L2 ++ [S] ++ [G] ++ [V]).length := by simp
  have i3 : L2.length + 1 + 1 < (L2 ++ [S] ++ [G] ++ [V]).length := by simp
  have e1 : (L2 ++ [S] ++ [G] ++ [V])[L2.length] = S := by simp
  have e2 : (L2 ++ [S] ++ [G] ++ [V])[L2.length + 1] = G := by simp
  have e3 : (L2 ++ [S] ++ [G] ++ [V])[L2.length + 1 + 1] = V := by rw [List.getElem_append_right (by simp)]; simp
  have only : ∀ i (hi : i < (L2 ++ [S] ++ [G] ++ [V]).length), ((L2 ++ [S] ++ [G] ++ [V])[i].kind = 98 → i = L2.length) ∧ ((L2 ++ [S] ++ [G] ++ [V])[i].kind = 103 → i = L2.length + 1) := by
    intro i hi
    rcases Nat.lt_or_ge i L2.length with h | h
    · have : (L2 ++ [S] ++ [G] ++ [V])[i] = L2[i] := by simp [List.append_assoc, h]
      rw [this]
      have := hk _ (List.getElem_mem h)
      rw [this]
      exact ⟨fun h => absurd h (by decide), fun h => absurd h (by decide)⟩
    · rcases Nat.lt_or_ge i (L2.length + 1) with h | h
      · obtain rfl : i = L2.length := by omega
        rw [e1, kS]; exact ⟨fun _ => rfl, fun h => absurd h (by decide)⟩
      · rcases Nat.lt_or_ge i (L2.length + 1 + 1) with h | h
        · obtain rfl : i = L2.length + 1 := by omega
          rw [e2, kG]; exact ⟨fun h => absurd h (by decide), fun _ => rfl⟩
        · obtain rfl : i = L2.length + 1 + 1 := by simp at hi; omega
          rw [e3, kV]; exact ⟨fun h => absurd h (by decide), fun h => absurd h (by decide)⟩
  refine ⟨L2 ++ [S], L2 ++ [S] ++ [G], L2 ++ [S] ++ [G] ++ [V], nameT S (L2.length + 1), nameT G (L2.length + 1 + 1), nameT V (L2.length + 1 + 1 + 1), g3, g4, g5, by rw [z1], by rw [z1], by rw [z2], by rw [z2], by rw [z3], by rw [z3], wS.1, wG.1, wV.1, ?_, ?_, ?_, ?_, ?_, ?_, ?_⟩
  · rw [nameT_length]; have := sizeT_le wS.1; omega
  · rw [nameT_length]; have := sizeT_le wG.1; omega
  · rw [nameT_length]; have := sizeT_le wV.1; omega
  · have := findT_hit (b := nameT S (L2.length + 1)) (kd := 98) i1 hL5 (by rw [e1]; exact kS) (by rw [e1])
    rw [e1] at this
    simp only [opT, this]
    rw [← hS]
    simp [partT]
  · intro h
    simp only [opT, Bool.and_eq_true] at h
    obtain ⟨i, hi, h1, h2, -⟩ := findT_spec h.1.1.1
    obtain rfl := (only i hi).1 h1
    rw [e1] at h2
    simp [h2]
  · have h1 := findT_hit (b := nameT G (L2.length + 1 + 1)) (kd := 103) i2 hL5 (by rw [e2]; exact kG) (by rw [e2])
    have h2 := findT_hit (b := nameT V (L2.length + 1 + 1 + 1)) (kd := 118) i3 hL5 (by rw [e3]; exact kV) (by rw [e3])
    rw [e2] at h1
    rw [e3] at h2
    simp only [verT, h1, h2]
    rw [← hG, ← hV]
    simp [partT]
  · intro h
    simp only [verT, Bool.and_eq_true] at h
    obtain ⟨i, hi, h1, h2, -⟩ := findT_spec h.1.1.1
    obtain rfl := (only i hi).2 h1
    rw [e2] at h2
    simp [h2]
end Go.Proofs.Ytmgbcjnhmgfhkaa
