/-
  Several texts in one: each says what it proves.
  Conditions: none. Lemmas only.
-/
import Derived.Test.YtejncnmdjkhiaaaDoorAbsG1
set_option linter.all false
section
namespace Go.Sha
def rotM (w x n : Nat) : Nat := x / 2 ^ n + x % 2 ^ n * 2 ^ (w - n)
theorem rot_zero (w x : Nat) : rotM w x 0 = x := by simp [rotM,Nat.mod_one]
theorem rot_lt {w x n : Nat} (hx : x < 2 ^ w) (hn : n ≤ w) : rotM w x n < 2 ^ w := by
  unfold rotM
  have e : 2 ^ w = 2 ^ n * 2 ^ (w - n) := by rw [← Nat.pow_add]; congr 1; omega
  have h1 : x / 2 ^ n < 2 ^ (w - n) := by
    rw [e] at hx
    exact Nat.div_lt_of_lt_mul hx
  have h2 : x % 2 ^ n + 1 ≤ 2 ^ n := Nat.mod_lt _ (Nat.two_pow_pos n)
  have h3 := Nat.mul_le_mul_right (2 ^ (w - n)) h2
  rw [Nat.add_mul,Nat.one_mul] at h3
  omega
theorem rot_step {w x n : Nat} (hx : x < 2 ^ w) (hn : n < w) : rotM w x n / 2 + rotM w x n % 2 * 2 ^ (w - 1) = rotM w x (n + 1) := by
  unfold rotM
  obtain ⟨k,hk⟩ : ∃ k,w = n + 1 + k := ⟨w - (n + 1),by omega⟩
  subst hk
  rw [show n + 1 + k - n = k + 1 by omega,show n + 1 + k - (n + 1) = k by omega,show n + 1 + k - 1 = n + k by omega]
  have e1 : (x / 2 ^ n + x % 2 ^ n * 2 ^ (k + 1)) / 2 = x / 2 ^ (n + 1) + x % 2 ^ n * 2 ^ k := by
    rw [Nat.pow_succ 2 k,← Nat.mul_assoc,Nat.add_mul_div_right _ _ (by decide),Nat.div_div_eq_div_mul,← Nat.pow_succ]
  have e2 : (x / 2 ^ n + x % 2 ^ n * 2 ^ (k + 1)) % 2 = x / 2 ^ n % 2 := by
    rw [Nat.pow_succ 2 k,← Nat.mul_assoc,Nat.add_mul_mod_self_right]
  have e3 : x % 2 ^ (n + 1) = x % 2 ^ n + 2 ^ n * (x / 2 ^ n % 2) := by
    rw [Nat.pow_succ,Nat.mod_mul]
  rw [e1,e2,e3,Nat.add_mul,Nat.add_assoc]
  congr 2
  rw [Nat.pow_add,← Nat.mul_assoc,Nat.mul_comm (x / 2 ^ n % 2)]
theorem rot_or {w x n : Nat} (hx : x < 2 ^ w) (hn : n ≤ w) : (x / 2 ^ n) ||| (x * 2 ^ (w - n) % 2 ^ w) = rotM w x n := by
  have e : 2 ^ w = 2 ^ n * 2 ^ (w - n) := by rw [← Nat.pow_add]; congr 1; omega
  have h1 : x / 2 ^ n < 2 ^ (w - n) := by
    rw [e] at hx
    exact Nat.div_lt_of_lt_mul hx
  rw [e,Nat.mul_mod_mul_right,Nat.or_comm,Nat.mul_comm (x % 2 ^ n),← Nat.two_pow_add_eq_or_of_lt h1]
  unfold rotM
  rw [Nat.add_comm,Nat.mul_comm]
theorem xor_lt {w a b : Nat} (ha : a < 2 ^ w) (hb : b < 2 ^ w) : a ^^^ b < 2 ^ w := Nat.xor_lt_two_pow ha hb
def turM (w x a b c : Nat) : Nat := rotM w x a ^^^ rotM w x b ^^^ rotM w x c
def shfM (w x a b c : Nat) : Nat := rotM w x a ^^^ rotM w x b ^^^ x / 2 ^ c
theorem tur_lt {w x a b c : Nat} (hx : x < 2 ^ w) (ha : a ≤ w) (hb : b ≤ w) (hc : c ≤ w) : turM w x a b c < 2 ^ w := xor_lt (xor_lt (rot_lt hx ha) (rot_lt hx hb)) (rot_lt hx hc)
theorem shf_lt {w x a b c : Nat} (hx : x < 2 ^ w) (ha : a ≤ w) (hb : b ≤ w) : shfM w x a b c < 2 ^ w := xor_lt (xor_lt (rot_lt hx ha) (rot_lt hx hb)) (Nat.lt_of_le_of_lt (Nat.div_le_self _ _) hx)
end Go.Sha
end
section
namespace Go.Sha
def valL : List Nat → Nat
  | [] => 0
  | x :: l => x + 65536 * valL l
def mulK (ai : Nat) (b : List Nat) (i : Nat) : Nat → List Nat × Nat → List Nat × Nat
  | 0,s => s
  | k + 1,s => ((mulK ai b i k s).1.set (i + k) (((mulK ai b i k s).1.getD (i + k) 0 + ai * b.getD k 0 + (mulK ai b i k s).2) % 65536),((mulK ai b i k s).1.getD (i + k) 0 + ai * b.getD k 0 + (mulK ai b i k s).2) / 65536)
def mulI (a b : List Nat) : Nat → List Nat
  | 0 => List.replicate (a.length + b.length) 0
  | i + 1 => (mulK (a.getD i 0) b i b.length (mulI a b i,0)).1.set (i + b.length) (mulK (a.getD i 0) b i b.length (mulI a b i,0)).2
def mulM (a b : List Nat) : List Nat := mulI a b a.length
def mostM (d : List Nat) (p n : Nat) : Bool :=
  if (d.drop (n + 1)).any (fun x => decide (0 < x)) then true
  else if d.length ≤ n ∨ d.getD n 0 < p then false
  else if p < d.getD n 0 then true
  else (d.take n).any (fun x => decide (0 < x))
def powM (d : List Nat) (power : Nat) : List Nat := if power = 3 then mulM (mulM d d) d else mulM d d
def bitM (p power i : Nat) : Nat → List Nat → List Nat
  | 0,d => d
  | s + 1,d => bitM p power i s (if mostM (powM (d.set i (d.getD i 0 + 2 ^ s)) power) p (4 * power) then d else d.set i (d.getD i 0 + 2 ^ s))
def iZ (p power : Nat) : Nat → List Nat → List Nat
  | 0,d => d
  | i + 1,d => iZ p power i (bitM p power i 16 d)
abbrev Dig (l : List Nat) : Prop := ∀ x ∈ l,x < 65536
theorem dig_getD {l : List Nat} (h : Dig l) (i : Nat) : l.getD i 0 < 65536 := by
  by_cases hi : i < l.length
  · simp only [List.getD,List.getElem?_eq_getElem hi,Option.getD_some]
    exact h _ (List.getElem_mem hi)
  · simp [List.getD,List.getElem?_eq_none (by omega : l.length ≤ i)]
theorem dig_set {l : List Nat} (h : Dig l) (i : Nat) {y : Nat} (hy : y < 65536) : Dig (l.set i y) := fun x hx => by
  rcases List.mem_or_eq_of_mem_set hx with hx | rfl
  · exact h x hx
  · exact hy
theorem val_set : ∀ {l : List Nat} {i : Nat} (y : Nat),i < l.length → valL (l.set i y) + l.getD i 0 * 65536 ^ i = valL l + y * 65536 ^ i
  | [],i,y,h => by simp at h
  | x :: l,0,y,h => by simp [valL]; omega
  | x :: l,i + 1,y,h => by
    have ih := val_set (l := l) (i := i) y (by simpa using h)
    simp only [List.set_cons_succ,valL,List.getD_cons_succ]
    have e1 : l.getD i 0 * 65536 ^ (i + 1) = 65536 * (l.getD i 0 * 65536 ^ i) := by rw [Nat.pow_succ,Nat.mul_comm 65536,Nat.mul_assoc]
    have e2 : y * 65536 ^ (i + 1) = 65536 * (y * 65536 ^ i) := by rw [Nat.pow_succ,Nat.mul_comm 65536,Nat.mul_assoc]
    rw [e1,e2]
    omega
theorem val_snoc : ∀ {l : List Nat} {i : Nat},i < l.length → valL (l.take (i + 1)) = valL (l.take i) + l.getD i 0 * 65536 ^ i
  | [],i,h => by simp at h
  | x :: l,0,h => by simp [valL]
  | x :: l,i + 1,h => by
    have ih := val_snoc (l := l) (i := i) (by simpa using h)
    simp only [List.take_succ_cons,valL,List.getD_cons_succ]
    have e1 : l.getD i 0 * 65536 ^ (i + 1) = 65536 * (l.getD i 0 * 65536 ^ i) := by rw [Nat.pow_succ,Nat.mul_comm 65536,Nat.mul_assoc]
    rw [ih,e1,Nat.mul_add,Nat.add_assoc]
theorem val_rep (n : Nat) : valL (List.replicate n 0) = 0 := by
  induction n with
  | zero => rfl
  | succ n ih => rw [List.replicate_succ,valL,ih]
theorem getD_set_ne {l : List Nat} {i j y : Nat} (h : i ≠ j) : (l.set i y).getD j 0 = l.getD j 0 := by
  simp only [List.getD,List.getElem?_set_ne h]
theorem mulK_spec {ai : Nat} {b : List Nat} {i : Nat} (ha : ai < 65536) (hb : Dig b) : ∀ (k : Nat) {o : List Nat}, Dig o → k ≤ b.length → i + b.length ≤ o.length →
    Dig (mulK ai b i k (o,0)).1 ∧ (mulK ai b i k (o,0)).2 < 65536 ∧ (mulK ai b i k (o,0)).1.length = o.length ∧ (∀ j,i + k ≤ j → (mulK ai b i k (o,0)).1.getD j 0 = o.getD j 0) ∧
      valL (mulK ai b i k (o,0)).1 + (mulK ai b i k (o,0)).2 * 65536 ^ (i + k) = valL o + ai * valL (b.take k) * 65536 ^ i
  | 0,o,ho,_,_ => ⟨ho,by show (0 : Nat) < _; omega,rfl,fun _ _ => rfl,by show valL o + 0 * _ = _; simp [valL]⟩
  | k + 1,o,ho,hk,hl => by
    obtain ⟨h1,h2,h3,h4,h5⟩ := mulK_spec ha hb k ho (by omega) hl
    have hg := dig_getD h1 (i + k)
    have hbk := dig_getD hb k
    have hp : ai * b.getD k 0 ≤ 65535 * 65535 := Nat.mul_le_mul (by omega) (by omega)
    have hi : i + k < (mulK ai b i k (o,0)).1.length := by omega
    have hs := val_snoc (l := b) (i := k) (by omega)
    unfold mulK
    generalize mulK ai b i k (o,0) = S at *
    obtain ⟨q,c⟩ := S
    simp only [] at *
    have hv := val_set (l := q) (i := i + k) ((q.getD (i + k) 0 + ai * b.getD k 0 + c) % 65536) hi
    have hdm := Nat.div_add_mod (q.getD (i + k) 0 + ai * b.getD k 0 + c) 65536
    generalize hT : q.getD (i + k) 0 + ai * b.getD k 0 + c = t at *
    refine ⟨dig_set h1 _ (Nat.mod_lt _ (by decide)),by omega,by rw [List.length_set]; exact h3,fun j hj => by rw [getD_set_ne (by omega)]; exact h4 j (by omega),?_⟩
    have e1 : t / 65536 * 65536 ^ (i + (k + 1)) = 65536 * (t / 65536) * 65536 ^ (i + k) := by
      rw [← Nat.add_assoc,Nat.pow_succ,Nat.mul_comm (65536 ^ (i + k)),← Nat.mul_assoc,Nat.mul_comm (t / 65536)]
    have e2 : ai * (b.getD k 0 * 65536 ^ k) * 65536 ^ i = ai * b.getD k 0 * 65536 ^ (i + k) := by
      rw [Nat.pow_add,Nat.mul_comm (65536 ^ i),← Nat.mul_assoc,← Nat.mul_assoc]
    rw [e1,hs,Nat.mul_add,Nat.add_mul,e2]
    have hM : t % 65536 * 65536 ^ (i + k) + 65536 * (t / 65536) * 65536 ^ (i + k) = q.getD (i + k) 0 * 65536 ^ (i + k) + ai * b.getD k 0 * 65536 ^ (i + k) + c * 65536 ^ (i + k) := by
      rw [← Nat.add_mul,← Nat.add_mul,← Nat.add_mul,hT]
      congr 1
      omega
    omega
theorem mulI_spec {a b : List Nat} (ha : Dig a) (hb : Dig b) : ∀ i,i ≤ a.length → Dig (mulI a b i) ∧ (mulI a b i).length = a.length + b.length ∧ (∀ j,i + b.length ≤ j → (mulI a b i).getD j 0 = 0) ∧ valL (mulI a b i) = valL (a.take i) * valL b
  | 0,_ => by
    refine ⟨fun x hx => ?_,List.length_replicate,fun j _ => ?_,?_⟩
    · have : x = 0 := List.eq_of_mem_replicate hx
      omega
    · show (List.replicate _ 0).getD j 0 = 0
      simp only [List.getD,List.getElem?_replicate]
      split <;> rfl
    · show valL (List.replicate _ 0) = _
      rw [val_rep]; simp [valL]
  | i + 1,hi => by
    obtain ⟨h1,h2,h3,h4⟩ := mulI_spec ha hb i (by omega)
    obtain ⟨k1,k2,k3,k4,k5⟩ := mulK_spec (i := i) (dig_getD ha i) hb b.length h1 (Nat.le_refl _) (by omega)
    have hs := val_snoc (l := a) (i := i) (by omega)
    unfold mulI
    generalize mulK (a.getD i 0) b i b.length (mulI a b i,0) = S at *
    obtain ⟨q,c⟩ := S
    simp only [] at *
    have hz := k4 (i + b.length) (Nat.le_refl _)
    rw [h3 _ (Nat.le_refl _)] at hz
    have hv := val_set (l := q) (i := i + b.length) c (by omega)
    rw [hz] at hv
    refine ⟨dig_set k1 _ k2,by rw [List.length_set]; omega,fun j hj => by rw [getD_set_ne (by omega),k4 j (by omega)]; exact h3 j (by omega),?_⟩
    rw [List.take_length] at k5
    rw [hs,Nat.add_mul]
    have e : a.getD i 0 * 65536 ^ i * valL b = a.getD i 0 * valL b * 65536 ^ i := by rw [Nat.mul_assoc,Nat.mul_comm (65536 ^ i),← Nat.mul_assoc]
    rw [e]
    omega
theorem mulM_spec {a b : List Nat} (ha : Dig a) (hb : Dig b) : Dig (mulM a b) ∧ (mulM a b).length = a.length + b.length ∧ valL (mulM a b) = valL a * valL b := by
  obtain ⟨h1,h2,h3,h4⟩ := mulI_spec ha hb a.length (Nat.le_refl _)
  rw [List.take_length] at h4
  exact ⟨h1,h2,h4⟩
theorem val_lt : ∀ {l : List Nat},Dig l → valL l < 65536 ^ l.length
  | [],_ => by simp [valL]
  | x :: l,h => by
    have h1 := val_lt (l := l) fun y hy => h y (List.mem_cons_of_mem _ hy)
    have h2 := h x List.mem_cons_self
    rw [List.length_cons,Nat.pow_succ,valL]
    omega
theorem val_pos : ∀ {l : List Nat},(l.any fun x => decide (0 < x)) = decide (0 < valL l)
  | [] => rfl
  | x :: l => by
    rw [List.any_cons,val_pos (l := l),valL,Bool.eq_iff_iff,Bool.or_eq_true,decide_eq_true_eq,decide_eq_true_eq,decide_eq_true_eq]
    omega
theorem val_split : ∀ (l : List Nat) (n : Nat),valL l = valL (l.take n) + 65536 ^ n * valL (l.drop n)
  | [],n => by simp [valL]
  | x :: l,0 => by simp [valL]
  | x :: l,n + 1 => by
    have ih := val_split l n
    rw [List.take_succ_cons,List.drop_succ_cons,valL,valL,Nat.pow_succ,Nat.mul_comm (65536 ^ n),Nat.mul_assoc]
    omega
theorem mostM_spec {d : List Nat} {p n : Nat} (hd : Dig d) (hp : 1 ≤ p) (hp2 : p < 65536) : mostM d p n = decide (p * 65536 ^ n < valL d) := by
  unfold mostM
  by_cases hl : d.length ≤ n
  · have hv := val_lt hd
    have hm : 65536 ^ d.length ≤ 65536 ^ n := Nat.pow_le_pow_right (by decide) hl
    have hd0 : d.drop (n + 1) = [] := List.drop_eq_nil_of_le (by omega)
    rw [hd0,if_neg (by simp),if_pos (.inl hl)]
    have : ¬ p * 65536 ^ n < valL d := by
      have := Nat.mul_le_mul_right (65536 ^ n) hp
      omega
    rw [decide_eq_false this]
  · have hn : n < d.length := by omega
    have hs := val_split d (n + 1)
    have hs1 := val_snoc hn
    have hlt := val_lt (l := d.take n) fun x hx => hd x (List.mem_of_mem_take hx)
    rw [List.length_take,Nat.min_eq_left (by omega)] at hlt
    have hdn := dig_getD hd n
    rw [val_pos,val_pos]
    generalize valL (d.drop (n + 1)) = hi at *
    generalize valL (d.take n) = lo at *
    generalize d.getD n 0 = x at *
    have hP : 0 < 65536 ^ n := Nat.pow_pos (by decide)
    rw [hs1,Nat.pow_succ] at hs
    generalize 65536 ^ n = B at *
    by_cases h0 : 0 < hi
    · rw [if_pos (by simpa using h0)]
      have : p * B < valL d := by
        have h1 : B * 65536 * 1 ≤ B * 65536 * hi := Nat.mul_le_mul_left _ h0
        have h2 : p * B < 65536 * B := Nat.mul_lt_mul_of_pos_right hp2 hP
        rw [Nat.mul_comm 65536 B] at h2
        omega
      rw [decide_eq_true this]
    · have hi0 : hi = 0 := by omega
      subst hi0
      rw [if_neg (by simp),Nat.mul_zero,Nat.add_zero] at *
      rw [hs]
      by_cases h1 : x < p
      · rw [if_pos (.inr h1)]
        have : ¬ p * B < lo + x * B := by
          have : (x + 1) * B ≤ p * B := Nat.mul_le_mul_right _ h1
          rw [Nat.add_mul,Nat.one_mul] at this
          omega
        rw [decide_eq_false this]
      · rw [if_neg (by omega)]
        by_cases h2 : p < x
        · rw [if_pos h2]
          have : p * B < lo + x * B := by
            have : (p + 1) * B ≤ x * B := Nat.mul_le_mul_right _ h2
            rw [Nat.add_mul,Nat.one_mul] at this
            omega
          rw [decide_eq_true this]
        · rw [if_neg h2]
          have : p = x := by omega
          subst this
          rw [Bool.eq_iff_iff,decide_eq_true_eq,decide_eq_true_eq]
          omega
def bitN (p power e : Nat) : Nat → Nat → Nat
  | 0,r => r
  | s + 1,r => bitN p power e s (if p * 65536 ^ (4 * power) < (r + 2 ^ s * 65536 ^ e) ^ power then r else r + 2 ^ s * 65536 ^ e)
def ib (p power : Nat) : Nat → Nat → Nat
  | 0,r => r
  | i + 1,r => ib p power i (bitN p power i 16 r)
def rootN (p power : Nat) : Nat := ib p power 5 0 % 2 ^ 64
theorem powM_spec {d : List Nat} {power : Nat} (hd : Dig d) (hp : power = 2 ∨ power = 3) : Dig (powM d power) ∧ valL (powM d power) = valL d ^ power := by
  obtain ⟨h1,h2,h3⟩ := mulM_spec hd hd
  unfold powM
  rcases hp with rfl | rfl
  · rw [if_neg (by decide)]
    exact ⟨h1,by rw [h3,Nat.pow_two]⟩
  · rw [if_pos rfl]
    obtain ⟨k1,k2,k3⟩ := mulM_spec h1 hd
    exact ⟨k1,by rw [k3,h3,Nat.pow_succ,Nat.pow_two]⟩
theorem bitM_spec {p power i : Nat} (hp : power = 2 ∨ power = 3) (h1 : 1 ≤ p) (h2 : p < 65536) : ∀ (s : Nat) {d : List Nat}, Dig d → i < d.length → d.getD i 0 + 2 ^ s ≤ 65536 →
    Dig (bitM p power i s d) ∧ (bitM p power i s d).length = d.length ∧ valL (bitM p power i s d) = bitN p power i s (valL d) ∧ ∀ j,j ≠ i → (bitM p power i s d).getD j 0 = d.getD j 0
  | 0,d,hd,_,_ => ⟨hd,rfl,rfl,fun _ _ => rfl⟩
  | s + 1,d,hd,hi,hb => by
    rw [Nat.pow_succ] at hb
    have hpos : 0 < 2 ^ s := Nat.pow_pos (by decide)
    have hd' := dig_set hd i (y := d.getD i 0 + 2 ^ s) (by omega)
    obtain ⟨q1,q2⟩ := powM_spec hd' hp
    have hv := val_set (d.getD i 0 + 2 ^ s) hi
    have hv' : valL (d.set i (d.getD i 0 + 2 ^ s)) = valL d + 2 ^ s * 65536 ^ i := by
      rw [Nat.add_mul] at hv
      omega
    have hm := mostM_spec (n := 4 * power) q1 h1 h2
    rw [q2,hv'] at hm
    unfold bitM bitN
    rw [hm]
    by_cases c : p * 65536 ^ (4 * power) < (valL d + 2 ^ s * 65536 ^ i) ^ power
    · rw [decide_eq_true c,if_pos rfl,if_pos c]
      exact bitM_spec hp h1 h2 s hd hi (by omega)
    · rw [decide_eq_false c,if_neg (by simp),if_neg c,← hv']
      have hg : (d.set i (d.getD i 0 + 2 ^ s)).getD i 0 = d.getD i 0 + 2 ^ s := by simp [List.getD,hi]
      obtain ⟨a1,a2,a3,a4⟩ := bitM_spec (i := i) hp h1 h2 s hd' (by rw [List.length_set]; exact hi) (by rw [hg]; omega)
      exact ⟨a1,by rw [a2,List.length_set],a3,fun j hj => by rw [a4 j hj,getD_set_ne (fun e => hj e.symm)]⟩
theorem digM_spec {p power : Nat} (hp : power = 2 ∨ power = 3) (h1 : 1 ≤ p) (h2 : p < 65536) : ∀ (i : Nat) {d : List Nat},Dig d → i ≤ d.length → (∀ j,j < i → d.getD j 0 = 0) → Dig (iZ p power i d) ∧ (iZ p power i d).length = d.length ∧ valL (iZ p power i d) = ib p power i (valL d)
  | 0,d,hd,_,_ => ⟨hd,rfl,rfl⟩
  | i + 1,d,hd,hi,hz => by
    obtain ⟨a1,a2,a3,a4⟩ := bitM_spec (i := i) hp h1 h2 16 hd (by omega) (by rw [hz i (by omega)]; decide)
    unfold iZ ib
    obtain ⟨b1,b2,b3⟩ := digM_spec hp h1 h2 i a1 (by omega) fun j hj => by rw [a4 j (by omega)]; exact hz j (by omega)
    exact ⟨b1,b2.trans a2,by rw [b3,a3]⟩
theorem root_val {d : List Nat} (hd : Dig d) (hl : d.length = 5) : (d.getD 3 0 * 281474976710656 + d.getD 2 0 * 4294967296 + d.getD 1 0 * 65536 + d.getD 0 0) = valL d % 2 ^ 64 := by
  match d,hl with
  | [a,b,c,e,f],_ =>
    have h0 := hd a (by simp)
    have h1 := hd b (by simp)
    have h2 := hd c (by simp)
    have h3 := hd e (by simp)
    simp only [valL,List.getD_cons_zero,List.getD_cons_succ]
    omega
theorem root_spec {p power : Nat} (hp : power = 2 ∨ power = 3) (h1 : 1 ≤ p) (h2 : p < 65536) : ∀ d,d = iZ p power 5 [0,0,0,0,0] → d.getD 3 0 * 281474976710656 + d.getD 2 0 * 4294967296 + d.getD 1 0 * 65536 + d.getD 0 0 = rootN p power := by
  rintro d rfl
  have hz : Dig [0,0,0,0,0] := by intro x hx; simp at hx; omega
  obtain ⟨a1,a2,a3⟩ := digM_spec hp h1 h2 5 hz (by decide) (by intro j hj; match j,hj with | 0,_ => rfl | 1,_ => rfl | 2,_ => rfl | 3,_ => rfl | 4,_ => rfl)
  rw [root_val a1 a2,a3]
  rfl
end Go.Sha
end
section
namespace Go.Sha
def leastM (p : Nat) : List Nat → Nat
  | [] => p
  | q :: l => if p % q = 0 then q else leastM p l
def primM : Nat → List Nat
  | 0 => []
  | k + 1 => if leastM (k + 2) (primM k) = k + 2 then primM k ++ [k + 2] else primM k
def keys256 : List Nat := [0x428a2f98,0x71374491,0xb5c0fbcf,0xe9b5dba5,0x3956c25b,0x59f111f1,0x923f82a4,0xab1c5ed5,
  0xd807aa98,0x12835b01,0x243185be,0x550c7dc3,0x72be5d74,0x80deb1fe,0x9bdc06a7,0xc19bf174,
  0xe49b69c1,0xefbe4786,0x0fc19dc6,0x240ca1cc,0x2de92c6f,0x4a7484aa,0x5cb0a9dc,0x76f988da,
  0x983e5152,0xa831c66d,0xb00327c8,0xbf597fc7,0xc6e00bf3,0xd5a79147,0x06ca6351,0x14292967,
  0x27b70a85,0x2e1b2138,0x4d2c6dfc,0x53380d13,0x650a7354,0x766a0abb,0x81c2c92e,0x92722c85,
  0xa2bfe8a1,0xa81a664b,0xc24b8b70,0xc76c51a3,0xd192e819,0xd6990624,0xf40e3585,0x106aa070,
  0x19a4c116,0x1e376c08,0x2748774c,0x34b0bcb5,0x391c0cb3,0x4ed8aa4a,0x5b9cca4f,0x682e6ff3,
  0x748f82ee,0x78a5636f,0x84c87814,0x8cc70208,0x90befffa,0xa4506ceb,0xbef9a3f7,0xc67178f2]
def first256 : List Nat := [0x6a09e667,0xbb67ae85,0x3c6ef372,0xa54ff53a,0x510e527f,0x9b05688c,0x1f83d9ab,0x5be0cd19]
theorem prim_64 : (primM 310).length = 64 := by decide +kernel
theorem prim_8 : (primM 18).length = 8 := by decide +kernel
theorem keys_eq : (primM 310).map (fun p => rootN p 3 / 4294967296) = keys256 := by decide +kernel
theorem first_eq : (primM 18).map (fun p => rootN p 2 / 4294967296) = first256 := by decide +kernel
theorem prim_le {k j : Nat} (h : k ≤ j) : (primM k).length ≤ (primM j).length := by
  induction j with
  | zero => obtain rfl : k = 0 := by omega
            exact Nat.le_refl _
  | succ j ih =>
    rcases Nat.lt_or_ge j k with hj | hj
    · obtain rfl : k = j + 1 := by omega
      exact Nat.le_refl _
    · refine Nat.le_trans (ih hj) ?_
      rw [primM]
      split
      · rw [List.length_append]; omega
      · exact Nat.le_refl _
theorem prim_lt_64 : (primM 309).length = 63 := by decide +kernel
theorem prim_lt_8 : (primM 17).length = 7 := by decide +kernel
theorem prim_mem : ∀ {k p : Nat},p ∈ primM k → 2 ≤ p ∧ p ≤ k + 1
  | 0,p,h => by simp [primM] at h
  | k + 1,p,h => by
    rw [primM] at h
    split at h
    · rcases List.mem_append.1 h with h | h
      · have := prim_mem h; omega
      · rw [List.mem_singleton.1 h]; omega
    · have := prim_mem h; omega
end Go.Sha
end
section
namespace Go.Sha
def wordM (b : List UInt8) (t : Nat) : Nat := (((b.getD (t * 4) 0).toNat * 256 + (b.getD (t * 4 + 1) 0).toNat) * 256 + (b.getD (t * 4 + 2) 0).toNat) * 256 + (b.getD (t * 4 + 3) 0).toNat
theorem wordM_lt (b : List UInt8) (t : Nat) : wordM b t < 4294967296 := by
  have h0 := (b.getD (t * 4) 0).toNat_lt
  have h1 := (b.getD (t * 4 + 1) 0).toNat_lt
  have h2 := (b.getD (t * 4 + 2) 0).toNat_lt
  have h3 := (b.getD (t * 4 + 3) 0).toNat_lt
  unfold wordM
  omega
def sumM (a b c d : Nat) : Nat := (shfM 32 a 17 19 10 + b + shfM 32 c 7 18 3 + d) % 4294967296
theorem sumM_lt (a b c d : Nat) : sumM a b c d < 4294967296 := Nat.mod_lt _ (by decide)
def nextM (w : List Nat) (t : Nat) : Nat := sumM (w.getD (t - 2) 0) (w.getD (t - 7) 0) (w.getD (t - 15) 0) (w.getD (t - 16) 0)
def wlM (b : List UInt8) : Nat → List Nat
  | 0 => []
  | t + 1 => wlM b t ++ [if t < 16 then wordM b t else nextM (wlM b t) t]
theorem wlM_len (b : List UInt8) : ∀ t,(wlM b t).length = t
  | 0 => rfl
  | t + 1 => by rw [wlM,List.length_append,wlM_len b t]; rfl
theorem wlM_lt (b : List UInt8) : ∀ t,∀ x ∈ wlM b t,x < 4294967296
  | 0,x,h => by simp [wlM] at h
  | t + 1,x,h => by
    rw [wlM] at h
    rcases List.mem_append.1 h with h | h
    · exact wlM_lt b t x h
    · rw [List.mem_singleton.1 h]
      split
      · exact wordM_lt b t
      · exact sumM_lt _ _ _ _
theorem wlM_take (b : List UInt8) : ∀ {t n : Nat},t ≤ n → (wlM b n).take t = wlM b t
  | t, 0, h => by obtain rfl : t = 0 := by omega
                  rfl
  | t,n + 1,h => by
    by_cases e : t = n + 1
    · subst e; rw [List.take_of_length_le (by rw [wlM_len]; exact Nat.le_refl _)]
    · rw [wlM,List.take_append_of_le_length (by rw [wlM_len]; omega)]
      exact wlM_take b (by omega)
def wM (b : List UInt8) (t : Nat) : Nat := (wlM b (t + 1)).getD t 0
theorem wM_get (b : List UInt8) {t n : Nat} (h : t < n) : (wlM b n).getD t 0 = wM b t := by
  unfold wM
  rw [← wlM_take b (show t + 1 ≤ n by omega)]
  simp only [List.getD]
  rw [List.getElem?_take_of_lt (by omega)]
theorem wM_lt (b : List UInt8) (t : Nat) : wM b t < 4294967296 := by
  unfold wM
  have h : t < (wlM b (t + 1)).length := by rw [wlM_len]; omega
  simp only [List.getD,List.getElem?_eq_getElem h,Option.getD_some]
  exact wlM_lt b _ _ (List.getElem_mem h)
theorem wM_first (b : List UInt8) {t : Nat} (h : t < 16) : wM b t = wordM b t := by
  unfold wM
  rw [wlM,if_pos h]
  simp [List.getD,wlM_len]
theorem wM_eq (b : List UInt8) (t : Nat) : wM b t = if t < 16 then wordM b t else nextM (wlM b t) t := by
  unfold wM
  rw [wlM]
  simp [List.getD,wlM_len]
theorem wM_next (b : List UInt8) {t : Nat} (h : 16 ≤ t) : wM b t = sumM (wM b (t - 2)) (wM b (t - 7)) (wM b (t - 15)) (wM b (t - 16)) := by
  have e := wM_eq b t
  have e1 := wM_get b (show t - 2 < t by omega)
  have e2 := wM_get b (show t - 7 < t by omega)
  have e3 := wM_get b (show t - 15 < t by omega)
  have e4 := wM_get b (show t - 16 < t by omega)
  rw [if_neg (by omega)] at e
  rw [← e1,← e2,← e3,← e4]
  exact e
structure St where
  a : Nat
  b : Nat
  c : Nat
  d : Nat
  e : Nat
  f : Nat
  g : Nat
  h : Nat
def chM (e f g : Nat) : Nat := (e &&& f) ^^^ ((4294967295 - e) &&& g)
def maM (a b c : Nat) : Nat := (a &&& b) ^^^ (a &&& c) ^^^ (b &&& c)
def oneM (s : St) (k w : Nat) : Nat := s.h + turM 32 s.e 6 11 25 + chM s.e s.f s.g + k + w
def twoM (s : St) : Nat := turM 32 s.a 2 13 22 + maM s.a s.b s.c
def stepM (s : St) (k w : Nat) : St := ⟨(oneM s k w + twoM s) % 4294967296,s.a,s.b,s.c,(s.d + oneM s k w) % 4294967296,s.e,s.f,s.g⟩
structure OkS (s : St) : Prop where
  a : s.a < 4294967296
  b : s.b < 4294967296
  c : s.c < 4294967296
  d : s.d < 4294967296
  e : s.e < 4294967296
  f : s.f < 4294967296
  g : s.g < 4294967296
  h : s.h < 4294967296
theorem stepM_ok {s : St} (o : OkS s) (k w : Nat) : OkS (stepM s k w) := ⟨Nat.mod_lt _ (by decide),o.a,o.b,o.c,Nat.mod_lt _ (by decide),o.e,o.f,o.g⟩
theorem ch_lt {e f g : Nat} (hf : f < 4294967296) (hg : g < 4294967296) : chM e f g < 4294967296 := by
  have h1 : e &&& f < 2 ^ 32 := Nat.and_lt_two_pow _ (by omega)
  have h2 : (4294967295 - e) &&& g < 2 ^ 32 := Nat.and_lt_two_pow _ (by omega)
  exact Nat.xor_lt_two_pow h1 h2
theorem ma_lt {a b c : Nat} (hb : b < 4294967296) (hc : c < 4294967296) : maM a b c < 4294967296 := by
  have h1 : a &&& b < 2 ^ 32 := Nat.and_lt_two_pow _ (by omega)
  have h2 : a &&& c < 2 ^ 32 := Nat.and_lt_two_pow _ (by omega)
  have h3 : b &&& c < 2 ^ 32 := Nat.and_lt_two_pow _ (by omega)
  exact Nat.xor_lt_two_pow (Nat.xor_lt_two_pow h1 h2) h3
def kM (t : Nat) : Nat := keys256.getD t 0
def roundsM (b : List UInt8) (s : St) : Nat → St
  | 0 => s
  | t + 1 => stepM (roundsM b s t) (kM t) (wM b t)
theorem roundsM_ok (b : List UInt8) {s : St} (o : OkS s) : ∀ t,OkS (roundsM b s t)
  | 0 => o
  | t + 1 => stepM_ok (roundsM_ok b o t) _ _
def addS (v s : St) : St := ⟨(v.a + s.a) % 4294967296,(v.b + s.b) % 4294967296,(v.c + s.c) % 4294967296,(v.d + s.d) % 4294967296,(v.e + s.e) % 4294967296,(v.f + s.f) % 4294967296,(v.g + s.g) % 4294967296,(v.h + s.h) % 4294967296⟩
def blockM (v : St) (b : List UInt8) : St := addS v (roundsM b v 64)
theorem blockM_ok (v : St) (b : List UInt8) : OkS (blockM v b) := ⟨Nat.mod_lt _ (by decide),Nat.mod_lt _ (by decide),Nat.mod_lt _ (by decide),Nat.mod_lt _ (by decide),Nat.mod_lt _ (by decide),Nat.mod_lt _ (by decide),Nat.mod_lt _ (by decide),Nat.mod_lt _ (by decide)⟩
def firstS : St := ⟨0x6a09e667,0xbb67ae85,0x3c6ef372,0xa54ff53a,0x510e527f,0x9b05688c,0x1f83d9ab,0x5be0cd19⟩
def zerosN (n : Nat) : Nat := (119 - n % 64) % 64
def lenB (n : Nat) : List UInt8 := [UInt8.ofNat (n * 8 / 72057594037927936),UInt8.ofNat (n * 8 / 281474976710656),UInt8.ofNat (n * 8 / 1099511627776),UInt8.ofNat (n * 8 / 4294967296),UInt8.ofNat (n * 8 / 16777216),UInt8.ofNat (n * 8 / 65536),UInt8.ofNat (n * 8 / 256),UInt8.ofNat (n * 8)]
def padS (rest : List UInt8) (all : Nat) : List UInt8 := rest ++ [128] ++ List.replicate (zerosN rest.length) 0 ++ lenB all
theorem padS_len (rest : List UInt8) (all : Nat) : (padS rest all).length % 64 = 0 := by
  simp only [padS,zerosN,lenB,List.length_append,List.length_replicate,List.length_cons,List.length_nil]
  omega
def blocksM (v : St) (p : List UInt8) : Nat → St
  | 0 => v
  | i + 1 => blockM (blocksM v p i) ((p.drop (i * 64)).take 64)
theorem blocksM_ok {v : St} (h : OkS v) (p : List UInt8) : ∀ i,OkS (blocksM v p i)
  | 0 => h
  | i + 1 => blockM_ok _ _
def wordB (w : Nat) : List UInt8 := [UInt8.ofNat (w / 16777216),UInt8.ofNat (w / 65536),UInt8.ofNat (w / 256),UInt8.ofNat w]
def toldM (s : St) : List UInt8 := wordB s.a ++ wordB s.b ++ wordB s.c ++ wordB s.d ++ wordB s.e ++ wordB s.f ++ wordB s.g ++ wordB s.h
def shaM (b : List UInt8) : List UInt8 := toldM (blocksM firstS (padS b b.length) ((padS b b.length).length / 64))
theorem shaM_len (b : List UInt8) : (shaM b).length = 32 := rfl
end Go.Sha
end
section
namespace Go.Sha
def writeM (all : List UInt8) : St × List UInt8 := (blocksM firstS all (all.length / 64),all.drop (all.length / 64 * 64))
theorem blocks_app (v : St) (p q : List UInt8) : ∀ i,i * 64 ≤ p.length → blocksM v (p ++ q) i = blocksM v p i
  | 0,_ => rfl
  | i + 1,h => by
    have hi : i * 64 + 64 ≤ p.length := by omega
    rw [blocksM,blocksM,blocks_app v p q i (by omega),List.drop_append_of_le_length (by omega),List.take_append_of_le_length (by rw [List.length_drop]; omega)]
theorem blocks_add (v : St) (p : List UInt8) (k : Nat) : ∀ i,blocksM v p (k + i) = blocksM (blocksM v p k) (p.drop (k * 64)) i
  | 0 => rfl
  | i + 1 => by
    rw [← Nat.add_assoc,blocksM,blocksM,blocks_add v p k i,List.drop_drop]
    congr 3
    omega
theorem sum_write (all : List UInt8) : toldM (blocksM (writeM all).1 (padS (writeM all).2 all.length) ((padS (writeM all).2 all.length).length / 64)) = shaM all := by
  have hk : all.length / 64 * 64 ≤ all.length := Nat.div_mul_le_self _ _
  have hl : (all.drop (all.length / 64 * 64)).length = all.length - all.length / 64 * 64 := List.length_drop
  have hz : zerosN (all.drop (all.length / 64 * 64)).length = zerosN all.length := by
    unfold zerosN
    rw [hl]
    omega
  have hp : padS all all.length = all.take (all.length / 64 * 64) ++ padS (all.drop (all.length / 64 * 64)) all.length := by
    unfold padS
    rw [hz]
    simp only [← List.append_assoc,List.take_append_drop]
  have hd : (padS all all.length).drop (all.length / 64 * 64) = padS (all.drop (all.length / 64 * 64)) all.length := by
    rw [hp,List.drop_left' (by rw [List.length_take]; omega)]
  have hn : (padS all all.length).length / 64 = all.length / 64 + (padS (all.drop (all.length / 64 * 64)) all.length).length / 64 := by
    rw [← hd,List.length_drop]
    have h1 := padS_len all all.length
    have h2 : all.length / 64 * 64 ≤ (padS all all.length).length := by
      rw [hp,List.length_append,List.length_take]; omega
    omega
  unfold shaM
  rw [hn,blocks_add,hd]
  unfold writeM
  congr 2
  have : blocksM firstS (padS all all.length) (all.length / 64) = blocksM firstS all (all.length / 64) := by
    unfold padS
    simp only [List.append_assoc]
    exact blocks_app _ _ _ _ hk
  rw [this]
def keyB (key : List UInt8) : List UInt8 := if 64 < key.length then shaM key else key
def wholeB (key : List UInt8) (x : UInt8) : List UInt8 := (List.range 64).map fun i => (keyB key).getD i 0 ^^^ x
theorem wholeB_len (key : List UInt8) (x : UInt8) : (wholeB key x).length = 64 := by simp [wholeB]
def hmacM (key b : List UInt8) : List UInt8 := shaM (wholeB key 0x5c ++ shaM (wholeB key 0x36 ++ b))
theorem hmacM_len (key b : List UInt8) : (hmacM key b).length = 32 := rfl
def derivM (key info : List UInt8) : List UInt8 := hmacM (hmacM [] key) (info ++ [1])
theorem hmac_none (b : List UInt8) : hmacM (List.replicate 32 0) b = hmacM [] b := by
  have h : ∀ x,wholeB (List.replicate 32 0) x = wholeB [] x := fun x => by
    unfold wholeB keyB
    rw [if_neg (by simp),if_neg (by simp)]
    refine List.map_congr_left fun i _ => ?_
    congr 1
    simp only [List.getD,List.getElem?_replicate]
    split <;> rfl
  unfold hmacM
  rw [h,h]
end Go.Sha
end
section
namespace Go.Sha
theorem write_step (w b : List UInt8) : writeM (w ++ b) = (blocksM (writeM w).1 ((writeM w).2 ++ b) (((writeM w).2 ++ b).length / 64),((writeM w).2 ++ b).drop (((writeM w).2 ++ b).length / 64 * 64)) := by
  unfold writeM
  obtain ⟨q,hq⟩ : ∃ q,q = w.length / 64 := ⟨_,rfl⟩
  rw [← hq]
  have hle : q * 64 ≤ w.length := by omega
  have hd : (w ++ b).drop (q * 64) = w.drop (q * 64) ++ b := List.drop_append_of_le_length hle
  have hn : (w ++ b).length / 64 = q + (w.drop (q * 64) ++ b).length / 64 := by
    rw [List.length_append,List.length_append,List.length_drop]
    omega
  rw [hn,blocks_add,hd,blocks_app firstS w b q hle,← hd,List.drop_drop]
  congr 2
  omega
theorem write_rest_len (w : List UInt8) : (writeM w).2.length < 64 := by
  unfold writeM
  rw [List.length_drop]
  omega
theorem first_ok : OkS firstS := ⟨by decide,by decide,by decide,by decide,by decide,by decide,by decide,by decide⟩
theorem write_ok (w : List UInt8) : OkS (writeM w).1 := blocksM_ok first_ok _ _
end Go.Sha
end
