/-
  Several texts in one: each says what it proves.
  Conditions: none. Lemmas only.
-/
import Derived.Test.YtibipjdngpjndaaAbsG1
import Derived.Test.YtibipjdngpjndaaShaG1
set_option linter.all false
section
namespace Go.Box
def valD : List Nat → Nat
  | [] => 0
  | x :: l => x + 256 * valD l
abbrev Dg (l : List Nat) : Prop := ∀ x ∈ l,x < 256
def digF : Nat → Nat → List Nat
  | 0,_ => []
  | f + 1,n => if n = 0 then [] else (n % 256) :: digF f (n / 256)
def digs (n : Nat) : List Nat := digF n n
def trimD (l : List Nat) : List Nat := digs (valD l)
theorem valD_append (a b : List Nat) : valD (a ++ b) = valD a + 256 ^ a.length * valD b := by
  induction a with
  | nil => simp [valD]
  | cons x l ih =>
    simp only [List.cons_append,valD,ih,List.length_cons,Nat.pow_succ]
    rw [Nat.mul_add,← Nat.mul_assoc,Nat.mul_comm 256 (256 ^ l.length),Nat.add_assoc]
theorem valD_lt : ∀ {l : List Nat},Dg l → valD l < 256 ^ l.length
  | [],_ => by simp [valD]
  | x :: l,h => by
    have h1 := h x (List.mem_cons_self ..)
    have h2 := valD_lt (l := l) fun y hy => h y (List.mem_cons_of_mem _ hy)
    simp only [valD,List.length_cons,Nat.pow_succ]
    omega
theorem digF_up : ∀ (f n : Nat),n ≤ f → digF (f + 1) n = digF f n
  | 0,n,h => by
    obtain rfl : n = 0 := by omega
    rfl
  | f + 1,n,h => by
    by_cases h0 : n = 0
    · subst h0; rfl
    · show (if n = 0 then [] else (n % 256) :: digF (f + 1) (n / 256)) = (if n = 0 then [] else (n % 256) :: digF f (n / 256))
      rw [if_neg h0,if_neg h0,digF_up f (n / 256) (by omega)]
theorem digF_enough : ∀ (f n : Nat),n ≤ f → digF f n = digs n
  | 0,n,h => by
    obtain rfl : n = 0 := by omega
    rfl
  | f + 1,n,h => by
    by_cases he : n = f + 1
    · subst he; rfl
    · rw [digF_up f n (by omega)]
      exact digF_enough f n (by omega)
theorem digs_zero : digs 0 = [] := rfl
theorem digs_pos {n : Nat} (h : 0 < n) : digs n = (n % 256) :: digs (n / 256) := by
  obtain ⟨g,hg⟩ : ∃ g,n = g + 1 := ⟨n - 1,by omega⟩
  have h1 : digs n = digF (g + 1) n := by unfold digs; rw [← hg]
  rw [h1,digF,if_neg (by omega),digF_enough g (n / 256) (by omega)]
theorem digs_ok : ∀ n,Dg (digs n) := by
  intro n
  induction n using Nat.strongRecOn with
  | ind n ih =>
    by_cases h0 : n = 0
    · subst h0; intro x hx; cases hx
    · rw [digs_pos (by omega)]
      intro x hx
      rcases List.mem_cons.1 hx with rfl | hx
      · exact Nat.mod_lt _ (by decide)
      · exact ih (n / 256) (by omega) x hx
theorem val_digs : ∀ n,valD (digs n) = n := by
  intro n
  induction n using Nat.strongRecOn with
  | ind n ih =>
    by_cases h0 : n = 0
    · subst h0; rfl
    · rw [digs_pos (by omega),valD,ih (n / 256) (by omega)]
      omega
theorem digs_len_le : ∀ {k n : Nat},n < 256 ^ k → (digs n).length ≤ k
  | 0,n,h => by
    obtain rfl : n = 0 := by simpa using h
    exact Nat.le_refl _
  | k + 1,n,h => by
    by_cases h0 : n = 0
    · subst h0; exact Nat.zero_le _
    · rw [digs_pos (by omega),List.length_cons]
      have := digs_len_le (k := k) (n := n / 256) (by rw [Nat.pow_succ] at h; omega)
      omega
theorem digs_lt_pow (n : Nat) : n < 256 ^ (digs n).length := by
  have := valD_lt (digs_ok n)
  rwa [val_digs] at this
theorem digs_of : ∀ {l : List Nat},Dg l → (∀ x,l.getLast? = some x → x ≠ 0) → digs (valD l) = l
  | [],_,_ => rfl
  | x :: l,h,ht => by
    have hx := h x (List.mem_cons_self ..)
    have hl : Dg l := fun y hy => h y (List.mem_cons_of_mem _ hy)
    have ih := digs_of (l := l) hl fun y hy => ht y (by
      cases l with
      | nil => cases hy
      | cons z l => rw [List.getLast?_cons_cons]; exact hy)
    have hpos : 0 < valD (x :: l) := by
      unfold valD
      rcases Nat.eq_zero_or_pos x with h0 | h0
      · cases l with
        | nil =>
          exact absurd h0 (ht x rfl)
        | cons z l =>
          have : 0 < valD (z :: l) := by
            rcases Nat.eq_zero_or_pos (valD (z :: l)) with h1 | h1
            · rw [h1] at ih; cases ih
            · exact h1
          omega
      · omega
    rw [digs_pos hpos]
    have e0 : valD (x :: l) = x + 256 * valD l := rfl
    have e1 : valD (x :: l) % 256 = x := by rw [e0]; omega
    have e2 : valD (x :: l) / 256 = valD l := by rw [e0]; omega
    rw [e1,e2,ih]
theorem trim_zero (l : List Nat) : trimD (l ++ [0]) = trimD l := by
  unfold trimD
  rw [valD_append]
  simp [valD]
theorem trim_stop {l : List Nat} (h : Dg l) (ht : ∀ x,l.getLast? = some x → x ≠ 0) : trimD l = l := digs_of h ht
end Go.Box
end
section
namespace Go.Box
open Go.Sha
def rlM (x n : Nat) : Nat := rotM 32 x (32 - n)
theorem rl_lt {x n : Nat} (hx : x < 4294967296) : rlM x n < 4294967296 := rot_lt (w := 32) hx (by omega)
theorem rl_step {x n : Nat} (hx : x < 4294967296) (hn : n < 32) : rlM x n * 2 % 4294967296 + rlM x n / 2147483648 = rlM x (n + 1) := by
  unfold rlM
  have h := rot_step (w := 32) (x := x) (n := 31 - n) hx (by omega)
  rw [show 31 - n + 1 = 32 - n by omega] at h
  rw [show 32 - (n + 1) = 31 - n by omega,← h]
  have hl : rotM 32 x (31 - n) < 2 ^ 32 := rot_lt hx (by omega)
  generalize rotM 32 x (31 - n) = y at *
  rw [show (2 : Nat) ^ (32 - 1) = 2147483648 from rfl]
  have hk : y / 2 < 2147483648 := by omega
  have hy : y = 2 * (y / 2) + y % 2 := by omega
  generalize y / 2 = k at *
  rcases Nat.mod_two_eq_zero_or_one y with h0 | h0
  · rw [h0] at hy ⊢; omega
  · rw [h0] at hy ⊢; omega
theorem rl_zero {x : Nat} (hx : x < 4294967296) : rlM x 0 = x := by
  unfold rlM rotM
  rw [Nat.div_eq_of_lt (by omega),Nat.mod_eq_of_lt (by omega)]
  simp
structure Q4 where
  a : Nat
  b : Nat
  c : Nat
  d : Nat
def eU (x y : Nat) : Nat := (x + y) % 4294967296
theorem addM_lt (x y : Nat) : eU x y < 4294967296 := Nat.mod_lt _ (by decide)
def halfM (q : Q4) (m n : Nat) : Q4 :=
  ⟨eU q.a q.b,rlM (q.b ^^^ eU q.c (rlM (q.d ^^^ eU q.a q.b) m)) n,eU q.c (rlM (q.d ^^^ eU q.a q.b) m),rlM (q.d ^^^ eU q.a q.b) m⟩
def quartM (q : Q4) : Q4 := halfM (halfM q 16 12) 8 7
structure OkQ (q : Q4) : Prop where
  a : q.a < 4294967296
  b : q.b < 4294967296
  c : q.c < 4294967296
  d : q.d < 4294967296
theorem x32 {a b : Nat} (ha : a < 4294967296) (hb : b < 4294967296) : a ^^^ b < 4294967296 := xor_lt (w := 32) ha hb
theorem half_ok {q : Q4} (h : OkQ q) (m n : Nat) : OkQ (halfM q m n) :=
  ⟨addM_lt _ _,rl_lt (x32 h.b (addM_lt _ _)),addM_lt _ _,rl_lt (x32 h.d (addM_lt _ _))⟩
theorem quart_ok {q : Q4} (h : OkQ q) : OkQ (quartM q) := half_ok (half_ok h _ _) _ _
def placesL : List (Nat × Nat × Nat × Nat) := [(0,4,8,12),(1,5,9,13),(2,6,10,14),(3,7,11,15),(0,5,10,15),(1,6,11,12),(2,7,8,13),(3,4,9,14)]
def getQ (w : List Nat) (p : Nat × Nat × Nat × Nat) : Q4 := ⟨w.getD p.1 0,w.getD p.2.1 0,w.getD p.2.2.1 0,w.getD p.2.2.2 0⟩
def putQ (w : List Nat) (p : Nat × Nat × Nat × Nat) (q : Q4) : List Nat := (((w.set p.1 q.a).set p.2.1 q.b).set p.2.2.1 q.c).set p.2.2.2 q.d
def oneM (w : List Nat) (p : Nat × Nat × Nat × Nat) : List Nat := putQ w p (quartM (getQ w p))
def someM (w : List Nat) : Nat → List Nat
  | 0 => w
  | j + 1 => oneM (someM w j) (placesL.getD j (0,0,0,0))
def roundsM (w : List Nat) : Nat → List Nat
  | 0 => w
  | n + 1 => someM (roundsM w n) 8
structure OkW (w : List Nat) : Prop where
  len : w.length = 16
  lt : ∀ x ∈ w,x < 4294967296
theorem OkW.get {w : List Nat} (h : OkW w) (i : Nat) : w.getD i 0 < 4294967296 := by
  by_cases hi : i < w.length
  · simp only [List.getD,List.getElem?_eq_getElem hi,Option.getD_some]
    exact h.lt _ (List.getElem_mem hi)
  · simp only [List.getD,List.getElem?_eq_none (Nat.le_of_not_lt hi),Option.getD_none]
    decide
theorem OkW.getQ {w : List Nat} (h : OkW w) (p : Nat × Nat × Nat × Nat) : OkQ (getQ w p) := ⟨h.get _,h.get _,h.get _,h.get _⟩
theorem OkW.set {w : List Nat} (h : OkW w) (i : Nat) {x : Nat} (hx : x < 4294967296) : OkW (w.set i x) :=
  ⟨by rw [List.length_set]; exact h.len,fun y hy => by
    rcases List.mem_or_eq_of_mem_set hy with h1 | h1
    · exact h.lt y h1
    · rw [h1]; exact hx⟩
theorem OkW.one {w : List Nat} (h : OkW w) (p : Nat × Nat × Nat × Nat) : OkW (oneM w p) := by
  have q := quart_ok (h.getQ p)
  exact (((h.set _ q.a).set _ q.b).set _ q.c).set _ q.d
theorem OkW.some {w : List Nat} (h : OkW w) : ∀ j,OkW (someM w j)
  | 0 => h
  | j + 1 => (OkW.some h j).one _
theorem OkW.rounds {w : List Nat} (h : OkW w) : ∀ n,OkW (roundsM w n)
  | 0 => h
  | n + 1 => (OkW.rounds h n).some 8
def leM (b : List UInt8) (i : Nat) : Nat := (b.getD (4 * i) 0).toNat + 256 * (b.getD (4 * i + 1) 0).toNat + 65536 * (b.getD (4 * i + 2) 0).toNat + 16777216 * (b.getD (4 * i + 3) 0).toNat
theorem leM_lt (b : List UInt8) (i : Nat) : leM b i < 4294967296 := by
  have h0 := (b.getD (4 * i) 0).toNat_lt
  have h1 := (b.getD (4 * i + 1) 0).toNat_lt
  have h2 := (b.getD (4 * i + 2) 0).toNat_lt
  have h3 := (b.getD (4 * i + 3) 0).toNat_lt
  unfold leM
  omega
def wordsM (b : List UInt8) (n : Nat) : List Nat := (List.range n).map (leM b)
def stateM (key nonce : List UInt8) (c : Nat) : List Nat := [1634760805,857760878,2036477234,1797285236] ++ wordsM key 8 ++ [c] ++ wordsM nonce 3
theorem state_ok (key nonce : List UInt8) {c : Nat} (hc : c < 4294967296) : OkW (stateM key nonce c) :=
  ⟨by simp [stateM,wordsM],fun x hx => by
    unfold stateM at hx
    rcases List.mem_append.1 hx with h | h
    · rcases List.mem_append.1 h with h | h
      · rcases List.mem_append.1 h with h | h
        · simp at h; omega
        · obtain ⟨i,-,rfl⟩ := List.mem_map.1 h
          exact leM_lt _ _
      · rw [List.mem_singleton.1 h]; exact hc
    · obtain ⟨i,-,rfl⟩ := List.mem_map.1 h
      exact leM_lt _ _⟩
def sumW (w s : List Nat) : List Nat := (List.range 16).map fun i => eU (w.getD i 0) (s.getD i 0)
def blockW (s : List Nat) : List Nat := sumW (roundsM s 10) s
def tellW (w : List Nat) : List UInt8 := (List.range 64).map fun i => UInt8.ofNat (w.getD (i / 4) 0 / 2 ^ (8 * (i % 4)))
theorem tellW_len (w : List Nat) : (tellW w).length = 64 := by simp [tellW]
def blkM (key nonce : List UInt8) (c : Nat) : List UInt8 := tellW (blockW (stateM key nonce c))
theorem blkM_len (key nonce : List UInt8) (c : Nat) : (blkM key nonce c).length = 64 := tellW_len _
def strM (key nonce : List UInt8) (b : List UInt8) : List UInt8 := (List.range b.length).map fun i => b.getD i 0 ^^^ (blkM key nonce (1 + i / 64)).getD (i % 64) 0
theorem strM_len (key nonce b : List UInt8) : (strM key nonce b).length = b.length := by simp [strM]
theorem strM_get (key nonce b : List UInt8) {i : Nat} (h : i < b.length) : (strM key nonce b).getD i 0 = b.getD i 0 ^^^ (blkM key nonce (1 + i / 64)).getD (i % 64) 0 := by
  unfold strM
  simp [List.getD,h]
theorem strM_twice (key nonce b : List UInt8) : strM key nonce (strM key nonce b) = b := by
  apply List.ext_getElem (by rw [strM_len,strM_len])
  intro i h1 h2
  have e1 := strM_get key nonce (strM key nonce b) (i := i) (by rw [strM_len]; exact h2)
  have e2 := strM_get key nonce b h2
  rw [e2] at e1
  have e3 : (strM key nonce (strM key nonce b))[i] = (strM key nonce (strM key nonce b)).getD i 0 := by simp [List.getD,h1]
  have e4 : b[i] = b.getD i 0 := by simp [List.getD,h2]
  rw [e3,e4,e1]
  generalize b.getD i 0 = x
  generalize (blkM key nonce (1 + i / 64)).getD (i % 64) 0 = y
  rw [UInt8.xor_assoc,UInt8.xor_self,UInt8.xor_zero]
end Go.Box
end
section
namespace Go.Box
def P : Nat := 1361129467683753853853498429727072845819
def numL (b : List UInt8) : Nat := valD (b.map UInt8.toNat)
theorem numL_lt (b : List UInt8) : numL b < 256 ^ b.length := by
  have := valD_lt (l := b.map UInt8.toNat) fun x hx => by
    obtain ⟨y,-,rfl⟩ := List.mem_map.1 hx
    exact y.toNat_lt
  simpa [numL] using this
theorem numL_append (a b : List UInt8) : numL (a ++ b) = numL a + 256 ^ a.length * numL b := by
  unfold numL
  rw [List.map_append,valD_append,List.length_map]
def cutL (r : List UInt8) : List UInt8 := (List.range 16).map fun i => if i % 4 = 3 then (r.getD i 0) % 16 else if i % 4 = 0 ∧ 0 < i then r.getD i 0 - (r.getD i 0) % 4 else r.getD i 0
theorem cutL_len (r : List UInt8) : (cutL r).length = 16 := by simp [cutL]
def chunk (b : List UInt8) (i : Nat) : List UInt8 := (b.drop (i * 16)).take 16 ++ [1]
theorem chunk_lt (b : List UInt8) (i : Nat) : numL (chunk b i) < 2 ^ 136 := by
  have h := numL_lt (chunk b i)
  have hl : (chunk b i).length ≤ 17 := by
    unfold chunk
    rw [List.length_append,List.length_take,List.length_drop]
    simp
    omega
  refine Nat.lt_of_lt_of_le h (Nat.le_trans (Nat.pow_le_pow_right (by decide) hl) (by decide))
def accM (r : Nat) (b : List UInt8) : Nat → Nat
  | 0 => 0
  | i + 1 => ((accM r b i + numL (chunk b i)) * r) % P
theorem accM_lt (r : Nat) (b : List UInt8) (i : Nat) : accM r b i < P := by
  cases i with
  | zero => exact (by decide : (0 : Nat) < P)
  | succ i => exact Nat.mod_lt _ (by decide)
def bytesN : Nat → Nat → List UInt8
  | 0,_ => []
  | k + 1,n => UInt8.ofNat n :: bytesN k (n / 256)
theorem bytesN_len : ∀ (k n : Nat),(bytesN k n).length = k
  | 0,_ => rfl
  | k + 1,n => by rw [bytesN,List.length_cons,bytesN_len]
def blocksN (n : Nat) : Nat := (n + 15) / 16
def tagM (key b : List UInt8) : List UInt8 := bytesN 16 (accM (numL (cutL (key.take 16))) b (blocksN b.length) + numL (key.drop 16))
theorem tagM_len (key b : List UInt8) : (tagM key b).length = 16 := bytesN_len _ _
def fillM (n : Nat) : List UInt8 := List.replicate ((16 - n % 16) % 16) 0
def allM (lo : Nat → List UInt8) (other c : List UInt8) : List UInt8 := other ++ fillM other.length ++ c ++ fillM c.length ++ lo other.length ++ lo c.length
end Go.Box
end
section
namespace Go.Box
def valW : List Nat → Nat
  | [] => 0
  | x :: l => x + 18446744073709551616 * valW l
abbrev W64 (l : List Nat) : Prop := ∀ x ∈ l,x < 18446744073709551616
theorem and_top (a b n : Nat) : (a &&& b) / 2 ^ n = (a / 2 ^ n) &&& (b / 2 ^ n) := by
  rw [← Nat.shiftRight_eq_div_pow,← Nat.shiftRight_eq_div_pow,← Nat.shiftRight_eq_div_pow,Nat.shiftRight_and_distrib]
theorem or_top (a b n : Nat) : (a ||| b) / 2 ^ n = (a / 2 ^ n) ||| (b / 2 ^ n) := by
  rw [← Nat.shiftRight_eq_div_pow,← Nat.shiftRight_eq_div_pow,← Nat.shiftRight_eq_div_pow,Nat.shiftRight_or_distrib]
theorem xor_top (a b n : Nat) : (a ^^^ b) / 2 ^ n = (a / 2 ^ n) ^^^ (b / 2 ^ n) := by
  rw [← Nat.shiftRight_eq_div_pow,← Nat.shiftRight_eq_div_pow,← Nat.shiftRight_eq_div_pow,Nat.shiftRight_xor_distrib]
def carM (a b s : Nat) : Nat := ((a &&& b) ||| ((a ||| b) &&& (18446744073709551615 - s))) / 2 ^ 63
theorem carM_eq {a b c : Nat} (ha : a < 18446744073709551616) (hb : b < 18446744073709551616) (hc : c ≤ 1) :
    carM a b ((a + b + c) % 18446744073709551616) = (a + b + c) / 18446744073709551616 := by
  unfold carM
  rw [or_top,and_top,and_top,or_top]
  rw [show (2 : Nat) ^ 63 = 9223372036854775808 from rfl]
  have e1 : a / 9223372036854775808 = 0 ∨ a / 9223372036854775808 = 1 := by omega
  have e2 : b / 9223372036854775808 = 0 ∨ b / 9223372036854775808 = 1 := by omega
  have e3 : (18446744073709551615 - (a + b + c) % 18446744073709551616) / 9223372036854775808 = 0 ∨ (18446744073709551615 - (a + b + c) % 18446744073709551616) / 9223372036854775808 = 1 := by omega
  rcases e1 with e1 | e1 <;> rcases e2 with e2 | e2 <;> rcases e3 with e3 | e3 <;> rw [e1,e2,e3] <;> simp <;> omega
def borM (a b d : Nat) : Nat := (((18446744073709551615 - a) &&& b) ||| ((18446744073709551615 - (a ^^^ b)) &&& d)) / 2 ^ 63
theorem not_top {x : Nat} (h : x < 18446744073709551616) : (18446744073709551615 - x) / 9223372036854775808 = 1 - x / 9223372036854775808 := by omega
theorem borM_eq {a b c : Nat} (ha : a < 18446744073709551616) (hb : b < 18446744073709551616) (hc : c ≤ 1) :
    borM a b ((a + 36893488147419103232 - b - c) % 18446744073709551616) = if a < b + c then 1 else 0 := by
  have hx : a ^^^ b < 18446744073709551616 := Nat.xor_lt_two_pow (n := 64) ha hb
  have ht := not_top hx
  have hu := not_top ha
  have hxt := xor_top a b 63
  unfold borM
  rw [or_top,and_top,and_top]
  rw [show (2 : Nat) ^ 63 = 9223372036854775808 from rfl] at *
  rw [ht,hu,hxt]
  have e1 : a / 9223372036854775808 = 0 ∨ a / 9223372036854775808 = 1 := by omega
  have e2 : b / 9223372036854775808 = 0 ∨ b / 9223372036854775808 = 1 := by omega
  have e3 : ((a + 36893488147419103232 - b - c) % 18446744073709551616) / 9223372036854775808 = 0 ∨ ((a + 36893488147419103232 - b - c) % 18446744073709551616) / 9223372036854775808 = 1 := by omega
  rcases e1 with e1 | e1 <;> rcases e2 with e2 | e2 <;> rcases e3 with e3 | e3 <;> rw [e1,e2,e3] <;> simp <;> omega
end Go.Box
end
section
namespace Go.Box.D32
def valL : List Nat → Nat
  | [] => 0
  | x :: l => x + 4294967296 * valL l
def mulK (ai : Nat) (b : List Nat) (i : Nat) : Nat → List Nat × Nat → List Nat × Nat
  | 0,s => s
  | k + 1,s => ((mulK ai b i k s).1.set (i + k) (((mulK ai b i k s).1.getD (i + k) 0 + ai * b.getD k 0 + (mulK ai b i k s).2) % 4294967296),((mulK ai b i k s).1.getD (i + k) 0 + ai * b.getD k 0 + (mulK ai b i k s).2) / 4294967296)
def mulI (a b : List Nat) : Nat → List Nat
  | 0 => List.replicate (a.length + b.length) 0
  | i + 1 => (mulK (a.getD i 0) b i b.length (mulI a b i,0)).1.set (i + b.length) (mulK (a.getD i 0) b i b.length (mulI a b i,0)).2
def mulM (a b : List Nat) : List Nat := mulI a b a.length
abbrev Dig (l : List Nat) : Prop := ∀ x ∈ l,x < 4294967296
theorem dig_getD {l : List Nat} (h : Dig l) (i : Nat) : l.getD i 0 < 4294967296 := by
  by_cases hi : i < l.length
  · simp only [List.getD,List.getElem?_eq_getElem hi,Option.getD_some]
    exact h _ (List.getElem_mem hi)
  · simp [List.getD,List.getElem?_eq_none (by omega : l.length ≤ i)]
theorem dig_set {l : List Nat} (h : Dig l) (i : Nat) {y : Nat} (hy : y < 4294967296) : Dig (l.set i y) := fun x hx => by
  rcases List.mem_or_eq_of_mem_set hx with hx | rfl
  · exact h x hx
  · exact hy
theorem val_set : ∀ {l : List Nat} {i : Nat} (y : Nat),i < l.length → valL (l.set i y) + l.getD i 0 * 4294967296 ^ i = valL l + y * 4294967296 ^ i
  | [],i,y,h => by simp at h
  | x :: l,0,y,h => by simp [valL]; omega
  | x :: l,i + 1,y,h => by
    have ih := val_set (l := l) (i := i) y (by simpa using h)
    simp only [List.set_cons_succ,valL,List.getD_cons_succ]
    have e1 : l.getD i 0 * 4294967296 ^ (i + 1) = 4294967296 * (l.getD i 0 * 4294967296 ^ i) := by rw [Nat.pow_succ,Nat.mul_comm 4294967296,Nat.mul_assoc]
    have e2 : y * 4294967296 ^ (i + 1) = 4294967296 * (y * 4294967296 ^ i) := by rw [Nat.pow_succ,Nat.mul_comm 4294967296,Nat.mul_assoc]
    rw [e1,e2]
    omega
theorem val_snoc : ∀ {l : List Nat} {i : Nat},i < l.length → valL (l.take (i + 1)) = valL (l.take i) + l.getD i 0 * 4294967296 ^ i
  | [],i,h => by simp at h
  | x :: l,0,h => by simp [valL]
  | x :: l,i + 1,h => by
    have ih := val_snoc (l := l) (i := i) (by simpa using h)
    simp only [List.take_succ_cons,valL,List.getD_cons_succ]
    have e1 : l.getD i 0 * 4294967296 ^ (i + 1) = 4294967296 * (l.getD i 0 * 4294967296 ^ i) := by rw [Nat.pow_succ,Nat.mul_comm 4294967296,Nat.mul_assoc]
    rw [ih,e1,Nat.mul_add,Nat.add_assoc]
theorem val_rep (n : Nat) : valL (List.replicate n 0) = 0 := by
  induction n with
  | zero => rfl
  | succ n ih => rw [List.replicate_succ,valL,ih]
theorem getD_set_ne {l : List Nat} {i j y : Nat} (h : i ≠ j) : (l.set i y).getD j 0 = l.getD j 0 := by
  simp only [List.getD,List.getElem?_set_ne h]
theorem mulK_spec {ai : Nat} {b : List Nat} {i : Nat} (ha : ai < 4294967296) (hb : Dig b) : ∀ (k : Nat) {o : List Nat}, Dig o → k ≤ b.length → i + b.length ≤ o.length →
    Dig (mulK ai b i k (o,0)).1 ∧ (mulK ai b i k (o,0)).2 < 4294967296 ∧ (mulK ai b i k (o,0)).1.length = o.length ∧ (∀ j,i + k ≤ j → (mulK ai b i k (o,0)).1.getD j 0 = o.getD j 0) ∧
      valL (mulK ai b i k (o,0)).1 + (mulK ai b i k (o,0)).2 * 4294967296 ^ (i + k) = valL o + ai * valL (b.take k) * 4294967296 ^ i
  | 0,o,ho,_,_ => ⟨ho,by show (0 : Nat) < _; omega,rfl,fun _ _ => rfl,by show valL o + 0 * _ = _; simp [valL]⟩
  | k + 1,o,ho,hk,hl => by
    obtain ⟨h1,h2,h3,h4,h5⟩ := mulK_spec ha hb k ho (by omega) hl
    have hg := dig_getD h1 (i + k)
    have hbk := dig_getD hb k
    have hp : ai * b.getD k 0 ≤ 4294967295 * 4294967295 := Nat.mul_le_mul (by omega) (by omega)
    have hi : i + k < (mulK ai b i k (o,0)).1.length := by omega
    have hs := val_snoc (l := b) (i := k) (by omega)
    unfold mulK
    generalize mulK ai b i k (o,0) = S at *
    obtain ⟨q,c⟩ := S
    simp only [] at *
    have hv := val_set (l := q) (i := i + k) ((q.getD (i + k) 0 + ai * b.getD k 0 + c) % 4294967296) hi
    have hdm := Nat.div_add_mod (q.getD (i + k) 0 + ai * b.getD k 0 + c) 4294967296
    generalize hT : q.getD (i + k) 0 + ai * b.getD k 0 + c = t at *
    refine ⟨dig_set h1 _ (Nat.mod_lt _ (by decide)),by omega,by rw [List.length_set]; exact h3,fun j hj => by rw [getD_set_ne (by omega)]; exact h4 j (by omega),?_⟩
    have e1 : t / 4294967296 * 4294967296 ^ (i + (k + 1)) = 4294967296 * (t / 4294967296) * 4294967296 ^ (i + k) := by
      rw [← Nat.add_assoc,Nat.pow_succ,Nat.mul_comm (4294967296 ^ (i + k)),← Nat.mul_assoc,Nat.mul_comm (t / 4294967296)]
    have e2 : ai * (b.getD k 0 * 4294967296 ^ k) * 4294967296 ^ i = ai * b.getD k 0 * 4294967296 ^ (i + k) := by
      rw [Nat.pow_add,Nat.mul_comm (4294967296 ^ i),← Nat.mul_assoc,← Nat.mul_assoc]
    rw [e1,hs,Nat.mul_add,Nat.add_mul,e2]
    have hM : t % 4294967296 * 4294967296 ^ (i + k) + 4294967296 * (t / 4294967296) * 4294967296 ^ (i + k) = q.getD (i + k) 0 * 4294967296 ^ (i + k) + ai * b.getD k 0 * 4294967296 ^ (i + k) + c * 4294967296 ^ (i + k) := by
      rw [← Nat.add_mul,← Nat.add_mul,← Nat.add_mul,hT]
      congr 1
      omega
    omega
theorem mulI_spec {a b : List Nat} (ha : Dig a) (hb : Dig b) : ∀ i,i ≤ a.length → Dig (mulI a b i) ∧ (mulI a b i).length = a.length + b.length ∧ (∀ j,i + b.length ≤ j → (mulI a b i).getD j 0 = 0) ∧ valL (mulI a b i) = valL (a.take i) * valL b
  | 0,_ => by
    refine ⟨fun x hx => ?_,List.length_replicate,fun j _ => ?_,?_⟩
    · have : x = 0 := List.eq_of_mem_replicate hx
      omega
    · show (List.replicate _ 0).getD j 0 = 0
      simp only [List.getD,List.getElem?_replicate]
      split <;> rfl
    · show valL (List.replicate _ 0) = _
      rw [val_rep]; simp [valL]
  | i + 1,hi => by
    obtain ⟨h1,h2,h3,h4⟩ := mulI_spec ha hb i (by omega)
    obtain ⟨k1,k2,k3,k4,k5⟩ := mulK_spec (i := i) (dig_getD ha i) hb b.length h1 (Nat.le_refl _) (by omega)
    have hs := val_snoc (l := a) (i := i) (by omega)
    unfold mulI
    generalize mulK (a.getD i 0) b i b.length (mulI a b i,0) = S at *
    obtain ⟨q,c⟩ := S
    simp only [] at *
    have hz := k4 (i + b.length) (Nat.le_refl _)
    rw [h3 _ (Nat.le_refl _)] at hz
    have hv := val_set (l := q) (i := i + b.length) c (by omega)
    rw [hz] at hv
    refine ⟨dig_set k1 _ k2,by rw [List.length_set]; omega,fun j hj => by rw [getD_set_ne (by omega),k4 j (by omega)]; exact h3 j (by omega),?_⟩
    rw [List.take_length] at k5
    rw [hs,Nat.add_mul]
    have e : a.getD i 0 * 4294967296 ^ i * valL b = a.getD i 0 * valL b * 4294967296 ^ i := by rw [Nat.mul_assoc,Nat.mul_comm (4294967296 ^ i),← Nat.mul_assoc]
    rw [e]
    omega
theorem mulM_spec {a b : List Nat} (ha : Dig a) (hb : Dig b) : Dig (mulM a b) ∧ (mulM a b).length = a.length + b.length ∧ valL (mulM a b) = valL a * valL b := by
  obtain ⟨h1,h2,h3,h4⟩ := mulI_spec ha hb a.length (Nat.le_refl _)
  rw [List.take_length] at h4
  exact ⟨h1,h2,h4⟩
end Go.Box.D32
end
section
namespace Go.Box
theorem digs_get (n : Nat) : ∀ i,(digs n).getD i 0 = n / 256 ^ i % 256 := by
  induction n using Nat.strongRecOn with
  | ind n ih =>
    intro i
    by_cases h0 : n = 0
    · subst h0
      rw [digs_zero]
      simp [List.getD]
    · rw [digs_pos (by omega)]
      cases i with
      | zero => simp [List.getD]
      | succ i =>
        rw [List.getD_cons_succ,ih (n / 256) (by omega),Nat.div_div_eq_div_mul,Nat.pow_succ,Nat.mul_comm 256]
def fstD (k n : Nat) : List Nat := (List.range k).map fun j => n / 256 ^ j % 256
theorem fstD_len (k n : Nat) : (fstD k n).length = k := by simp [fstD]
theorem fstD_snoc (k n : Nat) : fstD (k + 1) n = fstD k n ++ [n / 256 ^ k % 256] := by simp [fstD,List.range_succ]
theorem fstD_ok (k n : Nat) : Dg (fstD k n) := fun x hx => by
  obtain ⟨j,-,rfl⟩ := List.mem_map.1 hx
  exact Nat.mod_lt _ (by decide)
theorem fstD_val (n : Nat) : ∀ k,valD (fstD k n) = n % 256 ^ k
  | 0 => by simp [fstD,valD,Nat.mod_one]
  | k + 1 => by
    rw [fstD_snoc,valD_append,fstD_val n k,fstD_len]
    simp only [valD,Nat.mul_zero,Nat.add_zero]
    rw [Nat.pow_succ,Nat.mod_mul]
theorem trim_fst {k n : Nat} (h : n < 256 ^ k) : trimD (fstD k n) = digs n := by
  unfold trimD
  rw [fstD_val,Nat.mod_eq_of_lt h]
theorem sum_digit {B : Nat} (a b p : Nat) (hp : 0 < p) (hB : 0 < B) :
    (a / p % B + b / p % B + (a % p + b % p) / p) % B = (a + b) / p % B ∧ (a / p % B + b / p % B + (a % p + b % p) / p) / B = (a % (p * B) + b % (p * B)) / (p * B) := by
  have ea := Nat.div_add_mod a p
  have eb := Nat.div_add_mod b p
  have e1 : (a + b) / p = a / p + b / p + (a % p + b % p) / p := by
    conv => lhs; rw [← ea,← eb]
    rw [show p * (a / p) + a % p + (p * (b / p) + b % p) = (a % p + b % p) + p * (a / p + b / p) by rw [Nat.mul_add]; omega,Nat.add_mul_div_left _ _ hp]
    omega
  constructor
  · rw [e1]
    have dA := Nat.div_add_mod (a / p) B
    have dB := Nat.div_add_mod (b / p) B
    have h1 : a / p + b / p + (a % p + b % p) / p = (a / p % B + b / p % B + (a % p + b % p) / p) + B * (a / p / B + b / p / B) := by rw [Nat.mul_add]; omega
    rw [h1,Nat.add_mul_mod_self_left]
  · have f1 : a % (p * B) = a % p + p * (a / p % B) := Nat.mod_mul
    have f2 : b % (p * B) = b % p + p * (b / p % B) := Nat.mod_mul
    rw [f1,f2,show a % p + p * (a / p % B) + (b % p + p * (b / p % B)) = (a % p + b % p) + p * (a / p % B + b / p % B) by rw [Nat.mul_add]; omega,← Nat.div_div_eq_div_mul,Nat.add_mul_div_left _ _ hp]
    congr 1
    omega
theorem car_le (a b p : Nat) (hp : 0 < p) : (a % p + b % p) / p ≤ 1 := by
  have h1 := Nat.mod_lt a hp
  have h2 := Nat.mod_lt b hp
  have : (a % p + b % p) / p < 2 := Nat.div_lt_of_lt_mul (by omega)
  omega
def bor (a b p : Nat) : Nat := if a % p < b % p then 1 else 0
theorem bor_le (a b p : Nat) : bor a b p ≤ 1 := by unfold bor; split <;> omega
theorem sub_digit {B : Nat} (a b p : Nat) (hp : 0 < p) (hB : 0 < B) (hab : b ≤ a) :
    (B + a / p % B - b / p % B - bor a b p) % B = (a - b) / p % B ∧ 1 - (B + a / p % B - b / p % B - bor a b p) / B = bor a b (p * B) := by
  have ea := Nat.div_add_mod a p
  have eb := Nat.div_add_mod b p
  have la := Nat.mod_lt a hp
  have lb := Nat.mod_lt b hp
  have mA := Nat.mod_lt (a / p) hB
  have mB := Nat.mod_lt (b / p) hB
  have dA := Nat.div_add_mod (a / p) B
  have dB := Nat.div_add_mod (b / p) B
  have hle := bor_le a b p
  have hqle : b / p + bor a b p ≤ a / p := by
    have h1 : b / p ≤ a / p := Nat.div_le_div_right hab
    unfold bor
    split
    · rename_i h
      rcases Nat.lt_or_ge (b / p) (a / p) with h2 | h2
      · omega
      · have : b / p = a / p := by omega
        rw [this] at eb
        omega
    · omega
  have e1 : (a - b) / p = a / p - b / p - bor a b p := by
    have : a - b = p * (a / p - b / p - bor a b p) + (p * bor a b p + a % p - b % p) := by
      rw [Nat.mul_sub,Nat.mul_sub]
      have m1 : p * (b / p) + p * bor a b p ≤ p * (a / p) := by rw [← Nat.mul_add]; exact Nat.mul_le_mul_left _ hqle
      have m2 : b % p ≤ p * bor a b p + a % p := by
        unfold bor
        split
        · rw [Nat.mul_one]; omega
        · omega
      omega
    rw [this,Nat.mul_add_div hp]
    have : (p * bor a b p + a % p - b % p) / p = 0 := by
      apply Nat.div_eq_of_lt
      unfold bor
      split
      · rw [Nat.mul_one]; omega
      · omega
    omega
  have e2 : bor a b (p * B) = if a / p % B < b / p % B + bor a b p then 1 else 0 := by
    unfold bor
    have f1 : a % (p * B) = a % p + p * (a / p % B) := Nat.mod_mul
    have f2 : b % (p * B) = b % p + p * (b / p % B) := Nat.mod_mul
    rw [f1,f2]
    by_cases c : a / p % B < b / p % B
    · have : p * (a / p % B) + p ≤ p * (b / p % B) := by
        have h := Nat.mul_le_mul_left p (show a / p % B + 1 ≤ b / p % B by omega)
        rw [Nat.mul_add,Nat.mul_one] at h
        exact h
      rw [if_pos (by omega),if_pos (by omega)]
    · by_cases c2 : a / p % B = b / p % B
      · rw [c2]
        by_cases c3 : a % p < b % p
        · rw [if_pos c3,if_pos (by omega),if_pos (by omega)]
        · rw [if_neg c3,if_neg (by omega),if_neg (by omega)]
      · have : p * (b / p % B) + p ≤ p * (a / p % B) := by
          have h := Nat.mul_le_mul_left p (show b / p % B + 1 ≤ a / p % B by omega)
          rw [Nat.mul_add,Nat.mul_one] at h
          exact h
        rw [if_neg (by omega)]
        split
        · rw [if_neg (by omega)]
        · rw [if_neg (by omega)]
  constructor
  · rw [e1]
    generalize hx : a / p = x at *
    generalize hy : b / p = y at *
    generalize bor a b p = c at *
    have hm : (B + x % B - y % B - c) % B = (x - y - c) % B := by
      have : x - y - c + B * (y / B) + B = (B + x % B - y % B - c) + B * (x / B) := by omega
      have h1 : (x - y - c + B * (y / B) + B) % B = (x - y - c) % B := by rw [Nat.add_mod_right,Nat.add_mul_mod_self_left]
      have h2 : ((B + x % B - y % B - c) + B * (x / B)) % B = (B + x % B - y % B - c) % B := Nat.add_mul_mod_self_left _ _ _
      rw [← h2,← this,h1]
    exact hm
  · rw [e2]
    split
    · rename_i h
      rw [Nat.div_eq_of_lt (by omega)]
    · rename_i h
      have : (B + a / p % B - b / p % B - bor a b p) / B = 1 := by
        apply Nat.div_eq_of_lt_le <;> omega
      omega
end Go.Box
end
section
namespace Go.Box.D8
def valL : List Nat → Nat
  | [] => 0
  | x :: l => x + 256 * valL l
def mulK (ai : Nat) (b : List Nat) (i : Nat) : Nat → List Nat × Nat → List Nat × Nat
  | 0,s => s
  | k + 1,s => ((mulK ai b i k s).1.set (i + k) (((mulK ai b i k s).1.getD (i + k) 0 + ai * b.getD k 0 + (mulK ai b i k s).2) % 256),((mulK ai b i k s).1.getD (i + k) 0 + ai * b.getD k 0 + (mulK ai b i k s).2) / 256)
def mulI (a b : List Nat) : Nat → List Nat
  | 0 => List.replicate (a.length + b.length) 0
  | i + 1 => (mulK (a.getD i 0) b i b.length (mulI a b i,0)).1.set (i + b.length) (mulK (a.getD i 0) b i b.length (mulI a b i,0)).2
def mulM (a b : List Nat) : List Nat := mulI a b a.length
abbrev Dig (l : List Nat) : Prop := ∀ x ∈ l,x < 256
theorem dig_getD {l : List Nat} (h : Dig l) (i : Nat) : l.getD i 0 < 256 := by
  by_cases hi : i < l.length
  · simp only [List.getD,List.getElem?_eq_getElem hi,Option.getD_some]
    exact h _ (List.getElem_mem hi)
  · simp [List.getD,List.getElem?_eq_none (by omega : l.length ≤ i)]
theorem dig_set {l : List Nat} (h : Dig l) (i : Nat) {y : Nat} (hy : y < 256) : Dig (l.set i y) := fun x hx => by
  rcases List.mem_or_eq_of_mem_set hx with hx | rfl
  · exact h x hx
  · exact hy
theorem val_set : ∀ {l : List Nat} {i : Nat} (y : Nat),i < l.length → valL (l.set i y) + l.getD i 0 * 256 ^ i = valL l + y * 256 ^ i
  | [],i,y,h => by simp at h
  | x :: l,0,y,h => by simp [valL]; omega
  | x :: l,i + 1,y,h => by
    have ih := val_set (l := l) (i := i) y (by simpa using h)
    simp only [List.set_cons_succ,valL,List.getD_cons_succ]
    have e1 : l.getD i 0 * 256 ^ (i + 1) = 256 * (l.getD i 0 * 256 ^ i) := by rw [Nat.pow_succ,Nat.mul_comm 256,Nat.mul_assoc]
    have e2 : y * 256 ^ (i + 1) = 256 * (y * 256 ^ i) := by rw [Nat.pow_succ,Nat.mul_comm 256,Nat.mul_assoc]
    rw [e1,e2]
    omega
theorem val_snoc : ∀ {l : List Nat} {i : Nat},i < l.length → valL (l.take (i + 1)) = valL (l.take i) + l.getD i 0 * 256 ^ i
  | [],i,h => by simp at h
  | x :: l,0,h => by simp [valL]
  | x :: l,i + 1,h => by
    have ih := val_snoc (l := l) (i := i) (by simpa using h)
    simp only [List.take_succ_cons,valL,List.getD_cons_succ]
    have e1 : l.getD i 0 * 256 ^ (i + 1) = 256 * (l.getD i 0 * 256 ^ i) := by rw [Nat.pow_succ,Nat.mul_comm 256,Nat.mul_assoc]
    rw [ih,e1,Nat.mul_add,Nat.add_assoc]
theorem val_rep (n : Nat) : valL (List.replicate n 0) = 0 := by
  induction n with
  | zero => rfl
  | succ n ih => rw [List.replicate_succ,valL,ih]
theorem getD_set_ne {l : List Nat} {i j y : Nat} (h : i ≠ j) : (l.set i y).getD j 0 = l.getD j 0 := by
  simp only [List.getD,List.getElem?_set_ne h]
theorem mulK_spec {ai : Nat} {b : List Nat} {i : Nat} (ha : ai < 256) (hb : Dig b) : ∀ (k : Nat) {o : List Nat}, Dig o → k ≤ b.length → i + b.length ≤ o.length →
    Dig (mulK ai b i k (o,0)).1 ∧ (mulK ai b i k (o,0)).2 < 256 ∧ (mulK ai b i k (o,0)).1.length = o.length ∧ (∀ j,i + k ≤ j → (mulK ai b i k (o,0)).1.getD j 0 = o.getD j 0) ∧
      valL (mulK ai b i k (o,0)).1 + (mulK ai b i k (o,0)).2 * 256 ^ (i + k) = valL o + ai * valL (b.take k) * 256 ^ i
  | 0,o,ho,_,_ => ⟨ho,by show (0 : Nat) < _; omega,rfl,fun _ _ => rfl,by show valL o + 0 * _ = _; simp [valL]⟩
  | k + 1,o,ho,hk,hl => by
    obtain ⟨h1,h2,h3,h4,h5⟩ := mulK_spec ha hb k ho (by omega) hl
    have hg := dig_getD h1 (i + k)
    have hbk := dig_getD hb k
    have hp : ai * b.getD k 0 ≤ 255 * 255 := Nat.mul_le_mul (by omega) (by omega)
    have hi : i + k < (mulK ai b i k (o,0)).1.length := by omega
    have hs := val_snoc (l := b) (i := k) (by omega)
    unfold mulK
    generalize mulK ai b i k (o,0) = S at *
    obtain ⟨q,c⟩ := S
    simp only [] at *
    have hv := val_set (l := q) (i := i + k) ((q.getD (i + k) 0 + ai * b.getD k 0 + c) % 256) hi
    have hdm := Nat.div_add_mod (q.getD (i + k) 0 + ai * b.getD k 0 + c) 256
    generalize hT : q.getD (i + k) 0 + ai * b.getD k 0 + c = t at *
    refine ⟨dig_set h1 _ (Nat.mod_lt _ (by decide)),by omega,by rw [List.length_set]; exact h3,fun j hj => by rw [getD_set_ne (by omega)]; exact h4 j (by omega),?_⟩
    have e1 : t / 256 * 256 ^ (i + (k + 1)) = 256 * (t / 256) * 256 ^ (i + k) := by
      rw [← Nat.add_assoc,Nat.pow_succ,Nat.mul_comm (256 ^ (i + k)),← Nat.mul_assoc,Nat.mul_comm (t / 256)]
    have e2 : ai * (b.getD k 0 * 256 ^ k) * 256 ^ i = ai * b.getD k 0 * 256 ^ (i + k) := by
      rw [Nat.pow_add,Nat.mul_comm (256 ^ i),← Nat.mul_assoc,← Nat.mul_assoc]
    rw [e1,hs,Nat.mul_add,Nat.add_mul,e2]
    have hM : t % 256 * 256 ^ (i + k) + 256 * (t / 256) * 256 ^ (i + k) = q.getD (i + k) 0 * 256 ^ (i + k) + ai * b.getD k 0 * 256 ^ (i + k) + c * 256 ^ (i + k) := by
      rw [← Nat.add_mul,← Nat.add_mul,← Nat.add_mul,hT]
      congr 1
      omega
    omega
theorem mulI_spec {a b : List Nat} (ha : Dig a) (hb : Dig b) : ∀ i,i ≤ a.length → Dig (mulI a b i) ∧ (mulI a b i).length = a.length + b.length ∧ (∀ j,i + b.length ≤ j → (mulI a b i).getD j 0 = 0) ∧ valL (mulI a b i) = valL (a.take i) * valL b
  | 0,_ => by
    refine ⟨fun x hx => ?_,List.length_replicate,fun j _ => ?_,?_⟩
    · have : x = 0 := List.eq_of_mem_replicate hx
      omega
    · show (List.replicate _ 0).getD j 0 = 0
      simp only [List.getD,List.getElem?_replicate]
      split <;> rfl
    · show valL (List.replicate _ 0) = _
      rw [val_rep]; simp [valL]
  | i + 1,hi => by
    obtain ⟨h1,h2,h3,h4⟩ := mulI_spec ha hb i (by omega)
    obtain ⟨k1,k2,k3,k4,k5⟩ := mulK_spec (i := i) (dig_getD ha i) hb b.length h1 (Nat.le_refl _) (by omega)
    have hs := val_snoc (l := a) (i := i) (by omega)
    unfold mulI
    generalize mulK (a.getD i 0) b i b.length (mulI a b i,0) = S at *
    obtain ⟨q,c⟩ := S
    simp only [] at *
    have hz := k4 (i + b.length) (Nat.le_refl _)
    rw [h3 _ (Nat.le_refl _)] at hz
    have hv := val_set (l := q) (i := i + b.length) c (by omega)
    rw [hz] at hv
    refine ⟨dig_set k1 _ k2,by rw [List.length_set]; omega,fun j hj => by rw [getD_set_ne (by omega),k4 j (by omega)]; exact h3 j (by omega),?_⟩
    rw [List.take_length] at k5
    rw [hs,Nat.add_mul]
    have e : a.getD i 0 * 256 ^ i * valL b = a.getD i 0 * valL b * 256 ^ i := by rw [Nat.mul_assoc,Nat.mul_comm (256 ^ i),← Nat.mul_assoc]
    rw [e]
    omega
theorem mulM_spec {a b : List Nat} (ha : Dig a) (hb : Dig b) : Dig (mulM a b) ∧ (mulM a b).length = a.length + b.length ∧ valL (mulM a b) = valL a * valL b := by
  obtain ⟨h1,h2,h3,h4⟩ := mulI_spec ha hb a.length (Nat.le_refl _)
  rw [List.take_length] at h4
  exact ⟨h1,h2,h4⟩
end Go.Box.D8
end
section
namespace Go.Box
def wordsW : Nat → Nat → List Nat
  | 0,_ => []
  | k + 1,n => (n % 18446744073709551616) :: wordsW k (n / 18446744073709551616)
theorem wordsW_len : ∀ (k n : Nat),(wordsW k n).length = k
  | 0,_ => rfl
  | k + 1,n => by rw [wordsW,List.length_cons,wordsW_len]
theorem wordsW_lt : ∀ (k n : Nat),W64 (wordsW k n)
  | 0,_ => fun x h => by cases h
  | k + 1,n => fun x h => by
    rcases List.mem_cons.1 h with rfl | h
    · exact Nat.mod_lt _ (by decide)
    · exact wordsW_lt k _ x h
theorem wordsW_val : ∀ (k n : Nat),valW (wordsW k n) = n % 18446744073709551616 ^ k
  | 0,n => by simp [wordsW,valW,Nat.mod_one]
  | k + 1,n => by
    rw [wordsW,valW,wordsW_val k,Nat.pow_succ,Nat.mul_comm (18446744073709551616 ^ k),Nat.mod_mul]
theorem wordsW_get : ∀ (k n i : Nat),i < k → (wordsW k n).getD i 0 = n / 18446744073709551616 ^ i % 18446744073709551616
  | k + 1,n,0,_ => by simp [wordsW,List.getD]
  | k + 1,n,i + 1,h => by
    rw [wordsW,List.getD_cons_succ,wordsW_get k _ i (by omega),Nat.div_div_eq_div_mul,Nat.pow_succ,Nat.mul_comm 18446744073709551616]
theorem wordsW_of : ∀ {l : List Nat},W64 l → wordsW l.length (valW l) = l
  | [],_ => rfl
  | x :: l,h => by
    have h1 := h x (List.mem_cons_self ..)
    have ih := wordsW_of (l := l) fun y hy => h y (List.mem_cons_of_mem _ hy)
    rw [List.length_cons,wordsW,valW]
    rw [show (x + 18446744073709551616 * valW l) % 18446744073709551616 = x by omega,show (x + 18446744073709551616 * valW l) / 18446744073709551616 = valW l by omega,ih]
theorem words_eq {a b : List Nat} (ha : W64 a) (hb : W64 b) (hl : a.length = b.length) (hv : valW a = valW b) : a = b := by
  rw [← wordsW_of ha,← wordsW_of hb,hl,hv]
theorem valW_set : ∀ {l : List Nat} {i : Nat} (y : Nat),i < l.length → valW (l.set i y) + l.getD i 0 * 18446744073709551616 ^ i = valW l + y * 18446744073709551616 ^ i
  | [],i,y,h => by simp at h
  | x :: l,0,y,h => by simp [valW]; omega
  | x :: l,i + 1,y,h => by
    have ih := valW_set (l := l) (i := i) y (by simpa using h)
    simp only [List.set_cons_succ,valW,List.getD_cons_succ]
    have e1 : l.getD i 0 * 18446744073709551616 ^ (i + 1) = 18446744073709551616 * (l.getD i 0 * 18446744073709551616 ^ i) := by rw [Nat.pow_succ,Nat.mul_comm 18446744073709551616,Nat.mul_assoc]
    have e2 : y * 18446744073709551616 ^ (i + 1) = 18446744073709551616 * (y * 18446744073709551616 ^ i) := by rw [Nat.pow_succ,Nat.mul_comm 18446744073709551616,Nat.mul_assoc]
    rw [e1,e2]
    omega
theorem w64_set {l : List Nat} (h : W64 l) (i : Nat) {y : Nat} (hy : y < 18446744073709551616) : W64 (l.set i y) := fun x hx => by
  rcases List.mem_or_eq_of_mem_set hx with hx | rfl
  · exact h x hx
  · exact hy
theorem pow_split (i : Nat) : (256 : Nat) ^ i = 18446744073709551616 ^ (i / 8) * 256 ^ (i % 8) := by
  have h : (18446744073709551616 : Nat) = 256 ^ 8 := by decide
  rw [h,← Nat.pow_mul,← Nat.pow_add]
  congr 1
  omega
theorem byte_more {m i x k : Nat} (hm : m < 256 ^ i) (hx : x < 256) (hi : i < 8 * k) :
    (wordsW k m).set (i / 8) ((wordsW k m).getD (i / 8) 0 + x * 256 ^ (i % 8)) = wordsW k (m + 256 ^ i * x) ∧ (wordsW k m).getD (i / 8) 0 < 256 ^ (i % 8) := by
  have hk : i / 8 < k := by omega
  have hg := wordsW_get k m (i / 8) hk
  have hps := pow_split i
  have hlt : m / 18446744073709551616 ^ (i / 8) < 256 ^ (i % 8) := by
    rw [hps] at hm
    exact Nat.div_lt_of_lt_mul hm
  have h8 : (256 : Nat) ^ (i % 8) * 256 ≤ 18446744073709551616 := by
    rw [← Nat.pow_succ]
    exact Nat.le_trans (Nat.pow_le_pow_right (by decide) (show i % 8 + 1 ≤ 8 by omega)) (by decide)
  rw [Nat.mod_eq_of_lt (by omega)] at hg
  have hb : (wordsW k m).getD (i / 8) 0 < 256 ^ (i % 8) := by rw [hg]; exact hlt
  refine ⟨?_,hb⟩
  have hxm : x * 256 ^ (i % 8) ≤ 255 * 256 ^ (i % 8) := Nat.mul_le_mul_right _ (by omega)
  have hnew : (wordsW k m).getD (i / 8) 0 + x * 256 ^ (i % 8) < 18446744073709551616 := by omega
  have hmk : m + 256 ^ i * x < 256 ^ (8 * k) := by
    have h1 : 256 ^ i * x ≤ 256 ^ i * 255 := Nat.mul_le_mul_left _ (by omega)
    have h2 : 256 ^ (i + 1) ≤ 256 ^ (8 * k) := Nat.pow_le_pow_right (by decide) (by omega)
    rw [Nat.pow_succ] at h2
    omega
  have hP : (256 : Nat) ^ (8 * k) = 18446744073709551616 ^ k := by rw [Nat.pow_mul]
  refine words_eq (w64_set (wordsW_lt _ _) _ hnew) (wordsW_lt _ _) (by rw [List.length_set,wordsW_len,wordsW_len]) ?_
  have hv := valW_set (l := wordsW k m) (i := i / 8) ((wordsW k m).getD (i / 8) 0 + x * 256 ^ (i % 8)) (by rw [wordsW_len]; exact hk)
  rw [Nat.add_mul] at hv
  have hvm : valW (wordsW k m) = m := by
    rw [wordsW_val]
    exact Nat.mod_eq_of_lt (by rw [← hP]; exact Nat.lt_of_le_of_lt (Nat.le_add_right _ _) hmk)
  have hvn : valW (wordsW k (m + 256 ^ i * x)) = m + 256 ^ i * x := by
    rw [wordsW_val]
    exact Nat.mod_eq_of_lt (by rw [← hP]; exact hmk)
  rw [hvn]
  rw [hvm] at hv
  have he : x * 256 ^ (i % 8) * 18446744073709551616 ^ (i / 8) = 256 ^ i * x := by rw [hps,Nat.mul_assoc,Nat.mul_comm (256 ^ (i % 8)),Nat.mul_comm x]
  rw [he] at hv
  omega
theorem byte_of (k n i : Nat) (hi : i < 8 * k) : (wordsW k n).getD (i / 8) 0 / 2 ^ (8 * (i % 8)) % 256 = n / 256 ^ i % 256 := by
  rw [wordsW_get k n _ (by omega)]
  have h1 : (2 : Nat) ^ (8 * (i % 8)) = 256 ^ (i % 8) := by rw [Nat.pow_mul]
  have h2 : (18446744073709551616 : Nat) = 256 ^ (i % 8) * 256 ^ (8 - i % 8) := by
    rw [← Nat.pow_add,show i % 8 + (8 - i % 8) = 8 by omega]
  have h3 : (256 : Nat) ^ (8 - i % 8) = 256 * 256 ^ (7 - i % 8) := by rw [show 8 - i % 8 = (7 - i % 8) + 1 by omega,Nat.pow_succ,Nat.mul_comm]
  rw [h1,pow_split i,← Nat.div_div_eq_div_mul]
  generalize n / 18446744073709551616 ^ (i / 8) = y
  rw [h2,Nat.mod_mul_right_div_self,h3,Nat.mod_mul_right_mod]
end Go.Box
end
section
namespace Go.Box
def partW (k n i : Nat) : List Nat := (List.range k).map fun t => if t < i then n / 18446744073709551616 ^ t % 18446744073709551616 else 0
theorem partW_len (k n i : Nat) : (partW k n i).length = k := by simp [partW]
theorem partW_end (k n : Nat) : partW k n k = wordsW k n := by
  apply List.ext_getElem (by rw [partW_len,wordsW_len])
  intro t h1 h2
  rw [partW_len] at h1
  have h3 := wordsW_get k n t h1
  simp only [List.getD,List.getElem?_eq_getElem h2,Option.getD_some] at h3
  rw [h3]
  simp only [partW,List.getElem_map,List.getElem_range]
  rw [if_pos h1]
theorem partW_set (k n : Nat) {i : Nat} (h : i < k) : (partW k n i).set i (n / 18446744073709551616 ^ i % 18446744073709551616) = partW k n (i + 1) := by
  apply List.ext_getElem (by rw [List.length_set,partW_len,partW_len])
  intro t h1 h2
  by_cases e : i = t
  · subst e
    rw [List.getElem_set_self]
    simp [partW]
  · rw [List.getElem_set_ne e]
    simp only [partW,List.getElem_map,List.getElem_range]
    by_cases c : t < i
    · rw [if_pos c,if_pos (by omega)]
    · rw [if_neg c,if_neg (by omega)]
def carW (a b i : Nat) : Nat := (a % 18446744073709551616 ^ i + b % 18446744073709551616 ^ i) / 18446744073709551616 ^ i
theorem carW_zero (a b : Nat) : carW a b 0 = 0 := by simp [carW,Nat.mod_one]
theorem carW_le (a b i : Nat) : carW a b i ≤ 1 := car_le a b _ (Nat.pow_pos (by decide))
theorem carW_step (a b i : Nat) : (a / 18446744073709551616 ^ i % 18446744073709551616 + b / 18446744073709551616 ^ i % 18446744073709551616 + carW a b i) % 18446744073709551616 = (a + b) / 18446744073709551616 ^ i % 18446744073709551616 ∧
    carM (a / 18446744073709551616 ^ i % 18446744073709551616) (b / 18446744073709551616 ^ i % 18446744073709551616) ((a + b) / 18446744073709551616 ^ i % 18446744073709551616) = carW a b (i + 1) := by
  have h := sum_digit (B := 18446744073709551616) a b (18446744073709551616 ^ i) (Nat.pow_pos (by decide)) (by decide)
  have h2 := carM_eq (a := a / 18446744073709551616 ^ i % 18446744073709551616) (b := b / 18446744073709551616 ^ i % 18446744073709551616) (c := carW a b i) (Nat.mod_lt _ (by decide)) (Nat.mod_lt _ (by decide)) (carW_le _ _ _)
  obtain ⟨h3,h4⟩ := h
  refine ⟨h3,?_⟩
  unfold carW at *
  rw [h3,h4] at h2
  rw [h2,Nat.pow_succ]
theorem carW_end {a b k : Nat} (ha : a < 18446744073709551616 ^ k) (hb : b < 18446744073709551616 ^ k) : carW a b k = (a + b) / 18446744073709551616 ^ k := by
  unfold carW
  rw [Nat.mod_eq_of_lt ha,Nat.mod_eq_of_lt hb]
def borW (a b i : Nat) : Nat := bor a b (18446744073709551616 ^ i)
theorem borW_zero (a b : Nat) : borW a b 0 = 0 := by simp [borW,bor,Nat.mod_one]
theorem borW_le (a b i : Nat) : borW a b i ≤ 1 := bor_le _ _ _
theorem over_mod (a k i : Nat) (h : i ≤ k) : (a + 18446744073709551616 ^ k) % 18446744073709551616 ^ i = a % 18446744073709551616 ^ i := by
  obtain ⟨j,rfl⟩ : ∃ j,k = i + j := ⟨k - i,by omega⟩
  rw [Nat.pow_add,Nat.add_mul_mod_self_left]
theorem over_dig (a k i : Nat) (h : i < k) : (a + 18446744073709551616 ^ k) / 18446744073709551616 ^ i % 18446744073709551616 = a / 18446744073709551616 ^ i % 18446744073709551616 := by
  obtain ⟨j,rfl⟩ : ∃ j,k = i + (j + 1) := ⟨k - i - 1,by omega⟩
  rw [Nat.pow_add,Nat.add_mul_div_left _ _ (Nat.pow_pos (by decide)),Nat.pow_succ,Nat.add_mul_mod_self_right]
theorem borW_step (a b k i : Nat) (hi : i < k) (hb : b < 18446744073709551616 ^ k) :
    (a / 18446744073709551616 ^ i % 18446744073709551616 + 36893488147419103232 - b / 18446744073709551616 ^ i % 18446744073709551616 - borW a b i) % 18446744073709551616 = (a + 18446744073709551616 ^ k - b) / 18446744073709551616 ^ i % 18446744073709551616 ∧
      borM (a / 18446744073709551616 ^ i % 18446744073709551616) (b / 18446744073709551616 ^ i % 18446744073709551616) ((a + 18446744073709551616 ^ k - b) / 18446744073709551616 ^ i % 18446744073709551616) = borW a b (i + 1) := by
  have h := sub_digit (B := 18446744073709551616) (a + 18446744073709551616 ^ k) b (18446744073709551616 ^ i) (Nat.pow_pos (by decide)) (by decide) (by omega)
  have e1 : bor (a + 18446744073709551616 ^ k) b (18446744073709551616 ^ i) = borW a b i := by
    unfold borW bor
    rw [over_mod a k i (by omega)]
  have e2 : bor (a + 18446744073709551616 ^ k) b (18446744073709551616 ^ i * 18446744073709551616) = borW a b (i + 1) := by
    unfold borW bor
    rw [← Nat.pow_succ,over_mod a k (i + 1) (by omega)]
  rw [e1,e2,over_dig a k i hi] at h
  have hle := borW_le a b i
  have h2 := borM_eq (a := a / 18446744073709551616 ^ i % 18446744073709551616) (b := b / 18446744073709551616 ^ i % 18446744073709551616) (c := borW a b i) (Nat.mod_lt _ (by decide)) (Nat.mod_lt _ (by decide)) hle
  have ma : a / 18446744073709551616 ^ i % 18446744073709551616 < 18446744073709551616 := Nat.mod_lt _ (by decide)
  have mb : b / 18446744073709551616 ^ i % 18446744073709551616 < 18446744073709551616 := Nat.mod_lt _ (by decide)
  generalize a / 18446744073709551616 ^ i % 18446744073709551616 = xa at *
  generalize b / 18446744073709551616 ^ i % 18446744073709551616 = xb at *
  generalize (a + 18446744073709551616 ^ k - b) / 18446744073709551616 ^ i % 18446744073709551616 = d at *
  generalize borW a b (i + 1) = c' at *
  generalize borW a b i = c at *
  obtain ⟨h3,h4⟩ := h
  have e3 : (xa + 36893488147419103232 - xb - c) % 18446744073709551616 = d := by omega
  refine ⟨e3,?_⟩
  rw [e3] at h2
  rw [h2,← h4]
  split <;> omega
theorem borW_end {a b k : Nat} (ha : a < 18446744073709551616 ^ k) (hb : b < 18446744073709551616 ^ k) : borW a b k = if a < b then 1 else 0 := by
  unfold borW bor
  rw [Nat.mod_eq_of_lt ha,Nat.mod_eq_of_lt hb]
theorem pick_one {x y : Nat} (hx : x < 18446744073709551616) (hy : y < 18446744073709551616) : x ^^^ (18446744073709551615 &&& (x ^^^ y)) = y := by
  have h : x ^^^ y < 2 ^ 64 := Nat.xor_lt_two_pow (n := 64) hx hy
  have e : 18446744073709551615 &&& (x ^^^ y) = x ^^^ y := by
    rw [Nat.and_comm,show (18446744073709551615 : Nat) = 2 ^ 64 - 1 from rfl,Nat.and_two_pow_sub_one_eq_mod,Nat.mod_eq_of_lt h]
  rw [e,← Nat.xor_assoc,Nat.xor_self,Nat.zero_xor]
def pickF (a b : List Nat) (i : Nat) : List Nat := (List.range 4).map fun t => if t < i then b.getD t 0 else a.getD t 0
theorem pickF_len (a b : List Nat) (i : Nat) : (pickF a b i).length = 4 := by simp [pickF]
theorem pickF_zero {a : List Nat} (b : List Nat) (h : a.length = 4) : pickF a b 0 = a := by
  apply List.ext_getElem (by rw [pickF_len,h])
  intro t h1 h2
  simp [pickF,List.getD,h2]
theorem pickF_end (a : List Nat) {b : List Nat} (h : b.length = 4) : pickF a b 4 = b := by
  apply List.ext_getElem (by rw [pickF_len,h])
  intro t h1 h2
  simp only [pickF,List.getElem_map,List.getElem_range]
  rw [if_pos (by omega)]
  simp [List.getD,h2]
theorem pickF_get (a b : List Nat) {i : Nat} (h : i < 4) : (pickF a b i).getD i 0 = a.getD i 0 := by
  simp [pickF,List.getD,h]
theorem pickF_set (a b : List Nat) {i : Nat} (h : i < 4) : (pickF a b i).set i (b.getD i 0) = pickF a b (i + 1) := by
  apply List.ext_getElem (by rw [List.length_set,pickF_len,pickF_len])
  intro t h1 h2
  by_cases e : i = t
  · subst e
    rw [List.getElem_set_self]
    simp [pickF]
  · rw [List.getElem_set_ne e]
    simp only [pickF,List.getElem_map,List.getElem_range]
    by_cases c : t < i
    · rw [if_pos c,if_pos (by omega)]
    · rw [if_neg c,if_neg (by omega)]
end Go.Box
end
section
namespace Go.Box
theorem pow32 (i : Nat) : (18446744073709551616 : Nat) ^ i = 4294967296 ^ (2 * i) := by
  rw [Nat.pow_mul]
theorem D32.val_get : ∀ {l : List Nat} (i : Nat),D32.Dig l → D32.valL l / 4294967296 ^ i % 4294967296 = l.getD i 0
  | [],i,_ => by simp [D32.valL,List.getD]
  | x :: l,0,h => by
    have := h x (List.mem_cons_self ..)
    simp only [D32.valL,Nat.pow_zero,Nat.div_one,List.getD_cons_zero]
    omega
  | x :: l,i + 1,h => by
    have h1 := h x (List.mem_cons_self ..)
    have ih := D32.val_get (l := l) i fun y hy => h y (List.mem_cons_of_mem _ hy)
    rw [List.getD_cons_succ,← ih,D32.valL,Nat.pow_succ,Nat.mul_comm (4294967296 ^ i),← Nat.div_div_eq_div_mul]
    congr 2
    omega
def digsH : Nat → Nat → List Nat
  | 0,_ => []
  | k + 1,n => (n % 4294967296) :: digsH k (n / 4294967296)
theorem digsH_len : ∀ (k n : Nat),(digsH k n).length = k
  | 0,_ => rfl
  | k + 1,n => by rw [digsH,List.length_cons,digsH_len]
theorem digsH_dig : ∀ (k n : Nat),D32.Dig (digsH k n)
  | 0,_ => fun x h => by cases h
  | k + 1,n => fun x h => by
    rcases List.mem_cons.1 h with rfl | h
    · exact Nat.mod_lt _ (by decide)
    · exact digsH_dig k _ x h
theorem digsH_val : ∀ (k n : Nat),D32.valL (digsH k n) = n % 4294967296 ^ k
  | 0,n => by simp [digsH,D32.valL,Nat.mod_one]
  | k + 1,n => by
    rw [digsH,D32.valL,digsH_val k,Nat.pow_succ,Nat.mul_comm (4294967296 ^ k),Nat.mod_mul]
theorem digsH_get : ∀ (k n i : Nat),i < k → (digsH k n).getD i 0 = n / 4294967296 ^ i % 4294967296
  | k + 1,n,0,_ => by simp [digsH,List.getD]
  | k + 1,n,i + 1,h => by
    rw [digsH,List.getD_cons_succ,digsH_get k _ i (by omega),Nat.div_div_eq_div_mul,Nat.pow_succ,Nat.mul_comm 4294967296]
theorem half_of (k n i : Nat) (hi : i < 2 * k) : (wordsW k n).getD (i / 2) 0 / 2 ^ (32 * (i % 2)) % 4294967296 = n / 4294967296 ^ i % 4294967296 := by
  rw [wordsW_get k n _ (by omega),pow32]
  have e : (4294967296 : Nat) ^ i = 4294967296 ^ (2 * (i / 2)) * 4294967296 ^ (i % 2) := by
    rw [← Nat.pow_add]; congr 1; omega
  rw [e,← Nat.div_div_eq_div_mul]
  generalize n / 4294967296 ^ (2 * (i / 2)) = y
  have hc : i % 2 = 0 ∨ i % 2 = 1 := by omega
  rcases hc with h | h
  · rw [h]
    simp only [Nat.mul_zero,Nat.pow_zero,Nat.div_one]
    omega
  · rw [h,Nat.mul_one,Nat.pow_one,show (2 : Nat) ^ 32 = 4294967296 from rfl]
    omega
def partH (k n i : Nat) : List Nat := (List.range k).map fun t => if t < i then n / 4294967296 ^ t % 4294967296 else 0
theorem partH_len (k n i : Nat) : (partH k n i).length = k := by simp [partH]
theorem partH_end (k n : Nat) : partH k n k = digsH k n := by
  apply List.ext_getElem (by rw [partH_len,digsH_len])
  intro t h1 h2
  rw [partH_len] at h1
  have h3 := digsH_get k n t h1
  simp only [List.getD,List.getElem?_eq_getElem h2,Option.getD_some] at h3
  rw [h3]
  simp only [partH,List.getElem_map,List.getElem_range]
  rw [if_pos h1]
theorem partH_set (k n : Nat) {i : Nat} (h : i < k) : (partH k n i).set i (n / 4294967296 ^ i % 4294967296) = partH k n (i + 1) := by
  apply List.ext_getElem (by rw [List.length_set,partH_len,partH_len])
  intro t h1 h2
  by_cases e : i = t
  · subst e
    rw [List.getElem_set_self]
    simp [partH]
  · rw [List.getElem_set_ne e]
    simp only [partH,List.getElem_map,List.getElem_range]
    by_cases c : t < i
    · rw [if_pos c,if_pos (by omega)]
    · rw [if_neg c,if_neg (by omega)]
theorem word_of {L : List Nat} (h : D32.Dig L) (t : Nat) : L.getD (2 * t) 0 + L.getD (2 * t + 1) 0 * 4294967296 = D32.valL L / 18446744073709551616 ^ t % 18446744073709551616 := by
  rw [← D32.val_get _ h,← D32.val_get _ h,pow32,Nat.pow_succ,← Nat.div_div_eq_div_mul]
  generalize D32.valL L / 4294967296 ^ (2 * t) = y
  omega
theorem mul_halves {a b : Nat} (ha : a < 18446744073709551616 ^ 4) (hb : b < 18446744073709551616 ^ 4) :
    D32.Dig (D32.mulM (digsH 8 a) (digsH 8 b)) ∧ (D32.mulM (digsH 8 a) (digsH 8 b)).length = 16 ∧ D32.valL (D32.mulM (digsH 8 a) (digsH 8 b)) = a * b := by
  obtain ⟨h1,h2,h3⟩ := D32.mulM_spec (digsH_dig 8 a) (digsH_dig 8 b)
  rw [digsH_len,digsH_len] at h2
  rw [digsH_val,digsH_val,Nat.mod_eq_of_lt (by rw [pow32] at ha; exact ha),Nat.mod_eq_of_lt (by rw [pow32] at hb; exact hb)] at h3
  exact ⟨h1,h2,h3⟩
end Go.Box
end
section
namespace Go.Box
def foldT (w : Nat) : Nat := w % 1361129467683753853853498429727072845824 + 5 * (w / 1361129467683753853853498429727072845824)
def timesT (a r : Nat) : Nat := foldT (foldT (a * r))
theorem foldT_mod (w : Nat) : foldT w % 1361129467683753853853498429727072845819 = w % 1361129467683753853853498429727072845819 := by
  unfold foldT
  omega
theorem foldT_le {w : Nat} (h : w < 115792089237316195423570985008687907853269984665640564039457584007913129639936) : foldT w < 2722258935367507707706996859454145691648 := by
  unfold foldT
  omega
theorem timesT_mod (a r : Nat) : timesT a r % 1361129467683753853853498429727072845819 = a * r % 1361129467683753853853498429727072845819 := by
  unfold timesT
  rw [foldT_mod,foldT_mod]
theorem timesT_le {a r : Nat} (h : a * r < 115792089237316195423570985008687907853269984665640564039457584007913129639936) : timesT a r < 1361129467683753853853498429727072845924 := by
  have h1 := foldT_le h
  unfold timesT
  generalize foldT (a * r) = w at *
  unfold foldT
  omega
def lessT (a : Nat) : Nat := if a < 1361129467683753853853498429727072845819 then a else a - 1361129467683753853853498429727072845819
theorem lessT_two {a : Nat} (h : a < 3 * 1361129467683753853853498429727072845819) : lessT (lessT a) = a % 1361129467683753853853498429727072845819 := by
  unfold lessT
  (repeat' split) <;> omega
theorem words_low (n : Nat) : wordsW 4 (n % 1361129467683753853853498429727072845824) = [n % 18446744073709551616,n / 18446744073709551616 % 18446744073709551616,n / 18446744073709551616 / 18446744073709551616 % 18446744073709551616 % 4,0] := by
  simp only [wordsW,List.cons.injEq,and_true]
  refine ⟨?_,?_,?_,?_⟩ <;> omega
theorem words_high (n : Nat) (h : n < 2135987035920910082395021706169552114602704522356652769947041607822219725780640550022962086936576) : wordsW 4 (n / 1361129467683753853853498429727072845824) =
    [n / 18446744073709551616 / 18446744073709551616 % 18446744073709551616 / 4 + n / 18446744073709551616 / 18446744073709551616 / 18446744073709551616 % 18446744073709551616 % 4 * 4611686018427387904,
     n / 18446744073709551616 / 18446744073709551616 / 18446744073709551616 % 18446744073709551616 / 4 + n / 18446744073709551616 / 18446744073709551616 / 18446744073709551616 / 18446744073709551616 % 18446744073709551616 % 4 * 4611686018427387904,
     n / 18446744073709551616 / 18446744073709551616 / 18446744073709551616 / 18446744073709551616 % 18446744073709551616 / 4,0] := by
  simp only [wordsW,List.cons.injEq,and_true]
  refine ⟨?_,?_,?_,?_⟩ <;> omega
theorem words_wide {n : Nat} (h : n < 115792089237316195423570985008687907853269984665640564039457584007913129639936) : wordsW 8 n = wordsW 4 n ++ [0,0,0,0] := by
  simp only [wordsW,List.cons_append,List.nil_append,List.cons.injEq,and_true,true_and]
  refine ⟨?_,?_,?_,?_⟩ <;> omega
def foldN (w : Nat) : Nat → Nat
  | 0 => w
  | i + 1 => foldT (foldN w i)
theorem foldN_le {w : Nat} (h : w < 115792089237316195423570985008687907853269984665640564039457584007913129639936) : ∀ i,foldN w i < 115792089237316195423570985008687907853269984665640564039457584007913129639936
  | 0 => h
  | i + 1 => Nat.lt_trans (foldT_le (foldN_le h i)) (by decide)
theorem numL_lt_last {l : List UInt8} {x : UInt8} {k : Nat} (h : x.toNat < k) : numL (l ++ [x]) < k * 256 ^ l.length := by
  rw [numL_append]
  have h1 := numL_lt l
  have h2 : numL [x] = x.toNat := by simp [numL,valD]
  rw [h2]
  have h3 : 256 ^ l.length * (x.toNat + 1) ≤ 256 ^ l.length * k := Nat.mul_le_mul_left _ h
  rw [Nat.mul_add,Nat.mul_one] at h3
  rw [Nat.mul_comm k]
  omega
theorem cut_small (r : List UInt8) : numL (cutL r) < 21267647932558653966460912964485513216 := by
  have e : cutL r = (List.range 15).map (fun i => if i % 4 = 3 then (r.getD i 0) % 16 else if i % 4 = 0 ∧ 0 < i then r.getD i 0 - (r.getD i 0) % 4 else r.getD i 0) ++ [(r.getD 15 0) % 16] := by
    unfold cutL
    rw [show List.range 16 = List.range 15 ++ [15] from rfl,List.map_append]
    rfl
  rw [e]
  have h : ((r.getD 15 0) % 16).toNat < 16 := by
    rw [UInt8.toNat_mod]
    exact Nat.mod_lt _ (by decide)
  have := numL_lt_last (l := (List.range 15).map (fun i => if i % 4 = 3 then (r.getD i 0) % 16 else if i % 4 = 0 ∧ 0 < i then r.getD i 0 - (r.getD i 0) % 4 else r.getD i 0)) h
  rw [List.length_map,List.length_range] at this
  exact Nat.lt_of_lt_of_le this (by decide)
theorem chunk_small (b : List UInt8) (i : Nat) : numL (chunk b i) < 680564733841876926926749214863536422912 := by
  have h : numL (chunk b i) < 2 * 256 ^ ((b.drop (i * 16)).take 16).length := by
    unfold chunk
    exact numL_lt_last (by decide)
  refine Nat.lt_of_lt_of_le h ?_
  have hl : ((b.drop (i * 16)).take 16).length ≤ 16 := by rw [List.length_take]; omega
  have : 256 ^ ((b.drop (i * 16)).take 16).length ≤ 256 ^ 16 := Nat.pow_le_pow_right (by decide) hl
  have e : 2 * 256 ^ 16 = 680564733841876926926749214863536422912 := by decide
  omega
def accT (r : Nat) (b : List UInt8) : Nat → Nat
  | 0 => 0
  | i + 1 => timesT (accT r b i + numL (chunk b i)) r
theorem acc_prod {a n r : Nat} (ha : a < 1361129467683753853853498429727072845924) (hn : n < 680564733841876926926749214863536422912) (hr : r < 21267647932558653966460912964485513216) : (a + n) * r < 115792089237316195423570985008687907853269984665640564039457584007913129639936 := by
  have h : (a + n) * r < 2722258935367507707706996859454145691648 * 21267647932558653966460912964485513216 := Nat.mul_lt_mul'' (by omega) hr
  omega
theorem accT_le {r : Nat} (b : List UInt8) (hr : r < 21267647932558653966460912964485513216) : ∀ i,accT r b i < 1361129467683753853853498429727072845924
  | 0 => (by decide : (0 : Nat) < 1361129467683753853853498429727072845924)
  | i + 1 => timesT_le (acc_prod (accT_le b hr i) (chunk_small b i) hr)
theorem accT_mod (r : Nat) (b : List UInt8) : ∀ i,accT r b i % 1361129467683753853853498429727072845819 = accM r b i
  | 0 => rfl
  | i + 1 => by
    show timesT (accT r b i + numL (chunk b i)) r % 1361129467683753853853498429727072845819 = ((accM r b i + numL (chunk b i)) * r) % 1361129467683753853853498429727072845819
    rw [timesT_mod,← accT_mod r b i]
    conv => lhs; rw [Nat.mul_mod]
    conv => rhs; rw [Nat.mul_mod,Nat.mod_add_mod]
theorem acc_end {r : Nat} (b : List UInt8) (hr : r < 21267647932558653966460912964485513216) (i : Nat) : lessT (lessT (accT r b i)) = accM r b i := by
  have h := accT_le b hr i
  rw [lessT_two (by omega),accT_mod]
theorem words_mod4 (n : Nat) : wordsW 4 (n + 115792089237316195423570985008687907853269984665640564039457584007913129639936) = wordsW 4 n := by
  simp only [wordsW,List.cons.injEq,and_true]
  refine ⟨?_,?_,?_,?_⟩ <;> omega
theorem words_less (a : Nat) : wordsW 4 (if (if a < 1361129467683753853853498429727072845819 then 1 else 0) = 0 then a + 18446744073709551616 ^ 4 - 1361129467683753853853498429727072845819 else a) = wordsW 4 (lessT a) := by
  unfold lessT
  by_cases h : a < 1361129467683753853853498429727072845819
  · simp [h]
  · rw [if_neg h,if_neg h,if_pos rfl,show a + 18446744073709551616 ^ 4 - 1361129467683753853853498429727072845819 = (a - 1361129467683753853853498429727072845819) + 115792089237316195423570985008687907853269984665640564039457584007913129639936 by omega,words_mod4]
theorem lessT_le (a : Nat) : lessT a ≤ a := by
  unfold lessT
  split <;> omega
def lessN (x : Nat) : Nat → Nat
  | 0 => x
  | i + 1 => lessT (lessN x i)
theorem lessN_le (x : Nat) : ∀ i,lessN x i ≤ x
  | 0 => Nat.le_refl _
  | i + 1 => Nat.le_trans (lessT_le _) (lessN_le x i)
theorem bytesN_take : ∀ (k j n : Nat),j ≤ k → (bytesN k n).take j = bytesN j n
  | _,0,_,_ => by simp [bytesN]
  | k + 1,j + 1,n,h => by rw [bytesN,bytesN,List.take_succ_cons,bytesN_take k j _ (by omega)]
end Go.Box
end
