/-
  Words that are turned and shifted, in plain Lean.
  Conditions: none. Lemmas only.
-/
import Derived.Test.YtibipjdngpjndaaAbsG1
set_option linter.all false
namespace Go.Sha
def rotM (w x n : Nat) : Nat := x / 2 ^ n + x % 2 ^ n * 2 ^ (w - n)
theorem rot_lt {w x n : Nat} (hx : x < 2 ^ w) (hn : n ≤ w) : rotM w x n < 2 ^ w := by
  unfold rotM
  have e : 2 ^ w = 2 ^ n * 2 ^ (w - n) := by rw [← Nat.pow_add]; congr 1; omega
  have h1 : x / 2 ^ n < 2 ^ (w - n) := by
    rw [e] at hx
    exact Nat.div_lt_of_lt_mul hx
  have h2 : x % 2 ^ n + 1 ≤ 2 ^ n := Nat.mod_lt _ (Nat.two_pow_pos n)
  have h3 := Nat.mul_le_mul_right (2 ^ (w - n)) h2
  rw [Nat.add_mul,Nat.one_mul] at h3
  omega
theorem rot_step {w x n : Nat} (hx : x < 2 ^ w) (hn : n < w) : rotM w x n / 2 + rotM w x n % 2 * 2 ^ (w - 1) = rotM w x (n + 1) := by
  unfold rotM
  obtain ⟨k,hk⟩ : ∃ k,w = n + 1 + k := ⟨w - (n + 1),by omega⟩
  subst hk
  rw [show n + 1 + k - n = k + 1 by omega,show n + 1 + k - (n + 1) = k by omega,show n + 1 + k - 1 = n + k by omega]
  have e1 : (x / 2 ^ n + x % 2 ^ n * 2 ^ (k + 1)) / 2 = x / 2 ^ (n + 1) + x % 2 ^ n * 2 ^ k := by
    rw [Nat.pow_succ 2 k,← Nat.mul_assoc,Nat.add_mul_div_right _ _ (by decide),Nat.div_div_eq_div_mul,← Nat.pow_succ]
  have e2 : (x / 2 ^ n + x % 2 ^ n * 2 ^ (k + 1)) % 2 = x / 2 ^ n % 2 := by
    rw [Nat.pow_succ 2 k,← Nat.mul_assoc,Nat.add_mul_mod_self_right]
  have e3 : x % 2 ^ (n + 1) = x % 2 ^ n + 2 ^ n * (x / 2 ^ n % 2) := by
    rw [Nat.pow_succ,Nat.mod_mul]
  rw [e1,e2,e3,Nat.add_mul,Nat.add_assoc]
  congr 2
  rw [Nat.pow_add,← Nat.mul_assoc,Nat.mul_comm (x / 2 ^ n % 2)]
theorem rot_or {w x n : Nat} (hx : x < 2 ^ w) (hn : n ≤ w) : (x / 2 ^ n) ||| (x * 2 ^ (w - n) % 2 ^ w) = rotM w x n := by
  have e : 2 ^ w = 2 ^ n * 2 ^ (w - n) := by rw [← Nat.pow_add]; congr 1; omega
  have h1 : x / 2 ^ n < 2 ^ (w - n) := by
    rw [e] at hx
    exact Nat.div_lt_of_lt_mul hx
  rw [e,Nat.mul_mod_mul_right,Nat.or_comm,Nat.mul_comm (x % 2 ^ n),← Nat.two_pow_add_eq_or_of_lt h1]
  unfold rotM
  rw [Nat.add_comm,Nat.mul_comm]
theorem xor_lt {w a b : Nat} (ha : a < 2 ^ w) (hb : b < 2 ^ w) : a ^^^ b < 2 ^ w := Nat.xor_lt_two_pow ha hb
end Go.Sha
