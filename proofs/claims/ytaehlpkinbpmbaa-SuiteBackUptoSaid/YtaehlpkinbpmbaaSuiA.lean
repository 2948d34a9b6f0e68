/-
  The walks of the suite layer: own, numbers in eight bytes, equality of bytes.
  Conditions: none. Lemmas only.
-/
import Derived.Test.YtaehlpkinbpmbaaSuiFacts
import Derived.Test.YtaehlpkinbpmbaaAbsG5
set_option linter.all false
set_option linter.unusedSimpArgs false
set_option linter.unusedVariables false
set_option maxRecDepth 20000
namespace Go.Proofs.Ytaehlpkinbpmbaa
open Go Go.Abs Go.Proofs

theorem own_pure (xs : List UInt8) (h : xs.length ≤ 140737488355328) : APure Try.prog 52 [bytesV xs] (bytesV xs) := by
  refine az (c := ⟨Try.prog,6,[],[3],[]⟩) (rs := [ResultVar.tmp 2]) Try.mixed Try.func52 rfl rfl rfl (Nat.le_of_ble_eq_true rfl) (by kernel_rfl) fun H => ?_
  simp (disch := omega) only [↓aI,↓zP,aD,zD,aS,simprocAttr,Try.facts]
  intro k hk0 hk
  simp (disch := omega) only [↓aI,↓zP,aD,zD,aS,simprocAttr,Try.facts]
  intro k' o' _ hk' _
  exact Sub.set_new (am hk')

theorem beq_pure (xs ys : List UInt8) : APure Try.prog 116 [bytesV xs,bytesV ys] (.sc (.bool (xs == ys))) := by
  refine az (c := ⟨Try.prog,10,[],[],[]⟩) (rs := [ResultVar.tmp 4]) Try.mixed Try.func116 rfl rfl rfl (Nat.le_of_ble_eq_true rfl) (by kernel_rfl) fun H => ?_
  simp (disch := omega) only [↓aI,↓zP,aD,zD,aS,simprocAttr,Try.facts,bO]
  exact Abs.Sub.refl _

theorem eight_pure (n : Nat) (hn : n < 9223372036854775808) : APure Try.prog 44 [.sc (.int .i64 n)] (bytesV (lowL 8 n)) := by
  have hl := lowL_length 8 n
  have ht := lowL_take 8 n
  generalize lowL 8 n = L at *
  refine az (c := ⟨Try.prog,19,[],[],[]⟩) (rs := [ResultVar.tmp 2]) Try.mixed Try.func44 rfl rfl rfl (Nat.le_of_ble_eq_true rfl) (by kernel_rfl) fun H => ?_
  simp (disch := omega) only [↓aI,↓zP,aD,zD,aS,simprocAttr,Try.facts]
  refine tok_t 3 (by simp (disch := omega) only [↓aI,↓zP,aD,zD,aS,simprocAttr,Try.facts]) fun k hk0 hk => ?_
  refine br (c := ⟨Try.prog,19,[],[],[]⟩) Try.mixed (by kernel_rfl) (fun m σ H' => ∃ i,i + m = 8 ∧ σ 0 = .sc (.int .i64 n) ∧ σ 5 = .sc (.int .i64 i) ∧ ∃ k o,k ≠ 0 ∧ H k = none ∧ H' = H.set k o ∧ cy 5 1 o i ∧ σ 3 = .imm k (bw (L.take i)) i) 8 ?_ ?_
  · refine ⟨0,by omega,?_⟩
    simp (disch := omega) only [↓aI,↓zP,aD,zD,aS,simprocAttr,Try.facts]
    exact ⟨k,_,hk0,hk,rfl,.inr ⟨rfl,rfl⟩,by simp [bw]⟩
  · rintro m σ H' ⟨i,hi,h0,h5,k,o,hk0,hk,rfl,ho,h3⟩
    by_cases hlt : i < 8
    · have hb1 : decide ((i : Int) < 8) = true := by simp; omega
      have hz := ht i hlt
      have hli : (L.take i).length = i := by simp; omega
      generalize L.take i = l at *
      have hs : ((n : Int)).fdiv (2 ^ min (8 * i) 64) = ((n / 256 ^ i : Nat) : Int) := by
        rw [Nat.min_eq_left (by omega),show (256 : Nat) = 2 ^ 8 from rfl,← Nat.pow_mul,Int.fdiv_eq_ediv_of_nonneg _ (by exact_mod_cast Nat.zero_le _)]
        simp
      simp (disch := omega) only [↓aI,↓zP,aD,zD,aS,simprocAttr,Try.facts,h0,h3,h5,hb1,ho,hli,↓wcastU,↓wcast8,hs]
      intro k' o' hk0' hk' ho'
      exact ⟨m - 1,by omega,i + 1,by omega,rfl,k',o',hk0',am hk',rfl,ho',by rw [hz]⟩
    · have hb1 : decide ((i : Int) < 8) = false := by simp; omega
      obtain rfl : m = 0 := by omega
      obtain rfl : i = 8 := by omega
      simp (disch := omega) only [↓aI,↓zP,aD,zD,aS,simprocAttr,Try.facts,h0,h3,h5,hb1]
      rw [List.take_of_length_le (by omega),bytesV,hl]
      exact ⟨rfl,Sub.set_new hk⟩

end Go.Proofs.Ytaehlpkinbpmbaa
