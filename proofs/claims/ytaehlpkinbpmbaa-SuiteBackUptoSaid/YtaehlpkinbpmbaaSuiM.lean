/-
  The walks of the suite layer: the document's suite: what is asked.
  Conditions: none. Lemmas only.
-/
import Derived.Test.YtaehlpkinbpmbaaSuiL
set_option linter.all false
set_option linter.unusedSimpArgs false
set_option linter.unusedVariables false
set_option maxRecDepth 20000
namespace Go.Proofs.Ytaehlpkinbpmbaa
open Go Go.Abs Go.Proofs

theorem name_num {x : Term} {n : Nat} (hn : n < 18446744073709551616) : numB (nameT x n) = n := by
  have e : ((nameT x n).drop 1).take 8 = lowL 8 n := by
    show ((lowL 8 n ++ List.replicate (sizeT x - 9) 0)).take 8 = _
    rw [List.take_append_of_le_length (by rw [lowL_length]; omega),List.take_of_length_le (by rw [lowL_length]; omega)]
  unfold numB
  rw [e,worthL_low,Nat.mod_eq_of_lt (by omega)]
theorem findT_hit {ts : List Term} {b : List UInt8} {kd : UInt8} {i : Nat} (hi : i < ts.length) (hl : ts.length ≤ 1000000) (hk : ts[i].kind = kd) (hb : nameT ts[i] (i + 1) = b) : findT ts b kd = (ts[i],true) := by
  have hnum : numB b = i + 1 := by rw [← hb]; exact name_num (by omega)
  have hlen : ¬ b.length < 9 := by rw [← hb,nameT_length]; have := sizeT_ge ts[i]; omega
  have hhd : b.headD 0 = kd := by rw [← hb,← hk]; rfl
  have hg : ts.getD i ⟨0,[]⟩ = ts[i] := by simp [List.getD,hi]
  rw [findT,if_neg (by simp only [hhd,ne_eq,not_true_eq_false,or_false]; exact hlen),if_neg (by rw [hnum]; omega),hnum]
  simp only [Nat.add_sub_cancel,hg,hk,hb,true_and,decide_true]
end Go.Proofs.Ytaehlpkinbpmbaa
