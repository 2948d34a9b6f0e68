/-
  Lists of lists of operations, and wishes, as they are read.
  Conditions: none. Lemmas only.
-/
import Derived.Test.YtcgjlmopeblapaaGreatPapG7
import Derived.Test.YtcgjlmopeblapaaGreatPapG9
import Derived.Test.YtcgjlmopeblapaaGreatPapG8
set_option linter.all false
set_option maxRecDepth 20000
namespace Go.Proofs.YtcgjlmopeblapaaGreat
open Go Go.Abs Go.Proofs Go.Fug
abbrev opssOf (x : List (List OpX)) : List (List Opn) := x.map fun l => l.map opOf
theorem opss_enc (x : List (List OpX)) : (Tryz.ty22.enc x).getD 0 .any = opssV (opssOf x) := by
  show AV.imm 0 (x.flatMap fun l => [AV.imm 0 (l.flatMap Tryz.ty58.enc) l.length]) x.length = .imm 0 ((opssOf x).map opsV) (opssOf x).length
  rw [flat_one,List.length_map]
  congr 1
  rw [List.map_map]
  refine List.map_congr_left fun l _ => ?_
  show AV.imm 0 (l.flatMap Tryz.ty58.enc) l.length = opsV (l.map opOf)
  rw [ops_enc,opsV,List.length_map]
theorem opss_len (x : List (List OpX)) : (opssOf x).length ≤ Tryz.ty22.size x := by
  show (opssOf x).length ≤ sumMap Tryz.ty28.size x + 1
  rw [List.length_map]
  have : ∀ l : List (List OpX),l.length ≤ sumMap Tryz.ty28.size l := by
    intro l
    induction l with
    | nil => exact Nat.zero_le _
    | cons a l ih =>
      show l.length + 1 ≤ _
      have h2 : 1 ≤ Tryz.ty28.size a := by
        show 1 ≤ sumMap _ a + 1
        omega
      simp only [sumMap,List.map_cons,List.sum_cons] at ih ⊢
      omega
  have := this x
  omega
end Go.Proofs.YtcgjlmopeblapaaGreat
