/-
  No cell of these rows narrows 'for every input' (looked for: loops, veiled, ifaces, maps, wideKeys, modest, calm, conditions, laid).
  DERIVED. THE GIVEN ROWS OF THIS SEAT. 9 by the template 'for every input the law returns true; each argument reads behind the call as it read before'; 0 by the template 'total and deterministic' (their statements: YtimonfakmadhpaaTotals.lean).
  GIVEN WITH THE SEED: the statements are not yours to turn. If you find one false, say at which input.
  Laid BY PROGRAM, IN A SANDBOX (cutbox-rows.mjs): the forced cells as the released guide's own fill.sh prints them over the translation 8ed6f901cbad8e1b… (all of the seat's roots in one cut). By AI agents, Wed Nov 11 2026. No macro, syntax, notation, axiom, sorry.
-/
import Derived.Test.YtimonfakmadhpaaChecked
import GoSem.Claim
import GoSem.ClaimJoined
import GoSem.ClaimMapViews
import Derived.JoinedTies
import Derived.KernelRfl
namespace Go.Proofs.Ytimonfakmadhpaa
/- THE CELL 'sum', in the pinned program and in every row, IS THE sha256 OF THE DUMP (.gsa) THAT YtimonfakmadhpaaProg.lean LOADS. Nothing in Lean hashes anything: it is a label: what it is worth is what the hold of that sum in a sandbox is worth. -/
noncomputable def Try.pinned : Pinned := { name := "ytimonfakmadhpaa", sum := "8ed6f901cbad8e1bfc6f1b6c3f50ebbb022db0578222c58a9fee0281b00de83e", checked := Try.checked }
namespace Rows
def none {H : Type} : Left H := { results := [], args := [] }

/-- 'sealwaxlaw18.PaperTyped': WHATEVER THE INPUT: true; the input reads as it did. -/
def paperTypedSpec : ChangeSpec := { name := "paperTyped", fn := fun _ => fun
  | [d1, d2] => { results := [.lit (.bool true)], args := [d1, d2] }
  | _ => none }
def paperTypedRow : OpenClaim := { program := "ytimonfakmadhpaa", sum := "8ed6f901cbad8e1bfc6f1b6c3f50ebbb022db0578222c58a9fee0281b00de83e", func := "sealwax/sealwaxlaw18.PaperTyped", spec := "paperTyped", inPlace := ["slices.overlaps[sealwax/api.Mark]"], unfollowed := true, recurses := true, plainKeys := false, apart := false }
def PaperTypedSaid : Prop := paperTypedRow.holds Try.pinned (OpenSpec.ofChange paperTypedSpec)

/-- ITS FALSE NEIGHBOUR: 'it returns false'. Refute it at one input. -/
def paperTypedWrong : ChangeSpec := { name := "paperTyped", fn := fun _ => fun
  | [d1, d2] => { results := [.lit (.bool false)], args := [d1, d2] }
  | _ => none }
def PaperTypedWrongFalsely : Prop := paperTypedRow.holds Try.pinned (OpenSpec.ofChange paperTypedWrong)

/-- 'sealwaxlaw18.PaperErased': WHATEVER THE INPUT: true; the input reads as it did. -/
def paperErasedSpec : ChangeSpec := { name := "paperErased", fn := fun _ => fun
  | [d1, d2, d3] => { results := [.lit (.bool true)], args := [d1, d2, d3] }
  | _ => none }
def paperErasedRow : OpenClaim := { program := "ytimonfakmadhpaa", sum := "8ed6f901cbad8e1bfc6f1b6c3f50ebbb022db0578222c58a9fee0281b00de83e", func := "sealwax/sealwaxlaw18.PaperErased", spec := "paperErased", inPlace := ["slices.overlaps[sealwax/api.Mark]"], unfollowed := true, recurses := true, plainKeys := false, apart := false }
def PaperErasedSaid : Prop := paperErasedRow.holds Try.pinned (OpenSpec.ofChange paperErasedSpec)

/-- ITS FALSE NEIGHBOUR: 'it returns false'. Refute it at one input. -/
def paperErasedWrong : ChangeSpec := { name := "paperErased", fn := fun _ => fun
  | [d1, d2, d3] => { results := [.lit (.bool false)], args := [d1, d2, d3] }
  | _ => none }
def PaperErasedWrongFalsely : Prop := paperErasedRow.holds Try.pinned (OpenSpec.ofChange paperErasedWrong)

/-- 'sealwaxlaw18.PaperTexts': WHATEVER THE INPUT: true; the input reads as it did. -/
def paperTextsSpec : ChangeSpec := { name := "paperTexts", fn := fun _ => fun
  | [d] => { results := [.lit (.bool true)], args := [d] }
  | _ => none }
def paperTextsRow : OpenClaim := { program := "ytimonfakmadhpaa", sum := "8ed6f901cbad8e1bfc6f1b6c3f50ebbb022db0578222c58a9fee0281b00de83e", func := "sealwax/sealwaxlaw18.PaperTexts", spec := "paperTexts", inPlace := ["slices.overlaps[sealwax/api.Mark]"], unfollowed := true, recurses := true, plainKeys := false, apart := false }
def PaperTextsSaid : Prop := paperTextsRow.holds Try.pinned (OpenSpec.ofChange paperTextsSpec)

/-- ITS FALSE NEIGHBOUR: 'it returns false'. Refute it at one input. -/
def paperTextsWrong : ChangeSpec := { name := "paperTexts", fn := fun _ => fun
  | [d] => { results := [.lit (.bool false)], args := [d] }
  | _ => none }
def PaperTextsWrongFalsely : Prop := paperTextsRow.holds Try.pinned (OpenSpec.ofChange paperTextsWrong)

/-- 'sealwaxlaw18.PaperPainted': WHATEVER THE INPUT: true; the input reads as it did. -/
def paperPaintedSpec : ChangeSpec := { name := "paperPainted", fn := fun _ => fun
  | [d1, d2] => { results := [.lit (.bool true)], args := [d1, d2] }
  | _ => none }
def paperPaintedRow : OpenClaim := { program := "ytimonfakmadhpaa", sum := "8ed6f901cbad8e1bfc6f1b6c3f50ebbb022db0578222c58a9fee0281b00de83e", func := "sealwax/sealwaxlaw18.PaperPainted", spec := "paperPainted", inPlace := ["slices.overlaps[sealwax/api.Mark]"], unfollowed := true, recurses := true, plainKeys := false, apart := false }
def PaperPaintedSaid : Prop := paperPaintedRow.holds Try.pinned (OpenSpec.ofChange paperPaintedSpec)

/-- ITS FALSE NEIGHBOUR: 'it returns false'. Refute it at one input. -/
def paperPaintedWrong : ChangeSpec := { name := "paperPainted", fn := fun _ => fun
  | [d1, d2] => { results := [.lit (.bool false)], args := [d1, d2] }
  | _ => none }
def PaperPaintedWrongFalsely : Prop := paperPaintedRow.holds Try.pinned (OpenSpec.ofChange paperPaintedWrong)

/-- 'sealwaxlaw18.PaperBytes': WHATEVER THE INPUT: true; the input reads as it did. -/
def paperBytesSpec : ChangeSpec := { name := "paperBytes", fn := fun _ => fun
  | [d1, d2, d3] => { results := [.lit (.bool true)], args := [d1, d2, d3] }
  | _ => none }
def paperBytesRow : OpenClaim := { program := "ytimonfakmadhpaa", sum := "8ed6f901cbad8e1bfc6f1b6c3f50ebbb022db0578222c58a9fee0281b00de83e", func := "sealwax/sealwaxlaw18.PaperBytes", spec := "paperBytes", inPlace := ["slices.overlaps[sealwax/api.Mark]"], unfollowed := true, recurses := true, plainKeys := false, apart := false }
def PaperBytesSaid : Prop := paperBytesRow.holds Try.pinned (OpenSpec.ofChange paperBytesSpec)

/-- ITS FALSE NEIGHBOUR: 'it returns false'. Refute it at one input. -/
def paperBytesWrong : ChangeSpec := { name := "paperBytes", fn := fun _ => fun
  | [d1, d2, d3] => { results := [.lit (.bool false)], args := [d1, d2, d3] }
  | _ => none }
def PaperBytesWrongFalsely : Prop := paperBytesRow.holds Try.pinned (OpenSpec.ofChange paperBytesWrong)

/-- 'sealwaxlaw18.PaperBack': WHATEVER THE INPUT: true; the input reads as it did. -/
def paperBackSpec : ChangeSpec := { name := "paperBack", fn := fun _ => fun
  | [d1, d2] => { results := [.lit (.bool true)], args := [d1, d2] }
  | _ => none }
def paperBackRow : OpenClaim := { program := "ytimonfakmadhpaa", sum := "8ed6f901cbad8e1bfc6f1b6c3f50ebbb022db0578222c58a9fee0281b00de83e", func := "sealwax/sealwaxlaw18.PaperBack", spec := "paperBack", inPlace := ["slices.overlaps[sealwax/api.Mark]"], unfollowed := true, recurses := true, plainKeys := false, apart := false }
def PaperBackSaid : Prop := paperBackRow.holds Try.pinned (OpenSpec.ofChange paperBackSpec)

/-- ITS FALSE NEIGHBOUR: 'it returns false'. Refute it at one input. -/
def paperBackWrong : ChangeSpec := { name := "paperBack", fn := fun _ => fun
  | [d1, d2] => { results := [.lit (.bool false)], args := [d1, d2] }
  | _ => none }
def PaperBackWrongFalsely : Prop := paperBackRow.holds Try.pinned (OpenSpec.ofChange paperBackWrong)

/-- 'sealwaxlaw18.PaperTakes': WHATEVER THE INPUT: true; the input reads as it did. -/
def paperTakesSpec : ChangeSpec := { name := "paperTakes", fn := fun _ => fun
  | [d1, d2, d3] => { results := [.lit (.bool true)], args := [d1, d2, d3] }
  | _ => none }
def paperTakesRow : OpenClaim := { program := "ytimonfakmadhpaa", sum := "8ed6f901cbad8e1bfc6f1b6c3f50ebbb022db0578222c58a9fee0281b00de83e", func := "sealwax/sealwaxlaw18.PaperTakes", spec := "paperTakes", inPlace := ["slices.overlaps[sealwax/api.Mark]"], unfollowed := true, recurses := true, plainKeys := false, apart := false }
def PaperTakesSaid : Prop := paperTakesRow.holds Try.pinned (OpenSpec.ofChange paperTakesSpec)

/-- ITS FALSE NEIGHBOUR: 'it returns false'. Refute it at one input. -/
def paperTakesWrong : ChangeSpec := { name := "paperTakes", fn := fun _ => fun
  | [d1, d2, d3] => { results := [.lit (.bool false)], args := [d1, d2, d3] }
  | _ => none }
def PaperTakesWrongFalsely : Prop := paperTakesRow.holds Try.pinned (OpenSpec.ofChange paperTakesWrong)

/-- 'sealwaxlaw18.PaperConverges': WHATEVER THE INPUT: true; the input reads as it did. -/
def paperConvergesSpec : ChangeSpec := { name := "paperConverges", fn := fun _ => fun
  | [d1, d2, d3] => { results := [.lit (.bool true)], args := [d1, d2, d3] }
  | _ => none }
def paperConvergesRow : OpenClaim := { program := "ytimonfakmadhpaa", sum := "8ed6f901cbad8e1bfc6f1b6c3f50ebbb022db0578222c58a9fee0281b00de83e", func := "sealwax/sealwaxlaw18.PaperConverges", spec := "paperConverges", inPlace := ["slices.overlaps[sealwax/api.Mark]"], unfollowed := true, recurses := true, plainKeys := false, apart := false }
def PaperConvergesSaid : Prop := paperConvergesRow.holds Try.pinned (OpenSpec.ofChange paperConvergesSpec)

/-- ITS FALSE NEIGHBOUR: 'it returns false'. Refute it at one input. -/
def paperConvergesWrong : ChangeSpec := { name := "paperConverges", fn := fun _ => fun
  | [d1, d2, d3] => { results := [.lit (.bool false)], args := [d1, d2, d3] }
  | _ => none }
def PaperConvergesWrongFalsely : Prop := paperConvergesRow.holds Try.pinned (OpenSpec.ofChange paperConvergesWrong)

/-- 'sealwaxlaw18.PaperNobody': WHATEVER THE INPUT: true; the input reads as it did. -/
def paperNobodySpec : ChangeSpec := { name := "paperNobody", fn := fun _ => fun
  | [d1, d2] => { results := [.lit (.bool true)], args := [d1, d2] }
  | _ => none }
def paperNobodyRow : OpenClaim := { program := "ytimonfakmadhpaa", sum := "8ed6f901cbad8e1bfc6f1b6c3f50ebbb022db0578222c58a9fee0281b00de83e", func := "sealwax/sealwaxlaw18.PaperNobody", spec := "paperNobody", inPlace := ["slices.overlaps[sealwax/api.Mark]"], unfollowed := true, recurses := true, plainKeys := false, apart := false }
def PaperNobodySaid : Prop := paperNobodyRow.holds Try.pinned (OpenSpec.ofChange paperNobodySpec)

/-- ITS FALSE NEIGHBOUR: 'it returns false'. Refute it at one input. -/
def paperNobodyWrong : ChangeSpec := { name := "paperNobody", fn := fun _ => fun
  | [d1, d2] => { results := [.lit (.bool false)], args := [d1, d2] }
  | _ => none }
def PaperNobodyWrongFalsely : Prop := paperNobodyRow.holds Try.pinned (OpenSpec.ofChange paperNobodyWrong)

/- THE SECOND FORM. 'bulk': how many values and letters a reading holds, each counted each time it is reached (what is shared counts as often as it is met; a slice's spare places count too). A statement '..UptoSaid' is the law's where the arguments, and the package variables that the reading takes, are together of bulk at most 1048576: NARROWER than '..Said'. Prove '..Said' where nothing that the law and all that it calls make is longer than what came in: it says more and counts as full. Else prove '..UptoSaid'. A law counts once. -/
mutual
def uptoBulk {H : Type} : DataW H → Nat
  | .lit (.string bytes) => bytes.length + 1
  | .lit _ => 1
  | .nil => 1
  | .ptr d => uptoBulk d + 1
  | .slice elems spare => uptoBulkAll elems + uptoBulkAll spare + 1
  | .agg parts => uptoBulkAll parts + 1
  | .iface _ d => uptoBulk d + 1
  | .map entries => uptoBulkEntries entries + 1
  | .held _ => 1
def uptoBulkAll {H : Type} : List (DataW H) → Nat
  | [] => 0
  | d :: r => uptoBulk d + uptoBulkAll r
def uptoBulkEntries {H : Type} : List (Lit × DataW H) → Nat
  | [] => 0
  | x :: r => uptoBulkEntry x + uptoBulkEntries r
def uptoBulkEntry {H : Type} : Lit × DataW H → Nat
  | (.string bytes, d) => bytes.length + uptoBulk d + 1
  | (_, d) => uptoBulk d + 1
 end
def uptoSmall : (H : Type) → List (DataW H) → Bool := fun _ ds => decide (uptoBulkAll ds ≤ 1048576)
def OpenSpec.upto (s : _root_.Go.ChangeSpec) : _root_.Go.OpenSpec := { _root_.Go.OpenSpec.ofChange s with cond := some uptoSmall }

/-- 'sealwaxlaw18.PaperTyped', WHERE WHAT IT READS IS OF BULK AT MOST 1048576: true; the input reads as it did. -/
def paperTypedUptoRow : OpenClaim := { program := "ytimonfakmadhpaa", sum := "8ed6f901cbad8e1bfc6f1b6c3f50ebbb022db0578222c58a9fee0281b00de83e", func := "sealwax/sealwaxlaw18.PaperTyped", spec := "paperTyped", inPlace := ["slices.overlaps[sealwax/api.Mark]"], unfollowed := true, recurses := true, plainKeys := false, apart := false, narrowed := true }
def PaperTypedUptoSaid : Prop := paperTypedUptoRow.holds Try.pinned (OpenSpec.upto paperTypedSpec)

/-- 'sealwaxlaw18.PaperErased', WHERE WHAT IT READS IS OF BULK AT MOST 1048576: true; the input reads as it did. -/
def paperErasedUptoRow : OpenClaim := { program := "ytimonfakmadhpaa", sum := "8ed6f901cbad8e1bfc6f1b6c3f50ebbb022db0578222c58a9fee0281b00de83e", func := "sealwax/sealwaxlaw18.PaperErased", spec := "paperErased", inPlace := ["slices.overlaps[sealwax/api.Mark]"], unfollowed := true, recurses := true, plainKeys := false, apart := false, narrowed := true }
def PaperErasedUptoSaid : Prop := paperErasedUptoRow.holds Try.pinned (OpenSpec.upto paperErasedSpec)

/-- 'sealwaxlaw18.PaperTexts', WHERE WHAT IT READS IS OF BULK AT MOST 1048576: true; the input reads as it did. -/
def paperTextsUptoRow : OpenClaim := { program := "ytimonfakmadhpaa", sum := "8ed6f901cbad8e1bfc6f1b6c3f50ebbb022db0578222c58a9fee0281b00de83e", func := "sealwax/sealwaxlaw18.PaperTexts", spec := "paperTexts", inPlace := ["slices.overlaps[sealwax/api.Mark]"], unfollowed := true, recurses := true, plainKeys := false, apart := false, narrowed := true }
def PaperTextsUptoSaid : Prop := paperTextsUptoRow.holds Try.pinned (OpenSpec.upto paperTextsSpec)

/-- 'sealwaxlaw18.PaperPainted', WHERE WHAT IT READS IS OF BULK AT MOST 1048576: true; the input reads as it did. -/
def paperPaintedUptoRow : OpenClaim := { program := "ytimonfakmadhpaa", sum := "8ed6f901cbad8e1bfc6f1b6c3f50ebbb022db0578222c58a9fee0281b00de83e", func := "sealwax/sealwaxlaw18.PaperPainted", spec := "paperPainted", inPlace := ["slices.overlaps[sealwax/api.Mark]"], unfollowed := true, recurses := true, plainKeys := false, apart := false, narrowed := true }
def PaperPaintedUptoSaid : Prop := paperPaintedUptoRow.holds Try.pinned (OpenSpec.upto paperPaintedSpec)

/-- 'sealwaxlaw18.PaperBytes', WHERE WHAT IT READS IS OF BULK AT MOST 1048576: true; the input reads as it did. -/
def paperBytesUptoRow : OpenClaim := { program := "ytimonfakmadhpaa", sum := "8ed6f901cbad8e1bfc6f1b6c3f50ebbb022db0578222c58a9fee0281b00de83e", func := "sealwax/sealwaxlaw18.PaperBytes", spec := "paperBytes", inPlace := ["slices.overlaps[sealwax/api.Mark]"], unfollowed := true, recurses := true, plainKeys := false, apart := false, narrowed := true }
def PaperBytesUptoSaid : Prop := paperBytesUptoRow.holds Try.pinned (OpenSpec.upto paperBytesSpec)

/-- 'sealwaxlaw18.PaperBack', WHERE WHAT IT READS IS OF BULK AT MOST 1048576: true; the input reads as it did. -/
def paperBackUptoRow : OpenClaim := { program := "ytimonfakmadhpaa", sum := "8ed6f901cbad8e1bfc6f1b6c3f50ebbb022db0578222c58a9fee0281b00de83e", func := "sealwax/sealwaxlaw18.PaperBack", spec := "paperBack", inPlace := ["slices.overlaps[sealwax/api.Mark]"], unfollowed := true, recurses := true, plainKeys := false, apart := false, narrowed := true }
def PaperBackUptoSaid : Prop := paperBackUptoRow.holds Try.pinned (OpenSpec.upto paperBackSpec)

/-- 'sealwaxlaw18.PaperTakes', WHERE WHAT IT READS IS OF BULK AT MOST 1048576: true; the input reads as it did. -/
def paperTakesUptoRow : OpenClaim := { program := "ytimonfakmadhpaa", sum := "8ed6f901cbad8e1bfc6f1b6c3f50ebbb022db0578222c58a9fee0281b00de83e", func := "sealwax/sealwaxlaw18.PaperTakes", spec := "paperTakes", inPlace := ["slices.overlaps[sealwax/api.Mark]"], unfollowed := true, recurses := true, plainKeys := false, apart := false, narrowed := true }
def PaperTakesUptoSaid : Prop := paperTakesUptoRow.holds Try.pinned (OpenSpec.upto paperTakesSpec)

/-- 'sealwaxlaw18.PaperConverges', WHERE WHAT IT READS IS OF BULK AT MOST 1048576: true; the input reads as it did. -/
def paperConvergesUptoRow : OpenClaim := { program := "ytimonfakmadhpaa", sum := "8ed6f901cbad8e1bfc6f1b6c3f50ebbb022db0578222c58a9fee0281b00de83e", func := "sealwax/sealwaxlaw18.PaperConverges", spec := "paperConverges", inPlace := ["slices.overlaps[sealwax/api.Mark]"], unfollowed := true, recurses := true, plainKeys := false, apart := false, narrowed := true }
def PaperConvergesUptoSaid : Prop := paperConvergesUptoRow.holds Try.pinned (OpenSpec.upto paperConvergesSpec)

/-- 'sealwaxlaw18.PaperNobody', WHERE WHAT IT READS IS OF BULK AT MOST 1048576: true; the input reads as it did. -/
def paperNobodyUptoRow : OpenClaim := { program := "ytimonfakmadhpaa", sum := "8ed6f901cbad8e1bfc6f1b6c3f50ebbb022db0578222c58a9fee0281b00de83e", func := "sealwax/sealwaxlaw18.PaperNobody", spec := "paperNobody", inPlace := ["slices.overlaps[sealwax/api.Mark]"], unfollowed := true, recurses := true, plainKeys := false, apart := false, narrowed := true }
def PaperNobodyUptoSaid : Prop := paperNobodyUptoRow.holds Try.pinned (OpenSpec.upto paperNobodySpec)

end Rows
end Go.Proofs.Ytimonfakmadhpaa
