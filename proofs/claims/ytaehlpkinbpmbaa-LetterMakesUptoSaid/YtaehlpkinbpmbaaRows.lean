/-
  No cell of these rows narrows 'for every input' (looked for: loops, veiled, ifaces, maps, wideKeys, modest, calm, conditions, laid).
  DERIVED. THE GIVEN ROWS OF THIS SEAT. 6 by the template 'for every input the law returns true; each argument reads behind the call as it read before'; 0 by the template 'total and deterministic' (their statements: YtaehlpkinbpmbaaTotals.lean).
  GIVEN WITH THE SEED: the statements are not yours to turn. If you find one false, say at which input.
  Laid BY PROGRAM, IN A SANDBOX (cutbox-rows.mjs): the forced cells as the released guide's own fill.sh prints them over the translation 9f25d6d14f59938e… (all of the seat's roots in one cut). By AI agents, Wed Nov 11 2026. No macro, syntax, notation, axiom, sorry.
-/
import Derived.Test.YtaehlpkinbpmbaaChecked
import GoSem.Claim
import GoSem.ClaimJoined
import GoSem.ClaimMapViews
import Derived.JoinedTies
import Derived.KernelRfl
namespace Go.Proofs.Ytaehlpkinbpmbaa
/- THE CELL 'sum', in the pinned program and in every row, IS THE sha256 OF THE DUMP (.gsa) THAT YtaehlpkinbpmbaaProg.lean LOADS. Nothing in Lean hashes anything: it is a label: what it is worth is what the hold of that sum in a sandbox is worth. -/
noncomputable def Try.pinned : Pinned := { name := "ytaehlpkinbpmbaa", sum := "9f25d6d14f59938ebcecde1b0db7ded32a0c0d7e9ddddf93db56d49b93c75216", checked := Try.checked }
namespace Rows
def none {H : Type} : Left H := { results := [], args := [] }

/-- 'sealwaxlaw22.LetterSigned': WHATEVER THE INPUT: true; the input reads as it did. -/
def letterSignedSpec : ChangeSpec := { name := "letterSigned", fn := fun _ => fun
  | [d] => { results := [.lit (.bool true)], args := [d] }
  | _ => none }
def letterSignedRow : OpenClaim := { program := "ytaehlpkinbpmbaa", sum := "9f25d6d14f59938ebcecde1b0db7ded32a0c0d7e9ddddf93db56d49b93c75216", func := "sealwax/sealwaxlaw22.LetterSigned", spec := "letterSigned", unfollowed := true, recurses := true, apart := false }
def LetterSignedSaid : Prop := letterSignedRow.holds Try.pinned (OpenSpec.ofChange letterSignedSpec)

/-- ITS FALSE NEIGHBOUR: 'it returns false'. Refute it at one input. -/
def letterSignedWrong : ChangeSpec := { name := "letterSigned", fn := fun _ => fun
  | [d] => { results := [.lit (.bool false)], args := [d] }
  | _ => none }
def LetterSignedWrongFalsely : Prop := letterSignedRow.holds Try.pinned (OpenSpec.ofChange letterSignedWrong)

/-- 'sealwaxlaw22.LetterHides': WHATEVER THE INPUT: true; the input reads as it did. -/
def letterHidesSpec : ChangeSpec := { name := "letterHides", fn := fun _ => fun
  | [d1, d2, d3] => { results := [.lit (.bool true)], args := [d1, d2, d3] }
  | _ => none }
def letterHidesRow : OpenClaim := { program := "ytaehlpkinbpmbaa", sum := "9f25d6d14f59938ebcecde1b0db7ded32a0c0d7e9ddddf93db56d49b93c75216", func := "sealwax/sealwaxlaw22.LetterHides", spec := "letterHides", unfollowed := true, recurses := true, apart := false }
def LetterHidesSaid : Prop := letterHidesRow.holds Try.pinned (OpenSpec.ofChange letterHidesSpec)

/-- ITS FALSE NEIGHBOUR: 'it returns false'. Refute it at one input. -/
def letterHidesWrong : ChangeSpec := { name := "letterHides", fn := fun _ => fun
  | [d1, d2, d3] => { results := [.lit (.bool false)], args := [d1, d2, d3] }
  | _ => none }
def LetterHidesWrongFalsely : Prop := letterHidesRow.holds Try.pinned (OpenSpec.ofChange letterHidesWrong)

/-- 'sealwaxlaw19.SuiteBack': WHATEVER THE INPUT: true; the input reads as it did. -/
def suiteBackSpec : ChangeSpec := { name := "suiteBack", fn := fun _ => fun
  | [d] => { results := [.lit (.bool true)], args := [d] }
  | _ => none }
def suiteBackRow : OpenClaim := { program := "ytaehlpkinbpmbaa", sum := "9f25d6d14f59938ebcecde1b0db7ded32a0c0d7e9ddddf93db56d49b93c75216", func := "sealwax/sealwaxlaw19.SuiteBack", spec := "suiteBack", unfollowed := true, recurses := true, apart := false }
def SuiteBackSaid : Prop := suiteBackRow.holds Try.pinned (OpenSpec.ofChange suiteBackSpec)

/-- ITS FALSE NEIGHBOUR: 'it returns false'. Refute it at one input. -/
def suiteBackWrong : ChangeSpec := { name := "suiteBack", fn := fun _ => fun
  | [d] => { results := [.lit (.bool false)], args := [d] }
  | _ => none }
def SuiteBackWrongFalsely : Prop := suiteBackRow.holds Try.pinned (OpenSpec.ofChange suiteBackWrong)

/-- 'sealwaxlaw22.LetterMakes': WHATEVER THE INPUT: true; the input reads as it did. -/
def letterMakesSpec : ChangeSpec := { name := "letterMakes", fn := fun _ => fun
  | [d] => { results := [.lit (.bool true)], args := [d] }
  | _ => none }
def letterMakesRow : OpenClaim := { program := "ytaehlpkinbpmbaa", sum := "9f25d6d14f59938ebcecde1b0db7ded32a0c0d7e9ddddf93db56d49b93c75216", func := "sealwax/sealwaxlaw22.LetterMakes", spec := "letterMakes", unfollowed := true, recurses := true, apart := false }
def LetterMakesSaid : Prop := letterMakesRow.holds Try.pinned (OpenSpec.ofChange letterMakesSpec)

/-- ITS FALSE NEIGHBOUR: 'it returns false'. Refute it at one input. -/
def letterMakesWrong : ChangeSpec := { name := "letterMakes", fn := fun _ => fun
  | [d] => { results := [.lit (.bool false)], args := [d] }
  | _ => none }
def LetterMakesWrongFalsely : Prop := letterMakesRow.holds Try.pinned (OpenSpec.ofChange letterMakesWrong)

/-- 'sealwaxlaw22.LetterBytes': WHATEVER THE INPUT: true; the input reads as it did. -/
def letterBytesSpec : ChangeSpec := { name := "letterBytes", fn := fun _ => fun
  | [d1, d2] => { results := [.lit (.bool true)], args := [d1, d2] }
  | _ => none }
def letterBytesRow : OpenClaim := { program := "ytaehlpkinbpmbaa", sum := "9f25d6d14f59938ebcecde1b0db7ded32a0c0d7e9ddddf93db56d49b93c75216", func := "sealwax/sealwaxlaw22.LetterBytes", spec := "letterBytes", unfollowed := true, recurses := true, apart := false }
def LetterBytesSaid : Prop := letterBytesRow.holds Try.pinned (OpenSpec.ofChange letterBytesSpec)

/-- ITS FALSE NEIGHBOUR: 'it returns false'. Refute it at one input. -/
def letterBytesWrong : ChangeSpec := { name := "letterBytes", fn := fun _ => fun
  | [d1, d2] => { results := [.lit (.bool false)], args := [d1, d2] }
  | _ => none }
def LetterBytesWrongFalsely : Prop := letterBytesRow.holds Try.pinned (OpenSpec.ofChange letterBytesWrong)

/-- 'sealwaxlaw22.LetterBack': WHATEVER THE INPUT: true; the input reads as it did. -/
def letterBackSpec : ChangeSpec := { name := "letterBack", fn := fun _ => fun
  | [d] => { results := [.lit (.bool true)], args := [d] }
  | _ => none }
def letterBackRow : OpenClaim := { program := "ytaehlpkinbpmbaa", sum := "9f25d6d14f59938ebcecde1b0db7ded32a0c0d7e9ddddf93db56d49b93c75216", func := "sealwax/sealwaxlaw22.LetterBack", spec := "letterBack", unfollowed := true, recurses := true, apart := false }
def LetterBackSaid : Prop := letterBackRow.holds Try.pinned (OpenSpec.ofChange letterBackSpec)

/-- ITS FALSE NEIGHBOUR: 'it returns false'. Refute it at one input. -/
def letterBackWrong : ChangeSpec := { name := "letterBack", fn := fun _ => fun
  | [d] => { results := [.lit (.bool false)], args := [d] }
  | _ => none }
def LetterBackWrongFalsely : Prop := letterBackRow.holds Try.pinned (OpenSpec.ofChange letterBackWrong)

/- THE SECOND FORM. 'bulk': how many values and letters a reading holds, each counted each time it is reached (what is shared counts as often as it is met; a slice's spare places count too). A statement '..UptoSaid' is the law's where the arguments, and the package variables that the reading takes, are together of bulk at most 1048576: NARROWER than '..Said'. Prove '..Said' where nothing that the law and all that it calls make is longer than what came in: it says more and counts as full. Else prove '..UptoSaid'. A law counts once. -/
mutual
def uptoBulk {H : Type} : DataW H → Nat
  | .lit (.string bytes) => bytes.length + 1
  | .lit _ => 1
  | .nil => 1
  | .ptr d => uptoBulk d + 1
  | .slice elems spare => uptoBulkAll elems + uptoBulkAll spare + 1
  | .agg parts => uptoBulkAll parts + 1
  | .iface _ d => uptoBulk d + 1
  | .map entries => uptoBulkEntries entries + 1
  | .held _ => 1
def uptoBulkAll {H : Type} : List (DataW H) → Nat
  | [] => 0
  | d :: r => uptoBulk d + uptoBulkAll r
def uptoBulkEntries {H : Type} : List (Lit × DataW H) → Nat
  | [] => 0
  | x :: r => uptoBulkEntry x + uptoBulkEntries r
def uptoBulkEntry {H : Type} : Lit × DataW H → Nat
  | (.string bytes, d) => bytes.length + uptoBulk d + 1
  | (_, d) => uptoBulk d + 1
 end
def uptoSmall : (H : Type) → List (DataW H) → Bool := fun _ ds => decide (uptoBulkAll ds ≤ 1048576)
def OpenSpec.upto (s : _root_.Go.ChangeSpec) : _root_.Go.OpenSpec := { _root_.Go.OpenSpec.ofChange s with cond := some uptoSmall }

/-- 'sealwaxlaw22.LetterSigned', WHERE WHAT IT READS IS OF BULK AT MOST 1048576: true; the input reads as it did. -/
def letterSignedUptoRow : OpenClaim := { program := "ytaehlpkinbpmbaa", sum := "9f25d6d14f59938ebcecde1b0db7ded32a0c0d7e9ddddf93db56d49b93c75216", func := "sealwax/sealwaxlaw22.LetterSigned", spec := "letterSigned", unfollowed := true, recurses := true, apart := false, narrowed := true }
def LetterSignedUptoSaid : Prop := letterSignedUptoRow.holds Try.pinned (OpenSpec.upto letterSignedSpec)

/-- 'sealwaxlaw22.LetterHides', WHERE WHAT IT READS IS OF BULK AT MOST 1048576: true; the input reads as it did. -/
def letterHidesUptoRow : OpenClaim := { program := "ytaehlpkinbpmbaa", sum := "9f25d6d14f59938ebcecde1b0db7ded32a0c0d7e9ddddf93db56d49b93c75216", func := "sealwax/sealwaxlaw22.LetterHides", spec := "letterHides", unfollowed := true, recurses := true, apart := false, narrowed := true }
def LetterHidesUptoSaid : Prop := letterHidesUptoRow.holds Try.pinned (OpenSpec.upto letterHidesSpec)

/-- 'sealwaxlaw19.SuiteBack', WHERE WHAT IT READS IS OF BULK AT MOST 1048576: true; the input reads as it did. -/
def suiteBackUptoRow : OpenClaim := { program := "ytaehlpkinbpmbaa", sum := "9f25d6d14f59938ebcecde1b0db7ded32a0c0d7e9ddddf93db56d49b93c75216", func := "sealwax/sealwaxlaw19.SuiteBack", spec := "suiteBack", unfollowed := true, recurses := true, apart := false, narrowed := true }
def SuiteBackUptoSaid : Prop := suiteBackUptoRow.holds Try.pinned (OpenSpec.upto suiteBackSpec)

/-- 'sealwaxlaw22.LetterMakes', WHERE WHAT IT READS IS OF BULK AT MOST 1048576: true; the input reads as it did. -/
def letterMakesUptoRow : OpenClaim := { program := "ytaehlpkinbpmbaa", sum := "9f25d6d14f59938ebcecde1b0db7ded32a0c0d7e9ddddf93db56d49b93c75216", func := "sealwax/sealwaxlaw22.LetterMakes", spec := "letterMakes", unfollowed := true, recurses := true, apart := false, narrowed := true }
def LetterMakesUptoSaid : Prop := letterMakesUptoRow.holds Try.pinned (OpenSpec.upto letterMakesSpec)

/-- 'sealwaxlaw22.LetterBytes', WHERE WHAT IT READS IS OF BULK AT MOST 1048576: true; the input reads as it did. -/
def letterBytesUptoRow : OpenClaim := { program := "ytaehlpkinbpmbaa", sum := "9f25d6d14f59938ebcecde1b0db7ded32a0c0d7e9ddddf93db56d49b93c75216", func := "sealwax/sealwaxlaw22.LetterBytes", spec := "letterBytes", unfollowed := true, recurses := true, apart := false, narrowed := true }
def LetterBytesUptoSaid : Prop := letterBytesUptoRow.holds Try.pinned (OpenSpec.upto letterBytesSpec)

/-- 'sealwaxlaw22.LetterBack', WHERE WHAT IT READS IS OF BULK AT MOST 1048576: true; the input reads as it did. -/
def letterBackUptoRow : OpenClaim := { program := "ytaehlpkinbpmbaa", sum := "9f25d6d14f59938ebcecde1b0db7ded32a0c0d7e9ddddf93db56d49b93c75216", func := "sealwax/sealwaxlaw22.LetterBack", spec := "letterBack", unfollowed := true, recurses := true, apart := false, narrowed := true }
def LetterBackUptoSaid : Prop := letterBackUptoRow.holds Try.pinned (OpenSpec.upto letterBackSpec)

end Rows
end Go.Proofs.Ytaehlpkinbpmbaa
