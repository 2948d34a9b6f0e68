/-
  No cell of these rows narrows 'for every input' (looked for: loops, veiled, ifaces, maps, wideKeys, modest, calm, conditions, laid).
  DERIVED. THE GIVEN ROWS OF THIS SEAT. 9 by the template 'for every input the law returns true; each argument reads behind the call as it read before'; 0 by the template 'total and deterministic' (their statements: YtjglpngjpiflhaaTotals.lean).
  GIVEN WITH THE SEED: the statements are not yours to turn. If you find one false, say at which input.
  Laid BY PROGRAM, IN A SANDBOX (cutbox-rows.mjs): the forced cells as the released guide's own fill.sh prints them over the translation 19054e988b1817dc… (all of the seat's roots in one cut). By AI agents, Wed Nov 11 2026. No macro, syntax, notation, axiom, sorry.
-/
import Derived.Test.YtjglpngjpiflhaaChecked
import GoSem.Claim
import GoSem.ClaimJoined
import GoSem.ClaimMapViews
import Derived.JoinedTies
import Derived.KernelRfl
namespace Go.Proofs.Ytjglpngjpiflhaa
/- THE CELL 'sum', in the pinned program and in every row, IS THE sha256 OF THE DUMP (.gsa) THAT YtjglpngjpiflhaaProg.lean LOADS. Nothing in Lean hashes anything: it is a label: what it is worth is what the hold of that sum in a sandbox is worth. -/
noncomputable def Try.pinned : Pinned := { name := "ytjglpngjpiflhaa", sum := "19054e988b1817dc17031e4d935f735ae158be3d990fc621cc376018d82cd07c", checked := Try.checked }
namespace Rows
def none {H : Type} : Left H := { results := [], args := [] }

/-- 'sealwaxlaw01.OctetEquals': WHATEVER THE INPUT: true; the input reads as it did. -/
def octetEqualsSpec : ChangeSpec := { name := "octetEquals", fn := fun _ => fun
  | [d1, d2] => { results := [.lit (.bool true)], args := [d1, d2] }
  | _ => none }
def octetEqualsRow : OpenClaim := { program := "ytjglpngjpiflhaa", sum := "19054e988b1817dc17031e4d935f735ae158be3d990fc621cc376018d82cd07c", func := "sealwax/sealwaxlaw01.OctetEquals", spec := "octetEquals", apart := false }
def OctetEqualsSaid : Prop := octetEqualsRow.holds Try.pinned (OpenSpec.ofChange octetEqualsSpec)

/-- ITS FALSE NEIGHBOUR: 'it returns false'. Refute it at one input. -/
def octetEqualsWrong : ChangeSpec := { name := "octetEquals", fn := fun _ => fun
  | [d1, d2] => { results := [.lit (.bool false)], args := [d1, d2] }
  | _ => none }
def OctetEqualsWrongFalsely : Prop := octetEqualsRow.holds Try.pinned (OpenSpec.ofChange octetEqualsWrong)

/-- 'sealwaxlaw01.OctetDigits': WHATEVER THE INPUT: true; the input reads as it did. -/
def octetDigitsSpec : ChangeSpec := { name := "octetDigits", fn := fun _ => fun
  | [d1, d2] => { results := [.lit (.bool true)], args := [d1, d2] }
  | _ => none }
def octetDigitsRow : OpenClaim := { program := "ytjglpngjpiflhaa", sum := "19054e988b1817dc17031e4d935f735ae158be3d990fc621cc376018d82cd07c", func := "sealwax/sealwaxlaw01.OctetDigits", spec := "octetDigits", apart := false }
def OctetDigitsSaid : Prop := octetDigitsRow.holds Try.pinned (OpenSpec.ofChange octetDigitsSpec)

/-- ITS FALSE NEIGHBOUR: 'it returns false'. Refute it at one input. -/
def octetDigitsWrong : ChangeSpec := { name := "octetDigits", fn := fun _ => fun
  | [d1, d2] => { results := [.lit (.bool false)], args := [d1, d2] }
  | _ => none }
def OctetDigitsWrongFalsely : Prop := octetDigitsRow.holds Try.pinned (OpenSpec.ofChange octetDigitsWrong)

/-- 'sealwaxlaw01.OctetBack': WHATEVER THE INPUT: true; the input reads as it did. -/
def octetBackSpec : ChangeSpec := { name := "octetBack", fn := fun _ => fun
  | [d1, d2] => { results := [.lit (.bool true)], args := [d1, d2] }
  | _ => none }
def octetBackRow : OpenClaim := { program := "ytjglpngjpiflhaa", sum := "19054e988b1817dc17031e4d935f735ae158be3d990fc621cc376018d82cd07c", func := "sealwax/sealwaxlaw01.OctetBack", spec := "octetBack", apart := false }
def OctetBackSaid : Prop := octetBackRow.holds Try.pinned (OpenSpec.ofChange octetBackSpec)

/-- ITS FALSE NEIGHBOUR: 'it returns false'. Refute it at one input. -/
def octetBackWrong : ChangeSpec := { name := "octetBack", fn := fun _ => fun
  | [d1, d2] => { results := [.lit (.bool false)], args := [d1, d2] }
  | _ => none }
def OctetBackWrongFalsely : Prop := octetBackRow.holds Try.pinned (OpenSpec.ofChange octetBackWrong)

/-- 'sealwaxlaw01.OctetJoins': WHATEVER THE INPUT: true; the input reads as it did. -/
def octetJoinsSpec : ChangeSpec := { name := "octetJoins", fn := fun _ => fun
  | [d] => { results := [.lit (.bool true)], args := [d] }
  | _ => none }
def octetJoinsRow : OpenClaim := { program := "ytjglpngjpiflhaa", sum := "19054e988b1817dc17031e4d935f735ae158be3d990fc621cc376018d82cd07c", func := "sealwax/sealwaxlaw01.OctetJoins", spec := "octetJoins", apart := false }
def OctetJoinsSaid : Prop := octetJoinsRow.holds Try.pinned (OpenSpec.ofChange octetJoinsSpec)

/-- ITS FALSE NEIGHBOUR: 'it returns false'. Refute it at one input. -/
def octetJoinsWrong : ChangeSpec := { name := "octetJoins", fn := fun _ => fun
  | [d] => { results := [.lit (.bool false)], args := [d] }
  | _ => none }
def OctetJoinsWrongFalsely : Prop := octetJoinsRow.holds Try.pinned (OpenSpec.ofChange octetJoinsWrong)

/-- 'sealwaxlaw01.OctetXors': WHATEVER THE INPUT: true; the input reads as it did. -/
def octetXorsSpec : ChangeSpec := { name := "octetXors", fn := fun _ => fun
  | [d1, d2] => { results := [.lit (.bool true)], args := [d1, d2] }
  | _ => none }
def octetXorsRow : OpenClaim := { program := "ytjglpngjpiflhaa", sum := "19054e988b1817dc17031e4d935f735ae158be3d990fc621cc376018d82cd07c", func := "sealwax/sealwaxlaw01.OctetXors", spec := "octetXors", apart := false }
def OctetXorsSaid : Prop := octetXorsRow.holds Try.pinned (OpenSpec.ofChange octetXorsSpec)

/-- ITS FALSE NEIGHBOUR: 'it returns false'. Refute it at one input. -/
def octetXorsWrong : ChangeSpec := { name := "octetXors", fn := fun _ => fun
  | [d1, d2] => { results := [.lit (.bool false)], args := [d1, d2] }
  | _ => none }
def OctetXorsWrongFalsely : Prop := octetXorsRow.holds Try.pinned (OpenSpec.ofChange octetXorsWrong)

/-- 'sealwaxlaw01.OctetNumbers': WHATEVER THE INPUT: true; the input reads as it did. -/
def octetNumbersSpec : ChangeSpec := { name := "octetNumbers", fn := fun _ => fun
  | [d1, d2, d3] => { results := [.lit (.bool true)], args := [d1, d2, d3] }
  | _ => none }
def octetNumbersRow : OpenClaim := { program := "ytjglpngjpiflhaa", sum := "19054e988b1817dc17031e4d935f735ae158be3d990fc621cc376018d82cd07c", func := "sealwax/sealwaxlaw01.OctetNumbers", spec := "octetNumbers", apart := false }
def OctetNumbersSaid : Prop := octetNumbersRow.holds Try.pinned (OpenSpec.ofChange octetNumbersSpec)

/-- ITS FALSE NEIGHBOUR: 'it returns false'. Refute it at one input. -/
def octetNumbersWrong : ChangeSpec := { name := "octetNumbers", fn := fun _ => fun
  | [d1, d2, d3] => { results := [.lit (.bool false)], args := [d1, d2, d3] }
  | _ => none }
def OctetNumbersWrongFalsely : Prop := octetNumbersRow.holds Try.pinned (OpenSpec.ofChange octetNumbersWrong)

/-- 'sealwaxlaw01.OctetTwice': WHATEVER THE INPUT: true; the input reads as it did. -/
def octetTwiceSpec : ChangeSpec := { name := "octetTwice", fn := fun _ => fun
  | [d1, d2] => { results := [.lit (.bool true)], args := [d1, d2] }
  | _ => none }
def octetTwiceRow : OpenClaim := { program := "ytjglpngjpiflhaa", sum := "19054e988b1817dc17031e4d935f735ae158be3d990fc621cc376018d82cd07c", func := "sealwax/sealwaxlaw01.OctetTwice", spec := "octetTwice", apart := false }
def OctetTwiceSaid : Prop := octetTwiceRow.holds Try.pinned (OpenSpec.ofChange octetTwiceSpec)

/-- ITS FALSE NEIGHBOUR: 'it returns false'. Refute it at one input. -/
def octetTwiceWrong : ChangeSpec := { name := "octetTwice", fn := fun _ => fun
  | [d1, d2] => { results := [.lit (.bool false)], args := [d1, d2] }
  | _ => none }
def OctetTwiceWrongFalsely : Prop := octetTwiceRow.holds Try.pinned (OpenSpec.ofChange octetTwiceWrong)

/-- 'sealwaxlaw01.OctetOnce': WHATEVER THE INPUT: true; the input reads as it did. -/
def octetOnceSpec : ChangeSpec := { name := "octetOnce", fn := fun _ => fun
  | [d1, d2] => { results := [.lit (.bool true)], args := [d1, d2] }
  | _ => none }
def octetOnceRow : OpenClaim := { program := "ytjglpngjpiflhaa", sum := "19054e988b1817dc17031e4d935f735ae158be3d990fc621cc376018d82cd07c", func := "sealwax/sealwaxlaw01.OctetOnce", spec := "octetOnce", apart := false }
def OctetOnceSaid : Prop := octetOnceRow.holds Try.pinned (OpenSpec.ofChange octetOnceSpec)

/-- ITS FALSE NEIGHBOUR: 'it returns false'. Refute it at one input. -/
def octetOnceWrong : ChangeSpec := { name := "octetOnce", fn := fun _ => fun
  | [d1, d2] => { results := [.lit (.bool false)], args := [d1, d2] }
  | _ => none }
def OctetOnceWrongFalsely : Prop := octetOnceRow.holds Try.pinned (OpenSpec.ofChange octetOnceWrong)

/-- 'sealwaxlaw01.OctetPicks': WHATEVER THE INPUT: true; the input reads as it did. -/
def octetPicksSpec : ChangeSpec := { name := "octetPicks", fn := fun _ => fun
  | [d1, d2, d3] => { results := [.lit (.bool true)], args := [d1, d2, d3] }
  | _ => none }
def octetPicksRow : OpenClaim := { program := "ytjglpngjpiflhaa", sum := "19054e988b1817dc17031e4d935f735ae158be3d990fc621cc376018d82cd07c", func := "sealwax/sealwaxlaw01.OctetPicks", spec := "octetPicks", apart := false }
def OctetPicksSaid : Prop := octetPicksRow.holds Try.pinned (OpenSpec.ofChange octetPicksSpec)

/-- ITS FALSE NEIGHBOUR: 'it returns false'. Refute it at one input. -/
def octetPicksWrong : ChangeSpec := { name := "octetPicks", fn := fun _ => fun
  | [d1, d2, d3] => { results := [.lit (.bool false)], args := [d1, d2, d3] }
  | _ => none }
def OctetPicksWrongFalsely : Prop := octetPicksRow.holds Try.pinned (OpenSpec.ofChange octetPicksWrong)

/- THE SECOND FORM. 'bulk': how many values and letters a reading holds, each counted each time it is reached (what is shared counts as often as it is met; a slice's spare places count too). A statement '..UptoSaid' is the law's where the arguments, and the package variables that the reading takes, are together of bulk at most 1048576: NARROWER than '..Said'. Prove '..Said' where nothing that the law and all that it calls make is longer than what came in: it says more and counts as full. Else prove '..UptoSaid'. A law counts once. -/
mutual
def uptoBulk {H : Type} : DataW H → Nat
  | .lit (.string bytes) => bytes.length + 1
  | .lit _ => 1
  | .nil => 1
  | .ptr d => uptoBulk d + 1
  | .slice elems spare => uptoBulkAll elems + uptoBulkAll spare + 1
  | .agg parts => uptoBulkAll parts + 1
  | .iface _ d => uptoBulk d + 1
  | .map entries => uptoBulkEntries entries + 1
  | .held _ => 1
def uptoBulkAll {H : Type} : List (DataW H) → Nat
  | [] => 0
  | d :: r => uptoBulk d + uptoBulkAll r
def uptoBulkEntries {H : Type} : List (Lit × DataW H) → Nat
  | [] => 0
  | x :: r => uptoBulkEntry x + uptoBulkEntries r
def uptoBulkEntry {H : Type} : Lit × DataW H → Nat
  | (.string bytes, d) => bytes.length + uptoBulk d + 1
  | (_, d) => uptoBulk d + 1
 end
def uptoSmall : (H : Type) → List (DataW H) → Bool := fun _ ds => decide (uptoBulkAll ds ≤ 1048576)
def OpenSpec.upto (s : _root_.Go.ChangeSpec) : _root_.Go.OpenSpec := { _root_.Go.OpenSpec.ofChange s with cond := some uptoSmall }

/-- 'sealwaxlaw01.OctetEquals', WHERE WHAT IT READS IS OF BULK AT MOST 1048576: true; the input reads as it did. -/
def octetEqualsUptoRow : OpenClaim := { program := "ytjglpngjpiflhaa", sum := "19054e988b1817dc17031e4d935f735ae158be3d990fc621cc376018d82cd07c", func := "sealwax/sealwaxlaw01.OctetEquals", spec := "octetEquals", apart := false, narrowed := true }
def OctetEqualsUptoSaid : Prop := octetEqualsUptoRow.holds Try.pinned (OpenSpec.upto octetEqualsSpec)

/-- 'sealwaxlaw01.OctetDigits', WHERE WHAT IT READS IS OF BULK AT MOST 1048576: true; the input reads as it did. -/
def octetDigitsUptoRow : OpenClaim := { program := "ytjglpngjpiflhaa", sum := "19054e988b1817dc17031e4d935f735ae158be3d990fc621cc376018d82cd07c", func := "sealwax/sealwaxlaw01.OctetDigits", spec := "octetDigits", apart := false, narrowed := true }
def OctetDigitsUptoSaid : Prop := octetDigitsUptoRow.holds Try.pinned (OpenSpec.upto octetDigitsSpec)

/-- 'sealwaxlaw01.OctetBack', WHERE WHAT IT READS IS OF BULK AT MOST 1048576: true; the input reads as it did. -/
def octetBackUptoRow : OpenClaim := { program := "ytjglpngjpiflhaa", sum := "19054e988b1817dc17031e4d935f735ae158be3d990fc621cc376018d82cd07c", func := "sealwax/sealwaxlaw01.OctetBack", spec := "octetBack", apart := false, narrowed := true }
def OctetBackUptoSaid : Prop := octetBackUptoRow.holds Try.pinned (OpenSpec.upto octetBackSpec)

/-- 'sealwaxlaw01.OctetJoins', WHERE WHAT IT READS IS OF BULK AT MOST 1048576: true; the input reads as it did. -/
def octetJoinsUptoRow : OpenClaim := { program := "ytjglpngjpiflhaa", sum := "19054e988b1817dc17031e4d935f735ae158be3d990fc621cc376018d82cd07c", func := "sealwax/sealwaxlaw01.OctetJoins", spec := "octetJoins", apart := false, narrowed := true }
def OctetJoinsUptoSaid : Prop := octetJoinsUptoRow.holds Try.pinned (OpenSpec.upto octetJoinsSpec)

/-- 'sealwaxlaw01.OctetXors', WHERE WHAT IT READS IS OF BULK AT MOST 1048576: true; the input reads as it did. -/
def octetXorsUptoRow : OpenClaim := { program := "ytjglpngjpiflhaa", sum := "19054e988b1817dc17031e4d935f735ae158be3d990fc621cc376018d82cd07c", func := "sealwax/sealwaxlaw01.OctetXors", spec := "octetXors", apart := false, narrowed := true }
def OctetXorsUptoSaid : Prop := octetXorsUptoRow.holds Try.pinned (OpenSpec.upto octetXorsSpec)

/-- 'sealwaxlaw01.OctetNumbers', WHERE WHAT IT READS IS OF BULK AT MOST 1048576: true; the input reads as it did. -/
def octetNumbersUptoRow : OpenClaim := { program := "ytjglpngjpiflhaa", sum := "19054e988b1817dc17031e4d935f735ae158be3d990fc621cc376018d82cd07c", func := "sealwax/sealwaxlaw01.OctetNumbers", spec := "octetNumbers", apart := false, narrowed := true }
def OctetNumbersUptoSaid : Prop := octetNumbersUptoRow.holds Try.pinned (OpenSpec.upto octetNumbersSpec)

/-- 'sealwaxlaw01.OctetTwice', WHERE WHAT IT READS IS OF BULK AT MOST 1048576: true; the input reads as it did. -/
def octetTwiceUptoRow : OpenClaim := { program := "ytjglpngjpiflhaa", sum := "19054e988b1817dc17031e4d935f735ae158be3d990fc621cc376018d82cd07c", func := "sealwax/sealwaxlaw01.OctetTwice", spec := "octetTwice", apart := false, narrowed := true }
def OctetTwiceUptoSaid : Prop := octetTwiceUptoRow.holds Try.pinned (OpenSpec.upto octetTwiceSpec)

/-- 'sealwaxlaw01.OctetOnce', WHERE WHAT IT READS IS OF BULK AT MOST 1048576: true; the input reads as it did. -/
def octetOnceUptoRow : OpenClaim := { program := "ytjglpngjpiflhaa", sum := "19054e988b1817dc17031e4d935f735ae158be3d990fc621cc376018d82cd07c", func := "sealwax/sealwaxlaw01.OctetOnce", spec := "octetOnce", apart := false, narrowed := true }
def OctetOnceUptoSaid : Prop := octetOnceUptoRow.holds Try.pinned (OpenSpec.upto octetOnceSpec)

/-- 'sealwaxlaw01.OctetPicks', WHERE WHAT IT READS IS OF BULK AT MOST 1048576: true; the input reads as it did. -/
def octetPicksUptoRow : OpenClaim := { program := "ytjglpngjpiflhaa", sum := "19054e988b1817dc17031e4d935f735ae158be3d990fc621cc376018d82cd07c", func := "sealwax/sealwaxlaw01.OctetPicks", spec := "octetPicks", apart := false, narrowed := true }
def OctetPicksUptoSaid : Prop := octetPicksUptoRow.holds Try.pinned (OpenSpec.upto octetPicksSpec)

end Rows
end Go.Proofs.Ytjglpngjpiflhaa
