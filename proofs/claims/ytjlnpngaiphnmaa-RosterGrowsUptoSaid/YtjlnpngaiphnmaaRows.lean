/-
  No cell of these rows narrows 'for every input' (looked for: loops, veiled, ifaces, maps, wideKeys, modest, calm, conditions, laid).
  DERIVED. THE GIVEN ROWS OF THIS SEAT. 4 by the template 'for every input the law returns true; each argument reads behind the call as it read before'; 0 by the template 'total and deterministic' (their statements: YtjlnpngaiphnmaaTotals.lean).
  GIVEN WITH THE SEED: the statements are not yours to turn. If you find one false, say at which input.
  Laid BY PROGRAM, IN A SANDBOX (cutbox-rows.mjs): the forced cells as the released guide's own fill.sh prints them over the translation 9fb008ec35ccacab… (all of the seat's roots in one cut). By AI agents, Wed Nov 11 2026. No macro, syntax, notation, axiom, sorry.
-/
import Derived.Test.YtjlnpngaiphnmaaChecked
import GoSem.Claim
import GoSem.ClaimJoined
import GoSem.ClaimMapViews
import Derived.JoinedTies
import Derived.KernelRfl
namespace Go.Proofs.Ytjlnpngaiphnmaa
/- THE CELL 'sum', in the pinned program and in every row, IS THE sha256 OF THE DUMP (.gsa) THAT YtjlnpngaiphnmaaProg.lean LOADS. Nothing in Lean hashes anything: it is a label: what it is worth is what the hold of that sum in a sandbox is worth. -/
noncomputable def Try.pinned : Pinned := { name := "ytjlnpngaiphnmaa", sum := "9fb008ec35ccacab98ad8da8a4390c947693784f96e220e17b5c57d725d6e96e", checked := Try.checked }
namespace Rows
def none {H : Type} : Left H := { results := [], args := [] }

/-- 'sealwaxlaw21.RosterPlays': WHATEVER THE INPUT: true; the input reads as it did. -/
def rosterPlaysSpec : ChangeSpec := { name := "rosterPlays", fn := fun _ => fun
  | [d1, d2, d3] => { results := [.lit (.bool true)], args := [d1, d2, d3] }
  | _ => none }
def rosterPlaysRow : OpenClaim := { program := "ytjlnpngaiphnmaa", sum := "9fb008ec35ccacab98ad8da8a4390c947693784f96e220e17b5c57d725d6e96e", func := "sealwax/sealwaxlaw21.RosterPlays", spec := "rosterPlays", unfollowed := true, recurses := true, apart := false }
def RosterPlaysSaid : Prop := rosterPlaysRow.holds Try.pinned (OpenSpec.ofChange rosterPlaysSpec)

/-- ITS FALSE NEIGHBOUR: 'it returns false'. Refute it at one input. -/
def rosterPlaysWrong : ChangeSpec := { name := "rosterPlays", fn := fun _ => fun
  | [d1, d2, d3] => { results := [.lit (.bool false)], args := [d1, d2, d3] }
  | _ => none }
def RosterPlaysWrongFalsely : Prop := rosterPlaysRow.holds Try.pinned (OpenSpec.ofChange rosterPlaysWrong)

/-- 'sealwaxlaw21.RosterGrows': WHATEVER THE INPUT: true; the input reads as it did. -/
def rosterGrowsSpec : ChangeSpec := { name := "rosterGrows", fn := fun _ => fun
  | [d] => { results := [.lit (.bool true)], args := [d] }
  | _ => none }
def rosterGrowsRow : OpenClaim := { program := "ytjlnpngaiphnmaa", sum := "9fb008ec35ccacab98ad8da8a4390c947693784f96e220e17b5c57d725d6e96e", func := "sealwax/sealwaxlaw21.RosterGrows", spec := "rosterGrows", unfollowed := true, recurses := true, apart := false }
def RosterGrowsSaid : Prop := rosterGrowsRow.holds Try.pinned (OpenSpec.ofChange rosterGrowsSpec)

/-- ITS FALSE NEIGHBOUR: 'it returns false'. Refute it at one input. -/
def rosterGrowsWrong : ChangeSpec := { name := "rosterGrows", fn := fun _ => fun
  | [d] => { results := [.lit (.bool false)], args := [d] }
  | _ => none }
def RosterGrowsWrongFalsely : Prop := rosterGrowsRow.holds Try.pinned (OpenSpec.ofChange rosterGrowsWrong)

/-- 'sealwaxlaw21.RosterNobody': WHATEVER THE INPUT: true; the input reads as it did. -/
def rosterNobodySpec : ChangeSpec := { name := "rosterNobody", fn := fun _ => fun
  | [d1, d2] => { results := [.lit (.bool true)], args := [d1, d2] }
  | _ => none }
def rosterNobodyRow : OpenClaim := { program := "ytjlnpngaiphnmaa", sum := "9fb008ec35ccacab98ad8da8a4390c947693784f96e220e17b5c57d725d6e96e", func := "sealwax/sealwaxlaw21.RosterNobody", spec := "rosterNobody", unfollowed := true, recurses := true, apart := false }
def RosterNobodySaid : Prop := rosterNobodyRow.holds Try.pinned (OpenSpec.ofChange rosterNobodySpec)

/-- ITS FALSE NEIGHBOUR: 'it returns false'. Refute it at one input. -/
def rosterNobodyWrong : ChangeSpec := { name := "rosterNobody", fn := fun _ => fun
  | [d1, d2] => { results := [.lit (.bool false)], args := [d1, d2] }
  | _ => none }
def RosterNobodyWrongFalsely : Prop := rosterNobodyRow.holds Try.pinned (OpenSpec.ofChange rosterNobodyWrong)

/-- 'sealwaxlaw21.RosterKeys': WHATEVER THE INPUT: true; the input reads as it did. -/
def rosterKeysSpec : ChangeSpec := { name := "rosterKeys", fn := fun _ => fun
  | [d1, d2, d3, d4, d5] => { results := [.lit (.bool true)], args := [d1, d2, d3, d4, d5] }
  | _ => none }
def rosterKeysRow : OpenClaim := { program := "ytjlnpngaiphnmaa", sum := "9fb008ec35ccacab98ad8da8a4390c947693784f96e220e17b5c57d725d6e96e", func := "sealwax/sealwaxlaw21.RosterKeys", spec := "rosterKeys", unfollowed := true, recurses := true, apart := false }
def RosterKeysSaid : Prop := rosterKeysRow.holds Try.pinned (OpenSpec.ofChange rosterKeysSpec)

/-- ITS FALSE NEIGHBOUR: 'it returns false'. Refute it at one input. -/
def rosterKeysWrong : ChangeSpec := { name := "rosterKeys", fn := fun _ => fun
  | [d1, d2, d3, d4, d5] => { results := [.lit (.bool false)], args := [d1, d2, d3, d4, d5] }
  | _ => none }
def RosterKeysWrongFalsely : Prop := rosterKeysRow.holds Try.pinned (OpenSpec.ofChange rosterKeysWrong)

/- THE SECOND FORM. 'bulk': how many values and letters a reading holds, each counted each time it is reached (what is shared counts as often as it is met; a slice's spare places count too). A statement '..UptoSaid' is the law's where the arguments, and the package variables that the reading takes, are together of bulk at most 1048576: NARROWER than '..Said'. Prove '..Said' where nothing that the law and all that it calls make is longer than what came in: it says more and counts as full. Else prove '..UptoSaid'. A law counts once. -/
mutual
def uptoBulk {H : Type} : DataW H → Nat
  | .lit (.string bytes) => bytes.length + 1
  | .lit _ => 1
  | .nil => 1
  | .ptr d => uptoBulk d + 1
  | .slice elems spare => uptoBulkAll elems + uptoBulkAll spare + 1
  | .agg parts => uptoBulkAll parts + 1
  | .iface _ d => uptoBulk d + 1
  | .map entries => uptoBulkEntries entries + 1
  | .held _ => 1
def uptoBulkAll {H : Type} : List (DataW H) → Nat
  | [] => 0
  | d :: r => uptoBulk d + uptoBulkAll r
def uptoBulkEntries {H : Type} : List (Lit × DataW H) → Nat
  | [] => 0
  | x :: r => uptoBulkEntry x + uptoBulkEntries r
def uptoBulkEntry {H : Type} : Lit × DataW H → Nat
  | (.string bytes, d) => bytes.length + uptoBulk d + 1
  | (_, d) => uptoBulk d + 1
 end
def uptoSmall : (H : Type) → List (DataW H) → Bool := fun _ ds => decide (uptoBulkAll ds ≤ 1048576)
def OpenSpec.upto (s : _root_.Go.ChangeSpec) : _root_.Go.OpenSpec := { _root_.Go.OpenSpec.ofChange s with cond := some uptoSmall }

/-- 'sealwaxlaw21.RosterPlays', WHERE WHAT IT READS IS OF BULK AT MOST 1048576: true; the input reads as it did. -/
def rosterPlaysUptoRow : OpenClaim := { program := "ytjlnpngaiphnmaa", sum := "9fb008ec35ccacab98ad8da8a4390c947693784f96e220e17b5c57d725d6e96e", func := "sealwax/sealwaxlaw21.RosterPlays", spec := "rosterPlays", unfollowed := true, recurses := true, apart := false, narrowed := true }
def RosterPlaysUptoSaid : Prop := rosterPlaysUptoRow.holds Try.pinned (OpenSpec.upto rosterPlaysSpec)

/-- 'sealwaxlaw21.RosterGrows', WHERE WHAT IT READS IS OF BULK AT MOST 1048576: true; the input reads as it did. -/
def rosterGrowsUptoRow : OpenClaim := { program := "ytjlnpngaiphnmaa", sum := "9fb008ec35ccacab98ad8da8a4390c947693784f96e220e17b5c57d725d6e96e", func := "sealwax/sealwaxlaw21.RosterGrows", spec := "rosterGrows", unfollowed := true, recurses := true, apart := false, narrowed := true }
def RosterGrowsUptoSaid : Prop := rosterGrowsUptoRow.holds Try.pinned (OpenSpec.upto rosterGrowsSpec)

/-- 'sealwaxlaw21.RosterNobody', WHERE WHAT IT READS IS OF BULK AT MOST 1048576: true; the input reads as it did. -/
def rosterNobodyUptoRow : OpenClaim := { program := "ytjlnpngaiphnmaa", sum := "9fb008ec35ccacab98ad8da8a4390c947693784f96e220e17b5c57d725d6e96e", func := "sealwax/sealwaxlaw21.RosterNobody", spec := "rosterNobody", unfollowed := true, recurses := true, apart := false, narrowed := true }
def RosterNobodyUptoSaid : Prop := rosterNobodyUptoRow.holds Try.pinned (OpenSpec.upto rosterNobodySpec)

/-- 'sealwaxlaw21.RosterKeys', WHERE WHAT IT READS IS OF BULK AT MOST 1048576: true; the input reads as it did. -/
def rosterKeysUptoRow : OpenClaim := { program := "ytjlnpngaiphnmaa", sum := "9fb008ec35ccacab98ad8da8a4390c947693784f96e220e17b5c57d725d6e96e", func := "sealwax/sealwaxlaw21.RosterKeys", spec := "rosterKeys", unfollowed := true, recurses := true, apart := false, narrowed := true }
def RosterKeysUptoSaid : Prop := rosterKeysUptoRow.holds Try.pinned (OpenSpec.upto rosterKeysSpec)

end Rows
end Go.Proofs.Ytjlnpngaiphnmaa
