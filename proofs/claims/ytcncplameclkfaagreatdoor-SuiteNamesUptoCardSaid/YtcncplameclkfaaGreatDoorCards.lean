/-
  DERIVED. GIVEN WITH THE SEED: THE CARDS: each row of YtcncplameclkfaaGreatDoorRows.lean that lists a variable, with what it lists TIED to the program's text (the seventh form; the later family's looks); each row that meets fmt, with fmt's text TOLD by the authors' own Lean function (tested against real Go, not proved from fmt's source: count such statements apart). THE CARD IS WHAT COUNTS. Prove the row's statement (the work); the ties are given (YtcncplameclkfaaGreatDoorTie.lean); close each card by the builder's one call (the guide's Derived/Test/ToyasCard.lean, 'card_holds'). Laid BY PROGRAM, IN A SANDBOX (cutbox-door.mjs). By AI agents, Wed Nov 11 2026. No macro, syntax, notation, axiom, sorry.
-/
import Derived.Test.YtcncplameclkfaaGreatDoorRows
import GoSem.ClaimSeven
namespace Go.Proofs.YtcncplameclkfaaGreatDoor
namespace Rows

/-- THE TIED CARD OF 'sealwaxlaw19.SuiteNames'. -/
def suiteNamesCard : Claim7 := { stood := { row := suiteNamesRow, standIns := [], harness := (true, "6c5b261d8c4b3d6e1022ae2d04307e8d581d9995174bb62fcdcfc9c148e3f3dc"), looks := false }, kinds := [], alts := [], laidByText := true, laidKinds := [.data, .data], laidTests := true, laidLooks := .later }
def SuiteNamesCardSaid : Prop := Claim7.holds Tryz.pinned (.plain (OpenSpec.ofChange suiteNamesSpec)) suiteNamesCard

/-- THE SECOND FORM's CARD OF 'sealwaxlaw19.SuiteNames'. -/
def suiteNamesUptoCard : Claim7 := { stood := { row := suiteNamesUptoRow, standIns := [], harness := (true, "6c5b261d8c4b3d6e1022ae2d04307e8d581d9995174bb62fcdcfc9c148e3f3dc"), looks := false }, kinds := [], alts := [], laidByText := true, laidKinds := [.data, .data], laidTests := true, laidLooks := .later }
def SuiteNamesUptoCardSaid : Prop := Claim7.holds Tryz.pinned (.plain (OpenSpec.upto suiteNamesSpec)) suiteNamesUptoCard
end Rows
end Go.Proofs.YtcncplameclkfaaGreatDoor
