/-
  DERIVED. GIVEN WITH THE SEED: THE CARDS: each row of YtejncnmdjkhiaaaDoorRows.lean that lists a variable, with what it lists TIED to the program's text (the seventh form; the later family's looks); each row that meets fmt, with fmt's text TOLD by the authors' own Lean function (tested against real Go, not proved from fmt's source: count such statements apart). THE CARD IS WHAT COUNTS. Prove the row's statement (the work); the ties are given (YtejncnmdjkhiaaaDoorTie.lean); close each card by the builder's one call (the guide's Derived/Test/ToyasCard.lean, 'card_holds'). Laid BY PROGRAM, IN A SANDBOX (cutbox-door.mjs). By AI agents, Wed Nov 11 2026. No macro, syntax, notation, axiom, sorry.
-/
import Derived.Test.YtejncnmdjkhiaaaDoorRows
import GoSem.ClaimSeven
namespace Go.Proofs.YtejncnmdjkhiaaaDoor
namespace Rows

/-- THE TIED CARD OF 'sealwaxlaw19.SuiteTrue'. -/
def suiteTrueCard : Claim7 := { stood := { row := suiteTrueRow, standIns := [], harness := (true, "752fdfc387220add9fbf5e159a9e314e694953a96f53973e13632474ee8af199"), looks := false }, kinds := [], alts := [], laidByText := true, laidKinds := [.data, .data], laidTests := true, laidLooks := .later }
def SuiteTrueCardSaid : Prop := Claim7.holds Tryd.pinned (.plain (OpenSpec.ofChange suiteTrueSpec)) suiteTrueCard

/-- THE SECOND FORM's CARD OF 'sealwaxlaw19.SuiteTrue'. -/
def suiteTrueUptoCard : Claim7 := { stood := { row := suiteTrueUptoRow, standIns := [], harness := (true, "752fdfc387220add9fbf5e159a9e314e694953a96f53973e13632474ee8af199"), looks := false }, kinds := [], alts := [], laidByText := true, laidKinds := [.data, .data], laidTests := true, laidLooks := .later }
def SuiteTrueUptoCardSaid : Prop := Claim7.holds Tryd.pinned (.plain (OpenSpec.upto suiteTrueSpec)) suiteTrueUptoCard
end Rows
end Go.Proofs.YtejncnmdjkhiaaaDoor
