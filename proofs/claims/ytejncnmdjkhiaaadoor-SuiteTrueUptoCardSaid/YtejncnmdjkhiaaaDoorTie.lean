/-
  DERIVED. GIVEN WITH THE SEED: THE PROGRAM's TIES (one call each: nine closed facts by the kernel) AND EACH ROW's TIE, after the 31st guide's Derived/Test/Toyas{Tie, Card}.lean. No idea stands in it: it is a product of the set-up. Laid BY PROGRAM, IN A SANDBOX (cutbox-door.mjs). By AI agents, Wed Nov 11 2026. No macro, syntax, notation, axiom, sorry.
-/
import Derived.Test.YtejncnmdjkhiaaaDoorRows
import Derived.LaidByTextLater
import Derived.SevenTiedAt
import Derived.LaidSub
import Derived.LaidOnce
namespace Go.Proofs.YtejncnmdjkhiaaaDoor
open Go
set_option maxRecDepth 100000
theorem seatTie1 : Tryd.prog.laidByTextLater [("sealwax/sha.small", Rows.laid_sealwax_sha_small), ("sealwax/sha.k256", Rows.laid_sealwax_sha_k256)] [.data, .data] true :=
  Program.laidByTextLater_by_one 23 8 65 (by kernel_rfl) (by kernel_rfl) (by kernel_rfl) (by kernel_rfl) (by kernel_rfl) (by kernel_rfl) (fun _ _ => by kernel_rfl)
theorem noOwnUnsafe : Tryd.pinned.checked.prog.headLifts.contains "ownunsafe" = false := by kernel_rfl
theorem tie : Tryd.prog.laidByTextLater [("sealwax/sha.small", Rows.laid_sealwax_sha_small), ("sealwax/sha.k256", Rows.laid_sealwax_sha_k256)] [.data, .data] true :=
  Program.laidByTextLater.sub seatTie1 ["sealwax/sha.small", "sealwax/sha.k256"] (by kernel_rfl) (by kernel_rfl)
theorem suiteTrue_row_tie : Rows.suiteTrueRow.laidByTextAt .later Tryd.pinned [.data, .data] true :=
  OpenClaim.laidByTextAt_later rfl rfl tie noOwnUnsafe
theorem suiteTrueUpto_row_tie : Rows.suiteTrueUptoRow.laidByTextAt .later Tryd.pinned [.data, .data] true :=
  OpenClaim.laidByTextAt_later rfl rfl tie noOwnUnsafe
end Go.Proofs.YtejncnmdjkhiaaaDoor
