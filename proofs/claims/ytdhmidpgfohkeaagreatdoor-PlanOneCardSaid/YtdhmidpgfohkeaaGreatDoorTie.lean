/-
  DERIVED. GIVEN WITH THE SEED: THE PROGRAM's TIES (one call each: nine closed facts by the kernel) AND EACH ROW's TIE, after the 31st guide's Derived/Test/Toyas{Tie, Card}.lean. No idea stands in it: it is a product of the set-up. Laid BY PROGRAM, IN A SANDBOX (cutbox-door.mjs). By AI agents, Wed Nov 11 2026. No macro, syntax, notation, axiom, sorry.
-/
import Derived.Test.YtdhmidpgfohkeaaGreatDoorRows
import Derived.LaidByTextLater
import Derived.SevenTiedAt
import Derived.LaidSub
import Derived.LaidOnce
namespace Go.Proofs.YtdhmidpgfohkeaaGreatDoor
open Go
set_option maxRecDepth 100000
theorem seatTie1 : Tryz.prog.laidByTextLater [("sediment/crc.halves", Rows.laid_sediment_crc_halves), ("sediment/digest.rounds", Rows.laid_sediment_digest_rounds), ("sediment/digest.first", Rows.laid_sediment_digest_first)] [.data, .data, .data] true :=
  Program.laidByTextLater_by_one 29 8 65 (by kernel_rfl) (by kernel_rfl) (by kernel_rfl) (by kernel_rfl) (by kernel_rfl) (by kernel_rfl) (fun _ _ => by kernel_rfl)
theorem noOwnUnsafe : Tryz.pinned.checked.prog.headLifts.contains "ownunsafe" = false := by kernel_rfl
theorem tie : Tryz.prog.laidByTextLater [("sediment/crc.halves", Rows.laid_sediment_crc_halves), ("sediment/digest.rounds", Rows.laid_sediment_digest_rounds), ("sediment/digest.first", Rows.laid_sediment_digest_first)] [.data, .data, .data] true :=
  Program.laidByTextLater.sub seatTie1 ["sediment/crc.halves", "sediment/digest.rounds", "sediment/digest.first"] (by kernel_rfl) (by kernel_rfl)
theorem planOne_row_tie : Rows.planOneRow.laidByTextAt .later Tryz.pinned [.data, .data, .data] true :=
  OpenClaim.laidByTextAt_later rfl rfl tie noOwnUnsafe
theorem planOneUpto_row_tie : Rows.planOneUptoRow.laidByTextAt .later Tryz.pinned [.data, .data, .data] true :=
  OpenClaim.laidByTextAt_later rfl rfl tie noOwnUnsafe
end Go.Proofs.YtdhmidpgfohkeaaGreatDoor
