/-
  DERIVED. GIVEN WITH THE SEED: THE PROGRAM's TIES (one call each: nine closed facts by the kernel) AND EACH ROW's TIE, after the 31st guide's Derived/Test/Toyas{Tie, Card}.lean. No idea stands in it: it is a product of the set-up. Laid BY PROGRAM, IN A SANDBOX (cutbox-door.mjs). By AI agents, Wed Nov 11 2026. No macro, syntax, notation, axiom, sorry.
-/
import Derived.Test.YtgopddjmmoohdaaGreatDoorRows
import Derived.LaidByTextLater
import Derived.SevenTiedAt
import Derived.LaidSub
import Derived.LaidOnce
namespace Go.Proofs.YtgopddjmmoohdaaGreatDoor
open Go
set_option maxRecDepth 100000
theorem seatTie1 : Tryz.prog.laidByTextLater [("towncrier/op.names", Rows.laid_towncrier_op_names), ("towncrier/op.numbers", Rows.laid_towncrier_op_numbers), ("towncrier/op.worded", Rows.laid_towncrier_op_worded)] [.data, .data, .data] true :=
  Program.laidByTextLater_by_one 24 8 19 (by kernel_rfl) (by kernel_rfl) (by kernel_rfl) (by kernel_rfl) (by kernel_rfl) (by kernel_rfl) (fun _ _ => by kernel_rfl)
theorem noOwnUnsafe : Tryz.pinned.checked.prog.headLifts.contains "ownunsafe" = false := by kernel_rfl
theorem tie : Tryz.prog.laidByTextLater [("towncrier/op.names", Rows.laid_towncrier_op_names), ("towncrier/op.numbers", Rows.laid_towncrier_op_numbers), ("towncrier/op.worded", Rows.laid_towncrier_op_worded)] [.data, .data, .data] true :=
  Program.laidByTextLater.sub seatTie1 ["towncrier/op.names", "towncrier/op.numbers", "towncrier/op.worded"] (by kernel_rfl) (by kernel_rfl)
theorem playNested_row_tie : Rows.playNestedRow.laidByTextAt .later Tryz.pinned [.data, .data, .data] true :=
  OpenClaim.laidByTextAt_later rfl rfl tie noOwnUnsafe
theorem playSilent_row_tie : Rows.playSilentRow.laidByTextAt .later Tryz.pinned [.data, .data, .data] true :=
  OpenClaim.laidByTextAt_later rfl rfl tie noOwnUnsafe
theorem playEnds_row_tie : Rows.playEndsRow.laidByTextAt .later Tryz.pinned [.data, .data, .data] true :=
  OpenClaim.laidByTextAt_later rfl rfl tie noOwnUnsafe
theorem playNestedUpto_row_tie : Rows.playNestedUptoRow.laidByTextAt .later Tryz.pinned [.data, .data, .data] true :=
  OpenClaim.laidByTextAt_later rfl rfl tie noOwnUnsafe
theorem playSilentUpto_row_tie : Rows.playSilentUptoRow.laidByTextAt .later Tryz.pinned [.data, .data, .data] true :=
  OpenClaim.laidByTextAt_later rfl rfl tie noOwnUnsafe
theorem playEndsUpto_row_tie : Rows.playEndsUptoRow.laidByTextAt .later Tryz.pinned [.data, .data, .data] true :=
  OpenClaim.laidByTextAt_later rfl rfl tie noOwnUnsafe
end Go.Proofs.YtgopddjmmoohdaaGreatDoor
