/-
  DERIVED. GIVEN WITH THE SEED: THE PROGRAM's TIES (one call each: nine closed facts by the kernel) AND EACH ROW's TIE, after the 31st guide's Derived/Test/Toyas{Tie, Card}.lean. No idea stands in it: it is a product of the set-up. Laid BY PROGRAM, IN A SANDBOX (cutbox-door.mjs). By AI agents, Wed Nov 11 2026. No macro, syntax, notation, axiom, sorry.
-/
import Derived.Test.YtekhlnihpfkkkaaGreatDoorRows
import Derived.LaidByTextLater
import Derived.SevenTiedAt
import Derived.LaidSub
import Derived.LaidOnce
namespace Go.Proofs.YtekhlnihpfkkkaaGreatDoor
open Go
set_option maxRecDepth 100000
theorem seatTie1 : Tryz.prog.laidByTextLater [("indelible/verify.kinds", Rows.laid_indelible_verify_kinds), ("indelible/font.checks", Rows.laid_indelible_font_checks)] [.widerDeep, .funcs] true :=
  Program.laidByTextLater_by_one 39 8 81 (by kernel_rfl) (by kernel_rfl) (by kernel_rfl) (by kernel_rfl) (by kernel_rfl) (by kernel_rfl) (fun _ _ => by kernel_rfl)
theorem noOwnUnsafe : Tryz.pinned.checked.prog.headLifts.contains "ownunsafe" = false := by kernel_rfl
theorem tie : Tryz.prog.laidByTextLater [("indelible/verify.kinds", Rows.laid_indelible_verify_kinds), ("indelible/font.checks", Rows.laid_indelible_font_checks)] [.widerDeep, .funcs] true :=
  Program.laidByTextLater.sub seatTie1 ["indelible/verify.kinds", "indelible/font.checks"] (by kernel_rfl) (by kernel_rfl)
theorem glyphReaches_row_tie : Rows.glyphReachesRow.laidByTextAt .later Tryz.pinned [.widerDeep, .funcs] true :=
  OpenClaim.laidByTextAt_later rfl rfl tie noOwnUnsafe
theorem glyphReachesUpto_row_tie : Rows.glyphReachesUptoRow.laidByTextAt .later Tryz.pinned [.widerDeep, .funcs] true :=
  OpenClaim.laidByTextAt_later rfl rfl tie noOwnUnsafe
end Go.Proofs.YtekhlnihpfkkkaaGreatDoor
