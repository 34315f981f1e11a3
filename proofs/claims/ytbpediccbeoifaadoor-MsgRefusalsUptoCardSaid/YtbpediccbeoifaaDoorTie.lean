/-
  DERIVED. GIVEN WITH THE SEED: THE PROGRAM's TIES (one call each: nine closed facts by the kernel) AND EACH ROW's TIE, after the 31st guide's Derived/Test/Toyas{Tie, Card}.lean. No idea stands in it: it is a product of the set-up. Laid BY PROGRAM, IN A SANDBOX (cutbox-door.mjs). By AI agents, Wed Nov 11 2026. No macro, syntax, notation, axiom, sorry.
-/
import Derived.Test.YtbpediccbeoifaaDoorRows
import Derived.LaidByTextLater
import Derived.SevenTiedAt
import Derived.LaidSub
import Derived.LaidOnce
namespace Go.Proofs.YtbpediccbeoifaaDoor
open Go
set_option maxRecDepth 100000
theorem seatTie1 : Tryd.prog.laidByTextLater [("roster/rosterref13.kinds", Rows.laid_roster_rosterref13_kinds), ("roster/msg.replyTo", Rows.laid_roster_msg_replyTo)] [.data, .mapped] true :=
  Program.laidByTextLater_by_one 59 8 11 (by kernel_rfl) (by kernel_rfl) (by kernel_rfl) (by kernel_rfl) (by kernel_rfl) (by kernel_rfl) (fun _ _ => by kernel_rfl)
theorem noOwnUnsafe : Tryd.pinned.checked.prog.headLifts.contains "ownunsafe" = false := by kernel_rfl
theorem tie : Tryd.prog.laidByTextLater [("roster/rosterref13.kinds", Rows.laid_roster_rosterref13_kinds), ("roster/msg.replyTo", Rows.laid_roster_msg_replyTo)] [.data, .mapped] true :=
  Program.laidByTextLater.sub seatTie1 ["roster/rosterref13.kinds", "roster/msg.replyTo"] (by kernel_rfl) (by kernel_rfl)
theorem msgRefusals_row_tie : Rows.msgRefusalsRow.laidByTextAt .later Tryd.pinned [.data, .mapped] true :=
  OpenClaim.laidByTextAt_later rfl rfl tie noOwnUnsafe
theorem msgRefusalsUpto_row_tie : Rows.msgRefusalsUptoRow.laidByTextAt .later Tryd.pinned [.data, .mapped] true :=
  OpenClaim.laidByTextAt_later rfl rfl tie noOwnUnsafe
end Go.Proofs.YtbpediccbeoifaaDoor
