/-
  DERIVED. GIVEN WITH THE SEED: THE CARDS: each row of YtogjljpncdmlkaaDoorRows.lean that lists a variable, with what it lists TIED to the program's text (the seventh form; the later family's looks); each row that meets fmt, with fmt's text TOLD by the authors' own Lean function (tested against real Go, not proved from fmt's source: count such statements apart). THE CARD IS WHAT COUNTS. Prove the row's statement (the work); the ties are given (YtogjljpncdmlkaaDoorTie.lean); close each card by the builder's one call (the guide's Derived/Test/ToyasCard.lean, 'card_holds'). Laid BY PROGRAM, IN A SANDBOX (cutbox-door.mjs). By AI agents, Wed Nov 11 2026. No macro, syntax, notation, axiom, sorry.
-/
import Derived.Test.YtogjljpncdmlkaaDoorRows
import GoSem.ClaimSeven
namespace Go.Proofs.YtogjljpncdmlkaaDoor
namespace Rows

/-- THE TIED CARD OF 'rosterlaw22.ViewWires'. -/
def viewWiresCard : Claim7 := { stood := { row := viewWiresRow, standIns := [], harness := (true, "28c0e207007cef2f540134ee36369777df42dbdec8e2c7e8388c844a0e494f74"), looks := true }, kinds := [], alts := [], laidByText := true, laidKinds := [.data], laidTests := true, laidLooks := .later }
def ViewWiresCardSaid : Prop := Claim7.holds Tryd.pinned (.plain (OpenSpec.ofChange viewWiresSpec)) viewWiresCard

/-- THE TIED CARD OF 'rosterlaw22.ViewRounds'. -/
def viewRoundsCard : Claim7 := { stood := { row := viewRoundsRow, standIns := [], harness := (true, "28c0e207007cef2f540134ee36369777df42dbdec8e2c7e8388c844a0e494f74"), looks := true }, kinds := [], alts := [], laidByText := true, laidKinds := [.data], laidTests := true, laidLooks := .later }
def ViewRoundsCardSaid : Prop := Claim7.holds Tryd.pinned (.plain (OpenSpec.ofChange viewRoundsSpec)) viewRoundsCard

/-- THE SECOND FORM's CARD OF 'rosterlaw22.ViewWires'. -/
def viewWiresUptoCard : Claim7 := { stood := { row := viewWiresUptoRow, standIns := [], harness := (true, "28c0e207007cef2f540134ee36369777df42dbdec8e2c7e8388c844a0e494f74"), looks := true }, kinds := [], alts := [], laidByText := true, laidKinds := [.data], laidTests := true, laidLooks := .later }
def ViewWiresUptoCardSaid : Prop := Claim7.holds Tryd.pinned (.plain (OpenSpec.upto viewWiresSpec)) viewWiresUptoCard

/-- THE SECOND FORM's CARD OF 'rosterlaw22.ViewRounds'. -/
def viewRoundsUptoCard : Claim7 := { stood := { row := viewRoundsUptoRow, standIns := [], harness := (true, "28c0e207007cef2f540134ee36369777df42dbdec8e2c7e8388c844a0e494f74"), looks := true }, kinds := [], alts := [], laidByText := true, laidKinds := [.data], laidTests := true, laidLooks := .later }
def ViewRoundsUptoCardSaid : Prop := Claim7.holds Tryd.pinned (.plain (OpenSpec.upto viewRoundsSpec)) viewRoundsUptoCard
end Rows
end Go.Proofs.YtogjljpncdmlkaaDoor
