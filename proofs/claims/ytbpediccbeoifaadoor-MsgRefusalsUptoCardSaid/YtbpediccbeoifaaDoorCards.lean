/-
  DERIVED. GIVEN WITH THE SEED: THE CARDS: each row of YtbpediccbeoifaaDoorRows.lean that lists a variable, with what it lists TIED to the program's text (the seventh form; the later family's looks); each row that meets fmt, with fmt's text TOLD by the authors' own Lean function (tested against real Go, not proved from fmt's source: count such statements apart). THE CARD IS WHAT COUNTS. Prove the row's statement (the work); the ties are given (YtbpediccbeoifaaDoorTie.lean); close each card by the builder's one call (the guide's Derived/Test/ToyasCard.lean, 'card_holds'). Laid BY PROGRAM, IN A SANDBOX (cutbox-door.mjs). By AI agents, Wed Nov 11 2026. No macro, syntax, notation, axiom, sorry.
-/
import Derived.Test.YtbpediccbeoifaaDoorRows
import GoSem.ClaimSeven
namespace Go.Proofs.YtbpediccbeoifaaDoor
namespace Rows

/-- THE TIED CARD OF 'rosterlaw13.MsgRefusals'. -/
def msgRefusalsCard : Claim7 := { stood := { row := msgRefusalsRow, standIns := [], harness := (true, "95ad8021a4badf128ba2cc0f8f531ecd51b1e8009d227a1faee374da0ce9245f"), looks := false }, kinds := [], alts := [], laidByText := true, laidKinds := [.data, .mapped], laidTests := true, laidLooks := .later }
def MsgRefusalsCardSaid : Prop := Claim7.holds Tryd.pinned (.plain (OpenSpec.ofChange msgRefusalsSpec)) msgRefusalsCard

/-- THE SECOND FORM's CARD OF 'rosterlaw13.MsgRefusals'. -/
def msgRefusalsUptoCard : Claim7 := { stood := { row := msgRefusalsUptoRow, standIns := [], harness := (true, "95ad8021a4badf128ba2cc0f8f531ecd51b1e8009d227a1faee374da0ce9245f"), looks := false }, kinds := [], alts := [], laidByText := true, laidKinds := [.data, .mapped], laidTests := true, laidLooks := .later }
def MsgRefusalsUptoCardSaid : Prop := Claim7.holds Tryd.pinned (.plain (OpenSpec.upto msgRefusalsSpec)) msgRefusalsUptoCard
end Rows
end Go.Proofs.YtbpediccbeoifaaDoor
