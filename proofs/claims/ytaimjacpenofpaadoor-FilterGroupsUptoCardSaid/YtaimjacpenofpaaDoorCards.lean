/-
  DERIVED. GIVEN WITH THE SEED: THE CARDS: each row of YtaimjacpenofpaaDoorRows.lean that lists a variable, with what it lists TIED to the program's text (the seventh form; the later family's looks); each row that meets fmt, with fmt's text TOLD by the authors' own Lean function (tested against real Go, not proved from fmt's source: count such statements apart). THE CARD IS WHAT COUNTS. Prove the row's statement (the work); the ties are given (YtaimjacpenofpaaDoorTie.lean); close each card by the builder's one call (the guide's Derived/Test/ToyasCard.lean, 'card_holds'). Laid BY PROGRAM, IN A SANDBOX (cutbox-door.mjs). By AI agents, Wed Nov 11 2026. No macro, syntax, notation, axiom, sorry.
-/
import Derived.Test.YtaimjacpenofpaaDoorRows
import GoSem.ClaimSeven
namespace Go.Proofs.YtaimjacpenofpaaDoor
namespace Rows

/-- THE TIED CARD OF 'rosterlaw12.FilterGroups'. -/
def filterGroupsCard : Claim7 := { stood := { row := filterGroupsRow, standIns := [], harness := (true, "42102aa9f56b62534a5e0d9f027c5a4cf97d4fd62dab40294ce129caca94ef49"), looks := false }, kinds := [], alts := [], laidByText := true, laidKinds := [.data], laidTests := true, laidLooks := .later }
def FilterGroupsCardSaid : Prop := Claim7.holds Tryd.pinned (.plain (OpenSpec.ofChange filterGroupsSpec)) filterGroupsCard

/-- THE SECOND FORM's CARD OF 'rosterlaw12.FilterGroups'. -/
def filterGroupsUptoCard : Claim7 := { stood := { row := filterGroupsUptoRow, standIns := [], harness := (true, "42102aa9f56b62534a5e0d9f027c5a4cf97d4fd62dab40294ce129caca94ef49"), looks := false }, kinds := [], alts := [], laidByText := true, laidKinds := [.data], laidTests := true, laidLooks := .later }
def FilterGroupsUptoCardSaid : Prop := Claim7.holds Tryd.pinned (.plain (OpenSpec.upto filterGroupsSpec)) filterGroupsUptoCard
end Rows
end Go.Proofs.YtaimjacpenofpaaDoor
