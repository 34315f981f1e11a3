/-
  DERIVED. GIVEN WITH THE SEED: THE CARDS: each row of YtlhffhhbnoikoaaDoorRows.lean that lists a variable, with what it lists TIED to the program's text (the seventh form; the later family's looks); each row that meets fmt, with fmt's text TOLD by the authors' own Lean function (tested against real Go, not proved from fmt's source: count such statements apart). THE CARD IS WHAT COUNTS. Prove the row's statement (the work); the ties are given (YtlhffhhbnoikoaaDoorTie.lean); close each card by the builder's one call (the guide's Derived/Test/ToyasCard.lean, 'card_holds'). Laid BY PROGRAM, IN A SANDBOX (cutbox-door.mjs). By AI agents, Wed Nov 11 2026. No macro, syntax, notation, axiom, sorry.
-/
import Derived.Test.YtlhffhhbnoikoaaDoorRows
import GoSem.ClaimSeven
namespace Go.Proofs.YtlhffhhbnoikoaaDoor
namespace Rows

/-- THE TIED CARD OF 'rosterlaw12.FilterChecks'. -/
def filterChecksCard : Claim7 := { stood := { row := filterChecksRow, standIns := [], harness := (true, "1cb35d011ec0eaf5fbd7ab4a1f265e7a139cd87a37d0050ab2507bf5ea291648"), looks := false }, kinds := [], alts := [], laidByText := true, laidKinds := [.data], laidTests := true, laidLooks := .later }
def FilterChecksCardSaid : Prop := Claim7.holds Tryd.pinned (.plain (OpenSpec.ofChange filterChecksSpec)) filterChecksCard

/-- THE SECOND FORM's CARD OF 'rosterlaw12.FilterChecks'. -/
def filterChecksUptoCard : Claim7 := { stood := { row := filterChecksUptoRow, standIns := [], harness := (true, "1cb35d011ec0eaf5fbd7ab4a1f265e7a139cd87a37d0050ab2507bf5ea291648"), looks := false }, kinds := [], alts := [], laidByText := true, laidKinds := [.data], laidTests := true, laidLooks := .later }
def FilterChecksUptoCardSaid : Prop := Claim7.holds Tryd.pinned (.plain (OpenSpec.upto filterChecksSpec)) filterChecksUptoCard
end Rows
end Go.Proofs.YtlhffhhbnoikoaaDoor
