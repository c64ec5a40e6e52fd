/-
  DERIVED. GIVEN WITH THE SEED: THE CARDS: each row of YtbelbhdhcgpcpaaGreatDoorRows.lean that lists a variable, with what it lists TIED to the program's text (the seventh form; the later family's looks); each row that meets fmt, with fmt's text TOLD by the authors' own Lean function (tested against real Go, not proved from fmt's source: count such statements apart). THE CARD IS WHAT COUNTS. Prove the row's statement (the work); the ties are given (YtbelbhdhcgpcpaaGreatDoorTie.lean); close each card by the builder's one call (the guide's Derived/Test/ToyasCard.lean, 'card_holds'). Laid BY PROGRAM, IN A SANDBOX (cutbox-door.mjs). By AI agents, Wed Nov 11 2026. No macro, syntax, notation, axiom, sorry.
-/
import Derived.Test.YtbelbhdhcgpcpaaGreatDoorRows
import GoSem.ClaimSeven
namespace Go.Proofs.YtbelbhdhcgpcpaaGreatDoor
namespace Rows

/-- THE TIED CARD OF 'flittinglaw16.GraphTells'. -/
def graphTellsCard : Claim7 := { stood := { row := graphTellsRow, standIns := [], harness := (true, "efaf33de1cc8f89b272913c5d111a2ec88342445ede1fec7acd4a5d50612ed9c"), looks := false }, kinds := [], alts := [], laidByText := true, laidKinds := [.data, .data, .data], laidTests := true, laidLooks := .later }
def GraphTellsCardSaid : Prop := Claim7.holds Tryz.pinned (.plain (OpenSpec.ofChange graphTellsSpec)) graphTellsCard

/-- THE SECOND FORM's CARD OF 'flittinglaw16.GraphTells'. -/
def graphTellsUptoCard : Claim7 := { stood := { row := graphTellsUptoRow, standIns := [], harness := (true, "efaf33de1cc8f89b272913c5d111a2ec88342445ede1fec7acd4a5d50612ed9c"), looks := false }, kinds := [], alts := [], laidByText := true, laidKinds := [.data, .data, .data], laidTests := true, laidLooks := .later }
def GraphTellsUptoCardSaid : Prop := Claim7.holds Tryz.pinned (.plain (OpenSpec.upto graphTellsSpec)) graphTellsUptoCard
end Rows
end Go.Proofs.YtbelbhdhcgpcpaaGreatDoor
