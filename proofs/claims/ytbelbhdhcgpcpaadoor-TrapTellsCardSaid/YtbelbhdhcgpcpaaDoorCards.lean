/-
  DERIVED. GIVEN WITH THE SEED: THE CARDS: each row of YtbelbhdhcgpcpaaDoorRows.lean that lists a variable, with what it lists TIED to the program's text (the seventh form; the later family's looks); each row that meets fmt, with fmt's text TOLD by the authors' own Lean function (tested against real Go, not proved from fmt's source: count such statements apart). THE CARD IS WHAT COUNTS. Prove the row's statement (the work); the ties are given (YtbelbhdhcgpcpaaDoorTie.lean); close each card by the builder's one call (the guide's Derived/Test/ToyasCard.lean, 'card_holds'). Laid BY PROGRAM, IN A SANDBOX (cutbox-door.mjs). By AI agents, Wed Nov 11 2026. No macro, syntax, notation, axiom, sorry.
-/
import Derived.Test.YtbelbhdhcgpcpaaDoorRows
import GoSem.ClaimSeven
namespace Go.Proofs.YtbelbhdhcgpcpaaDoor
namespace Rows

/-- THE TIED CARD OF 'flittinglaw16.GraphTurned'. -/
def graphTurnedCard : Claim7 := { stood := { row := graphTurnedRow, standIns := [], harness := (true, "0062da80a5d422129bd6ef3f3cf1fbbb8a6c58c99b5bfcab06c1528e15de667e"), looks := true }, kinds := [], alts := [], laidByText := true, laidKinds := [.data, .data, .data], laidTests := true, laidLooks := .later }
def GraphTurnedCardSaid : Prop := Claim7.holds Tryd.pinned (.plain (OpenSpec.ofChange graphTurnedSpec)) graphTurnedCard

/-- THE TIED CARD OF 'flittinglaw16.GraphTexts'. -/
def graphTextsCard : Claim7 := { stood := { row := graphTextsRow, standIns := [], harness := (true, "0062da80a5d422129bd6ef3f3cf1fbbb8a6c58c99b5bfcab06c1528e15de667e"), looks := true }, kinds := [], alts := [], laidByText := true, laidKinds := [.data, .data, .data], laidTests := true, laidLooks := .later }
def GraphTextsCardSaid : Prop := Claim7.holds Tryd.pinned (.plain (OpenSpec.ofChange graphTextsSpec)) graphTextsCard

/-- THE TIED CARD OF 'flittinglaw16.GraphGrows'. -/
def graphGrowsCard : Claim7 := { stood := { row := graphGrowsRow, standIns := [], harness := (true, "0062da80a5d422129bd6ef3f3cf1fbbb8a6c58c99b5bfcab06c1528e15de667e"), looks := true }, kinds := [], alts := [], laidByText := true, laidKinds := [.data, .data, .data], laidTests := true, laidLooks := .later }
def GraphGrowsCardSaid : Prop := Claim7.holds Tryd.pinned (.plain (OpenSpec.ofChange graphGrowsSpec)) graphGrowsCard

/-- THE TIED CARD OF 'flittinglaw16.GraphFewer'. -/
def graphFewerCard : Claim7 := { stood := { row := graphFewerRow, standIns := [], harness := (true, "0062da80a5d422129bd6ef3f3cf1fbbb8a6c58c99b5bfcab06c1528e15de667e"), looks := true }, kinds := [], alts := [], laidByText := true, laidKinds := [.data, .data, .data], laidTests := true, laidLooks := .later }
def GraphFewerCardSaid : Prop := Claim7.holds Tryd.pinned (.plain (OpenSpec.ofChange graphFewerSpec)) graphFewerCard

/-- THE TIED CARD OF 'flittinglaw1.TrapTells'. -/
def trapTellsCard : Claim7 := { stood := { row := trapTellsRow, standIns := [], harness := (true, "0062da80a5d422129bd6ef3f3cf1fbbb8a6c58c99b5bfcab06c1528e15de667e"), looks := true }, kinds := [], alts := [], laidByText := true, laidKinds := [.data, .data, .data, .handle], laidTests := true, laidLooks := .later }
def TrapTellsCardSaid : Prop := Claim7.holds Tryd.pinned (.plain (OpenSpec.ofChange trapTellsSpec)) trapTellsCard

/-- THE TIED CARD OF 'flittinglaw1.TrapWraps'. -/
def trapWrapsCard : Claim7 := { stood := { row := trapWrapsRow, standIns := [], harness := (true, "0062da80a5d422129bd6ef3f3cf1fbbb8a6c58c99b5bfcab06c1528e15de667e"), looks := true }, kinds := [], alts := [], laidByText := true, laidKinds := [.handle], laidTests := true, laidLooks := .later }
def TrapWrapsCardSaid : Prop := Claim7.holds Tryd.pinned (.plain (OpenSpec.ofChange trapWrapsSpec)) trapWrapsCard

/-- THE TIED CARD OF 'flittinglaw1.TrapPaths'. -/
def trapPathsCard : Claim7 := { stood := { row := trapPathsRow, standIns := [], harness := (true, "0062da80a5d422129bd6ef3f3cf1fbbb8a6c58c99b5bfcab06c1528e15de667e"), looks := true }, kinds := [], alts := [], laidByText := true, laidKinds := [.handle], laidTests := true, laidLooks := .later }
def TrapPathsCardSaid : Prop := Claim7.holds Tryd.pinned (.plain (OpenSpec.ofChange trapPathsSpec)) trapPathsCard

/-- THE SECOND FORM's CARD OF 'flittinglaw16.GraphTurned'. -/
def graphTurnedUptoCard : Claim7 := { stood := { row := graphTurnedUptoRow, standIns := [], harness := (true, "0062da80a5d422129bd6ef3f3cf1fbbb8a6c58c99b5bfcab06c1528e15de667e"), looks := true }, kinds := [], alts := [], laidByText := true, laidKinds := [.data, .data, .data], laidTests := true, laidLooks := .later }
def GraphTurnedUptoCardSaid : Prop := Claim7.holds Tryd.pinned (.plain (OpenSpec.upto graphTurnedSpec)) graphTurnedUptoCard

/-- THE SECOND FORM's CARD OF 'flittinglaw16.GraphTexts'. -/
def graphTextsUptoCard : Claim7 := { stood := { row := graphTextsUptoRow, standIns := [], harness := (true, "0062da80a5d422129bd6ef3f3cf1fbbb8a6c58c99b5bfcab06c1528e15de667e"), looks := true }, kinds := [], alts := [], laidByText := true, laidKinds := [.data, .data, .data], laidTests := true, laidLooks := .later }
def GraphTextsUptoCardSaid : Prop := Claim7.holds Tryd.pinned (.plain (OpenSpec.upto graphTextsSpec)) graphTextsUptoCard

/-- THE SECOND FORM's CARD OF 'flittinglaw16.GraphGrows'. -/
def graphGrowsUptoCard : Claim7 := { stood := { row := graphGrowsUptoRow, standIns := [], harness := (true, "0062da80a5d422129bd6ef3f3cf1fbbb8a6c58c99b5bfcab06c1528e15de667e"), looks := true }, kinds := [], alts := [], laidByText := true, laidKinds := [.data, .data, .data], laidTests := true, laidLooks := .later }
def GraphGrowsUptoCardSaid : Prop := Claim7.holds Tryd.pinned (.plain (OpenSpec.upto graphGrowsSpec)) graphGrowsUptoCard

/-- THE SECOND FORM's CARD OF 'flittinglaw16.GraphFewer'. -/
def graphFewerUptoCard : Claim7 := { stood := { row := graphFewerUptoRow, standIns := [], harness := (true, "0062da80a5d422129bd6ef3f3cf1fbbb8a6c58c99b5bfcab06c1528e15de667e"), looks := true }, kinds := [], alts := [], laidByText := true, laidKinds := [.data, .data, .data], laidTests := true, laidLooks := .later }
def GraphFewerUptoCardSaid : Prop := Claim7.holds Tryd.pinned (.plain (OpenSpec.upto graphFewerSpec)) graphFewerUptoCard

/-- THE SECOND FORM's CARD OF 'flittinglaw1.TrapTells'. -/
def trapTellsUptoCard : Claim7 := { stood := { row := trapTellsUptoRow, standIns := [], harness := (true, "0062da80a5d422129bd6ef3f3cf1fbbb8a6c58c99b5bfcab06c1528e15de667e"), looks := true }, kinds := [], alts := [], laidByText := true, laidKinds := [.data, .data, .data, .handle], laidTests := true, laidLooks := .later }
def TrapTellsUptoCardSaid : Prop := Claim7.holds Tryd.pinned (.plain (OpenSpec.upto trapTellsSpec)) trapTellsUptoCard

/-- THE SECOND FORM's CARD OF 'flittinglaw1.TrapWraps'. -/
def trapWrapsUptoCard : Claim7 := { stood := { row := trapWrapsUptoRow, standIns := [], harness := (true, "0062da80a5d422129bd6ef3f3cf1fbbb8a6c58c99b5bfcab06c1528e15de667e"), looks := true }, kinds := [], alts := [], laidByText := true, laidKinds := [.handle], laidTests := true, laidLooks := .later }
def TrapWrapsUptoCardSaid : Prop := Claim7.holds Tryd.pinned (.plain (OpenSpec.upto trapWrapsSpec)) trapWrapsUptoCard

/-- THE SECOND FORM's CARD OF 'flittinglaw1.TrapPaths'. -/
def trapPathsUptoCard : Claim7 := { stood := { row := trapPathsUptoRow, standIns := [], harness := (true, "0062da80a5d422129bd6ef3f3cf1fbbb8a6c58c99b5bfcab06c1528e15de667e"), looks := true }, kinds := [], alts := [], laidByText := true, laidKinds := [.handle], laidTests := true, laidLooks := .later }
def TrapPathsUptoCardSaid : Prop := Claim7.holds Tryd.pinned (.plain (OpenSpec.upto trapPathsSpec)) trapPathsUptoCard
end Rows
end Go.Proofs.YtbelbhdhcgpcpaaDoor
