/-
  DERIVED. GIVEN WITH THE SEED: THE CARDS: each row of YtglchagfclafgaaDoorRows.lean that lists a variable, with what it lists TIED to the program's text (the seventh form; the later family's looks); each row that meets fmt, with fmt's text TOLD by the authors' own Lean function (tested against real Go, not proved from fmt's source: count such statements apart). THE CARD IS WHAT COUNTS. Prove the row's statement (the work); the ties are given (YtglchagfclafgaaDoorTie.lean); close each card by the builder's one call (the guide's Derived/Test/ToyasCard.lean, 'card_holds'). Laid BY PROGRAM, IN A SANDBOX (cutbox-door.mjs). By AI agents, Wed Nov 11 2026. No macro, syntax, notation, axiom, sorry.
-/
import Derived.Test.YtglchagfclafgaaDoorRows
import GoSem.ClaimSeven
namespace Go.Proofs.YtglchagfclafgaaDoor
namespace Rows

/-- THE TIED CARD OF 'rhytonlaw10.InsMay'. -/
def insMayCard : Claim7 := { stood := { row := insMayRow, standIns := [], harness := (true, "4105b7e7e8d861504851ebfeedc6440500e0d8c4b2a614096ee002c2c0254d38"), looks := false }, kinds := [], alts := [], laidByText := true, laidKinds := [.data, .data, .data, .data, .pinned], laidTests := true, laidLooks := .later }
def InsMayCardSaid : Prop := Claim7.holds Tryd.pinned (.plain (OpenSpec.ofChange insMaySpec)) insMayCard

/-- THE TIED CARD OF 'rhytonlaw10.InsTexts'. -/
def insTextsCard : Claim7 := { stood := { row := insTextsRow, standIns := [], harness := (true, "4105b7e7e8d861504851ebfeedc6440500e0d8c4b2a614096ee002c2c0254d38"), looks := false }, kinds := [], alts := [], laidByText := true, laidKinds := [.data, .data, .data, .data, .pinned], laidTests := true, laidLooks := .later }
def InsTextsCardSaid : Prop := Claim7.holds Tryd.pinned (.plain (OpenSpec.ofChange insTextsSpec)) insTextsCard

/-- THE TIED CARD OF 'rhytonlaw10.InsMoves'. -/
def insMovesCard : Claim7 := { stood := { row := insMovesRow, standIns := [], harness := (true, "4105b7e7e8d861504851ebfeedc6440500e0d8c4b2a614096ee002c2c0254d38"), looks := false }, kinds := [], alts := [], laidByText := true, laidKinds := [.data, .data, .data, .data, .pinned], laidTests := true, laidLooks := .later }
def InsMovesCardSaid : Prop := Claim7.holds Tryd.pinned (.plain (OpenSpec.ofChange insMovesSpec)) insMovesCard

/-- THE TIED CARD OF 'rhytonlaw10.InsLoops'. -/
def insLoopsCard : Claim7 := { stood := { row := insLoopsRow, standIns := [], harness := (true, "4105b7e7e8d861504851ebfeedc6440500e0d8c4b2a614096ee002c2c0254d38"), looks := false }, kinds := [], alts := [], laidByText := true, laidKinds := [.data, .data, .data, .data, .pinned], laidTests := true, laidLooks := .later }
def InsLoopsCardSaid : Prop := Claim7.holds Tryd.pinned (.plain (OpenSpec.ofChange insLoopsSpec)) insLoopsCard

/-- THE TIED CARD OF 'rhytonlaw10.InsBounds'. -/
def insBoundsCard : Claim7 := { stood := { row := insBoundsRow, standIns := [], harness := (true, "4105b7e7e8d861504851ebfeedc6440500e0d8c4b2a614096ee002c2c0254d38"), looks := false }, kinds := [], alts := [], laidByText := true, laidKinds := [.data, .data, .data, .data, .pinned], laidTests := true, laidLooks := .later }
def InsBoundsCardSaid : Prop := Claim7.holds Tryd.pinned (.plain (OpenSpec.ofChange insBoundsSpec)) insBoundsCard

/-- THE TIED CARD OF 'rhytonlaw10.InsJumps'. -/
def insJumpsCard : Claim7 := { stood := { row := insJumpsRow, standIns := [], harness := (true, "4105b7e7e8d861504851ebfeedc6440500e0d8c4b2a614096ee002c2c0254d38"), looks := false }, kinds := [], alts := [], laidByText := true, laidKinds := [.data, .data, .data, .data, .pinned], laidTests := true, laidLooks := .later }
def InsJumpsCardSaid : Prop := Claim7.holds Tryd.pinned (.plain (OpenSpec.ofChange insJumpsSpec)) insJumpsCard

/-- THE SECOND FORM's CARD OF 'rhytonlaw10.InsMay'. -/
def insMayUptoCard : Claim7 := { stood := { row := insMayUptoRow, standIns := [], harness := (true, "4105b7e7e8d861504851ebfeedc6440500e0d8c4b2a614096ee002c2c0254d38"), looks := false }, kinds := [], alts := [], laidByText := true, laidKinds := [.data, .data, .data, .data, .pinned], laidTests := true, laidLooks := .later }
def InsMayUptoCardSaid : Prop := Claim7.holds Tryd.pinned (.plain (OpenSpec.upto insMaySpec)) insMayUptoCard

/-- THE SECOND FORM's CARD OF 'rhytonlaw10.InsTexts'. -/
def insTextsUptoCard : Claim7 := { stood := { row := insTextsUptoRow, standIns := [], harness := (true, "4105b7e7e8d861504851ebfeedc6440500e0d8c4b2a614096ee002c2c0254d38"), looks := false }, kinds := [], alts := [], laidByText := true, laidKinds := [.data, .data, .data, .data, .pinned], laidTests := true, laidLooks := .later }
def InsTextsUptoCardSaid : Prop := Claim7.holds Tryd.pinned (.plain (OpenSpec.upto insTextsSpec)) insTextsUptoCard

/-- THE SECOND FORM's CARD OF 'rhytonlaw10.InsMoves'. -/
def insMovesUptoCard : Claim7 := { stood := { row := insMovesUptoRow, standIns := [], harness := (true, "4105b7e7e8d861504851ebfeedc6440500e0d8c4b2a614096ee002c2c0254d38"), looks := false }, kinds := [], alts := [], laidByText := true, laidKinds := [.data, .data, .data, .data, .pinned], laidTests := true, laidLooks := .later }
def InsMovesUptoCardSaid : Prop := Claim7.holds Tryd.pinned (.plain (OpenSpec.upto insMovesSpec)) insMovesUptoCard

/-- THE SECOND FORM's CARD OF 'rhytonlaw10.InsLoops'. -/
def insLoopsUptoCard : Claim7 := { stood := { row := insLoopsUptoRow, standIns := [], harness := (true, "4105b7e7e8d861504851ebfeedc6440500e0d8c4b2a614096ee002c2c0254d38"), looks := false }, kinds := [], alts := [], laidByText := true, laidKinds := [.data, .data, .data, .data, .pinned], laidTests := true, laidLooks := .later }
def InsLoopsUptoCardSaid : Prop := Claim7.holds Tryd.pinned (.plain (OpenSpec.upto insLoopsSpec)) insLoopsUptoCard

/-- THE SECOND FORM's CARD OF 'rhytonlaw10.InsBounds'. -/
def insBoundsUptoCard : Claim7 := { stood := { row := insBoundsUptoRow, standIns := [], harness := (true, "4105b7e7e8d861504851ebfeedc6440500e0d8c4b2a614096ee002c2c0254d38"), looks := false }, kinds := [], alts := [], laidByText := true, laidKinds := [.data, .data, .data, .data, .pinned], laidTests := true, laidLooks := .later }
def InsBoundsUptoCardSaid : Prop := Claim7.holds Tryd.pinned (.plain (OpenSpec.upto insBoundsSpec)) insBoundsUptoCard

/-- THE SECOND FORM's CARD OF 'rhytonlaw10.InsJumps'. -/
def insJumpsUptoCard : Claim7 := { stood := { row := insJumpsUptoRow, standIns := [], harness := (true, "4105b7e7e8d861504851ebfeedc6440500e0d8c4b2a614096ee002c2c0254d38"), looks := false }, kinds := [], alts := [], laidByText := true, laidKinds := [.data, .data, .data, .data, .pinned], laidTests := true, laidLooks := .later }
def InsJumpsUptoCardSaid : Prop := Claim7.holds Tryd.pinned (.plain (OpenSpec.upto insJumpsSpec)) insJumpsUptoCard
end Rows
end Go.Proofs.YtglchagfclafgaaDoor
