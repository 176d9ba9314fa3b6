/-
  DERIVED. GIVEN WITH THE SEED: THE CARDS: each row of YtnfbldkejbgbiaaDoorRows.lean that lists a variable, with what it lists TIED to the program's text (the seventh form; the later family's looks); each row that meets fmt, with fmt's text TOLD by the authors' own Lean function (tested against real Go, not proved from fmt's source: count such statements apart). THE CARD IS WHAT COUNTS. Prove the row's statement (the work); the ties are given (YtnfbldkejbgbiaaDoorTie.lean); close each card by the builder's one call (the guide's Derived/Test/ToyasCard.lean, 'card_holds'). Laid BY PROGRAM, IN A SANDBOX (cutbox-door.mjs). By AI agents, Wed Nov 11 2026. No macro, syntax, notation, axiom, sorry.
-/
import Derived.Test.YtnfbldkejbgbiaaDoorRows
import GoSem.ClaimSeven
namespace Go.Proofs.YtnfbldkejbgbiaaDoor
namespace Rows

/-- THE TIED CARD OF 'rhytonlaw17.TransPlays'. -/
def transPlaysCard : Claim7 := { stood := { row := transPlaysRow, standIns := [], harness := (true, "0351486daf64c9df65ec7c73f92dba1c565cb6d4423443de9893e5b13831fbaa"), looks := false }, kinds := [], alts := [], laidByText := true, laidKinds := [.data, .pinned], laidTests := true, laidLooks := .later }
def TransPlaysCardSaid : Prop := Claim7.holds Tryd.pinned (.plain (OpenSpec.ofChange transPlaysSpec)) transPlaysCard

/-- THE TIED CARD OF 'rhytonlaw17.TransPostpones'. -/
def transPostponesCard : Claim7 := { stood := { row := transPostponesRow, standIns := [], harness := (true, "0351486daf64c9df65ec7c73f92dba1c565cb6d4423443de9893e5b13831fbaa"), looks := false }, kinds := [], alts := [], laidByText := true, laidKinds := [.data, .pinned], laidTests := true, laidLooks := .later }
def TransPostponesCardSaid : Prop := Claim7.holds Tryd.pinned (.plain (OpenSpec.ofChange transPostponesSpec)) transPostponesCard

/-- THE TIED CARD OF 'rhytonlaw17.TransModes'. -/
def transModesCard : Claim7 := { stood := { row := transModesRow, standIns := [], harness := (true, "0351486daf64c9df65ec7c73f92dba1c565cb6d4423443de9893e5b13831fbaa"), looks := false }, kinds := [], alts := [], laidByText := true, laidKinds := [.data, .pinned], laidTests := true, laidLooks := .later }
def TransModesCardSaid : Prop := Claim7.holds Tryd.pinned (.plain (OpenSpec.ofChange transModesSpec)) transModesCard

/-- THE TIED CARD OF 'rhytonlaw17.TransNames'. -/
def transNamesCard : Claim7 := { stood := { row := transNamesRow, standIns := [], harness := (true, "0351486daf64c9df65ec7c73f92dba1c565cb6d4423443de9893e5b13831fbaa"), looks := false }, kinds := [], alts := [], laidByText := true, laidKinds := [.data, .pinned], laidTests := true, laidLooks := .later }
def TransNamesCardSaid : Prop := Claim7.holds Tryd.pinned (.plain (OpenSpec.ofChange transNamesSpec)) transNamesCard

/-- THE TIED CARD OF 'rhytonlaw17.TransWords'. -/
def transWordsCard : Claim7 := { stood := { row := transWordsRow, standIns := [], harness := (true, "0351486daf64c9df65ec7c73f92dba1c565cb6d4423443de9893e5b13831fbaa"), looks := false }, kinds := [], alts := [], laidByText := true, laidKinds := [.data, .pinned], laidTests := true, laidLooks := .later }
def TransWordsCardSaid : Prop := Claim7.holds Tryd.pinned (.plain (OpenSpec.ofChange transWordsSpec)) transWordsCard

/-- THE TIED CARD OF 'rhytonlaw17.TransRows'. -/
def transRowsCard : Claim7 := { stood := { row := transRowsRow, standIns := [], harness := (true, "0351486daf64c9df65ec7c73f92dba1c565cb6d4423443de9893e5b13831fbaa"), looks := false }, kinds := [], alts := [], laidByText := true, laidKinds := [.data, .pinned], laidTests := true, laidLooks := .later }
def TransRowsCardSaid : Prop := Claim7.holds Tryd.pinned (.plain (OpenSpec.ofChange transRowsSpec)) transRowsCard

/-- THE SECOND FORM's CARD OF 'rhytonlaw17.TransPlays'. -/
def transPlaysUptoCard : Claim7 := { stood := { row := transPlaysUptoRow, standIns := [], harness := (true, "0351486daf64c9df65ec7c73f92dba1c565cb6d4423443de9893e5b13831fbaa"), looks := false }, kinds := [], alts := [], laidByText := true, laidKinds := [.data, .pinned], laidTests := true, laidLooks := .later }
def TransPlaysUptoCardSaid : Prop := Claim7.holds Tryd.pinned (.plain (OpenSpec.upto transPlaysSpec)) transPlaysUptoCard

/-- THE SECOND FORM's CARD OF 'rhytonlaw17.TransPostpones'. -/
def transPostponesUptoCard : Claim7 := { stood := { row := transPostponesUptoRow, standIns := [], harness := (true, "0351486daf64c9df65ec7c73f92dba1c565cb6d4423443de9893e5b13831fbaa"), looks := false }, kinds := [], alts := [], laidByText := true, laidKinds := [.data, .pinned], laidTests := true, laidLooks := .later }
def TransPostponesUptoCardSaid : Prop := Claim7.holds Tryd.pinned (.plain (OpenSpec.upto transPostponesSpec)) transPostponesUptoCard

/-- THE SECOND FORM's CARD OF 'rhytonlaw17.TransModes'. -/
def transModesUptoCard : Claim7 := { stood := { row := transModesUptoRow, standIns := [], harness := (true, "0351486daf64c9df65ec7c73f92dba1c565cb6d4423443de9893e5b13831fbaa"), looks := false }, kinds := [], alts := [], laidByText := true, laidKinds := [.data, .pinned], laidTests := true, laidLooks := .later }
def TransModesUptoCardSaid : Prop := Claim7.holds Tryd.pinned (.plain (OpenSpec.upto transModesSpec)) transModesUptoCard

/-- THE SECOND FORM's CARD OF 'rhytonlaw17.TransNames'. -/
def transNamesUptoCard : Claim7 := { stood := { row := transNamesUptoRow, standIns := [], harness := (true, "0351486daf64c9df65ec7c73f92dba1c565cb6d4423443de9893e5b13831fbaa"), looks := false }, kinds := [], alts := [], laidByText := true, laidKinds := [.data, .pinned], laidTests := true, laidLooks := .later }
def TransNamesUptoCardSaid : Prop := Claim7.holds Tryd.pinned (.plain (OpenSpec.upto transNamesSpec)) transNamesUptoCard

/-- THE SECOND FORM's CARD OF 'rhytonlaw17.TransWords'. -/
def transWordsUptoCard : Claim7 := { stood := { row := transWordsUptoRow, standIns := [], harness := (true, "0351486daf64c9df65ec7c73f92dba1c565cb6d4423443de9893e5b13831fbaa"), looks := false }, kinds := [], alts := [], laidByText := true, laidKinds := [.data, .pinned], laidTests := true, laidLooks := .later }
def TransWordsUptoCardSaid : Prop := Claim7.holds Tryd.pinned (.plain (OpenSpec.upto transWordsSpec)) transWordsUptoCard

/-- THE SECOND FORM's CARD OF 'rhytonlaw17.TransRows'. -/
def transRowsUptoCard : Claim7 := { stood := { row := transRowsUptoRow, standIns := [], harness := (true, "0351486daf64c9df65ec7c73f92dba1c565cb6d4423443de9893e5b13831fbaa"), looks := false }, kinds := [], alts := [], laidByText := true, laidKinds := [.data, .pinned], laidTests := true, laidLooks := .later }
def TransRowsUptoCardSaid : Prop := Claim7.holds Tryd.pinned (.plain (OpenSpec.upto transRowsSpec)) transRowsUptoCard
end Rows
end Go.Proofs.YtnfbldkejbgbiaaDoor
