/-
  DERIVED. GIVEN WITH THE SEED: THE CARDS: each row of YtjbccoehgggdcaaDoorRows.lean that lists a variable, with what it lists TIED to the program's text (the seventh form; the later family's looks); each row that meets fmt, with fmt's text TOLD by the authors' own Lean function (tested against real Go, not proved from fmt's source: count such statements apart). THE CARD IS WHAT COUNTS. Prove the row's statement (the work); the ties are given (YtjbccoehgggdcaaDoorTie.lean); close each card by the builder's one call (the guide's Derived/Test/ToyasCard.lean, 'card_holds'). Laid BY PROGRAM, IN A SANDBOX (cutbox-door.mjs). By AI agents, Wed Nov 11 2026. No macro, syntax, notation, axiom, sorry.
-/
import Derived.Test.YtjbccoehgggdcaaDoorRows
import GoSem.ClaimSeven
namespace Go.Proofs.YtjbccoehgggdcaaDoor
namespace Rows

/-- THE TIED CARD OF 'rhytonlaw12.TablePlays'. -/
def tablePlaysCard : Claim7 := { stood := { row := tablePlaysRow, standIns := [], harness := (true, "9f50a0a549b88c2101307b7507412bf55264922a2bea45c154348d7b58f1fcd1"), looks := false }, kinds := [], alts := [], laidByText := true, laidKinds := [.data, .pinned], laidTests := true, laidLooks := .later }
def TablePlaysCardSaid : Prop := Claim7.holds Tryd.pinned (.plain (OpenSpec.ofChange tablePlaysSpec)) tablePlaysCard

/-- THE TIED CARD OF 'rhytonlaw12.TableNames'. -/
def tableNamesCard : Claim7 := { stood := { row := tableNamesRow, standIns := [], harness := (true, "9f50a0a549b88c2101307b7507412bf55264922a2bea45c154348d7b58f1fcd1"), looks := false }, kinds := [], alts := [], laidByText := true, laidKinds := [.data, .pinned], laidTests := true, laidLooks := .later }
def TableNamesCardSaid : Prop := Claim7.holds Tryd.pinned (.plain (OpenSpec.ofChange tableNamesSpec)) tableNamesCard

/-- THE TIED CARD OF 'rhytonlaw12.TableOnly'. -/
def tableOnlyCard : Claim7 := { stood := { row := tableOnlyRow, standIns := [], harness := (true, "9f50a0a549b88c2101307b7507412bf55264922a2bea45c154348d7b58f1fcd1"), looks := false }, kinds := [], alts := [], laidByText := true, laidKinds := [.data, .pinned], laidTests := true, laidLooks := .later }
def TableOnlyCardSaid : Prop := Claim7.holds Tryd.pinned (.plain (OpenSpec.ofChange tableOnlySpec)) tableOnlyCard

/-- THE TIED CARD OF 'rhytonlaw12.TableBuilt'. -/
def tableBuiltCard : Claim7 := { stood := { row := tableBuiltRow, standIns := [], harness := (true, "9f50a0a549b88c2101307b7507412bf55264922a2bea45c154348d7b58f1fcd1"), looks := false }, kinds := [], alts := [], laidByText := true, laidKinds := [.data, .pinned], laidTests := true, laidLooks := .later }
def TableBuiltCardSaid : Prop := Claim7.holds Tryd.pinned (.plain (OpenSpec.ofChange tableBuiltSpec)) tableBuiltCard

/-- THE SECOND FORM's CARD OF 'rhytonlaw12.TablePlays'. -/
def tablePlaysUptoCard : Claim7 := { stood := { row := tablePlaysUptoRow, standIns := [], harness := (true, "9f50a0a549b88c2101307b7507412bf55264922a2bea45c154348d7b58f1fcd1"), looks := false }, kinds := [], alts := [], laidByText := true, laidKinds := [.data, .pinned], laidTests := true, laidLooks := .later }
def TablePlaysUptoCardSaid : Prop := Claim7.holds Tryd.pinned (.plain (OpenSpec.upto tablePlaysSpec)) tablePlaysUptoCard

/-- THE SECOND FORM's CARD OF 'rhytonlaw12.TableNames'. -/
def tableNamesUptoCard : Claim7 := { stood := { row := tableNamesUptoRow, standIns := [], harness := (true, "9f50a0a549b88c2101307b7507412bf55264922a2bea45c154348d7b58f1fcd1"), looks := false }, kinds := [], alts := [], laidByText := true, laidKinds := [.data, .pinned], laidTests := true, laidLooks := .later }
def TableNamesUptoCardSaid : Prop := Claim7.holds Tryd.pinned (.plain (OpenSpec.upto tableNamesSpec)) tableNamesUptoCard

/-- THE SECOND FORM's CARD OF 'rhytonlaw12.TableOnly'. -/
def tableOnlyUptoCard : Claim7 := { stood := { row := tableOnlyUptoRow, standIns := [], harness := (true, "9f50a0a549b88c2101307b7507412bf55264922a2bea45c154348d7b58f1fcd1"), looks := false }, kinds := [], alts := [], laidByText := true, laidKinds := [.data, .pinned], laidTests := true, laidLooks := .later }
def TableOnlyUptoCardSaid : Prop := Claim7.holds Tryd.pinned (.plain (OpenSpec.upto tableOnlySpec)) tableOnlyUptoCard

/-- THE SECOND FORM's CARD OF 'rhytonlaw12.TableBuilt'. -/
def tableBuiltUptoCard : Claim7 := { stood := { row := tableBuiltUptoRow, standIns := [], harness := (true, "9f50a0a549b88c2101307b7507412bf55264922a2bea45c154348d7b58f1fcd1"), looks := false }, kinds := [], alts := [], laidByText := true, laidKinds := [.data, .pinned], laidTests := true, laidLooks := .later }
def TableBuiltUptoCardSaid : Prop := Claim7.holds Tryd.pinned (.plain (OpenSpec.upto tableBuiltSpec)) tableBuiltUptoCard
end Rows
end Go.Proofs.YtjbccoehgggdcaaDoor
