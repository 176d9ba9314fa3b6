/-
  NARROWER THAN 'FOR EVERY INPUT', by the rows' own cells (each row's printed sentence says how): TransPlays: laid · TransPostpones: laid · TransModes: laid · TransNames: laid · TransWords: laid · TransRows: laid.
  DERIVED. THE GIVEN ROWS OF THIS SEAT. 6 by the template 'for every input the law returns true; each argument reads behind the call as it read before'; 0 by the template 'total and deterministic' (their statements: YtnfbldkejbgbiaaDoorTotals.lean).
  GIVEN WITH THE SEED: the statements are not yours to turn. If you find one false, say at which input.
  Laid BY PROGRAM, IN A SANDBOX (cutbox-rows.mjs): the forced cells as the released guide's own fill.sh prints them over the translation 3931216d13c4c11d… (all of the seat's roots in one cut). By AI agents, Wed Nov 11 2026. No macro, syntax, notation, axiom, sorry.
-/
import Derived.Test.YtnfbldkejbgbiaaDoorChecked
import GoSem.PinnedTables
import GoSem.Claim
import GoSem.ClaimJoined
import GoSem.ClaimMapViews
import Derived.JoinedTies
import Derived.KernelRfl
namespace Go.Proofs.YtnfbldkejbgbiaaDoor
/- THE CELL 'sum', in the pinned program and in every row, IS THE sha256 OF THE DUMP (.gsa) THAT YtnfbldkejbgbiaaDoorProg.lean LOADS. Nothing in Lean hashes anything: it is a label: what it is worth is what the hold of that sum in a sandbox is worth. -/
noncomputable def Tryd.pinned : Pinned := { name := "ytnfbldkejbgbiaadoor", sum := "3931216d13c4c11d32efc8ecfaa4f80f52cf00898ca9ec3ca3e1898e8857c896", checked := Tryd.checked }
namespace Rows
def none {H : Type} : Left H := { results := [], args := [] }

/- WHAT THE LISTED PACKAGE-LEVEL VARIABLES READ AS WHEN THE CALL BEGINS. Each datum BY PROGRAM (the guide's laid-datum.mjs) off the statement by which the dump's own 'gosem.cut.vars' lays the variable. In a bare row this is a premise. The card (YtnfbldkejbgbiaaDoorCards.lean) ties it to the program's text. -/
def laid_unicode_utf8_acceptRanges {H : Type} : DataW H := .agg [.agg [.lit (.int .u8 128), .lit (.int .u8 191)], .agg [.lit (.int .u8 160), .lit (.int .u8 191)], .agg [.lit (.int .u8 128), .lit (.int .u8 159)], .agg [.lit (.int .u8 144), .lit (.int .u8 191)], .agg [.lit (.int .u8 128), .lit (.int .u8 143)], .agg [.lit (.int .u8 0), .lit (.int .u8 0)], .agg [.lit (.int .u8 0), .lit (.int .u8 0)], .agg [.lit (.int .u8 0), .lit (.int .u8 0)], .agg [.lit (.int .u8 0), .lit (.int .u8 0)], .agg [.lit (.int .u8 0), .lit (.int .u8 0)], .agg [.lit (.int .u8 0), .lit (.int .u8 0)], .agg [.lit (.int .u8 0), .lit (.int .u8 0)], .agg [.lit (.int .u8 0), .lit (.int .u8 0)], .agg [.lit (.int .u8 0), .lit (.int .u8 0)], .agg [.lit (.int .u8 0), .lit (.int .u8 0)], .agg [.lit (.int .u8 0), .lit (.int .u8 0)]]
/-- One of Go's own tables, pinned by name: the form's constant. -/
def laid_unicode_utf8_first : DataW Unit := Go.Pinned.utf8First

/-- 'rhytonlaw17.TransPlays': WHATEVER THE INPUT: true; the input reads as it did. -/
def transPlaysSpec : ChangeSpec := { name := "transPlays", fn := fun _ => fun
  | [d1, d2, d3] => { results := [.lit (.bool true)], args := [d1, d2, d3] }
  | _ => none }
def transPlaysRow : OpenClaim := { program := "ytnfbldkejbgbiaadoor", sum := "3931216d13c4c11d32efc8ecfaa4f80f52cf00898ca9ec3ca3e1898e8857c896", func := "rhyton/rhytonlaw17.TransPlays", spec := "transPlays", inPlace := ["internal/bytealg.CountString", "internal/bytealg.IndexByteString", "internal/bytealg.IndexString"], unfollowed := true, recurses := true, named := ["unicode/utf8.first", "unicode/utf8.acceptRanges", "internal/bytealg.MaxLen"], apart := false, laid := [("unicode/utf8.acceptRanges", laid_unicode_utf8_acceptRanges), ("unicode/utf8.first", laid_unicode_utf8_first)] }
def TransPlaysSaid : Prop := transPlaysRow.holds Tryd.pinned (OpenSpec.ofChange transPlaysSpec)

/-- ITS FALSE NEIGHBOUR: 'it returns false'. Refute it at one input. -/
def transPlaysWrong : ChangeSpec := { name := "transPlays", fn := fun _ => fun
  | [d1, d2, d3] => { results := [.lit (.bool false)], args := [d1, d2, d3] }
  | _ => none }
def TransPlaysWrongFalsely : Prop := transPlaysRow.holds Tryd.pinned (OpenSpec.ofChange transPlaysWrong)

/-- 'rhytonlaw17.TransPostpones': WHATEVER THE INPUT: true; the input reads as it did. -/
def transPostponesSpec : ChangeSpec := { name := "transPostpones", fn := fun _ => fun
  | [d1, d2, d3, d4, d5] => { results := [.lit (.bool true)], args := [d1, d2, d3, d4, d5] }
  | _ => none }
def transPostponesRow : OpenClaim := { program := "ytnfbldkejbgbiaadoor", sum := "3931216d13c4c11d32efc8ecfaa4f80f52cf00898ca9ec3ca3e1898e8857c896", func := "rhyton/rhytonlaw17.TransPostpones", spec := "transPostpones", inPlace := ["internal/bytealg.CountString", "internal/bytealg.IndexByteString", "internal/bytealg.IndexString"], unfollowed := true, recurses := true, named := ["unicode/utf8.first", "unicode/utf8.acceptRanges", "internal/bytealg.MaxLen"], apart := false, laid := [("unicode/utf8.acceptRanges", laid_unicode_utf8_acceptRanges), ("unicode/utf8.first", laid_unicode_utf8_first)] }
def TransPostponesSaid : Prop := transPostponesRow.holds Tryd.pinned (OpenSpec.ofChange transPostponesSpec)

/-- ITS FALSE NEIGHBOUR: 'it returns false'. Refute it at one input. -/
def transPostponesWrong : ChangeSpec := { name := "transPostpones", fn := fun _ => fun
  | [d1, d2, d3, d4, d5] => { results := [.lit (.bool false)], args := [d1, d2, d3, d4, d5] }
  | _ => none }
def TransPostponesWrongFalsely : Prop := transPostponesRow.holds Tryd.pinned (OpenSpec.ofChange transPostponesWrong)

/-- 'rhytonlaw17.TransModes': WHATEVER THE INPUT: true; the input reads as it did. -/
def transModesSpec : ChangeSpec := { name := "transModes", fn := fun _ => fun
  | [d1, d2, d3, d4] => { results := [.lit (.bool true)], args := [d1, d2, d3, d4] }
  | _ => none }
def transModesRow : OpenClaim := { program := "ytnfbldkejbgbiaadoor", sum := "3931216d13c4c11d32efc8ecfaa4f80f52cf00898ca9ec3ca3e1898e8857c896", func := "rhyton/rhytonlaw17.TransModes", spec := "transModes", inPlace := ["internal/bytealg.CountString", "internal/bytealg.IndexByteString", "internal/bytealg.IndexString"], unfollowed := true, recurses := true, named := ["unicode/utf8.first", "unicode/utf8.acceptRanges", "internal/bytealg.MaxLen"], apart := false, laid := [("unicode/utf8.acceptRanges", laid_unicode_utf8_acceptRanges), ("unicode/utf8.first", laid_unicode_utf8_first)] }
def TransModesSaid : Prop := transModesRow.holds Tryd.pinned (OpenSpec.ofChange transModesSpec)

/-- ITS FALSE NEIGHBOUR: 'it returns false'. Refute it at one input. -/
def transModesWrong : ChangeSpec := { name := "transModes", fn := fun _ => fun
  | [d1, d2, d3, d4] => { results := [.lit (.bool false)], args := [d1, d2, d3, d4] }
  | _ => none }
def TransModesWrongFalsely : Prop := transModesRow.holds Tryd.pinned (OpenSpec.ofChange transModesWrong)

/-- 'rhytonlaw17.TransNames': WHATEVER THE INPUT: true; the input reads as it did. -/
def transNamesSpec : ChangeSpec := { name := "transNames", fn := fun _ => fun
  | [d1, d2] => { results := [.lit (.bool true)], args := [d1, d2] }
  | _ => none }
def transNamesRow : OpenClaim := { program := "ytnfbldkejbgbiaadoor", sum := "3931216d13c4c11d32efc8ecfaa4f80f52cf00898ca9ec3ca3e1898e8857c896", func := "rhyton/rhytonlaw17.TransNames", spec := "transNames", inPlace := ["internal/bytealg.CountString", "internal/bytealg.IndexByteString", "internal/bytealg.IndexString"], unfollowed := true, recurses := true, named := ["unicode/utf8.first", "unicode/utf8.acceptRanges", "internal/bytealg.MaxLen"], apart := false, laid := [("unicode/utf8.acceptRanges", laid_unicode_utf8_acceptRanges), ("unicode/utf8.first", laid_unicode_utf8_first)] }
def TransNamesSaid : Prop := transNamesRow.holds Tryd.pinned (OpenSpec.ofChange transNamesSpec)

/-- ITS FALSE NEIGHBOUR: 'it returns false'. Refute it at one input. -/
def transNamesWrong : ChangeSpec := { name := "transNames", fn := fun _ => fun
  | [d1, d2] => { results := [.lit (.bool false)], args := [d1, d2] }
  | _ => none }
def TransNamesWrongFalsely : Prop := transNamesRow.holds Tryd.pinned (OpenSpec.ofChange transNamesWrong)

/-- 'rhytonlaw17.TransWords': WHATEVER THE INPUT: true; the input reads as it did. -/
def transWordsSpec : ChangeSpec := { name := "transWords", fn := fun _ => fun
  | [d] => { results := [.lit (.bool true)], args := [d] }
  | _ => none }
def transWordsRow : OpenClaim := { program := "ytnfbldkejbgbiaadoor", sum := "3931216d13c4c11d32efc8ecfaa4f80f52cf00898ca9ec3ca3e1898e8857c896", func := "rhyton/rhytonlaw17.TransWords", spec := "transWords", inPlace := ["internal/bytealg.CountString", "internal/bytealg.IndexByteString", "internal/bytealg.IndexString"], unfollowed := true, recurses := true, named := ["unicode/utf8.first", "unicode/utf8.acceptRanges", "internal/bytealg.MaxLen"], apart := false, laid := [("unicode/utf8.acceptRanges", laid_unicode_utf8_acceptRanges), ("unicode/utf8.first", laid_unicode_utf8_first)] }
def TransWordsSaid : Prop := transWordsRow.holds Tryd.pinned (OpenSpec.ofChange transWordsSpec)

/-- ITS FALSE NEIGHBOUR: 'it returns false'. Refute it at one input. -/
def transWordsWrong : ChangeSpec := { name := "transWords", fn := fun _ => fun
  | [d] => { results := [.lit (.bool false)], args := [d] }
  | _ => none }
def TransWordsWrongFalsely : Prop := transWordsRow.holds Tryd.pinned (OpenSpec.ofChange transWordsWrong)

/-- 'rhytonlaw17.TransRows': WHATEVER THE INPUT: true; the input reads as it did. -/
def transRowsSpec : ChangeSpec := { name := "transRows", fn := fun _ => fun
  | [d1, d2, d3, d4] => { results := [.lit (.bool true)], args := [d1, d2, d3, d4] }
  | _ => none }
def transRowsRow : OpenClaim := { program := "ytnfbldkejbgbiaadoor", sum := "3931216d13c4c11d32efc8ecfaa4f80f52cf00898ca9ec3ca3e1898e8857c896", func := "rhyton/rhytonlaw17.TransRows", spec := "transRows", inPlace := ["internal/bytealg.CountString", "internal/bytealg.IndexByteString", "internal/bytealg.IndexString"], unfollowed := true, recurses := true, named := ["unicode/utf8.first", "unicode/utf8.acceptRanges", "internal/bytealg.MaxLen"], apart := false, laid := [("unicode/utf8.acceptRanges", laid_unicode_utf8_acceptRanges), ("unicode/utf8.first", laid_unicode_utf8_first)] }
def TransRowsSaid : Prop := transRowsRow.holds Tryd.pinned (OpenSpec.ofChange transRowsSpec)

/-- ITS FALSE NEIGHBOUR: 'it returns false'. Refute it at one input. -/
def transRowsWrong : ChangeSpec := { name := "transRows", fn := fun _ => fun
  | [d1, d2, d3, d4] => { results := [.lit (.bool false)], args := [d1, d2, d3, d4] }
  | _ => none }
def TransRowsWrongFalsely : Prop := transRowsRow.holds Tryd.pinned (OpenSpec.ofChange transRowsWrong)

/- THE SECOND FORM. 'bulk': how many values and letters a reading holds, each counted each time it is reached (what is shared counts as often as it is met; a slice's spare places count too). A statement '..UptoSaid' is the law's where the arguments, and the package variables that the reading takes, are together of bulk at most 1048576: NARROWER than '..Said'. Prove '..Said' where nothing that the law and all that it calls make is longer than what came in: it says more and counts as full. Else prove '..UptoSaid'. A law counts once. -/
mutual
def uptoBulk {H : Type} : DataW H → Nat
  | .lit (.string bytes) => bytes.length + 1
  | .lit _ => 1
  | .nil => 1
  | .ptr d => uptoBulk d + 1
  | .slice elems spare => uptoBulkAll elems + uptoBulkAll spare + 1
  | .agg parts => uptoBulkAll parts + 1
  | .iface _ d => uptoBulk d + 1
  | .map entries => uptoBulkEntries entries + 1
  | .held _ => 1
def uptoBulkAll {H : Type} : List (DataW H) → Nat
  | [] => 0
  | d :: r => uptoBulk d + uptoBulkAll r
def uptoBulkEntries {H : Type} : List (Lit × DataW H) → Nat
  | [] => 0
  | x :: r => uptoBulkEntry x + uptoBulkEntries r
def uptoBulkEntry {H : Type} : Lit × DataW H → Nat
  | (.string bytes, d) => bytes.length + uptoBulk d + 1
  | (_, d) => uptoBulk d + 1
 end
def uptoSmall : (H : Type) → List (DataW H) → Bool := fun _ ds => decide (uptoBulkAll ds ≤ 1048576)
def OpenSpec.upto (s : _root_.Go.ChangeSpec) : _root_.Go.OpenSpec := { _root_.Go.OpenSpec.ofChange s with cond := some uptoSmall }

/-- 'rhytonlaw17.TransPlays', WHERE WHAT IT READS IS OF BULK AT MOST 1048576: true; the input reads as it did. -/
def transPlaysUptoRow : OpenClaim := { program := "ytnfbldkejbgbiaadoor", sum := "3931216d13c4c11d32efc8ecfaa4f80f52cf00898ca9ec3ca3e1898e8857c896", func := "rhyton/rhytonlaw17.TransPlays", spec := "transPlays", inPlace := ["internal/bytealg.CountString", "internal/bytealg.IndexByteString", "internal/bytealg.IndexString"], unfollowed := true, recurses := true, named := ["unicode/utf8.first", "unicode/utf8.acceptRanges", "internal/bytealg.MaxLen"], apart := false, laid := [("unicode/utf8.acceptRanges", laid_unicode_utf8_acceptRanges), ("unicode/utf8.first", laid_unicode_utf8_first)], narrowed := true }
def TransPlaysUptoSaid : Prop := transPlaysUptoRow.holds Tryd.pinned (OpenSpec.upto transPlaysSpec)

/-- 'rhytonlaw17.TransPostpones', WHERE WHAT IT READS IS OF BULK AT MOST 1048576: true; the input reads as it did. -/
def transPostponesUptoRow : OpenClaim := { program := "ytnfbldkejbgbiaadoor", sum := "3931216d13c4c11d32efc8ecfaa4f80f52cf00898ca9ec3ca3e1898e8857c896", func := "rhyton/rhytonlaw17.TransPostpones", spec := "transPostpones", inPlace := ["internal/bytealg.CountString", "internal/bytealg.IndexByteString", "internal/bytealg.IndexString"], unfollowed := true, recurses := true, named := ["unicode/utf8.first", "unicode/utf8.acceptRanges", "internal/bytealg.MaxLen"], apart := false, laid := [("unicode/utf8.acceptRanges", laid_unicode_utf8_acceptRanges), ("unicode/utf8.first", laid_unicode_utf8_first)], narrowed := true }
def TransPostponesUptoSaid : Prop := transPostponesUptoRow.holds Tryd.pinned (OpenSpec.upto transPostponesSpec)

/-- 'rhytonlaw17.TransModes', WHERE WHAT IT READS IS OF BULK AT MOST 1048576: true; the input reads as it did. -/
def transModesUptoRow : OpenClaim := { program := "ytnfbldkejbgbiaadoor", sum := "3931216d13c4c11d32efc8ecfaa4f80f52cf00898ca9ec3ca3e1898e8857c896", func := "rhyton/rhytonlaw17.TransModes", spec := "transModes", inPlace := ["internal/bytealg.CountString", "internal/bytealg.IndexByteString", "internal/bytealg.IndexString"], unfollowed := true, recurses := true, named := ["unicode/utf8.first", "unicode/utf8.acceptRanges", "internal/bytealg.MaxLen"], apart := false, laid := [("unicode/utf8.acceptRanges", laid_unicode_utf8_acceptRanges), ("unicode/utf8.first", laid_unicode_utf8_first)], narrowed := true }
def TransModesUptoSaid : Prop := transModesUptoRow.holds Tryd.pinned (OpenSpec.upto transModesSpec)

/-- 'rhytonlaw17.TransNames', WHERE WHAT IT READS IS OF BULK AT MOST 1048576: true; the input reads as it did. -/
def transNamesUptoRow : OpenClaim := { program := "ytnfbldkejbgbiaadoor", sum := "3931216d13c4c11d32efc8ecfaa4f80f52cf00898ca9ec3ca3e1898e8857c896", func := "rhyton/rhytonlaw17.TransNames", spec := "transNames", inPlace := ["internal/bytealg.CountString", "internal/bytealg.IndexByteString", "internal/bytealg.IndexString"], unfollowed := true, recurses := true, named := ["unicode/utf8.first", "unicode/utf8.acceptRanges", "internal/bytealg.MaxLen"], apart := false, laid := [("unicode/utf8.acceptRanges", laid_unicode_utf8_acceptRanges), ("unicode/utf8.first", laid_unicode_utf8_first)], narrowed := true }
def TransNamesUptoSaid : Prop := transNamesUptoRow.holds Tryd.pinned (OpenSpec.upto transNamesSpec)

/-- 'rhytonlaw17.TransWords', WHERE WHAT IT READS IS OF BULK AT MOST 1048576: true; the input reads as it did. -/
def transWordsUptoRow : OpenClaim := { program := "ytnfbldkejbgbiaadoor", sum := "3931216d13c4c11d32efc8ecfaa4f80f52cf00898ca9ec3ca3e1898e8857c896", func := "rhyton/rhytonlaw17.TransWords", spec := "transWords", inPlace := ["internal/bytealg.CountString", "internal/bytealg.IndexByteString", "internal/bytealg.IndexString"], unfollowed := true, recurses := true, named := ["unicode/utf8.first", "unicode/utf8.acceptRanges", "internal/bytealg.MaxLen"], apart := false, laid := [("unicode/utf8.acceptRanges", laid_unicode_utf8_acceptRanges), ("unicode/utf8.first", laid_unicode_utf8_first)], narrowed := true }
def TransWordsUptoSaid : Prop := transWordsUptoRow.holds Tryd.pinned (OpenSpec.upto transWordsSpec)

/-- 'rhytonlaw17.TransRows', WHERE WHAT IT READS IS OF BULK AT MOST 1048576: true; the input reads as it did. -/
def transRowsUptoRow : OpenClaim := { program := "ytnfbldkejbgbiaadoor", sum := "3931216d13c4c11d32efc8ecfaa4f80f52cf00898ca9ec3ca3e1898e8857c896", func := "rhyton/rhytonlaw17.TransRows", spec := "transRows", inPlace := ["internal/bytealg.CountString", "internal/bytealg.IndexByteString", "internal/bytealg.IndexString"], unfollowed := true, recurses := true, named := ["unicode/utf8.first", "unicode/utf8.acceptRanges", "internal/bytealg.MaxLen"], apart := false, laid := [("unicode/utf8.acceptRanges", laid_unicode_utf8_acceptRanges), ("unicode/utf8.first", laid_unicode_utf8_first)], narrowed := true }
def TransRowsUptoSaid : Prop := transRowsUptoRow.holds Tryd.pinned (OpenSpec.upto transRowsSpec)

end Rows
end Go.Proofs.YtnfbldkejbgbiaaDoor
