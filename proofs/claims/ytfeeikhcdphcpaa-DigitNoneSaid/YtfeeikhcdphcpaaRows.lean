/-
  No cell of these rows narrows 'for every input' (looked for: loops, veiled, ifaces, maps, wideKeys, modest, calm, conditions, laid).
  DERIVED. THE GIVEN ROWS OF THIS SEAT. 7 by the template 'for every input the law returns true; each argument reads behind the call as it read before'; 0 by the template 'total and deterministic' (their statements: YtfeeikhcdphcpaaTotals.lean).
  GIVEN WITH THE SEED: the statements are not yours to turn. If you find one false, say at which input.
  Laid BY PROGRAM, IN A SANDBOX (cutbox-rows.mjs): the forced cells as the released guide's own fill.sh prints them over the translation 9af278af3c05823f… (all of the seat's roots in one cut). By AI agents, Wed Nov 11 2026. No macro, syntax, notation, axiom, sorry.
-/
import Derived.Test.YtfeeikhcdphcpaaChecked
import GoSem.Claim
import GoSem.ClaimJoined
import GoSem.ClaimMapViews
import Derived.JoinedTies
import Derived.KernelRfl
namespace Go.Proofs.Ytfeeikhcdphcpaa
/- THE CELL 'sum', in the pinned program and in every row, IS THE sha256 OF THE DUMP (.gsa) THAT YtfeeikhcdphcpaaProg.lean LOADS. Nothing in Lean hashes anything: it is a label: what it is worth is what the hold of that sum in a sandbox is worth. -/
noncomputable def Try.pinned : Pinned := { name := "ytfeeikhcdphcpaa", sum := "9af278af3c05823fa1c8b92d9cdc3a72af0c2dace9104fda37f933455e5e5d15", checked := Try.checked }
namespace Rows
def none {H : Type} : Left H := { results := [], args := [] }

/-- 'rhytonlaw03.DigitPlays': WHATEVER THE INPUT: true; the input reads as it did. -/
def digitPlaysSpec : ChangeSpec := { name := "digitPlays", fn := fun _ => fun
  | [d1, d2, d3, d4] => { results := [.lit (.bool true)], args := [d1, d2, d3, d4] }
  | _ => none }
def digitPlaysRow : OpenClaim := { program := "ytfeeikhcdphcpaa", sum := "9af278af3c05823fa1c8b92d9cdc3a72af0c2dace9104fda37f933455e5e5d15", func := "rhyton/rhytonlaw03.DigitPlays", spec := "digitPlays", inPlace := ["internal/bytealg.IndexByteString", "math/bits.Add64", "math/bits.Sub64"], named := ["math/bits.divideError", "math/bits.overflowError"], apart := false }
def DigitPlaysSaid : Prop := digitPlaysRow.holds Try.pinned (OpenSpec.ofChange digitPlaysSpec)

/-- ITS FALSE NEIGHBOUR: 'it returns false'. Refute it at one input. -/
def digitPlaysWrong : ChangeSpec := { name := "digitPlays", fn := fun _ => fun
  | [d1, d2, d3, d4] => { results := [.lit (.bool false)], args := [d1, d2, d3, d4] }
  | _ => none }
def DigitPlaysWrongFalsely : Prop := digitPlaysRow.holds Try.pinned (OpenSpec.ofChange digitPlaysWrong)

/-- 'rhytonlaw03.DigitReads': WHATEVER THE INPUT: true; the input reads as it did. -/
def digitReadsSpec : ChangeSpec := { name := "digitReads", fn := fun _ => fun
  | [d1, d2, d3] => { results := [.lit (.bool true)], args := [d1, d2, d3] }
  | _ => none }
def digitReadsRow : OpenClaim := { program := "ytfeeikhcdphcpaa", sum := "9af278af3c05823fa1c8b92d9cdc3a72af0c2dace9104fda37f933455e5e5d15", func := "rhyton/rhytonlaw03.DigitReads", spec := "digitReads", inPlace := ["internal/bytealg.IndexByteString", "math/bits.Add64", "math/bits.Sub64"], named := ["math/bits.divideError", "math/bits.overflowError"], apart := false }
def DigitReadsSaid : Prop := digitReadsRow.holds Try.pinned (OpenSpec.ofChange digitReadsSpec)

/-- ITS FALSE NEIGHBOUR: 'it returns false'. Refute it at one input. -/
def digitReadsWrong : ChangeSpec := { name := "digitReads", fn := fun _ => fun
  | [d1, d2, d3] => { results := [.lit (.bool false)], args := [d1, d2, d3] }
  | _ => none }
def DigitReadsWrongFalsely : Prop := digitReadsRow.holds Try.pinned (OpenSpec.ofChange digitReadsWrong)

/-- 'rhytonlaw03.DigitBack': WHATEVER THE INPUT: true; the input reads as it did. -/
def digitBackSpec : ChangeSpec := { name := "digitBack", fn := fun _ => fun
  | [d1, d2] => { results := [.lit (.bool true)], args := [d1, d2] }
  | _ => none }
def digitBackRow : OpenClaim := { program := "ytfeeikhcdphcpaa", sum := "9af278af3c05823fa1c8b92d9cdc3a72af0c2dace9104fda37f933455e5e5d15", func := "rhyton/rhytonlaw03.DigitBack", spec := "digitBack", inPlace := ["internal/bytealg.IndexByteString", "math/bits.Add64", "math/bits.Sub64"], named := ["math/bits.divideError", "math/bits.overflowError"], apart := false }
def DigitBackSaid : Prop := digitBackRow.holds Try.pinned (OpenSpec.ofChange digitBackSpec)

/-- ITS FALSE NEIGHBOUR: 'it returns false'. Refute it at one input. -/
def digitBackWrong : ChangeSpec := { name := "digitBack", fn := fun _ => fun
  | [d1, d2] => { results := [.lit (.bool false)], args := [d1, d2] }
  | _ => none }
def DigitBackWrongFalsely : Prop := digitBackRow.holds Try.pinned (OpenSpec.ofChange digitBackWrong)

/-- 'rhytonlaw03.DigitParts': WHATEVER THE INPUT: true; the input reads as it did. -/
def digitPartsSpec : ChangeSpec := { name := "digitParts", fn := fun _ => fun
  | [d1, d2, d3] => { results := [.lit (.bool true)], args := [d1, d2, d3] }
  | _ => none }
def digitPartsRow : OpenClaim := { program := "ytfeeikhcdphcpaa", sum := "9af278af3c05823fa1c8b92d9cdc3a72af0c2dace9104fda37f933455e5e5d15", func := "rhyton/rhytonlaw03.DigitParts", spec := "digitParts", inPlace := ["internal/bytealg.IndexByteString", "math/bits.Add64", "math/bits.Sub64"], named := ["math/bits.divideError", "math/bits.overflowError"], apart := false }
def DigitPartsSaid : Prop := digitPartsRow.holds Try.pinned (OpenSpec.ofChange digitPartsSpec)

/-- ITS FALSE NEIGHBOUR: 'it returns false'. Refute it at one input. -/
def digitPartsWrong : ChangeSpec := { name := "digitParts", fn := fun _ => fun
  | [d1, d2, d3] => { results := [.lit (.bool false)], args := [d1, d2, d3] }
  | _ => none }
def DigitPartsWrongFalsely : Prop := digitPartsRow.holds Try.pinned (OpenSpec.ofChange digitPartsWrong)

/-- 'rhytonlaw03.DigitLess': WHATEVER THE INPUT: true; the input reads as it did. -/
def digitLessSpec : ChangeSpec := { name := "digitLess", fn := fun _ => fun
  | [d1, d2, d3] => { results := [.lit (.bool true)], args := [d1, d2, d3] }
  | _ => none }
def digitLessRow : OpenClaim := { program := "ytfeeikhcdphcpaa", sum := "9af278af3c05823fa1c8b92d9cdc3a72af0c2dace9104fda37f933455e5e5d15", func := "rhyton/rhytonlaw03.DigitLess", spec := "digitLess", inPlace := ["internal/bytealg.IndexByteString", "math/bits.Add64", "math/bits.Sub64"], named := ["math/bits.divideError", "math/bits.overflowError"], apart := false }
def DigitLessSaid : Prop := digitLessRow.holds Try.pinned (OpenSpec.ofChange digitLessSpec)

/-- ITS FALSE NEIGHBOUR: 'it returns false'. Refute it at one input. -/
def digitLessWrong : ChangeSpec := { name := "digitLess", fn := fun _ => fun
  | [d1, d2, d3] => { results := [.lit (.bool false)], args := [d1, d2, d3] }
  | _ => none }
def DigitLessWrongFalsely : Prop := digitLessRow.holds Try.pinned (OpenSpec.ofChange digitLessWrong)

/-- 'rhytonlaw03.DigitNone': WHATEVER THE INPUT: true; the input reads as it did. -/
def digitNoneSpec : ChangeSpec := { name := "digitNone", fn := fun _ => fun
  | [d1, d2, d3, d4] => { results := [.lit (.bool true)], args := [d1, d2, d3, d4] }
  | _ => none }
def digitNoneRow : OpenClaim := { program := "ytfeeikhcdphcpaa", sum := "9af278af3c05823fa1c8b92d9cdc3a72af0c2dace9104fda37f933455e5e5d15", func := "rhyton/rhytonlaw03.DigitNone", spec := "digitNone", inPlace := ["internal/bytealg.IndexByteString", "math/bits.Add64", "math/bits.Sub64"], named := ["math/bits.divideError", "math/bits.overflowError"], apart := false }
def DigitNoneSaid : Prop := digitNoneRow.holds Try.pinned (OpenSpec.ofChange digitNoneSpec)

/-- ITS FALSE NEIGHBOUR: 'it returns false'. Refute it at one input. -/
def digitNoneWrong : ChangeSpec := { name := "digitNone", fn := fun _ => fun
  | [d1, d2, d3, d4] => { results := [.lit (.bool false)], args := [d1, d2, d3, d4] }
  | _ => none }
def DigitNoneWrongFalsely : Prop := digitNoneRow.holds Try.pinned (OpenSpec.ofChange digitNoneWrong)

/-- 'rhytonlaw03.DigitSteps': WHATEVER THE INPUT: true; the input reads as it did. -/
def digitStepsSpec : ChangeSpec := { name := "digitSteps", fn := fun _ => fun
  | [d1, d2] => { results := [.lit (.bool true)], args := [d1, d2] }
  | _ => none }
def digitStepsRow : OpenClaim := { program := "ytfeeikhcdphcpaa", sum := "9af278af3c05823fa1c8b92d9cdc3a72af0c2dace9104fda37f933455e5e5d15", func := "rhyton/rhytonlaw03.DigitSteps", spec := "digitSteps", inPlace := ["internal/bytealg.IndexByteString", "math/bits.Add64", "math/bits.Sub64"], named := ["math/bits.divideError", "math/bits.overflowError"], apart := false }
def DigitStepsSaid : Prop := digitStepsRow.holds Try.pinned (OpenSpec.ofChange digitStepsSpec)

/-- ITS FALSE NEIGHBOUR: 'it returns false'. Refute it at one input. -/
def digitStepsWrong : ChangeSpec := { name := "digitSteps", fn := fun _ => fun
  | [d1, d2] => { results := [.lit (.bool false)], args := [d1, d2] }
  | _ => none }
def DigitStepsWrongFalsely : Prop := digitStepsRow.holds Try.pinned (OpenSpec.ofChange digitStepsWrong)

/- THE SECOND FORM. 'bulk': how many values and letters a reading holds, each counted each time it is reached (what is shared counts as often as it is met; a slice's spare places count too). A statement '..UptoSaid' is the law's where the arguments, and the package variables that the reading takes, are together of bulk at most 1048576: NARROWER than '..Said'. Prove '..Said' where nothing that the law and all that it calls make is longer than what came in: it says more and counts as full. Else prove '..UptoSaid'. A law counts once. -/
mutual
def uptoBulk {H : Type} : DataW H → Nat
  | .lit (.string bytes) => bytes.length + 1
  | .lit _ => 1
  | .nil => 1
  | .ptr d => uptoBulk d + 1
  | .slice elems spare => uptoBulkAll elems + uptoBulkAll spare + 1
  | .agg parts => uptoBulkAll parts + 1
  | .iface _ d => uptoBulk d + 1
  | .map entries => uptoBulkEntries entries + 1
  | .held _ => 1
def uptoBulkAll {H : Type} : List (DataW H) → Nat
  | [] => 0
  | d :: r => uptoBulk d + uptoBulkAll r
def uptoBulkEntries {H : Type} : List (Lit × DataW H) → Nat
  | [] => 0
  | x :: r => uptoBulkEntry x + uptoBulkEntries r
def uptoBulkEntry {H : Type} : Lit × DataW H → Nat
  | (.string bytes, d) => bytes.length + uptoBulk d + 1
  | (_, d) => uptoBulk d + 1
 end
def uptoSmall : (H : Type) → List (DataW H) → Bool := fun _ ds => decide (uptoBulkAll ds ≤ 1048576)
def OpenSpec.upto (s : _root_.Go.ChangeSpec) : _root_.Go.OpenSpec := { _root_.Go.OpenSpec.ofChange s with cond := some uptoSmall }

/-- 'rhytonlaw03.DigitPlays', WHERE WHAT IT READS IS OF BULK AT MOST 1048576: true; the input reads as it did. -/
def digitPlaysUptoRow : OpenClaim := { program := "ytfeeikhcdphcpaa", sum := "9af278af3c05823fa1c8b92d9cdc3a72af0c2dace9104fda37f933455e5e5d15", func := "rhyton/rhytonlaw03.DigitPlays", spec := "digitPlays", inPlace := ["internal/bytealg.IndexByteString", "math/bits.Add64", "math/bits.Sub64"], named := ["math/bits.divideError", "math/bits.overflowError"], apart := false, narrowed := true }
def DigitPlaysUptoSaid : Prop := digitPlaysUptoRow.holds Try.pinned (OpenSpec.upto digitPlaysSpec)

/-- 'rhytonlaw03.DigitReads', WHERE WHAT IT READS IS OF BULK AT MOST 1048576: true; the input reads as it did. -/
def digitReadsUptoRow : OpenClaim := { program := "ytfeeikhcdphcpaa", sum := "9af278af3c05823fa1c8b92d9cdc3a72af0c2dace9104fda37f933455e5e5d15", func := "rhyton/rhytonlaw03.DigitReads", spec := "digitReads", inPlace := ["internal/bytealg.IndexByteString", "math/bits.Add64", "math/bits.Sub64"], named := ["math/bits.divideError", "math/bits.overflowError"], apart := false, narrowed := true }
def DigitReadsUptoSaid : Prop := digitReadsUptoRow.holds Try.pinned (OpenSpec.upto digitReadsSpec)

/-- 'rhytonlaw03.DigitBack', WHERE WHAT IT READS IS OF BULK AT MOST 1048576: true; the input reads as it did. -/
def digitBackUptoRow : OpenClaim := { program := "ytfeeikhcdphcpaa", sum := "9af278af3c05823fa1c8b92d9cdc3a72af0c2dace9104fda37f933455e5e5d15", func := "rhyton/rhytonlaw03.DigitBack", spec := "digitBack", inPlace := ["internal/bytealg.IndexByteString", "math/bits.Add64", "math/bits.Sub64"], named := ["math/bits.divideError", "math/bits.overflowError"], apart := false, narrowed := true }
def DigitBackUptoSaid : Prop := digitBackUptoRow.holds Try.pinned (OpenSpec.upto digitBackSpec)

/-- 'rhytonlaw03.DigitParts', WHERE WHAT IT READS IS OF BULK AT MOST 1048576: true; the input reads as it did. -/
def digitPartsUptoRow : OpenClaim := { program := "ytfeeikhcdphcpaa", sum := "9af278af3c05823fa1c8b92d9cdc3a72af0c2dace9104fda37f933455e5e5d15", func := "rhyton/rhytonlaw03.DigitParts", spec := "digitParts", inPlace := ["internal/bytealg.IndexByteString", "math/bits.Add64", "math/bits.Sub64"], named := ["math/bits.divideError", "math/bits.overflowError"], apart := false, narrowed := true }
def DigitPartsUptoSaid : Prop := digitPartsUptoRow.holds Try.pinned (OpenSpec.upto digitPartsSpec)

/-- 'rhytonlaw03.DigitLess', WHERE WHAT IT READS IS OF BULK AT MOST 1048576: true; the input reads as it did. -/
def digitLessUptoRow : OpenClaim := { program := "ytfeeikhcdphcpaa", sum := "9af278af3c05823fa1c8b92d9cdc3a72af0c2dace9104fda37f933455e5e5d15", func := "rhyton/rhytonlaw03.DigitLess", spec := "digitLess", inPlace := ["internal/bytealg.IndexByteString", "math/bits.Add64", "math/bits.Sub64"], named := ["math/bits.divideError", "math/bits.overflowError"], apart := false, narrowed := true }
def DigitLessUptoSaid : Prop := digitLessUptoRow.holds Try.pinned (OpenSpec.upto digitLessSpec)

/-- 'rhytonlaw03.DigitNone', WHERE WHAT IT READS IS OF BULK AT MOST 1048576: true; the input reads as it did. -/
def digitNoneUptoRow : OpenClaim := { program := "ytfeeikhcdphcpaa", sum := "9af278af3c05823fa1c8b92d9cdc3a72af0c2dace9104fda37f933455e5e5d15", func := "rhyton/rhytonlaw03.DigitNone", spec := "digitNone", inPlace := ["internal/bytealg.IndexByteString", "math/bits.Add64", "math/bits.Sub64"], named := ["math/bits.divideError", "math/bits.overflowError"], apart := false, narrowed := true }
def DigitNoneUptoSaid : Prop := digitNoneUptoRow.holds Try.pinned (OpenSpec.upto digitNoneSpec)

/-- 'rhytonlaw03.DigitSteps', WHERE WHAT IT READS IS OF BULK AT MOST 1048576: true; the input reads as it did. -/
def digitStepsUptoRow : OpenClaim := { program := "ytfeeikhcdphcpaa", sum := "9af278af3c05823fa1c8b92d9cdc3a72af0c2dace9104fda37f933455e5e5d15", func := "rhyton/rhytonlaw03.DigitSteps", spec := "digitSteps", inPlace := ["internal/bytealg.IndexByteString", "math/bits.Add64", "math/bits.Sub64"], named := ["math/bits.divideError", "math/bits.overflowError"], apart := false, narrowed := true }
def DigitStepsUptoSaid : Prop := digitStepsUptoRow.holds Try.pinned (OpenSpec.upto digitStepsSpec)

end Rows
end Go.Proofs.Ytfeeikhcdphcpaa
