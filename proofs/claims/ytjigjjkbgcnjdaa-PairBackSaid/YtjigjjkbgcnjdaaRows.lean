/-
  No cell of these rows narrows 'for every input' (looked for: loops, veiled, ifaces, maps, wideKeys, modest, calm, conditions, laid).
  DERIVED. THE GIVEN ROWS OF THIS SEAT. 7 by the template 'for every input the law returns true; each argument reads behind the call as it read before'; 0 by the template 'total and deterministic' (their statements: YtjigjjkbgcnjdaaTotals.lean).
  GIVEN WITH THE SEED: the statements are not yours to turn. If you find one false, say at which input.
  Laid BY PROGRAM, IN A SANDBOX (cutbox-rows.mjs): the forced cells as the released guide's own fill.sh prints them over the translation f90faa08f66fd1e9… (all of the seat's roots in one cut). By AI agents, Wed Nov 11 2026. No macro, syntax, notation, axiom, sorry.
-/
import Derived.Test.YtjigjjkbgcnjdaaChecked
import GoSem.Claim
import GoSem.ClaimJoined
import GoSem.ClaimMapViews
import Derived.JoinedTies
import Derived.KernelRfl
namespace Go.Proofs.Ytjigjjkbgcnjdaa
/- THE CELL 'sum', in the pinned program and in every row, IS THE sha256 OF THE DUMP (.gsa) THAT YtjigjjkbgcnjdaaProg.lean LOADS. Nothing in Lean hashes anything: it is a label: what it is worth is what the hold of that sum in a sandbox is worth. -/
noncomputable def Try.pinned : Pinned := { name := "ytjigjjkbgcnjdaa", sum := "f90faa08f66fd1e9e75e614fa9668c9df016cf071d1f337b33f9c80de1be1923", checked := Try.checked }
namespace Rows
def none {H : Type} : Left H := { results := [], args := [] }

/-- 'rhytonlaw02.PairDivides': WHATEVER THE INPUT: true; the input reads as it did. -/
def pairDividesSpec : ChangeSpec := { name := "pairDivides", fn := fun _ => fun
  | [d1, d2] => { results := [.lit (.bool true)], args := [d1, d2] }
  | _ => none }
def pairDividesRow : OpenClaim := { program := "ytjigjjkbgcnjdaa", sum := "f90faa08f66fd1e9e75e614fa9668c9df016cf071d1f337b33f9c80de1be1923", func := "rhyton/rhytonlaw02.PairDivides", spec := "pairDivides", inPlace := ["math/bits.Sub64", "math/bits.Add64"], named := ["math/bits.divideError", "math/bits.overflowError"], apart := false }
def PairDividesSaid : Prop := pairDividesRow.holds Try.pinned (OpenSpec.ofChange pairDividesSpec)

/-- ITS FALSE NEIGHBOUR: 'it returns false'. Refute it at one input. -/
def pairDividesWrong : ChangeSpec := { name := "pairDivides", fn := fun _ => fun
  | [d1, d2] => { results := [.lit (.bool false)], args := [d1, d2] }
  | _ => none }
def PairDividesWrongFalsely : Prop := pairDividesRow.holds Try.pinned (OpenSpec.ofChange pairDividesWrong)

/-- 'rhytonlaw02.PairMakes': WHATEVER THE INPUT: true; the input reads as it did. -/
def pairMakesSpec : ChangeSpec := { name := "pairMakes", fn := fun _ => fun
  | [d1, d2, d3] => { results := [.lit (.bool true)], args := [d1, d2, d3] }
  | _ => none }
def pairMakesRow : OpenClaim := { program := "ytjigjjkbgcnjdaa", sum := "f90faa08f66fd1e9e75e614fa9668c9df016cf071d1f337b33f9c80de1be1923", func := "rhyton/rhytonlaw02.PairMakes", spec := "pairMakes", inPlace := ["math/bits.Sub64", "math/bits.Add64"], named := ["math/bits.divideError", "math/bits.overflowError"], apart := false }
def PairMakesSaid : Prop := pairMakesRow.holds Try.pinned (OpenSpec.ofChange pairMakesSpec)

/-- ITS FALSE NEIGHBOUR: 'it returns false'. Refute it at one input. -/
def pairMakesWrong : ChangeSpec := { name := "pairMakes", fn := fun _ => fun
  | [d1, d2, d3] => { results := [.lit (.bool false)], args := [d1, d2, d3] }
  | _ => none }
def PairMakesWrongFalsely : Prop := pairMakesRow.holds Try.pinned (OpenSpec.ofChange pairMakesWrong)

/-- 'rhytonlaw02.PairSums': WHATEVER THE INPUT: true; the input reads as it did. -/
def pairSumsSpec : ChangeSpec := { name := "pairSums", fn := fun _ => fun
  | [d1, d2, d3] => { results := [.lit (.bool true)], args := [d1, d2, d3] }
  | _ => none }
def pairSumsRow : OpenClaim := { program := "ytjigjjkbgcnjdaa", sum := "f90faa08f66fd1e9e75e614fa9668c9df016cf071d1f337b33f9c80de1be1923", func := "rhyton/rhytonlaw02.PairSums", spec := "pairSums", inPlace := ["math/bits.Sub64", "math/bits.Add64"], named := ["math/bits.divideError", "math/bits.overflowError"], apart := false }
def PairSumsSaid : Prop := pairSumsRow.holds Try.pinned (OpenSpec.ofChange pairSumsSpec)

/-- ITS FALSE NEIGHBOUR: 'it returns false'. Refute it at one input. -/
def pairSumsWrong : ChangeSpec := { name := "pairSums", fn := fun _ => fun
  | [d1, d2, d3] => { results := [.lit (.bool false)], args := [d1, d2, d3] }
  | _ => none }
def PairSumsWrongFalsely : Prop := pairSumsRow.holds Try.pinned (OpenSpec.ofChange pairSumsWrong)

/-- 'rhytonlaw02.PairCells': WHATEVER THE INPUT: true; the input reads as it did. -/
def pairCellsSpec : ChangeSpec := { name := "pairCells", fn := fun _ => fun
  | [d1, d2] => { results := [.lit (.bool true)], args := [d1, d2] }
  | _ => none }
def pairCellsRow : OpenClaim := { program := "ytjigjjkbgcnjdaa", sum := "f90faa08f66fd1e9e75e614fa9668c9df016cf071d1f337b33f9c80de1be1923", func := "rhyton/rhytonlaw02.PairCells", spec := "pairCells", inPlace := ["math/bits.Sub64", "math/bits.Add64"], named := ["math/bits.divideError", "math/bits.overflowError"], apart := false }
def PairCellsSaid : Prop := pairCellsRow.holds Try.pinned (OpenSpec.ofChange pairCellsSpec)

/-- ITS FALSE NEIGHBOUR: 'it returns false'. Refute it at one input. -/
def pairCellsWrong : ChangeSpec := { name := "pairCells", fn := fun _ => fun
  | [d1, d2] => { results := [.lit (.bool false)], args := [d1, d2] }
  | _ => none }
def PairCellsWrongFalsely : Prop := pairCellsRow.holds Try.pinned (OpenSpec.ofChange pairCellsWrong)

/-- 'rhytonlaw02.PairOrder': WHATEVER THE INPUT: true; the input reads as it did. -/
def pairOrderSpec : ChangeSpec := { name := "pairOrder", fn := fun _ => fun
  | [d1, d2, d3, d4] => { results := [.lit (.bool true)], args := [d1, d2, d3, d4] }
  | _ => none }
def pairOrderRow : OpenClaim := { program := "ytjigjjkbgcnjdaa", sum := "f90faa08f66fd1e9e75e614fa9668c9df016cf071d1f337b33f9c80de1be1923", func := "rhyton/rhytonlaw02.PairOrder", spec := "pairOrder", inPlace := ["math/bits.Sub64", "math/bits.Add64"], named := ["math/bits.divideError", "math/bits.overflowError"], apart := false }
def PairOrderSaid : Prop := pairOrderRow.holds Try.pinned (OpenSpec.ofChange pairOrderSpec)

/-- ITS FALSE NEIGHBOUR: 'it returns false'. Refute it at one input. -/
def pairOrderWrong : ChangeSpec := { name := "pairOrder", fn := fun _ => fun
  | [d1, d2, d3, d4] => { results := [.lit (.bool false)], args := [d1, d2, d3, d4] }
  | _ => none }
def PairOrderWrongFalsely : Prop := pairOrderRow.holds Try.pinned (OpenSpec.ofChange pairOrderWrong)

/-- 'rhytonlaw02.PairBack': WHATEVER THE INPUT: true; the input reads as it did. -/
def pairBackSpec : ChangeSpec := { name := "pairBack", fn := fun _ => fun
  | [d1, d2] => { results := [.lit (.bool true)], args := [d1, d2] }
  | _ => none }
def pairBackRow : OpenClaim := { program := "ytjigjjkbgcnjdaa", sum := "f90faa08f66fd1e9e75e614fa9668c9df016cf071d1f337b33f9c80de1be1923", func := "rhyton/rhytonlaw02.PairBack", spec := "pairBack", inPlace := ["math/bits.Sub64", "math/bits.Add64"], unfollowed := true, recurses := true, named := ["math/bits.divideError", "math/bits.overflowError"], apart := false }
def PairBackSaid : Prop := pairBackRow.holds Try.pinned (OpenSpec.ofChange pairBackSpec)

/-- ITS FALSE NEIGHBOUR: 'it returns false'. Refute it at one input. -/
def pairBackWrong : ChangeSpec := { name := "pairBack", fn := fun _ => fun
  | [d1, d2] => { results := [.lit (.bool false)], args := [d1, d2] }
  | _ => none }
def PairBackWrongFalsely : Prop := pairBackRow.holds Try.pinned (OpenSpec.ofChange pairBackWrong)

/-- 'rhytonlaw02.PairPlays': WHATEVER THE INPUT: true; the input reads as it did. -/
def pairPlaysSpec : ChangeSpec := { name := "pairPlays", fn := fun _ => fun
  | [d1, d2, d3] => { results := [.lit (.bool true)], args := [d1, d2, d3] }
  | _ => none }
def pairPlaysRow : OpenClaim := { program := "ytjigjjkbgcnjdaa", sum := "f90faa08f66fd1e9e75e614fa9668c9df016cf071d1f337b33f9c80de1be1923", func := "rhyton/rhytonlaw02.PairPlays", spec := "pairPlays", inPlace := ["math/bits.Sub64", "math/bits.Add64"], named := ["math/bits.divideError", "math/bits.overflowError"], apart := false }
def PairPlaysSaid : Prop := pairPlaysRow.holds Try.pinned (OpenSpec.ofChange pairPlaysSpec)

/-- ITS FALSE NEIGHBOUR: 'it returns false'. Refute it at one input. -/
def pairPlaysWrong : ChangeSpec := { name := "pairPlays", fn := fun _ => fun
  | [d1, d2, d3] => { results := [.lit (.bool false)], args := [d1, d2, d3] }
  | _ => none }
def PairPlaysWrongFalsely : Prop := pairPlaysRow.holds Try.pinned (OpenSpec.ofChange pairPlaysWrong)

/- THE SECOND FORM. 'bulk': how many values and letters a reading holds, each counted each time it is reached (what is shared counts as often as it is met; a slice's spare places count too). A statement '..UptoSaid' is the law's where the arguments, and the package variables that the reading takes, are together of bulk at most 1048576: NARROWER than '..Said'. Prove '..Said' where nothing that the law and all that it calls make is longer than what came in: it says more and counts as full. Else prove '..UptoSaid'. A law counts once. -/
mutual
def uptoBulk {H : Type} : DataW H → Nat
  | .lit (.string bytes) => bytes.length + 1
  | .lit _ => 1
  | .nil => 1
  | .ptr d => uptoBulk d + 1
  | .slice elems spare => uptoBulkAll elems + uptoBulkAll spare + 1
  | .agg parts => uptoBulkAll parts + 1
  | .iface _ d => uptoBulk d + 1
  | .map entries => uptoBulkEntries entries + 1
  | .held _ => 1
def uptoBulkAll {H : Type} : List (DataW H) → Nat
  | [] => 0
  | d :: r => uptoBulk d + uptoBulkAll r
def uptoBulkEntries {H : Type} : List (Lit × DataW H) → Nat
  | [] => 0
  | x :: r => uptoBulkEntry x + uptoBulkEntries r
def uptoBulkEntry {H : Type} : Lit × DataW H → Nat
  | (.string bytes, d) => bytes.length + uptoBulk d + 1
  | (_, d) => uptoBulk d + 1
 end
def uptoSmall : (H : Type) → List (DataW H) → Bool := fun _ ds => decide (uptoBulkAll ds ≤ 1048576)
def OpenSpec.upto (s : _root_.Go.ChangeSpec) : _root_.Go.OpenSpec := { _root_.Go.OpenSpec.ofChange s with cond := some uptoSmall }

/-- 'rhytonlaw02.PairDivides', WHERE WHAT IT READS IS OF BULK AT MOST 1048576: true; the input reads as it did. -/
def pairDividesUptoRow : OpenClaim := { program := "ytjigjjkbgcnjdaa", sum := "f90faa08f66fd1e9e75e614fa9668c9df016cf071d1f337b33f9c80de1be1923", func := "rhyton/rhytonlaw02.PairDivides", spec := "pairDivides", inPlace := ["math/bits.Sub64", "math/bits.Add64"], named := ["math/bits.divideError", "math/bits.overflowError"], apart := false, narrowed := true }
def PairDividesUptoSaid : Prop := pairDividesUptoRow.holds Try.pinned (OpenSpec.upto pairDividesSpec)

/-- 'rhytonlaw02.PairMakes', WHERE WHAT IT READS IS OF BULK AT MOST 1048576: true; the input reads as it did. -/
def pairMakesUptoRow : OpenClaim := { program := "ytjigjjkbgcnjdaa", sum := "f90faa08f66fd1e9e75e614fa9668c9df016cf071d1f337b33f9c80de1be1923", func := "rhyton/rhytonlaw02.PairMakes", spec := "pairMakes", inPlace := ["math/bits.Sub64", "math/bits.Add64"], named := ["math/bits.divideError", "math/bits.overflowError"], apart := false, narrowed := true }
def PairMakesUptoSaid : Prop := pairMakesUptoRow.holds Try.pinned (OpenSpec.upto pairMakesSpec)

/-- 'rhytonlaw02.PairSums', WHERE WHAT IT READS IS OF BULK AT MOST 1048576: true; the input reads as it did. -/
def pairSumsUptoRow : OpenClaim := { program := "ytjigjjkbgcnjdaa", sum := "f90faa08f66fd1e9e75e614fa9668c9df016cf071d1f337b33f9c80de1be1923", func := "rhyton/rhytonlaw02.PairSums", spec := "pairSums", inPlace := ["math/bits.Sub64", "math/bits.Add64"], named := ["math/bits.divideError", "math/bits.overflowError"], apart := false, narrowed := true }
def PairSumsUptoSaid : Prop := pairSumsUptoRow.holds Try.pinned (OpenSpec.upto pairSumsSpec)

/-- 'rhytonlaw02.PairCells', WHERE WHAT IT READS IS OF BULK AT MOST 1048576: true; the input reads as it did. -/
def pairCellsUptoRow : OpenClaim := { program := "ytjigjjkbgcnjdaa", sum := "f90faa08f66fd1e9e75e614fa9668c9df016cf071d1f337b33f9c80de1be1923", func := "rhyton/rhytonlaw02.PairCells", spec := "pairCells", inPlace := ["math/bits.Sub64", "math/bits.Add64"], named := ["math/bits.divideError", "math/bits.overflowError"], apart := false, narrowed := true }
def PairCellsUptoSaid : Prop := pairCellsUptoRow.holds Try.pinned (OpenSpec.upto pairCellsSpec)

/-- 'rhytonlaw02.PairOrder', WHERE WHAT IT READS IS OF BULK AT MOST 1048576: true; the input reads as it did. -/
def pairOrderUptoRow : OpenClaim := { program := "ytjigjjkbgcnjdaa", sum := "f90faa08f66fd1e9e75e614fa9668c9df016cf071d1f337b33f9c80de1be1923", func := "rhyton/rhytonlaw02.PairOrder", spec := "pairOrder", inPlace := ["math/bits.Sub64", "math/bits.Add64"], named := ["math/bits.divideError", "math/bits.overflowError"], apart := false, narrowed := true }
def PairOrderUptoSaid : Prop := pairOrderUptoRow.holds Try.pinned (OpenSpec.upto pairOrderSpec)

/-- 'rhytonlaw02.PairBack', WHERE WHAT IT READS IS OF BULK AT MOST 1048576: true; the input reads as it did. -/
def pairBackUptoRow : OpenClaim := { program := "ytjigjjkbgcnjdaa", sum := "f90faa08f66fd1e9e75e614fa9668c9df016cf071d1f337b33f9c80de1be1923", func := "rhyton/rhytonlaw02.PairBack", spec := "pairBack", inPlace := ["math/bits.Sub64", "math/bits.Add64"], unfollowed := true, recurses := true, named := ["math/bits.divideError", "math/bits.overflowError"], apart := false, narrowed := true }
def PairBackUptoSaid : Prop := pairBackUptoRow.holds Try.pinned (OpenSpec.upto pairBackSpec)

/-- 'rhytonlaw02.PairPlays', WHERE WHAT IT READS IS OF BULK AT MOST 1048576: true; the input reads as it did. -/
def pairPlaysUptoRow : OpenClaim := { program := "ytjigjjkbgcnjdaa", sum := "f90faa08f66fd1e9e75e614fa9668c9df016cf071d1f337b33f9c80de1be1923", func := "rhyton/rhytonlaw02.PairPlays", spec := "pairPlays", inPlace := ["math/bits.Sub64", "math/bits.Add64"], named := ["math/bits.divideError", "math/bits.overflowError"], apart := false, narrowed := true }
def PairPlaysUptoSaid : Prop := pairPlaysUptoRow.holds Try.pinned (OpenSpec.upto pairPlaysSpec)

end Rows
end Go.Proofs.Ytjigjjkbgcnjdaa
