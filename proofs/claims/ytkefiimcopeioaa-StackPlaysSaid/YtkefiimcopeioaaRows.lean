/-
  No cell of these rows narrows 'for every input' (looked for: loops, veiled, ifaces, maps, wideKeys, modest, calm, conditions, laid).
  DERIVED. THE GIVEN ROWS OF THIS SEAT. 7 by the template 'for every input the law returns true; each argument reads behind the call as it read before'; 0 by the template 'total and deterministic' (their statements: YtkefiimcopeioaaTotals.lean).
  GIVEN WITH THE SEED: the statements are not yours to turn. If you find one false, say at which input.
  Laid BY PROGRAM, IN A SANDBOX (cutbox-rows.mjs): the forced cells as the released guide's own fill.sh prints them over the translation e4ec965d08c6b864… (all of the seat's roots in one cut). By AI agents, Wed Nov 11 2026. No macro, syntax, notation, axiom, sorry.
-/
import Derived.Test.YtkefiimcopeioaaChecked
import GoSem.Claim
import GoSem.ClaimJoined
import GoSem.ClaimMapViews
import Derived.JoinedTies
import Derived.KernelRfl
namespace Go.Proofs.Ytkefiimcopeioaa
/- THE CELL 'sum', in the pinned program and in every row, IS THE sha256 OF THE DUMP (.gsa) THAT YtkefiimcopeioaaProg.lean LOADS. Nothing in Lean hashes anything: it is a label: what it is worth is what the hold of that sum in a sandbox is worth. -/
noncomputable def Try.pinned : Pinned := { name := "ytkefiimcopeioaa", sum := "e4ec965d08c6b864b61d3ee9c67b6a06b24772c2b7c6e79f3af53330338a6272", checked := Try.checked }
namespace Rows
def none {H : Type} : Left H := { results := [], args := [] }

/-- 'rhytonlaw06.StackBelow': WHATEVER THE INPUT: true; the input reads as it did. -/
def stackBelowSpec : ChangeSpec := { name := "stackBelow", fn := fun _ => fun
  | [d1, d2, d3] => { results := [.lit (.bool true)], args := [d1, d2, d3] }
  | _ => none }
def stackBelowRow : OpenClaim := { program := "ytkefiimcopeioaa", sum := "e4ec965d08c6b864b61d3ee9c67b6a06b24772c2b7c6e79f3af53330338a6272", func := "rhyton/rhytonlaw06.StackBelow", spec := "stackBelow", apart := false }
def StackBelowSaid : Prop := stackBelowRow.holds Try.pinned (OpenSpec.ofChange stackBelowSpec)

/-- ITS FALSE NEIGHBOUR: 'it returns false'. Refute it at one input. -/
def stackBelowWrong : ChangeSpec := { name := "stackBelow", fn := fun _ => fun
  | [d1, d2, d3] => { results := [.lit (.bool false)], args := [d1, d2, d3] }
  | _ => none }
def StackBelowWrongFalsely : Prop := stackBelowRow.holds Try.pinned (OpenSpec.ofChange stackBelowWrong)

/-- 'rhytonlaw06.StackTurns': WHATEVER THE INPUT: true; the input reads as it did. -/
def stackTurnsSpec : ChangeSpec := { name := "stackTurns", fn := fun _ => fun
  | [d] => { results := [.lit (.bool true)], args := [d] }
  | _ => none }
def stackTurnsRow : OpenClaim := { program := "ytkefiimcopeioaa", sum := "e4ec965d08c6b864b61d3ee9c67b6a06b24772c2b7c6e79f3af53330338a6272", func := "rhyton/rhytonlaw06.StackTurns", spec := "stackTurns", unfollowed := true, recurses := true, apart := false }
def StackTurnsSaid : Prop := stackTurnsRow.holds Try.pinned (OpenSpec.ofChange stackTurnsSpec)

/-- ITS FALSE NEIGHBOUR: 'it returns false'. Refute it at one input. -/
def stackTurnsWrong : ChangeSpec := { name := "stackTurns", fn := fun _ => fun
  | [d] => { results := [.lit (.bool false)], args := [d] }
  | _ => none }
def StackTurnsWrongFalsely : Prop := stackTurnsRow.holds Try.pinned (OpenSpec.ofChange stackTurnsWrong)

/-- 'rhytonlaw06.StackPicks': WHATEVER THE INPUT: true; the input reads as it did. -/
def stackPicksSpec : ChangeSpec := { name := "stackPicks", fn := fun _ => fun
  | [d1, d2] => { results := [.lit (.bool true)], args := [d1, d2] }
  | _ => none }
def stackPicksRow : OpenClaim := { program := "ytkefiimcopeioaa", sum := "e4ec965d08c6b864b61d3ee9c67b6a06b24772c2b7c6e79f3af53330338a6272", func := "rhyton/rhytonlaw06.StackPicks", spec := "stackPicks", apart := false }
def StackPicksSaid : Prop := stackPicksRow.holds Try.pinned (OpenSpec.ofChange stackPicksSpec)

/-- ITS FALSE NEIGHBOUR: 'it returns false'. Refute it at one input. -/
def stackPicksWrong : ChangeSpec := { name := "stackPicks", fn := fun _ => fun
  | [d1, d2] => { results := [.lit (.bool false)], args := [d1, d2] }
  | _ => none }
def StackPicksWrongFalsely : Prop := stackPicksRow.holds Try.pinned (OpenSpec.ofChange stackPicksWrong)

/-- 'rhytonlaw06.StackPairs': WHATEVER THE INPUT: true; the input reads as it did. -/
def stackPairsSpec : ChangeSpec := { name := "stackPairs", fn := fun _ => fun
  | [d] => { results := [.lit (.bool true)], args := [d] }
  | _ => none }
def stackPairsRow : OpenClaim := { program := "ytkefiimcopeioaa", sum := "e4ec965d08c6b864b61d3ee9c67b6a06b24772c2b7c6e79f3af53330338a6272", func := "rhyton/rhytonlaw06.StackPairs", spec := "stackPairs", unfollowed := true, recurses := true, apart := false }
def StackPairsSaid : Prop := stackPairsRow.holds Try.pinned (OpenSpec.ofChange stackPairsSpec)

/-- ITS FALSE NEIGHBOUR: 'it returns false'. Refute it at one input. -/
def stackPairsWrong : ChangeSpec := { name := "stackPairs", fn := fun _ => fun
  | [d] => { results := [.lit (.bool false)], args := [d] }
  | _ => none }
def StackPairsWrongFalsely : Prop := stackPairsRow.holds Try.pinned (OpenSpec.ofChange stackPairsWrong)

/-- 'rhytonlaw06.StackRows': WHATEVER THE INPUT: true; the input reads as it did. -/
def stackRowsSpec : ChangeSpec := { name := "stackRows", fn := fun _ => fun
  | [d1, d2] => { results := [.lit (.bool true)], args := [d1, d2] }
  | _ => none }
def stackRowsRow : OpenClaim := { program := "ytkefiimcopeioaa", sum := "e4ec965d08c6b864b61d3ee9c67b6a06b24772c2b7c6e79f3af53330338a6272", func := "rhyton/rhytonlaw06.StackRows", spec := "stackRows", apart := false }
def StackRowsSaid : Prop := stackRowsRow.holds Try.pinned (OpenSpec.ofChange stackRowsSpec)

/-- ITS FALSE NEIGHBOUR: 'it returns false'. Refute it at one input. -/
def stackRowsWrong : ChangeSpec := { name := "stackRows", fn := fun _ => fun
  | [d1, d2] => { results := [.lit (.bool false)], args := [d1, d2] }
  | _ => none }
def StackRowsWrongFalsely : Prop := stackRowsRow.holds Try.pinned (OpenSpec.ofChange stackRowsWrong)

/-- 'rhytonlaw06.StackPlays': WHATEVER THE INPUT: true; the input reads as it did. -/
def stackPlaysSpec : ChangeSpec := { name := "stackPlays", fn := fun _ => fun
  | [d] => { results := [.lit (.bool true)], args := [d] }
  | _ => none }
def stackPlaysRow : OpenClaim := { program := "ytkefiimcopeioaa", sum := "e4ec965d08c6b864b61d3ee9c67b6a06b24772c2b7c6e79f3af53330338a6272", func := "rhyton/rhytonlaw06.StackPlays", spec := "stackPlays", recurses := true, apart := false }
def StackPlaysSaid : Prop := stackPlaysRow.holds Try.pinned (OpenSpec.ofChange stackPlaysSpec)

/-- ITS FALSE NEIGHBOUR: 'it returns false'. Refute it at one input. -/
def stackPlaysWrong : ChangeSpec := { name := "stackPlays", fn := fun _ => fun
  | [d] => { results := [.lit (.bool false)], args := [d] }
  | _ => none }
def StackPlaysWrongFalsely : Prop := stackPlaysRow.holds Try.pinned (OpenSpec.ofChange stackPlaysWrong)

/-- 'rhytonlaw06.StackEnds': WHATEVER THE INPUT: true; the input reads as it did. -/
def stackEndsSpec : ChangeSpec := { name := "stackEnds", fn := fun _ => fun
  | [d1, d2] => { results := [.lit (.bool true)], args := [d1, d2] }
  | _ => none }
def stackEndsRow : OpenClaim := { program := "ytkefiimcopeioaa", sum := "e4ec965d08c6b864b61d3ee9c67b6a06b24772c2b7c6e79f3af53330338a6272", func := "rhyton/rhytonlaw06.StackEnds", spec := "stackEnds", apart := false }
def StackEndsSaid : Prop := stackEndsRow.holds Try.pinned (OpenSpec.ofChange stackEndsSpec)

/-- ITS FALSE NEIGHBOUR: 'it returns false'. Refute it at one input. -/
def stackEndsWrong : ChangeSpec := { name := "stackEnds", fn := fun _ => fun
  | [d1, d2] => { results := [.lit (.bool false)], args := [d1, d2] }
  | _ => none }
def StackEndsWrongFalsely : Prop := stackEndsRow.holds Try.pinned (OpenSpec.ofChange stackEndsWrong)

/- THE SECOND FORM. 'bulk': how many values and letters a reading holds, each counted each time it is reached (what is shared counts as often as it is met; a slice's spare places count too). A statement '..UptoSaid' is the law's where the arguments, and the package variables that the reading takes, are together of bulk at most 1048576: NARROWER than '..Said'. Prove '..Said' where nothing that the law and all that it calls make is longer than what came in: it says more and counts as full. Else prove '..UptoSaid'. A law counts once. -/
mutual
def uptoBulk {H : Type} : DataW H → Nat
  | .lit (.string bytes) => bytes.length + 1
  | .lit _ => 1
  | .nil => 1
  | .ptr d => uptoBulk d + 1
  | .slice elems spare => uptoBulkAll elems + uptoBulkAll spare + 1
  | .agg parts => uptoBulkAll parts + 1
  | .iface _ d => uptoBulk d + 1
  | .map entries => uptoBulkEntries entries + 1
  | .held _ => 1
def uptoBulkAll {H : Type} : List (DataW H) → Nat
  | [] => 0
  | d :: r => uptoBulk d + uptoBulkAll r
def uptoBulkEntries {H : Type} : List (Lit × DataW H) → Nat
  | [] => 0
  | x :: r => uptoBulkEntry x + uptoBulkEntries r
def uptoBulkEntry {H : Type} : Lit × DataW H → Nat
  | (.string bytes, d) => bytes.length + uptoBulk d + 1
  | (_, d) => uptoBulk d + 1
 end
def uptoSmall : (H : Type) → List (DataW H) → Bool := fun _ ds => decide (uptoBulkAll ds ≤ 1048576)
def OpenSpec.upto (s : _root_.Go.ChangeSpec) : _root_.Go.OpenSpec := { _root_.Go.OpenSpec.ofChange s with cond := some uptoSmall }

/-- 'rhytonlaw06.StackBelow', WHERE WHAT IT READS IS OF BULK AT MOST 1048576: true; the input reads as it did. -/
def stackBelowUptoRow : OpenClaim := { program := "ytkefiimcopeioaa", sum := "e4ec965d08c6b864b61d3ee9c67b6a06b24772c2b7c6e79f3af53330338a6272", func := "rhyton/rhytonlaw06.StackBelow", spec := "stackBelow", apart := false, narrowed := true }
def StackBelowUptoSaid : Prop := stackBelowUptoRow.holds Try.pinned (OpenSpec.upto stackBelowSpec)

/-- 'rhytonlaw06.StackTurns', WHERE WHAT IT READS IS OF BULK AT MOST 1048576: true; the input reads as it did. -/
def stackTurnsUptoRow : OpenClaim := { program := "ytkefiimcopeioaa", sum := "e4ec965d08c6b864b61d3ee9c67b6a06b24772c2b7c6e79f3af53330338a6272", func := "rhyton/rhytonlaw06.StackTurns", spec := "stackTurns", unfollowed := true, recurses := true, apart := false, narrowed := true }
def StackTurnsUptoSaid : Prop := stackTurnsUptoRow.holds Try.pinned (OpenSpec.upto stackTurnsSpec)

/-- 'rhytonlaw06.StackPicks', WHERE WHAT IT READS IS OF BULK AT MOST 1048576: true; the input reads as it did. -/
def stackPicksUptoRow : OpenClaim := { program := "ytkefiimcopeioaa", sum := "e4ec965d08c6b864b61d3ee9c67b6a06b24772c2b7c6e79f3af53330338a6272", func := "rhyton/rhytonlaw06.StackPicks", spec := "stackPicks", apart := false, narrowed := true }
def StackPicksUptoSaid : Prop := stackPicksUptoRow.holds Try.pinned (OpenSpec.upto stackPicksSpec)

/-- 'rhytonlaw06.StackPairs', WHERE WHAT IT READS IS OF BULK AT MOST 1048576: true; the input reads as it did. -/
def stackPairsUptoRow : OpenClaim := { program := "ytkefiimcopeioaa", sum := "e4ec965d08c6b864b61d3ee9c67b6a06b24772c2b7c6e79f3af53330338a6272", func := "rhyton/rhytonlaw06.StackPairs", spec := "stackPairs", unfollowed := true, recurses := true, apart := false, narrowed := true }
def StackPairsUptoSaid : Prop := stackPairsUptoRow.holds Try.pinned (OpenSpec.upto stackPairsSpec)

/-- 'rhytonlaw06.StackRows', WHERE WHAT IT READS IS OF BULK AT MOST 1048576: true; the input reads as it did. -/
def stackRowsUptoRow : OpenClaim := { program := "ytkefiimcopeioaa", sum := "e4ec965d08c6b864b61d3ee9c67b6a06b24772c2b7c6e79f3af53330338a6272", func := "rhyton/rhytonlaw06.StackRows", spec := "stackRows", apart := false, narrowed := true }
def StackRowsUptoSaid : Prop := stackRowsUptoRow.holds Try.pinned (OpenSpec.upto stackRowsSpec)

/-- 'rhytonlaw06.StackPlays', WHERE WHAT IT READS IS OF BULK AT MOST 1048576: true; the input reads as it did. -/
def stackPlaysUptoRow : OpenClaim := { program := "ytkefiimcopeioaa", sum := "e4ec965d08c6b864b61d3ee9c67b6a06b24772c2b7c6e79f3af53330338a6272", func := "rhyton/rhytonlaw06.StackPlays", spec := "stackPlays", recurses := true, apart := false, narrowed := true }
def StackPlaysUptoSaid : Prop := stackPlaysUptoRow.holds Try.pinned (OpenSpec.upto stackPlaysSpec)

/-- 'rhytonlaw06.StackEnds', WHERE WHAT IT READS IS OF BULK AT MOST 1048576: true; the input reads as it did. -/
def stackEndsUptoRow : OpenClaim := { program := "ytkefiimcopeioaa", sum := "e4ec965d08c6b864b61d3ee9c67b6a06b24772c2b7c6e79f3af53330338a6272", func := "rhyton/rhytonlaw06.StackEnds", spec := "stackEnds", apart := false, narrowed := true }
def StackEndsUptoSaid : Prop := stackEndsUptoRow.holds Try.pinned (OpenSpec.upto stackEndsSpec)

end Rows
end Go.Proofs.Ytkefiimcopeioaa
