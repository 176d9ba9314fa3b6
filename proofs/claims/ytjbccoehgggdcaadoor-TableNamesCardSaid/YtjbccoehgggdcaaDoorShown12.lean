/- Contract: the document's example, at the head of each statement of the table's layer. -/
import Derived.Test.YtjbccoehgggdcaaDoorFindR
namespace Go.Proofs.YtjbccoehgggdcaaDoor
open Go Go.RowKit Go.Shelf
set_option linter.unusedSimpArgs false
set_option linter.unusedVariables false

theorem findV_dup : findV (low ⟨#[68, 85, 80]⟩) = .tuple #[.agg #[.string ⟨#[100, 117, 112]⟩, .int .i64 1, .int .i64 28, .bool false, .bool false], .bool true] := by kernel_rfl

set_option maxRecDepth 100000 in
set_option maxHeartbeats 4000000 in
theorem shown_ok {w : World} {o : Owner} (hm : ML w o) : Calls Tryd.prog 7 #[] w fun e w' => e = .returned (.bool true) ∧ ∃ o', Step [] w o w' o' := by
  have hf := find_ok ⟨#[68, 85, 80]⟩ (by decide) hm
  rw [findV_dup] at hf
  go_enter Tryd.func7, Tryd.ntmps7
  go_wp2_with fail
  refine hf.mono ?_
  rintro e w1 ⟨rfl, o1, s1⟩
  go_wp2_with fail
  go_ret
  exact ⟨rfl, o1, s1.alloc _⟩
end Go.Proofs.YtjbccoehgggdcaaDoor
