/- What may be, kind by kind. -/
import Derived.Test.YtglchagfclafgaaDoorInsH
namespace Go.Proofs.YtglchagfclafgaaDoor
open Go Go.RowKit
set_option linter.unusedSimpArgs false
set_option linter.unusedVariables false

section
variable {n words lc lab q : Int} {a w : Int} {op : Int}
theorem insP2 : insP n words lc lab q ⟨2, a, w⟩ ↔ w = 0 ∧ 1 ≤ a ∧ a ≤ words := by
  simp [insP, kindA, lowA, highA]
  omega
theorem insP12 : insP n words lc lab q ⟨12, a, w⟩ ↔ w = 0 ∧ 1 ≤ a ∧ a ≤ 16 ∧ q ≤ 0 := by
  simp [insP, kindA, lowA, highA]
  omega
theorem insP13 (h : op = 13 ∨ op = 14) (hl : 0 ≤ lc ∧ lc ≤ 16) : insP n words lc lab q ⟨op, a, w⟩ ↔ w = 0 ∧ 0 ≤ a ∧ a < lc := by
  have e : wrap64 (lc - 1) = lc - 1 := by unfold wrap64; omega
  rcases h with rfl | rfl <;> simp [insP, kindA, lowA, highA, e] <;> omega
theorem insP15 : insP n words lc lab q ⟨15, a, w⟩ ↔ w = 0 ∧ a = 0 ∧ ¬ (q = n - 1 ∧ 0 < lab) := by
  simp [insP, kindA, lowA, highA]
  omega
theorem insPg (h : goesA op) : insP n words lc lab q ⟨op, a, w⟩ ↔ w = 0 ∧ 0 ≤ a ∧ a < n := by
  rcases h with rfl | rfl | rfl | rfl | rfl | rfl | rfl <;> simp [insP, kindA, lowA, highA] <;> omega
theorem insPo (h1 : 1 ≤ op) (h2 : op < 16) (h : ¬ goesA op) (n2 : op ≠ 2) (n12 : op ≠ 12) (n13 : op ≠ 13) (n14 : op ≠ 14) (n15 : op ≠ 15) : insP n words lc lab q ⟨op, a, w⟩ ↔ (op = 1 ∨ w = 0) ∧ a = 0 := by
  have e : kindA op = 0 := by unfold kindA; rw [if_neg h, if_neg n2, if_neg n12, if_neg (by omega)]
  unfold insP
  dsimp only
  rw [e]
  simp [lowA, highA]
  omega
end
end Go.Proofs.YtglchagfclafgaaDoor
