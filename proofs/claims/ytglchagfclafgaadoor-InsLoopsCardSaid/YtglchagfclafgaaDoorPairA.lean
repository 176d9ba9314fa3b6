/- The functions of the pair layer that only add and shift: their contracts. -/
import Derived.Test.YtglchagfclafgaaDoorBits
import Derived.Laws.Externs
import Derived.Shelf.Spec.BitsCarry
import Derived.KernelRfl
namespace Go.Proofs.YtglchagfclafgaaDoor
open Go Go.RowKit
set_option linter.unusedSimpArgs false
set_option linter.unusedVariables false

/-- What was there stays as it was, whoever owns it. -/
def Calm (w w' : World) : Prop := ∀ o, Step [] w o w' o

theorem Calm.refl (w : World) : Calm w w := fun o => Step.refl _ _ _
theorem Calm.trans {w w' w'' : World} (h : Calm w w') (k : Calm w' w'') : Calm w w'' := fun o => (h o).trans (k o)
theorem Calm.alloc {w w' : World} (h : Calm w w') (ob : Obj) : Calm w (w'.alloc ob) := fun o => (h o).alloc ob
theorem Calm.drew {w w' : World} (h : Calm w w') : Calm w w'.drew := fun o => (h o).drew
theorem Calm.drewN {w w' : World} (h : Calm w w') (n : Nat) : Calm w (w'.drewN n) := fun o => (h o).drewN n
theorem Calm.setCell {w w' : World} (h : Calm w w') {a : Addr} (ha : w.heap.size ≤ a.block) (v : Value) : Calm w (w'.setCell a v) := fun o => (h o).setCell (fun hb => absurd hb (by omega)) v
theorem Calm.size {w w' : World} (h : Calm w w') : w.heap.size ≤ w'.heap.size := (h fun _ => 0).size
theorem Calm.cell {w w' : World} (h : Calm w w') {a : Addr} (ha : a.block < w.heap.size) : w'.cell? a = w.cell? a := (h fun _ => 0).cell ha (by simp)
theorem Calm.frozen {w w' : World} (h : Calm w w') {a : Addr} (ha : a.block < w.heap.size) : w'.frozen? a = w.frozen? a := World.frozen?_of_block (w := w) ((h fun _ => 0).blk _ ha (by simp))
theorem Calm.below {w w' : World} (h : Calm w w') : Below w.heap.size w w' := ((Base.start w).step (h _) (by simp)).below

/-- The borrow, under a name. -/
def bor (x y : Int) : Int := if x < y then 1 else 0
theorem bor_01 (x y : Int) : 0 ≤ bor x y ∧ bor x y ≤ 1 := by unfold bor; split <;> decide

end Go.Proofs.YtglchagfclafgaaDoor
