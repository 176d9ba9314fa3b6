/- The document's stack: how many cells are taken, and which are put (printed by gen_rshape.py). -/
import Derived.Test.YtkefiimcopeioaaRstC
namespace Go.Proofs.Ytkefiimcopeioaa
open Go Go.RowKit
set_option linter.unusedSimpArgs false
set_option linter.unusedVariables false

/-- A new block of n elements, owned. -/
theorem Row.made (w : World) (o : Owner) (j E size : Nat) (cs : Array Value) (n : Nat) (hn : n ≤ maxLen) (h : cs.size = n * size) :
    Row (w.alloc (.cells cs E)) (o.set w.heap.size j) j E size (.slice (some ⟨w.heap.size, 0, none⟩) n n) n cs.toList :=
  ⟨by simpa using h, .inr ⟨w.heap.size, n, cs, rfl, Owner.set_self _ _ _, heap_alloc_new _ _, Nat.le_refl _, hn, h, by rw [← h]; exact List.take_length⟩⟩

/-- The table of the document. -/
def rsh (op : Int) : Int × List Int :=
  if op = 28 then (1, [0, 0]) else
  if op = 29 then (1, []) else
  if op = 30 then (2, [1, 0]) else
  if op = 31 then (2, [0, 1, 0]) else
  if op = 32 then (3, [1, 2, 0]) else
  if op = 33 then (2, [1]) else
  if op = 34 then (2, [1, 0, 1]) else
  if op = 36 then (2, [0, 1, 0, 1]) else
  if op = 37 then (2, []) else
  if op = 38 then (4, [2, 3, 0, 1]) else
  if op = 39 then (4, [0, 1, 2, 3, 0, 1]) else
  (-1, [])

set_option maxHeartbeats 4000000 in
theorem rshape_ok (w : World) (o : Owner) (j : Nat) (op : Int) : Calls Try.prog 36 #[.int .i64 op] w fun e w' => ∃ v o', e = .returned (.tuple #[.int .i64 (rsh op).1, v]) ∧ Row w' o' j 3 1 v (rsh op).2.length (ints (rsh op).2) ∧ Step [] w o w' o' := by
  by_cases h28 : op = 28
  · subst h28
    rw [show rsh 28 = (1, [0, 0]) from rfl]
    go_enter Try.func36, Try.ntmps36
    go_wp2_with fail
    go_ret2
    first
      | exact ⟨_, _, rfl, Row.made w o j 3 1 _ 2 (by decide) rfl, ((Step.refl _ _ _).alloc _).give (Nat.le_refl _) _⟩
      | exact ⟨_, rfl, _, Row.made w o j 3 1 _ 2 (by decide) rfl, ((Step.refl _ _ _).alloc _).give (Nat.le_refl _) _⟩
  by_cases h29 : op = 29
  · subst h29
    rw [show rsh 29 = (1, []) from rfl]
    go_enter Try.func36, Try.ntmps36
    go_wp2_with fail
    go_ret2
    first
      | exact ⟨_, o, rfl, Row.nil _ _ _ _ _ none, Step.refl _ _ _⟩
      | exact ⟨_, rfl, o, Row.nil _ _ _ _ _ none, Step.refl _ _ _⟩
  by_cases h30 : op = 30
  · subst h30
    rw [show rsh 30 = (2, [1, 0]) from rfl]
    go_enter Try.func36, Try.ntmps36
    go_wp2_with fail
    go_ret2
    first
      | exact ⟨_, _, rfl, Row.made w o j 3 1 _ 2 (by decide) rfl, ((Step.refl _ _ _).alloc _).give (Nat.le_refl _) _⟩
      | exact ⟨_, rfl, _, Row.made w o j 3 1 _ 2 (by decide) rfl, ((Step.refl _ _ _).alloc _).give (Nat.le_refl _) _⟩
  by_cases h31 : op = 31
  · subst h31
    rw [show rsh 31 = (2, [0, 1, 0]) from rfl]
    go_enter Try.func36, Try.ntmps36
    go_wp2_with fail
    go_ret2
    first
      | exact ⟨_, _, rfl, Row.made w o j 3 1 _ 3 (by decide) rfl, ((Step.refl _ _ _).alloc _).give (Nat.le_refl _) _⟩
      | exact ⟨_, rfl, _, Row.made w o j 3 1 _ 3 (by decide) rfl, ((Step.refl _ _ _).alloc _).give (Nat.le_refl _) _⟩
  by_cases h32 : op = 32
  · subst h32
    rw [show rsh 32 = (3, [1, 2, 0]) from rfl]
    go_enter Try.func36, Try.ntmps36
    go_wp2_with fail
    go_ret2
    first
      | exact ⟨_, _, rfl, Row.made w o j 3 1 _ 3 (by decide) rfl, ((Step.refl _ _ _).alloc _).give (Nat.le_refl _) _⟩
      | exact ⟨_, rfl, _, Row.made w o j 3 1 _ 3 (by decide) rfl, ((Step.refl _ _ _).alloc _).give (Nat.le_refl _) _⟩
  by_cases h33 : op = 33
  · subst h33
    rw [show rsh 33 = (2, [1]) from rfl]
    go_enter Try.func36, Try.ntmps36
    go_wp2_with fail
    go_ret2
    first
      | exact ⟨_, _, rfl, Row.made w o j 3 1 _ 1 (by decide) rfl, ((Step.refl _ _ _).alloc _).give (Nat.le_refl _) _⟩
      | exact ⟨_, rfl, _, Row.made w o j 3 1 _ 1 (by decide) rfl, ((Step.refl _ _ _).alloc _).give (Nat.le_refl _) _⟩
  by_cases h34 : op = 34
  · subst h34
    rw [show rsh 34 = (2, [1, 0, 1]) from rfl]
    go_enter Try.func36, Try.ntmps36
    go_wp2_with fail
    go_ret2
    first
      | exact ⟨_, _, rfl, Row.made w o j 3 1 _ 3 (by decide) rfl, ((Step.refl _ _ _).alloc _).give (Nat.le_refl _) _⟩
      | exact ⟨_, rfl, _, Row.made w o j 3 1 _ 3 (by decide) rfl, ((Step.refl _ _ _).alloc _).give (Nat.le_refl _) _⟩
  by_cases h36 : op = 36
  · subst h36
    rw [show rsh 36 = (2, [0, 1, 0, 1]) from rfl]
    go_enter Try.func36, Try.ntmps36
    go_wp2_with fail
    go_ret2
    first
      | exact ⟨_, _, rfl, Row.made w o j 3 1 _ 4 (by decide) rfl, ((Step.refl _ _ _).alloc _).give (Nat.le_refl _) _⟩
      | exact ⟨_, rfl, _, Row.made w o j 3 1 _ 4 (by decide) rfl, ((Step.refl _ _ _).alloc _).give (Nat.le_refl _) _⟩
  by_cases h37 : op = 37
  · subst h37
    rw [show rsh 37 = (2, []) from rfl]
    go_enter Try.func36, Try.ntmps36
    go_wp2_with fail
    go_ret2
    first
      | exact ⟨_, o, rfl, Row.nil _ _ _ _ _ none, Step.refl _ _ _⟩
      | exact ⟨_, rfl, o, Row.nil _ _ _ _ _ none, Step.refl _ _ _⟩
  by_cases h38 : op = 38
  · subst h38
    rw [show rsh 38 = (4, [2, 3, 0, 1]) from rfl]
    go_enter Try.func36, Try.ntmps36
    go_wp2_with fail
    go_ret2
    first
      | exact ⟨_, _, rfl, Row.made w o j 3 1 _ 4 (by decide) rfl, ((Step.refl _ _ _).alloc _).give (Nat.le_refl _) _⟩
      | exact ⟨_, rfl, _, Row.made w o j 3 1 _ 4 (by decide) rfl, ((Step.refl _ _ _).alloc _).give (Nat.le_refl _) _⟩
  by_cases h39 : op = 39
  · subst h39
    rw [show rsh 39 = (4, [0, 1, 2, 3, 0, 1]) from rfl]
    go_enter Try.func36, Try.ntmps36
    go_wp2_with fail
    go_ret2
    first
      | exact ⟨_, _, rfl, Row.made w o j 3 1 _ 6 (by decide) rfl, ((Step.refl _ _ _).alloc _).give (Nat.le_refl _) _⟩
      | exact ⟨_, rfl, _, Row.made w o j 3 1 _ 6 (by decide) rfl, ((Step.refl _ _ _).alloc _).give (Nat.le_refl _) _⟩
  rw [show rsh op = (-1, []) from by unfold rsh; simp only [h28, h29, h30, h31, h32, h33, h34, h36, h37, h38, h39, if_false]]
  have b28 : (op == 28) = false := by simp [h28]
  have b29 : (op == 29) = false := by simp [h29]
  have b30 : (op == 30) = false := by simp [h30]
  have b31 : (op == 31) = false := by simp [h31]
  have b32 : (op == 32) = false := by simp [h32]
  have b33 : (op == 33) = false := by simp [h33]
  have b34 : (op == 34) = false := by simp [h34]
  have b36 : (op == 36) = false := by simp [h36]
  have b37 : (op == 37) = false := by simp [h37]
  have b38 : (op == 38) = false := by simp [h38]
  have b39 : (op == 39) = false := by simp [h39]
  clear h28 h29 h30 h31 h32 h33 h34 h36 h37 h38 h39
  go_enter Try.func36, Try.ntmps36
  go_wp2_with fail
  go_ret2
  first
    | exact ⟨_, o, rfl, Row.nil _ _ _ _ _ none, Step.refl _ _ _⟩
    | exact ⟨_, rfl, o, Row.nil _ _ _ _ _ none, Step.refl _ _ _⟩
end Go.Proofs.Ytkefiimcopeioaa
