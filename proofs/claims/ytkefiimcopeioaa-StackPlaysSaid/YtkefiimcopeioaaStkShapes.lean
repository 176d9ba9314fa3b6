/- The stack of the program: shapes. -/
import Derived.Test.YtkefiimcopeioaaStkA
namespace Go.Proofs.Ytkefiimcopeioaa
open Go Go.RowKit
set_option linter.unusedSimpArgs false
set_option linter.unusedVariables false

/-- How many cells are taken, and which are put. -/
def shTab : List (Nat × List Nat) := [(1, [0, 0]), (1, []), (2, [1, 0]), (2, [0, 1, 0]), (3, [1, 2, 0]), (2, [1]), (2, [1, 0, 1]), (1, [0, 0]), (2, [0, 1, 0, 1]), (2, []), (4, [2, 3, 0, 1]), (4, [0, 1, 2, 3, 0, 1])]
def shT (j : Nat) : Nat := (shTab.getD j (0, [])).1
def shP (j : Nat) : List Nat := (shTab.getD j (0, [])).2
def shStr (l : List Nat) : ByteArray := ⟨(l.map fun k => UInt8.ofNat (97 + k)).toArray⟩

theorem shapes_none (op : Int) (w : World) (o : Owner) (h : op < 28 ∨ 40 ≤ op) :
    Calls Try.prog 26 #[.int .i64 op] w fun e w' => e = .returned (.tuple #[.agg #[.int .i64 0, .string ⟨#[]⟩], .bool false]) ∧ Step [] w o w' o := by
  go_enter Try.func26, Try.ntmps26
  go_wp2
  all_goals refine bodyPost_ret (v := .tuple #[.agg #[.int .i64 0, .string ⟨#[]⟩], .bool false]) (by simp [results, Try.results26, go_sem]) rfl ⟨rfl, ((Step.refl _ _ _).alloc _).alloc _⟩

set_option maxHeartbeats 4000000 in
theorem shapes_some (op : Int) (j : Nat) (w : World) (o : Owner) (h : op = 28 + j) (hj : j < 12) :
    Calls Try.prog 26 #[.int .i64 op] w fun e w' => e = .returned (.tuple #[.agg #[.int .i64 (shT j), .string (shStr (shP j))], .bool true]) ∧ Step [] w o w' o := by
  subst h
  have h12 : j = 0 ∨ j = 1 ∨ j = 2 ∨ j = 3 ∨ j = 4 ∨ j = 5 ∨ j = 6 ∨ j = 7 ∨ j = 8 ∨ j = 9 ∨ j = 10 ∨ j = 11 := by omega
  rcases h12 with rfl | rfl | rfl | rfl | rfl | rfl | rfl | rfl | rfl | rfl | rfl | rfl
  all_goals
    go_enter Try.func26, Try.ntmps26
    go_wp2
    refine bodyPost_ret (v := .tuple #[.agg #[.int .i64 _, .string _], .bool true]) (by simp [results, Try.results26, go_sem]; exact ⟨rfl, rfl⟩) rfl ⟨rfl, (((Step.refl _ _ _).alloc _).alloc _)⟩
end Go.Proofs.Ytkefiimcopeioaa
