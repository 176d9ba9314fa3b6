/- Letters and digits: both sides. -/
import Derived.Test.YtglchagfclafgaaDoorPairE
import Derived.Lib.Bytealg
namespace Go.Proofs.YtglchagfclafgaaDoor
open Go Go.RowKit
set_option linter.unusedSimpArgs false
set_option linter.unusedVariables false

/-- The letter of a digit. -/
def chr (n : Int) : Int := if n < 0 ∨ 36 ≤ n then 0 else if n < 10 then 48 + n else 55 + n
/-- A letter, great. -/
def up (c : Int) : Int := if 97 ≤ c ∧ c ≤ 122 then c - 32 else c
/-- The digit of a letter; -1: it is none. -/
def dig (c : Int) : Int := if 48 ≤ up c ∧ up c ≤ 57 then up c - 48 else if 65 ≤ up c ∧ up c ≤ 90 then up c - 55 else -1
def valB (c base : Int) : Bool := decide (0 ≤ dig c ∧ dig c < base)
def valV (c base : Int) : Int := if valB c base then dig c else 0
def rightB (base : Int) : Bool := decide (2 ≤ base ∧ base ≤ 36)

abbrev LET : ByteArray := ⟨#[48, 49, 50, 51, 52, 53, 54, 55, 56, 57, 65, 66, 67, 68, 69, 70, 71, 72, 73, 74, 75, 76, 77, 78, 79, 80, 81, 82, 83, 84, 85, 86, 87, 88, 89, 90]⟩

theorem let_nat (n : Nat) (h : n < LET.size) : ((LET[n]'h).toNat : Int) = chr (n : Int) := by
  have hk : ∀ k : Nat, k < 36 → ((LET.data.toList.getD k 0).toNat : Int) = chr (k : Int) := by decide
  have hn : n < 36 := h
  rw [← hk n hn, List.getD_eq_getElem?_getD, List.getElem?_eq_getElem (show n < LET.data.toList.length from h)]
  rfl

theorem let_at (n : Int) (h0 : 0 ≤ n) (h : n.toNat < LET.size) : (((LET[n.toNat]'h).toNat : Nat) : Int) = chr n := by
  rw [let_nat _ h, Int.toNat_of_nonneg h0]

theorem rright_ok (b : Int) (w : World) : Calls Tryd.prog 34 #[.int .i64 b] w fun e w' => e = .returned (.bool (rightB b)) ∧ w' = w := by
  by_cases h0 : 2 ≤ b
  · by_cases h1 : b ≤ 36
    · rw [show rightB b = true from decide_eq_true ⟨h0, h1⟩]
      go_enter Tryd.func34, Tryd.ntmps34
      go_wp2
      go_ret
      exact ⟨rfl, rfl⟩
    · rw [show rightB b = false from decide_eq_false fun h => h1 h.2]
      go_enter Tryd.func34, Tryd.ntmps34
      go_wp2
      go_ret
      exact ⟨rfl, rfl⟩
  · rw [show rightB b = false from decide_eq_false fun h => h0 h.1]
    go_enter Tryd.func34, Tryd.ntmps34
    go_wp2
    go_ret
    exact ⟨rfl, rfl⟩
end Go.Proofs.YtglchagfclafgaaDoor
