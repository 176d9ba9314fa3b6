/- Letters and digits: both sides. -/
import Derived.Test.YtfeeikhcdphcpaaDivU
import Derived.Lib.Bytealg
namespace Go.Proofs.Ytfeeikhcdphcpaa
open Go Go.RowKit
set_option linter.unusedSimpArgs false
set_option linter.unusedVariables false

/-- The letter of a digit. -/
def chr (n : Int) : Int := if n < 0 ∨ 36 ≤ n then 0 else if n < 10 then 48 + n else 55 + n
/-- A letter, great. -/
def up (c : Int) : Int := if 97 ≤ c ∧ c ≤ 122 then c - 32 else c
/-- The digit of a letter; -1: it is none. -/
def dig (c : Int) : Int := if 48 ≤ up c ∧ up c ≤ 57 then up c - 48 else if 65 ≤ up c ∧ up c ≤ 90 then up c - 55 else -1
def valB (c base : Int) : Bool := decide (0 ≤ dig c ∧ dig c < base)
def valV (c base : Int) : Int := if valB c base then dig c else 0
def rightB (base : Int) : Bool := decide (2 ≤ base ∧ base ≤ 36)

abbrev LET : ByteArray := ⟨#[48, 49, 50, 51, 52, 53, 54, 55, 56, 57, 65, 66, 67, 68, 69, 70, 71, 72, 73, 74, 75, 76, 77, 78, 79, 80, 81, 82, 83, 84, 85, 86, 87, 88, 89, 90]⟩

theorem let_nat (n : Nat) (h : n < LET.size) : ((LET[n]'h).toNat : Int) = chr (n : Int) := by
  have hk : ∀ k : Nat, k < 36 → ((LET.data.toList.getD k 0).toNat : Int) = chr (k : Int) := by decide
  have hn : n < 36 := h
  rw [← hk n hn, List.getD_eq_getElem?_getD, List.getElem?_eq_getElem (show n < LET.data.toList.length from h)]
  rfl

theorem let_at (n : Int) (h0 : 0 ≤ n) (h : n.toNat < LET.size) : (((LET[n.toNat]'h).toNat : Nat) : Int) = chr n := by
  rw [let_nat _ h, Int.toNat_of_nonneg h0]

theorem chr_ok (n : Int) (w : World) : Calls Try.prog 19 #[.int .i64 n] w fun e w' => e = .returned (.int .u8 (chr n)) ∧ w' = w := by
  by_cases h0 : n < 0
  · have e : chr n = 0 := if_pos (.inl h0)
    rw [e]
    clear e
    go_enter Try.func19, Try.ntmps19
    go_wp2
    go_ret
    exact ⟨rfl, rfl⟩
  · by_cases h1 : 36 ≤ n
    · have e : chr n = 0 := if_pos (.inr h1)
      rw [e]
      clear e
      go_enter Try.func19, Try.ntmps19
      go_wp2
      go_ret
      exact ⟨rfl, rfl⟩
    · have h2 : 0 ≤ n := by omega
      have h3 : n < 36 := by omega
      go_enter Try.func19, Try.ntmps19
      go_wp2
      go_ret
      exact ⟨congrArg (fun x => Ending.returned (.int .u8 x)) (let_at n h2 (show n.toNat < 36 by omega)), rfl⟩

theorem rchr_ok (n : Int) (w : World) : Calls Try.prog 20 #[.int .i64 n] w fun e w' => e = .returned (.int .u8 (chr n)) ∧ w' = w := by
  by_cases h0 : n < 0
  · have e : chr n = 0 := if_pos (.inl h0)
    rw [e]
    clear e
    go_enter Try.func20, Try.ntmps20
    go_wp2
    go_ret
    exact ⟨rfl, rfl⟩
  · by_cases h1 : 35 < n
    · have e : chr n = 0 := if_pos (.inr (by omega))
      rw [e]
      clear e
      go_enter Try.func20, Try.ntmps20
      go_wp2
      go_ret
      exact ⟨rfl, rfl⟩
    · have h2 : 0 ≤ n := by omega
      have h3 : n < 36 := by omega
      go_enter Try.func20, Try.ntmps20
      go_wp2
      go_ret
      exact ⟨congrArg (fun x => Ending.returned (.int .u8 x)) (let_at n h2 (show n.toNat < 36 by omega)), rfl⟩

theorem right_ok (b : Int) (w : World) : Calls Try.prog 28 #[.int .i64 b] w fun e w' => e = .returned (.bool (rightB b)) ∧ w' = w := by
  by_cases h0 : 2 ≤ b
  · by_cases h1 : b ≤ 36
    · rw [show rightB b = true from decide_eq_true ⟨h0, h1⟩]
      go_enter Try.func28, Try.ntmps28
      go_wp2
      go_ret
      exact ⟨rfl, rfl⟩
    · rw [show rightB b = false from decide_eq_false fun h => h1 h.2]
      go_enter Try.func28, Try.ntmps28
      go_wp2
      go_ret
      exact ⟨rfl, rfl⟩
  · rw [show rightB b = false from decide_eq_false fun h => h0 h.1]
    go_enter Try.func28, Try.ntmps28
    go_wp2
    go_ret
    exact ⟨rfl, rfl⟩

theorem rright_ok (b : Int) (w : World) : Calls Try.prog 30 #[.int .i64 b] w fun e w' => e = .returned (.bool (rightB b)) ∧ w' = w := by
  by_cases h0 : 2 ≤ b
  · by_cases h1 : b ≤ 36
    · rw [show rightB b = true from decide_eq_true ⟨h0, h1⟩]
      go_enter Try.func30, Try.ntmps30
      go_wp2
      go_ret
      exact ⟨rfl, rfl⟩
    · rw [show rightB b = false from decide_eq_false fun h => h1 h.2]
      go_enter Try.func30, Try.ntmps30
      go_wp2
      go_ret
      exact ⟨rfl, rfl⟩
  · rw [show rightB b = false from decide_eq_false fun h => h0 h.1]
    go_enter Try.func30, Try.ntmps30
    go_wp2
    go_ret
    exact ⟨rfl, rfl⟩
end Go.Proofs.Ytfeeikhcdphcpaa
