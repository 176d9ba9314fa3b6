/- PairBack: plain laws: a quotient times what it was divided by, and what is left. -/
import Derived.Test.YtjigjjkbgcnjdaaLawKit
namespace Go.Proofs.Ytjigjjkbgcnjdaa
open Go Go.RowKit
set_option linter.unusedSimpArgs false
set_option linter.unusedVariables false

theorem dQ_mul (p b : Int) : dQ p b * b = if b < 0 then -(absI b * dQ p b) else absI b * dQ p b := by
  unfold absI
  split
  · rw [Int.neg_mul, Int.neg_neg, Int.mul_comm]
  · rw [Int.mul_comm]

/-- Rounded down. -/
theorem fl_back {p b : Int} (hp : S128 p) (hb : C64 b) (hb0 : b ≠ 0) : fl p b = (0, 0, -11) ∨
    (∃ r q, fl p b = (r, q, 0) ∧ C64 r ∧ C64 q ∧ q * b + r = p ∧ (0 < b → 0 ≤ r ∧ r < b) ∧ (b < 0 → b < r ∧ r ≤ 0)) := by
  by_cases hf : fit (fq p b) = true
  · right
    refine ⟨fm p b, fq p b, by rw [fl, if_neg hb0, if_pos hf], ?_⟩
    obtain ⟨q1, q2, q3, q4, q5, q6⟩ := abs_facts hp hb hb0
    have hm := dQ_mul p b
    have hC : C64 (fq p b) := by simpa [fit, C64] using hf
    obtain ⟨b1, b2⟩ := hb
    generalize hM : absI b * dQ p b = M at hm q6
    have hq : fq p b * b = (if (p < 0 ↔ b < 0) then dQ p b * b else if dR p b = 0 then -(dQ p b * b) else -(dQ p b * b) - b) := by
      unfold fq
      split
      · rfl
      · split
        · rw [Int.neg_mul]
        · rw [Int.sub_mul, Int.neg_mul, Int.one_mul]
    have hr : fm p b = (if (p < 0 ↔ b < 0) then (if p < 0 then -dR p b else dR p b) else if dR p b = 0 then 0 else (if p < 0 then -dR p b else dR p b) + b) := by
      unfold fm tm
      split
      · rfl
      · split
        · rename_i h; rw [h]; split <;> rfl
        · rfl
    rw [hq, hr, hm]
    unfold absI at q5 q6
    refine ⟨?_, hC, ?_, ?_, ?_⟩
    · unfold C64
      split at q5 <;> (repeat' split) <;> omega
    · split at q6 <;> (repeat' split) <;> split at q5 <;> omega
    · intro h
      split at q5 <;> (repeat' split) <;> omega
    · intro h
      split at q5 <;> (repeat' split) <;> omega
  · left
    rw [fl, if_neg hb0, if_neg hf]

/-- Towards 0. -/
theorem tr_back {p b : Int} (hp : S128 p) (hb : C64 b) (hb0 : b ≠ 0) : tr p b = (0, 0, -11) ∨
    (∃ r q, tr p b = (r, q, 0) ∧ C64 r ∧ C64 q ∧ q * b + r = p ∧ absI r < absI b ∧ (r = 0 ∨ (r ≠ 0 ∧ (r < 0 ↔ p < 0)))) := by
  by_cases hf : fit (tq p b) = true
  · right
    refine ⟨tm p b, tq p b, by rw [tr, if_neg hb0, if_pos hf], ?_⟩
    obtain ⟨q1, q2, q3, q4, q5, q6⟩ := abs_facts hp hb hb0
    have hm := dQ_mul p b
    have hC : C64 (tq p b) := by simpa [fit, C64] using hf
    obtain ⟨b1, b2⟩ := hb
    generalize hM : absI b * dQ p b = M at hm q6
    have hq : tq p b * b = (if (p < 0 ↔ b < 0) then dQ p b * b else -(dQ p b * b)) := by
      unfold tq
      split
      · rfl
      · rw [Int.neg_mul]
    rw [hq, hm]
    unfold tm
    refine ⟨?_, hC, ?_, ?_, ?_⟩
    · unfold C64
      split <;> omega
    · unfold absI at q6
      split at q6 <;> (repeat' split) <;> omega
    · have : absI (if p < 0 then -dR p b else dR p b) = dR p b := by
        unfold absI
        (repeat' split) <;> omega
      rw [this]; exact q5
    · by_cases h0 : dR p b = 0
      · left; rw [h0]; split <;> rfl
      · right
        split <;> omega
  · left
    rw [tr, if_neg hb0, if_neg hf]

/-- Without signs. -/
theorem ud_back {P b : Int} (hP0 : 0 ≤ P) (hP1 : P < 340282366920938463463374607431768211456) (hb : C64 b) (hb0 : b ≠ 0) : ud P b = (0, 0, -11) ∨
    (∃ r q, ud P b = (r, q, 0) ∧ C64 r ∧ C64 q ∧ (q % 18446744073709551616) * (b % 18446744073709551616) + r % 18446744073709551616 = P ∧ r % 18446744073709551616 < b % 18446744073709551616) := by
  by_cases hf : 18446744073709551616 ≤ P / (b % 18446744073709551616)
  · left
    rw [ud, if_neg hb0, if_pos hf]
  · right
    obtain ⟨b1, b2⟩ := hb
    have hB : 0 < b % 18446744073709551616 := by omega
    have h1 : 0 ≤ P / (b % 18446744073709551616) := Int.ediv_nonneg hP0 (by omega)
    have h2 : 0 ≤ P % (b % 18446744073709551616) := Int.emod_nonneg _ (by omega)
    have h3 : P % (b % 18446744073709551616) < b % 18446744073709551616 := Int.emod_lt_of_pos _ hB
    refine ⟨wrap64 (P % (b % 18446744073709551616)), wrap64 (P / (b % 18446744073709551616)), by rw [ud, if_neg hb0, if_neg hf], ?_, ?_, ?_, ?_⟩
    · unfold C64 wrap64; omega
    · unfold C64 wrap64; omega
    · have e1 : wrap64 (P / (b % 18446744073709551616)) % 18446744073709551616 = P / (b % 18446744073709551616) := by unfold wrap64; omega
      have e2 : wrap64 (P % (b % 18446744073709551616)) % 18446744073709551616 = P % (b % 18446744073709551616) := by unfold wrap64; omega
      rw [e1, e2, Int.mul_comm]
      exact Int.mul_ediv_add_emod _ _
    · have e2 : wrap64 (P % (b % 18446744073709551616)) % 18446744073709551616 = P % (b % 18446744073709551616) := by unfold wrap64; omega
      rw [e2]; exact h3

/-- The size of a cell, as the law takes it. -/
theorem size26_ok (x : Int) (hx : C64 x) (w : World) : Calls Try.prog 26 #[.int .i64 x] w fun e w' => e = .returned (.int .u64 (absI x)) ∧ w' = w := by
  obtain ⟨x1, x2⟩ := hx
  by_cases h : x < 0
  · have e1 : IntKind.u64.wrap x = x + 18446744073709551616 := by rw [IntKind.wrap_u64]; omega
    rw [show absI x = -x by unfold absI; rw [if_pos h]]
    go_enter Try.func26, Try.ntmps26
    go_wp2
    go_ret
    refine ⟨?_, rfl⟩
    first | rfl | (congr 2; simp [IntKind.wrap_u64]; omega)
  · have e1 : IntKind.u64.wrap x = x := by rw [IntKind.wrap_u64]; omega
    rw [show absI x = x by unfold absI; rw [if_neg h]]
    go_enter Try.func26, Try.ntmps26
    go_wp2
    go_ret
    refine ⟨?_, rfl⟩
    first | rfl | (congr 2)
end Go.Proofs.Ytjigjjkbgcnjdaa
