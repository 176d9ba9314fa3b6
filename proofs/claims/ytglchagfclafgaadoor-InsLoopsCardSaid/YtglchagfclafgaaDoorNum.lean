/- Plain arithmetic of the pair layer: Knuth's step of a long division, numbers of two cells. -/
import Derived.Test.YtglchagfclafgaaDoorCore
namespace Go.Proofs.YtglchagfclafgaaDoor
open Go Go.RowKit
set_option linter.unusedSimpArgs false
set_option linter.unusedVariables false

theorem kn_eq {u u1 v1 v0 qh rh : Nat} (h : qh * v1 + rh = u) : qh * (v1 * 4294967296 + v0) + (4294967296 * rh + u1) = u * 4294967296 + u1 + qh * v0 := by
  subst h
  rw [Nat.mul_add, ← Nat.mul_assoc, Nat.add_mul]
  omega

/-- The test is true: one less. -/
theorem kn_true {u u1 v1 v0 qh rh : Nat} (h : qh * v1 + rh = u) (hu : u < v1 * 4294967296 + v0) (hu1 : u1 < 4294967296) (hQ : (u * 4294967296 + u1) / (v1 * 4294967296 + v0) ≤ qh)
    (ht : 4294967296 ≤ qh ∨ 4294967296 * rh + u1 < qh * v0) : (u * 4294967296 + u1) / (v1 * 4294967296 + v0) < qh := by
  have hv : 0 < v1 * 4294967296 + v0 := by omega
  rcases ht with ht | ht
  · refine Nat.lt_of_lt_of_le ?_ ht
    rw [Nat.div_lt_iff_lt_mul hv]
    omega
  · rw [Nat.div_lt_iff_lt_mul hv]
    have := kn_eq (u1 := u1) (v0 := v0) h
    omega

/-- The test is false: it is the quotient. -/
theorem kn_false {u u1 v1 v0 qh rh : Nat} (h : qh * v1 + rh = u) (hu : u < v1 * 4294967296 + v0) (hQ : (u * 4294967296 + u1) / (v1 * 4294967296 + v0) ≤ qh)
    (ht : qh * v0 ≤ 4294967296 * rh + u1) : qh = (u * 4294967296 + u1) / (v1 * 4294967296 + v0) := by
  have hv : 0 < v1 * 4294967296 + v0 := by omega
  refine Nat.le_antisymm ?_ hQ
  rw [Nat.le_div_iff_mul_le hv]
  have := kn_eq (u1 := u1) (v0 := v0) h
  omega

/-- What is left is so great that the test is false. -/
theorem kn_break {u u1 v1 v0 qh rh : Nat} (h : qh * v1 + rh = u) (hu : u < v1 * 4294967296 + v0) (hQ : (u * 4294967296 + u1) / (v1 * 4294967296 + v0) ≤ qh)
    (hq : qh ≤ 4294967297) (hv0 : v0 < 4294967296) (hr : 4294967296 ≤ rh) : qh = (u * 4294967296 + u1) / (v1 * 4294967296 + v0) := by
  refine kn_false h hu hQ ?_
  have : qh * v0 ≤ 4294967297 * 4294967295 := Nat.mul_le_mul hq (by omega)
  omega

/-- Where it starts. -/
theorem kn_start {u u1 v1 v0 : Nat} (hv1 : 2147483648 ≤ v1) (hv0 : v0 < 4294967296) (hu : u < v1 * 4294967296 + v0) (hu1 : u1 < 4294967296) :
    u / v1 * v1 + (u - u / v1 * v1) = u ∧ (u * 4294967296 + u1) / (v1 * 4294967296 + v0) ≤ u / v1 ∧ u / v1 ≤ 4294967298 ∧ u - u / v1 * v1 < v1 := by
  have hd := Nat.div_add_mod u v1
  rw [Nat.mul_comm] at hd
  have hm := Nat.mod_lt u (show 0 < v1 by omega)
  refine ⟨by omega, ?_, ?_, by omega⟩
  · have h1 : (u * 4294967296 + u1) / (v1 * 4294967296 + v0) ≤ (u * 4294967296 + u1) / (v1 * 4294967296) := Nat.div_le_div_left (by omega) (by omega)
    refine Nat.le_trans h1 ?_
    rw [Nat.mul_comm v1, ← Nat.div_div_eq_div_mul]
    have : (u * 4294967296 + u1) / 4294967296 = u := by omega
    rw [this]
    exact Nat.le_refl _
  · have : u / v1 < 4294967299 := by
      rw [Nat.div_lt_iff_lt_mul (by omega)]
      omega
    omega

/-- The two steps together. -/
theorem kn_all {N y k v u u1 u0 q1 r1 q0 r0 : Nat} (hy : 0 < y) (hk : 0 < k) (hv : v = y * k) (hN : N * k = (u * 4294967296 + u1) * 4294967296 + u0)
    (h1 : q1 = (u * 4294967296 + u1) / v) (h2 : r1 = (u * 4294967296 + u1) % v) (h3 : q0 = (r1 * 4294967296 + u0) / v) (h4 : r0 = (r1 * 4294967296 + u0) % v) :
    q1 * 4294967296 + q0 = N / y ∧ r0 / k = N % y := by
  have hvp : 0 < v := by rw [hv]; exact Nat.mul_pos hy hk
  have e1 := Nat.div_add_mod (u * 4294967296 + u1) v
  have e2 := Nat.div_add_mod (r1 * 4294967296 + u0) v
  rw [← h1, ← h2] at e1
  rw [← h3, ← h4] at e2
  have hr := Nat.mod_lt (r1 * 4294967296 + u0) hvp
  rw [← h4] at hr
  have e3 : N * k = v * (q1 * 4294967296 + q0) + r0 := by
    rw [Nat.mul_add, ← Nat.mul_assoc, hN, ← e1]
    omega
  have e4 : N * k / v = q1 * 4294967296 + q0 := by rw [e3, Nat.mul_add_div hvp, Nat.div_eq_of_lt hr, Nat.add_zero]
  have e5 : N * k % v = r0 := by rw [e3, Nat.mul_add_mod, Nat.mod_eq_of_lt hr]
  rw [hv, Nat.mul_div_mul_right _ _ hk] at e4
  rw [hv, Nat.mul_mod_mul_right] at e5
  exact ⟨e4.symm, by rw [← e5, Nat.mul_div_cancel _ hk]⟩

/-- A number of two cells as the program bears it: its low cell, its high one. -/
def pv (n : Int) : Value := .agg #[.int .i64 (wrap64 n), .int .i64 (wrap64 (n / 18446744073709551616))]

theorem pv_of {n lo hi : Int} (h1 : wrap64 n = lo) (h2 : wrap64 (n / 18446744073709551616) = hi) : pv n = .agg #[.int .i64 lo, .int .i64 hi] := by rw [pv, h1, h2]

/-- Cells. -/
def C64 (x : Int) : Prop := -9223372036854775808 ≤ x ∧ x ≤ 9223372036854775807

theorem pv_split (n : Int) : ∃ lo hi k, C64 lo ∧ C64 hi ∧ pv n = .agg #[.int .i64 lo, .int .i64 hi] ∧ n = k * 340282366920938463463374607431768211456 + hi * 18446744073709551616 + lo % 18446744073709551616 := by
  refine ⟨wrap64 n, wrap64 (n / 18446744073709551616), (n - wrap64 (n / 18446744073709551616) * 18446744073709551616 - wrap64 n % 18446744073709551616) / 340282366920938463463374607431768211456, ?_, ?_, rfl, ?_⟩
  · unfold C64 wrap64; omega
  · unfold C64 wrap64; omega
  · unfold wrap64; omega

theorem pv_mod {m n : Int} (h : m % 340282366920938463463374607431768211456 = n % 340282366920938463463374607431768211456) : pv m = pv n := by
  refine pv_of ?_ ?_
  · unfold wrap64; omega
  · unfold wrap64; omega
end Go.Proofs.YtglchagfclafgaaDoor
