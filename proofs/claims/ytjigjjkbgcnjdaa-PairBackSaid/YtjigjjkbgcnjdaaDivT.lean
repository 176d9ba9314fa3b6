/- Division with signs: towards 0, and rounded down: the program's. -/
import Derived.Test.YtjigjjkbgcnjdaaDivU
namespace Go.Proofs.Ytjigjjkbgcnjdaa
open Go Go.RowKit
set_option linter.unusedSimpArgs false
set_option linter.unusedVariables false

@[simp, go_sem] theorem run_field_lo (a b : Int) (w : World) : (Instr.field 24 (Value.agg #[Value.int IntKind.i64 a, Value.int IntKind.i64 b]) 0).run Try.prog w = .ok (.int .i64 a) w := by
  simp [Instr.field, go_sem, asAgg]

def dQ (p b : Int) : Int := absI p / absI b
def dR (p b : Int) : Int := absI p % absI b
def tq (p b : Int) : Int := if (p < 0 ↔ b < 0) then dQ p b else -dQ p b
def tm (p b : Int) : Int := if p < 0 then -dR p b else dR p b
def fq (p b : Int) : Int := if (p < 0 ↔ b < 0) then dQ p b else if dR p b = 0 then -dQ p b else -dQ p b - 1
def fm (p b : Int) : Int := if (p < 0 ↔ b < 0) then tm p b else if dR p b = 0 then tm p b else tm p b + b

/-- What is told: what is left, the quotient, an error. -/
def tr (p b : Int) : Int × Int × Int := if b = 0 then (0, 0, -10) else if fit (tq p b) then (tm p b, tq p b, 0) else (0, 0, -11)
def fl (p b : Int) : Int × Int × Int := if b = 0 then (0, 0, -10) else if fit (fq p b) then (fm p b, fq p b, 0) else (0, 0, -11)

theorem abs_facts {p b : Int} (hp : S128 p) (hb : C64 b) (hb0 : b ≠ 0) :
    0 ≤ dQ p b ∧ dQ p b ≤ 170141183460469231731687303715884105728 ∧ 0 ≤ dR p b ∧ dR p b < 9223372036854775808 ∧ dR p b < absI b ∧ absI b * dQ p b + dR p b = absI p := by
  obtain ⟨p1, p2⟩ := hp
  obtain ⟨b1, b2⟩ := hb
  have h1 : 0 < absI b ∧ absI b ≤ 9223372036854775808 := by unfold absI; split <;> omega
  have h2 : 0 ≤ absI p ∧ absI p ≤ 170141183460469231731687303715884105728 := by unfold absI; split <;> omega
  have h3 := Int.emod_lt_of_pos (absI p) h1.1
  have h4 := Int.emod_nonneg (absI p) (show absI b ≠ 0 by omega)
  have h5 := Int.ediv_nonneg h2.1 (show 0 ≤ absI b by omega)
  have h6 := Int.ediv_le_self (absI b) h2.1
  have h7 := Int.mul_ediv_add_emod (absI p) (absI b)
  unfold dQ dR
  exact ⟨h5, by omega, h4, by omega, h3, h7⟩

/-- Dividing what has no signs. -/
theorem ud_abs {p b : Int} (hp : S128 p) (hb : C64 b) : ud (absI p) (wrap64 (absI b)) = if b = 0 then (0, 0, -10) else if 18446744073709551616 ≤ dQ p b then (0, 0, -11) else (dR p b, wrap64 (dQ p b), 0) := by
  by_cases h0 : b = 0
  · subst h0
    rw [show absI 0 = 0 from rfl, show wrap64 0 = 0 by unfold wrap64; omega, ud, if_pos rfl, if_pos rfl]
  · rw [if_neg h0]
    obtain ⟨a1, a2, a3, a4, a5, a6⟩ := abs_facts hp hb h0
    obtain ⟨b1, b2⟩ := hb
    have h1 : 0 < absI b ∧ absI b ≤ 9223372036854775808 := by unfold absI; split <;> omega
    have h2 : wrap64 (absI b) % 18446744073709551616 = absI b := by unfold wrap64; omega
    have h3 : wrap64 (absI b) ≠ 0 := by unfold wrap64; omega
    rw [ud, if_neg h3, h2]
    rw [show wrap64 (absI p % absI b) = dR p b by unfold dR at *; unfold wrap64; omega]
    rfl

theorem fit_eq {a al ah : Int} (ha : S128 a) (e : pv a = .agg #[.int .i64 al, .int .i64 ah]) : fit a = (ah == al / 9223372036854775808) := by
  obtain ⟨al', ah', ka, ⟨a1, a2⟩, ⟨a3, a4⟩, ea, qa⟩ := pv_split a
  rw [e] at ea
  simp only [Value.agg.injEq, Array.mk.injEq, List.cons.injEq, Value.int.injEq, true_and, and_true] at ea
  obtain ⟨rfl, rfl⟩ := ea
  obtain ⟨s1, s2⟩ := ha
  unfold fit
  have hk : ka = 0 := by omega
  have hc : al / 9223372036854775808 = -1 ∨ al / 9223372036854775808 = 0 := by omega
  subst hk
  by_cases h : ah = al / 9223372036854775808
  · simp only [h, beq_self_eq_true, decide_eq_true_eq]; omega
  · rw [beq_eq_false_iff_ne.2 h]; simp only [decide_eq_false_iff_not]; omega

theorem fit_val {a al ah : Int} (e : pv a = .agg #[.int .i64 al, .int .i64 ah]) (hf : fit a = true) : al = a := by
  have := pv_fst e
  simp only [fit, decide_eq_true_eq] at hf
  unfold wrap64 at this
  omega

theorem of_calm (a : Int) (ha : C64 a) (w : World) : Calls Try.prog 23 #[.int .i64 a] w fun e w' => e = .returned (.agg #[.int .i64 a, .int .i64 (a / 9223372036854775808)]) ∧ Calm w w' := by
  rw [← pv_cell ha]
  refine (of_ok a ha w).mono ?_
  rintro e w' ⟨rfl, c, rfl⟩
  exact ⟨rfl, (Calm.refl _).alloc _⟩
theorem neg_calm (a : Int) (w : World) : Calls Try.prog 20 #[pv a] w fun e w' => e = .returned (pv (-a)) ∧ Calm w w' := by
  refine (neg_ok a w).mono ?_
  rintro e w' ⟨rfl, c1, c2, c3, rfl⟩
  exact ⟨rfl, (((Calm.refl _).alloc _).alloc _).alloc _⟩
theorem add_calm (a b : Int) (w : World) : Calls Try.prog 17 #[pv a, pv b] w fun e w' => e = .returned (pv (a + b)) ∧ Calm w w' := by
  refine (add_ok a b w).mono ?_
  rintro e w' ⟨rfl, c1, c2, c3, c4, rfl⟩
  exact ⟨rfl, ((((Calm.refl _).alloc _).alloc _).alloc _).alloc _⟩

/-- The first steps of both: what is told of the sizes. -/
theorem heads {p b : Int} (hp : S128 p) (hb : C64 b) {pl ph : Int} (ep : pv p = .agg #[.int .i64 pl, .int .i64 ph]) : ∃ xl xh yl yh : Int,
    (∀ w, Calls Try.prog 38 #[.agg #[.int .i64 pl, .int .i64 ph]] w fun e w' => e = .returned (.agg #[.int .i64 xl, .int .i64 xh]) ∧ Calm w w') ∧
    (∀ w, Calls Try.prog 38 #[.agg #[.int .i64 b, .int .i64 (b / 9223372036854775808)]] w fun e w' => e = .returned (.agg #[.int .i64 yl, .int .i64 yh]) ∧ Calm w w') ∧
    (∀ w, Calls Try.prog 11 #[.agg #[.int .i64 xl, .int .i64 xh], .int .i64 yl] w fun e w' => e = .returned (tri (if b = 0 then (0, 0, -10) else if 18446744073709551616 ≤ dQ p b then (0, 0, -11) else (dR p b, wrap64 (dQ p b), 0))) ∧ Calm w w') := by
  obtain ⟨xl, xh, xk, _, _, ex, _⟩ := pv_split (absI p)
  obtain ⟨yl, yh, yk, y1, _, ey, _⟩ := pv_split (absI b)
  have hbs : S128 b := by obtain ⟨h1, h2⟩ := hb; exact ⟨by omega, by omega⟩
  refine ⟨xl, xh, yl, yh, fun w => ?_, fun w => ?_, fun w => ?_⟩
  · rw [← ep, ← ex]; exact size_ok p hp w
  · rw [← pv_cell hb, ← ey]; exact size_ok b hbs w
  · obtain ⟨p1, p2⟩ := hp
    have h := ud_ok (absI p) yl (by unfold absI; split <;> omega) (by unfold absI; split <;> omega) y1 w
    have hy := pv_fst ey
    rw [← hy, ud_abs ⟨p1, p2⟩ hb, hy] at h
    rw [← ex]
    exact h
end Go.Proofs.Ytjigjjkbgcnjdaa
