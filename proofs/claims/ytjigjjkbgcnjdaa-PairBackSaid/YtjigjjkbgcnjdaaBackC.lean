/- PairBack: the law, from its walk. -/
import Derived.Test.YtjigjjkbgcnjdaaBack
namespace Go.Proofs.Ytjigjjkbgcnjdaa
open Go Go.RowKit
set_option linter.unusedSimpArgs false
set_option linter.unusedVariables false

theorem back_walk (pl ph b : Int) (hp1 : C64 pl) (hp2 : C64 ph) (hb : C64 b) (w : World) :
    Calls Try.prog 8 #[.agg #[.int .i64 pl, .int .i64 ph], .int .i64 b] w fun e w' => e = .returned (.bool true) ∧ Calm w w' := by
  by_cases hb0 : b = 0
  · subst hb0; exact back_zero pl ph hp1 hp2 w
  · obtain ⟨p, sp, ep, qp⟩ := pv_arg hp1 hp2
    have h11 := ud_ok (p % 340282366920938463463374607431768211456) b (by omega) (by omega) hb
    rw [← show pv p = pv (p % 340282366920938463463374607431768211456) from pv_mod (by omega)] at h11
    have h13 := floor_ok p b sp hb
    have h15 := trunc_ok p b sp hb
    have lU := ud_back (P := p % 340282366920938463463374607431768211456) (by omega) (by omega) hb hb0
    have lF := fl_back sp hb hb0
    have lT := tr_back sp hb hb0
    have hadd : ∀ {x y m1 m2 y1 y2 : Int}, pv x = .agg #[.int .i64 m1, .int .i64 m2] → pv y = .agg #[.int .i64 y1, .int .i64 y2] → (x + y) % 340282366920938463463374607431768211456 = p % 340282366920938463463374607431768211456 →
        ∀ w, Calls Try.prog 17 #[.agg #[.int .i64 m1, .int .i64 m2], .agg #[.int .i64 y1, .int .i64 y2]] w fun e w' => e = .returned (.agg #[.int .i64 pl, .int .i64 ph]) ∧ Calm w w' := by
      intro x y m1 m2 y1 y2 e1 e2 e3 w
      have h := add_calm x y w
      rw [e1, e2, pv_mod e3, ep] at h
      exact h
    rw [ep] at h11 h13 h15
    unfold tri at h11 h13 h15
    refine back_core pl ph b p hp2 hb hb0 ep _ _ _ _ _ _ _ _ _ h11 h13 h15 ?_ ?_ ?_ w
    · rcases lU with h | ⟨r, q, h, hr, hq, h1, h2⟩
      · rw [h]; exact .inl ⟨rfl, rfl, rfl⟩
      · rw [h]
        right
        obtain ⟨m1, m2, -, -, -, em, -⟩ := pv_split ((q % 18446744073709551616) * (b % 18446744073709551616))
        refine ⟨rfl, m1, m2, fun w => ?_, hadd em (pv_lo r hr) (by omega), fun w => ?_⟩
        · have := umul_calm q b w
          rw [em] at this
          exact this
        · have := uless_ok (r % 18446744073709551616) (b % 18446744073709551616) w
          rw [pv_lo r hr, pv_lo b hb, show decide (r % 18446744073709551616 % 340282366920938463463374607431768211456 < b % 18446744073709551616 % 340282366920938463463374607431768211456) = true from decide_eq_true (by omega)] at this
          exact this
    · rcases lF with h | ⟨r, q, h, hr, hq, h1, h2, h3⟩
      · rw [h]; exact .inl ⟨rfl, rfl, rfl⟩
      · rw [h]
        right
        obtain ⟨m1, m2, -, -, -, em, -⟩ := pv_split (q * b)
        refine ⟨rfl, ⟨m1, m2, r / 9223372036854775808, fun w => ?_, of_calm r hr, hadd em (pv_cell hr) (by rw [h1])⟩, ?_⟩
        · have := mul_ok q b hq hb w
          rw [em] at this
          exact this
        · simp only
          omega
    · rcases lT with h | ⟨r, q, h, hr, hq, h1, h2, h3⟩
      · rw [h]; exact .inl ⟨rfl, rfl, rfl⟩
      · rw [h]
        right
        obtain ⟨m1, m2, -, -, -, em, -⟩ := pv_split (q * b)
        refine ⟨rfl, ⟨m1, m2, r / 9223372036854775808, fun w => ?_, of_calm r hr, hadd em (pv_cell hr) (by rw [h1])⟩, hr, h2, ?_⟩
        · have := mul_ok q b hq hb w
          rw [em] at this
          exact this
        · simp only
          obtain ⟨c1, c2⟩ := hp1
          omega
end Go.Proofs.Ytjigjjkbgcnjdaa
