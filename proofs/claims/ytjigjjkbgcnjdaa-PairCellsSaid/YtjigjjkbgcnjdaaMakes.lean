/- PairMakes: the walk. -/
import Derived.Test.YtjigjjkbgcnjdaaLawKit
import Derived.Test.YtjigjjkbgcnjdaaShown
namespace Go.Proofs.Ytjigjjkbgcnjdaa
open Go Go.RowKit
set_option linter.unusedSimpArgs false
set_option linter.unusedVariables false

theorem wrap_mod {x : Int} (h : C64 x) : wrap64 (x % 18446744073709551616) = x := by
  obtain ⟨h1, h2⟩ := h
  unfold wrap64; omega

theorem abs_mul (a b : Int) : absI (a * b) = absI a * absI b := by
  unfold absI
  by_cases h1 : a < 0 <;> by_cases h2 : b < 0 <;> simp only [h1, h2, if_true, if_false]
  · have := Int.mul_nonneg_of_nonpos_of_nonpos (show a ≤ 0 by omega) (show b ≤ 0 by omega)
    rw [if_neg (by omega), Int.neg_mul_neg]
  · rw [Int.neg_mul]
    by_cases h3 : b = 0
    · subst h3; simp
    · have := Int.mul_neg_of_neg_of_pos h1 (show 0 < b by omega)
      rw [if_pos this]
  · rw [Int.mul_neg]
    by_cases h3 : a = 0
    · subst h3; simp
    · have := Int.mul_neg_of_pos_of_neg (show 0 < a by omega) h2
      rw [if_pos this]
  · have := Int.mul_nonneg (show 0 ≤ a by omega) (show 0 ≤ b by omega)
    rw [if_neg (by omega)]

theorem mul_S128 {a b : Int} (ha : C64 a) (hb : C64 b) : S128 (a * b) := by
  have h : absI (a * b) ≤ 9223372036854775808 * 9223372036854775808 := by
    rw [abs_mul]
    obtain ⟨a1, a2⟩ := ha
    obtain ⟨b1, b2⟩ := hb
    exact Int.mul_le_mul (by unfold absI; split <;> omega) (by unfold absI; split <;> omega) (by unfold absI; split <;> omega) (by omega)
  unfold absI at h
  unfold S128
  split at h <;> omega

theorem sign_mul {a b : Int} (hb0 : b ≠ 0) : (a * b < 0 ↔ b < 0) ↔ (0 < a ∨ (a = 0 ∧ 0 < b)) := by
  rcases Int.lt_trichotomy a 0 with h | h | h
  · by_cases h2 : b < 0
    · have := Int.mul_pos_of_neg_of_neg h h2; omega
    · have := Int.mul_neg_of_neg_of_pos h (show 0 < b by omega); omega
  · subst h; rw [Int.zero_mul]; omega
  · by_cases h2 : b < 0
    · have := Int.mul_neg_of_pos_of_neg h h2; omega
    · have := Int.mul_pos h (show 0 < b by omega); omega

theorem back_of {a b : Int} (ha : C64 a) (hb0 : b ≠ 0) : tr (a * b) b = (0, a, 0) ∧ fl (a * b) b = (0, a, 0) := by
  have hbp : 0 < absI b := by unfold absI; split <;> omega
  have hQ : dQ (a * b) b = absI a := by unfold dQ; rw [abs_mul]; exact Int.mul_ediv_cancel _ (by omega)
  have hR : dR (a * b) b = 0 := by unfold dR; rw [abs_mul]; exact Int.mul_emod_left _ _
  have hs := sign_mul (a := a) hb0
  have htq : tq (a * b) b = a := by
    unfold tq
    rw [hQ]
    by_cases h : (a * b < 0 ↔ b < 0)
    · rw [if_pos h]; have := hs.1 h; unfold absI; split <;> omega
    · rw [if_neg h]; have := fun h2 => h (hs.2 h2); unfold absI; split <;> omega
  have hfq : fq (a * b) b = a := by
    unfold fq
    rw [if_pos hR]
    exact htq
  have htm : tm (a * b) b = 0 := by unfold tm; rw [hR]; split <;> rfl
  have hfm : fm (a * b) b = 0 := by unfold fm; rw [if_pos hR, htm]; split <;> rfl
  have hf : fit a = true := by obtain ⟨h1, h2⟩ := ha; simp only [fit, decide_eq_true_eq]; omega
  unfold tr fl
  rw [if_neg hb0, if_neg hb0, htq, hfq, if_pos hf, if_pos hf, htm, hfm]
  exact ⟨rfl, rfl⟩

set_option maxHeartbeats 40000000 in
theorem makes_walk (a b c : Int) (ha : C64 a) (hb : C64 b) (hc : C64 c) (w : World) :
    Calls Try.prog 4 #[.int .i64 a, .int .i64 b, .int .i64 c] w fun e w' => e = .returned (.bool true) ∧ Calm w w' := by
  by_cases hb0 : b = 0
  · subst hb0
    go_enter Try.func4, Try.ntmps4
    go_wp2_with (go_at_call 10; refine (shown_ok _).mono ?_; rintro e w1 ⟨rfl, s1⟩)
    go_ret
    exact ⟨rfl, s1⟩
  · have hbb : (b == 0) = false := by simpa using hb0
    obtain ⟨b1, b2⟩ := id hb
    obtain ⟨a1, a2⟩ := id ha
    have hbu : 0 < b % 18446744073709551616 := by omega
    have hr1 := Int.emod_lt_of_pos (c % 18446744073709551616) hbu
    have hr0 := Int.emod_nonneg (c % 18446744073709551616) (show b % 18446744073709551616 ≠ 0 by omega)
    obtain ⟨l, hl⟩ : ∃ l : Int, l = wrap64 (c % 18446744073709551616 % (b % 18446744073709551616)) := ⟨_, rfl⟩
    have hlc : C64 l := by rw [hl]; unfold C64 wrap64; omega
    have hlu : l % 18446744073709551616 = c % 18446744073709551616 % (b % 18446744073709551616) := by rw [hl]; unfold wrap64; omega
    obtain ⟨hbk1, hbk2⟩ := back_of ha hb0
    obtain ⟨m1, m2, -, -, -, em, -⟩ := pv_split ((a % 18446744073709551616) * (b % 18446744073709551616))
    obtain ⟨n1, n2, -, -, -, en, -⟩ := pv_split ((a % 18446744073709551616) * (b % 18446744073709551616) + l % 18446744073709551616)
    obtain ⟨x1, x2, -, -, -, ex, -⟩ := pv_split (a * b)
    have h18 := umul_calm a b
    have h17 := add_calm ((a % 18446744073709551616) * (b % 18446744073709551616)) (l % 18446744073709551616)
    have hau : 0 ≤ a % 18446744073709551616 ∧ a % 18446744073709551616 < 18446744073709551616 := by omega
    have hbu2 : b % 18446744073709551616 < 18446744073709551616 := by omega
    have hP0 : 0 ≤ (a % 18446744073709551616) * (b % 18446744073709551616) := Int.mul_nonneg hau.1 (by omega)
    have hP1 : (a % 18446744073709551616) * (b % 18446744073709551616) ≤ 18446744073709551615 * 18446744073709551615 := Int.mul_le_mul (by omega) (by omega) (by omega) (by omega)
    have hud : ud ((a % 18446744073709551616) * (b % 18446744073709551616) + l % 18446744073709551616) b = (l, a, 0) := by
      have e1 : ((a % 18446744073709551616) * (b % 18446744073709551616) + l % 18446744073709551616) / (b % 18446744073709551616) = a % 18446744073709551616 := by
        rw [hlu, Int.add_comm, Int.add_mul_ediv_right _ _ (by omega), Int.ediv_eq_zero_of_lt hr0 hr1, Int.zero_add]
      have e2 : ((a % 18446744073709551616) * (b % 18446744073709551616) + l % 18446744073709551616) % (b % 18446744073709551616) = l % 18446744073709551616 := by
        rw [hlu, Int.add_comm, Int.add_mul_emod_self_right, Int.emod_eq_of_lt hr0 hr1]
      have e3 : ¬ 18446744073709551616 ≤ a % 18446744073709551616 := by omega
      rw [ud, if_neg hb0, e1, e2, if_neg e3, wrap_mod hlc, wrap_mod ha]
    have hl64 : 0 ≤ l % 18446744073709551616 ∧ l % 18446744073709551616 < 18446744073709551616 := by omega
    have h11 := ud_ok ((a % 18446744073709551616) * (b % 18446744073709551616) + l % 18446744073709551616) b (Int.add_nonneg hP0 hl64.1) (Int.lt_of_le_of_lt (Int.add_le_add hP1 (Int.le_of_lt hl64.2)) (by decide)) hb
    have h19 := mul_ok a b ha hb
    have h15 := trunc_ok (a * b) b (mul_S128 ha hb) hb
    have h13 := floor_ok (a * b) b (mul_S128 ha hb) hb
    rw [hud, en] at h11
    rw [em] at h18
    rw [em, pv_lo l hlc, en] at h17
    rw [ex] at h19
    rw [ex, hbk1] at h15
    rw [ex, hbk2] at h13
    rw [show tri (l, a, 0) = .tuple #[.int .i64 l, .int .i64 a, .int .i64 0] from rfl] at h11
    rw [show tri (0, a, 0) = .tuple #[.int .i64 0, .int .i64 a, .int .i64 0] from rfl] at h15 h13
    have hrem : wrap64 (IntKind.u64.wrap c % IntKind.u64.wrap b) = l := by rw [IntKind.wrap_u64, IntKind.wrap_u64, hl]
    have hu0 : 0 ≤ IntKind.u64.wrap c := by rw [IntKind.wrap_u64]; omega
    have hu1 : 0 < IntKind.u64.wrap b := by rw [IntKind.wrap_u64]; omega
    have hrem2 : wrap64 ((IntKind.u64.wrap c).tmod (IntKind.u64.wrap b)) = l := by rw [Int.tmod_eq_emod_of_nonneg hu0]; exact hrem
    have hbz : (IntKind.u64.wrap b == 0) = false := by simp; omega
    have sw := Calm.refl w
    clear hl hlu hud em en ex hbk1 hbk2 hr0 hr1 hP0 hP1 hau hbu hbu2 hb0 hlc a1 a2 b1 b2
    go_enter Try.func4, Try.ntmps4
    go_wp2_with (first
      | (go_at_call 10; refine (shown_ok _).mono ?_; rintro e w1 ⟨rfl, s1⟩; replace sw := sw.trans s1)
      | (go_at_call 18; refine (h18 _).mono ?_; rintro e w1 ⟨rfl, s1⟩; replace sw := sw.trans s1)
      | (go_at_call 17; refine (h17 _).mono ?_; rintro e w1 ⟨rfl, s1⟩; replace sw := sw.trans s1)
      | (go_at_call 11; refine (h11 _).mono ?_; rintro e w1 ⟨rfl, s1⟩; replace sw := (sw.alloc _).trans s1)
      | (go_at_call 19; refine (h19 _).mono ?_; rintro e w1 ⟨rfl, s1⟩; replace sw := sw.trans s1)
      | (go_at_call 15; refine (h15 _).mono ?_; rintro e w1 ⟨rfl, s1⟩; replace sw := sw.trans s1)
      | (go_at_call 13; refine (h13 _).mono ?_; rintro e w1 ⟨rfl, s1⟩; replace sw := sw.trans s1))
    go_ret
    exact ⟨rfl, sw⟩
end Go.Proofs.Ytjigjjkbgcnjdaa
