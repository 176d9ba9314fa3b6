/- PairCells: the walk. -/
import Derived.Test.YtjigjjkbgcnjdaaMakes
import Derived.Test.YtjigjjkbgcnjdaaShown
namespace Go.Proofs.Ytjigjjkbgcnjdaa
open Go Go.RowKit
set_option linter.unusedSimpArgs false
set_option linter.unusedVariables false

theorem tq_tdiv {x y : Int} (hy : y ≠ 0) : tq x y = x.tdiv y ∧ tm x y = x.tmod y := by
  unfold tq tm dQ dR absI
  by_cases h1 : x < 0 <;> by_cases h2 : y < 0
  · rw [if_pos h1, if_pos h2, if_pos (by omega), if_pos h1]
    have e1 : x.tdiv y = (-x).tdiv (-y) := by rw [Int.neg_tdiv, Int.tdiv_neg, Int.neg_neg]
    have e2 : x.tmod y = -((-x).tmod (-y)) := by rw [Int.neg_tmod, Int.tmod_neg, Int.neg_neg]
    rw [e1, e2, Int.tdiv_eq_ediv_of_nonneg (by omega), Int.tmod_eq_emod_of_nonneg (by omega)]
    exact ⟨rfl, rfl⟩
  · rw [if_pos h1, if_neg h2, if_neg (by omega), if_pos h1]
    have e1 : x.tdiv y = -((-x).tdiv y) := by rw [Int.neg_tdiv, Int.neg_neg]
    have e2 : x.tmod y = -((-x).tmod y) := by rw [Int.neg_tmod, Int.neg_neg]
    rw [e1, e2, Int.tdiv_eq_ediv_of_nonneg (by omega), Int.tmod_eq_emod_of_nonneg (by omega)]
    exact ⟨rfl, rfl⟩
  · rw [if_neg h1, if_pos h2, if_neg (by omega), if_neg h1]
    have e1 : x.tdiv y = -(x.tdiv (-y)) := by rw [Int.tdiv_neg, Int.neg_neg]
    have e2 : x.tmod y = x.tmod (-y) := by rw [Int.tmod_neg]
    rw [e1, e2, Int.tdiv_eq_ediv_of_nonneg (by omega), Int.tmod_eq_emod_of_nonneg (by omega)]
    exact ⟨rfl, rfl⟩
  · rw [if_neg h1, if_neg h2, if_pos (by omega), if_neg h1]
    rw [Int.tdiv_eq_ediv_of_nonneg (by omega), Int.tmod_eq_emod_of_nonneg (by omega)]
    exact ⟨rfl, rfl⟩

def S32 (x : Int) : Prop := -2147483648 ≤ x ∧ x ≤ 2147483647

/-- Quotients of numbers of 31 bits. -/
theorem small_div {x y : Int} (hx : S32 x) (hy : S32 y) (hy0 : y ≠ 0) : ∃ d r : Int, x.tdiv y = d ∧ x.tmod y = r ∧ x = y * d + r ∧ -2147483648 ≤ d ∧ d ≤ 2147483648 ∧ -2147483648 < r ∧ r < 2147483648 ∧ tr x y = (r, d, 0) ∧
    ((r = 0 ∨ (x < 0 ↔ y < 0)) → fl x y = (r, d, 0)) ∧ (¬ r = 0 → ¬ (x < 0 ↔ y < 0) → fl x y = (r + y, d - 1, 0)) := by
  obtain ⟨x1, x2⟩ := hx
  obtain ⟨y1, y2⟩ := hy
  obtain ⟨e1, e2⟩ := tq_tdiv (x := x) hy0
  have hS : S128 x := ⟨by omega, by omega⟩
  have hC : C64 y := ⟨by omega, by omega⟩
  obtain ⟨a1, a2, a3, a4, a5, a6⟩ := abs_facts hS hC hy0
  have hb : 0 < absI y ∧ absI y ≤ 2147483648 := by unfold absI; split <;> omega
  have hxa : 0 ≤ absI x ∧ absI x ≤ 2147483648 := by unfold absI; split <;> omega
  have hQ : dQ x y ≤ absI x := Int.ediv_le_self _ hxa.1
  have htq : -2147483648 ≤ tq x y ∧ tq x y ≤ 2147483648 := by unfold tq; split <;> omega
  have htm : -2147483648 < tm x y ∧ tm x y < 2147483648 := by unfold tm; split <;> omega
  have hft : fit (tq x y) = true := by simp only [fit, decide_eq_true_eq]; omega
  refine ⟨_, _, rfl, rfl, (Int.mul_tdiv_add_tmod x y).symm, ?_, ?_, ?_, ?_, ?_, ?_, ?_⟩
  · rw [← e1]; omega
  · rw [← e1]; omega
  · rw [← e2]; omega
  · rw [← e2]; omega
  · rw [tr, if_neg hy0, if_pos hft, e1, e2]
  · intro h
    have hr : tm x y = 0 → dR x y = 0 := by unfold tm; split <;> omega
    have hfq : fq x y = tq x y := by
      rcases h with h | h
      · rw [← e2] at h
        unfold fq tq
        rw [if_pos (hr h)]
      · unfold fq tq; rw [if_pos h, if_pos h]
    have hfm : fm x y = tm x y := by
      rcases h with h | h
      · rw [← e2] at h
        unfold fm
        rw [if_pos (hr h)]
        split <;> rfl
      · unfold fm; rw [if_pos h]
    rw [fl, if_neg hy0, hfq, if_pos hft, hfm, e1, e2]
  · intro h1 h2
    have hr : ¬ dR x y = 0 := by rw [← e2] at h1; unfold tm at h1; split at h1 <;> omega
    have hfq : fq x y = tq x y - 1 := by unfold fq tq; rw [if_neg h2, if_neg h2, if_neg hr]
    have hfm : fm x y = tm x y + y := by unfold fm; rw [if_neg h2, if_neg hr]
    have hft2 : fit (fq x y) = true := by rw [hfq]; simp only [fit, decide_eq_true_eq]; omega
    rw [fl, if_neg hy0, if_pos hft2, hfq, hfm, e1, e2]

set_option maxHeartbeats 40000000 in
theorem cells_walk (x y : Int) (hx : S32 x) (hy : S32 y) (w : World) :
    Calls Try.prog 6 #[.int .i32 x, .int .i32 y] w fun e w' => e = .returned (.bool true) ∧ Calm w w' := by
  obtain ⟨x1, x2⟩ := id hx
  obtain ⟨y1, y2⟩ := id hy
  have hSx : S128 x := ⟨by omega, by omega⟩
  have hCx : C64 x := ⟨by omega, by omega⟩
  have hCy : C64 y := ⟨by omega, by omega⟩
  have hmb : -4611686018427387904 ≤ x * y ∧ x * y ≤ 4611686018427387904 := by
    have h := Int.mul_le_mul (show absI x ≤ 2147483648 by unfold absI; split <;> omega) (show absI y ≤ 2147483648 by unfold absI; split <;> omega) (show 0 ≤ absI y by unfold absI; split <;> omega) (by omega)
    rw [← abs_mul] at h
    unfold absI at h
    split at h <;> omega
  have h17 := add_calm x y
  have h19 := mul_ok x y hCx hCy
  have h21 := twice_ok x
  have h22 := half_ok (2 * x) ⟨by omega, by omega⟩
  have h20 := neg_calm x
  have h15 := trunc_ok x y hSx hCy
  have h13 := floor_ok x y hSx hCy
  rw [pv_cell hCx, pv_cell hCy, pv_cell (x := x + y) ⟨by omega, by omega⟩] at h17
  rw [pv_cell (x := x * y) ⟨by omega, by omega⟩] at h19
  rw [pv_cell hCx, pv_cell (x := 2 * x) ⟨by omega, by omega⟩] at h21
  rw [pv_cell (x := 2 * x) ⟨by omega, by omega⟩, show 2 * x / 2 = x by omega, pv_cell hCx] at h22
  rw [pv_cell hCx, pv_cell (x := -x) ⟨by omega, by omega⟩] at h20
  rw [pv_cell hCx] at h15 h13
  obtain ⟨hm1, hm2⟩ := hmb
  generalize hm : x * y = m at h19 hm1 hm2
  have sw := Calm.refl w
  by_cases hy0 : y = 0
  · have e1 : tr x y = (0, 0, -10) := by rw [tr, if_pos hy0]
    rw [e1, show tri (0, 0, -10) = .tuple #[.int .i64 0, .int .i64 0, .int .i64 (-10)] from rfl] at h15
    have hyb : (y == 0) = true := by simpa using hy0
    have HY0 := Lib.hid hy0
    clear h13 hSx hCx hCy hx hy e1 hy0
    go_enter Try.func6, Try.ntmps6
    go_wp2_with (first
      | (go_at_call 10; refine (shown_ok _).mono ?_; rintro e w1 ⟨rfl, s1⟩; replace sw := sw.trans s1)
      | (go_at_call 23; refine (of_calm _ (by constructor <;> omega) _).mono ?_; rintro e w1 ⟨rfl, s1⟩; replace sw := sw.trans s1)
      | (go_at_call 17; refine (h17 _).mono ?_; rintro e w1 ⟨rfl, s1⟩; replace sw := sw.trans s1)
      | (go_at_call 19; refine (h19 _).mono ?_; rintro e w1 ⟨rfl, s1⟩; replace sw := sw.trans s1)
      | (go_at_call 21; refine (h21 _).mono ?_; rintro e w1 ⟨rfl, s1⟩; replace sw := sw.trans s1)
      | (go_at_call 22; refine (h22 _).mono ?_; rintro e w1 ⟨rfl, s1⟩; replace sw := sw.trans s1)
      | (go_at_call 20; refine (h20 _).mono ?_; rintro e w1 ⟨rfl, s1⟩; replace sw := sw.trans s1)
      | (go_at_call 15; refine (h15 _).mono ?_; rintro e w1 ⟨rfl, s1⟩; replace sw := sw.trans s1))
    go_ret
    exact ⟨rfl, sw⟩
  · obtain ⟨d, r, k1, k2, k3, d1, d2, r1, r2, k4, k5, k6⟩ := small_div hx hy hy0
    rw [k4, show tri (r, d, 0) = .tuple #[.int .i64 r, .int .i64 d, .int .i64 0] from rfl] at h15
    have hyb : (y == 0) = false := by simpa using hy0
    by_cases hr : r = 0
    · rw [k5 (.inl hr), show tri (r, d, 0) = .tuple #[.int .i64 r, .int .i64 d, .int .i64 0] from rfl] at h13
      obtain ⟨p, hp⟩ : ∃ p : Int, d * y = p := ⟨_, rfl⟩
      have hp2 : x - p = r := by rw [← hp, Int.mul_comm d y]; omega
      have p1 : -8589934592 ≤ p := by omega
      have p2 : p ≤ 8589934592 := by omega
      clear k3 k4 k5 k6 hSx hCx hCy hx hy
      subst hr
      go_enter Try.func6, Try.ntmps6
      go_wp2_with (first
        | (go_at_call 10; refine (shown_ok _).mono ?_; rintro e w1 ⟨rfl, s1⟩; replace sw := sw.trans s1)
        | (go_at_call 23; refine (of_calm _ (by constructor <;> omega) _).mono ?_; rintro e w1 ⟨rfl, s1⟩; replace sw := sw.trans s1)
        | (go_at_call 17; refine (h17 _).mono ?_; rintro e w1 ⟨rfl, s1⟩; replace sw := sw.trans s1)
        | (go_at_call 19; refine (h19 _).mono ?_; rintro e w1 ⟨rfl, s1⟩; replace sw := sw.trans s1)
        | (go_at_call 21; refine (h21 _).mono ?_; rintro e w1 ⟨rfl, s1⟩; replace sw := sw.trans s1)
        | (go_at_call 22; refine (h22 _).mono ?_; rintro e w1 ⟨rfl, s1⟩; replace sw := sw.trans s1)
        | (go_at_call 20; refine (h20 _).mono ?_; rintro e w1 ⟨rfl, s1⟩; replace sw := sw.trans s1)
        | (go_at_call 15; refine (h15 _).mono ?_; rintro e w1 ⟨rfl, s1⟩; replace sw := sw.trans s1)
        | (go_at_call 13; refine (h13 _).mono ?_; rintro e w1 ⟨rfl, s1⟩; replace sw := sw.trans s1))
      go_ret
      exact ⟨rfl, sw⟩
    · by_cases hs : (x < 0 ↔ y < 0)
      · rw [k5 (.inr hs), show tri (r, d, 0) = .tuple #[.int .i64 r, .int .i64 d, .int .i64 0] from rfl] at h13
        obtain ⟨p, hp⟩ : ∃ p : Int, d * y = p := ⟨_, rfl⟩
        have hp2 : x - p = r := by rw [← hp, Int.mul_comm d y]; omega
        have p1 : -8589934592 ≤ p := by omega
        have p2 : p ≤ 8589934592 := by omega
        clear k3 k4 k5 k6 hSx hCx hCy hx hy
        have HS := Lib.hid hs
        clear hs
        by_cases hxn : x < 0
        · have hyn : y < 0 := HS.out.1 hxn
          go_enter Try.func6, Try.ntmps6
          go_wp2_with (first
            | (go_at_call 10; refine (shown_ok _).mono ?_; rintro e w1 ⟨rfl, s1⟩; replace sw := sw.trans s1)
            | (go_at_call 23; refine (of_calm _ (by constructor <;> omega) _).mono ?_; rintro e w1 ⟨rfl, s1⟩; replace sw := sw.trans s1)
            | (go_at_call 17; refine (h17 _).mono ?_; rintro e w1 ⟨rfl, s1⟩; replace sw := sw.trans s1)
            | (go_at_call 19; refine (h19 _).mono ?_; rintro e w1 ⟨rfl, s1⟩; replace sw := sw.trans s1)
            | (go_at_call 21; refine (h21 _).mono ?_; rintro e w1 ⟨rfl, s1⟩; replace sw := sw.trans s1)
            | (go_at_call 22; refine (h22 _).mono ?_; rintro e w1 ⟨rfl, s1⟩; replace sw := sw.trans s1)
            | (go_at_call 20; refine (h20 _).mono ?_; rintro e w1 ⟨rfl, s1⟩; replace sw := sw.trans s1)
            | (go_at_call 15; refine (h15 _).mono ?_; rintro e w1 ⟨rfl, s1⟩; replace sw := sw.trans s1)
            | (go_at_call 13; refine (h13 _).mono ?_; rintro e w1 ⟨rfl, s1⟩; replace sw := sw.trans s1))
          go_ret
          exact ⟨rfl, sw⟩
        · have hyn : ¬ y < 0 := fun h => hxn (HS.out.2 h)
          have q1 : decide (x < 0) = false := decide_eq_false hxn
          have q2 : decide (y < 0) = false := decide_eq_false hyn
          go_enter Try.func6, Try.ntmps6
          go_wp2_with (first
            | (go_at_call 10; refine (shown_ok _).mono ?_; rintro e w1 ⟨rfl, s1⟩; replace sw := sw.trans s1)
            | (go_at_call 23; refine (of_calm _ (by constructor <;> omega) _).mono ?_; rintro e w1 ⟨rfl, s1⟩; replace sw := sw.trans s1)
            | (go_at_call 17; refine (h17 _).mono ?_; rintro e w1 ⟨rfl, s1⟩; replace sw := sw.trans s1)
            | (go_at_call 19; refine (h19 _).mono ?_; rintro e w1 ⟨rfl, s1⟩; replace sw := sw.trans s1)
            | (go_at_call 21; refine (h21 _).mono ?_; rintro e w1 ⟨rfl, s1⟩; replace sw := sw.trans s1)
            | (go_at_call 22; refine (h22 _).mono ?_; rintro e w1 ⟨rfl, s1⟩; replace sw := sw.trans s1)
            | (go_at_call 20; refine (h20 _).mono ?_; rintro e w1 ⟨rfl, s1⟩; replace sw := sw.trans s1)
            | (go_at_call 15; refine (h15 _).mono ?_; rintro e w1 ⟨rfl, s1⟩; replace sw := sw.trans s1)
            | (go_at_call 13; refine (h13 _).mono ?_; rintro e w1 ⟨rfl, s1⟩; replace sw := sw.trans s1))
          go_ret
          exact ⟨rfl, sw⟩
      · rw [k6 hr hs, show tri (r + y, d - 1, 0) = .tuple #[.int .i64 (r + y), .int .i64 (d - 1), .int .i64 0] from rfl] at h13
        obtain ⟨p, hp⟩ : ∃ p : Int, (d - 1) * y = p := ⟨_, rfl⟩
        have hp2 : x - p = r + y := by rw [← hp, Int.sub_mul, Int.mul_comm d y]; omega
        have p1 : -8589934592 ≤ p := by omega
        have p2 : p ≤ 8589934592 := by omega
        clear k3 k4 k5 k6 hSx hCx hCy hx hy
        have HS := Lib.hid hs
        clear hs
        by_cases hxn : x < 0
        · have hyn : ¬ y < 0 := fun h => HS.out ⟨fun _ => h, fun _ => hxn⟩
          have q1 : decide (x < 0) = true := decide_eq_true hxn
          have q2 : decide (y < 0) = false := decide_eq_false hyn
          go_enter Try.func6, Try.ntmps6
          go_wp2_with (first
            | (go_at_call 10; refine (shown_ok _).mono ?_; rintro e w1 ⟨rfl, s1⟩; replace sw := sw.trans s1)
            | (go_at_call 23; refine (of_calm _ (by constructor <;> omega) _).mono ?_; rintro e w1 ⟨rfl, s1⟩; replace sw := sw.trans s1)
            | (go_at_call 17; refine (h17 _).mono ?_; rintro e w1 ⟨rfl, s1⟩; replace sw := sw.trans s1)
            | (go_at_call 19; refine (h19 _).mono ?_; rintro e w1 ⟨rfl, s1⟩; replace sw := sw.trans s1)
            | (go_at_call 21; refine (h21 _).mono ?_; rintro e w1 ⟨rfl, s1⟩; replace sw := sw.trans s1)
            | (go_at_call 22; refine (h22 _).mono ?_; rintro e w1 ⟨rfl, s1⟩; replace sw := sw.trans s1)
            | (go_at_call 20; refine (h20 _).mono ?_; rintro e w1 ⟨rfl, s1⟩; replace sw := sw.trans s1)
            | (go_at_call 15; refine (h15 _).mono ?_; rintro e w1 ⟨rfl, s1⟩; replace sw := sw.trans s1)
            | (go_at_call 13; refine (h13 _).mono ?_; rintro e w1 ⟨rfl, s1⟩; replace sw := sw.trans s1))
          go_ret
          exact ⟨rfl, sw⟩
        · have hyn : y < 0 := by
            rcases Int.lt_or_le y 0 with h | h
            · exact h
            · exact absurd ⟨fun h2 => absurd h2 hxn, fun h2 => by omega⟩ HS.out
          have q1 : decide (x < 0) = false := decide_eq_false hxn
          have q2 : decide (y < 0) = true := decide_eq_true hyn
          go_enter Try.func6, Try.ntmps6
          go_wp2_with (first
            | (go_at_call 10; refine (shown_ok _).mono ?_; rintro e w1 ⟨rfl, s1⟩; replace sw := sw.trans s1)
            | (go_at_call 23; refine (of_calm _ (by constructor <;> omega) _).mono ?_; rintro e w1 ⟨rfl, s1⟩; replace sw := sw.trans s1)
            | (go_at_call 17; refine (h17 _).mono ?_; rintro e w1 ⟨rfl, s1⟩; replace sw := sw.trans s1)
            | (go_at_call 19; refine (h19 _).mono ?_; rintro e w1 ⟨rfl, s1⟩; replace sw := sw.trans s1)
            | (go_at_call 21; refine (h21 _).mono ?_; rintro e w1 ⟨rfl, s1⟩; replace sw := sw.trans s1)
            | (go_at_call 22; refine (h22 _).mono ?_; rintro e w1 ⟨rfl, s1⟩; replace sw := sw.trans s1)
            | (go_at_call 20; refine (h20 _).mono ?_; rintro e w1 ⟨rfl, s1⟩; replace sw := sw.trans s1)
            | (go_at_call 15; refine (h15 _).mono ?_; rintro e w1 ⟨rfl, s1⟩; replace sw := sw.trans s1)
            | (go_at_call 13; refine (h13 _).mono ?_; rintro e w1 ⟨rfl, s1⟩; replace sw := sw.trans s1))
          go_ret
          exact ⟨rfl, sw⟩
end Go.Proofs.Ytjigjjkbgcnjdaa
