/- The last digit taken off: both sides. -/
import Derived.Test.YtglchagfclafgaaDoorPairK
namespace Go.Proofs.YtglchagfclafgaaDoor
open Go Go.RowKit
set_option linter.unusedSimpArgs false
set_option linter.unusedVariables false

/-- A pair without its sign. -/
def U (p : Int) : Int := p % 340282366920938463463374607431768211456
theorem U_range (p : Int) : 0 ≤ U p ∧ U p < 340282366920938463463374607431768211456 := by unfold U; omega
theorem pv_U (p : Int) : pv (U p) = pv p := pv_mod (by unfold U; omega)

theorem step_num {P h l b : Int} (hb : 0 < b) (hP : P = h * 18446744073709551616 + l) : P / b = h / b * 18446744073709551616 + (h % b * 18446744073709551616 + l) / b ∧ P % b = (h % b * 18446744073709551616 + l) % b := by
  have h1 : P = (h % b * 18446744073709551616 + l) + b * (h / b * 18446744073709551616) := by
    have := Int.emod_add_mul_ediv h b
    rw [hP]
    have e : b * (h / b * 18446744073709551616) = (b * (h / b)) * 18446744073709551616 := by rw [Int.mul_assoc]
    rw [e]
    omega
  constructor
  · rw [h1, Int.add_mul_ediv_left _ _ (by omega)]; omega
  · rw [h1, Int.add_mul_emod_self_left]

theorem ud_small {P b : Int} (hb : 0 < b) (hb2 : b ≤ 36) (h0 : 0 ≤ P) (h1 : P < b * 18446744073709551616) : ud P b = (P % b, wrap64 (P / b), 0) := by
  have hm : b % 18446744073709551616 = b := by omega
  have hr := Int.emod_nonneg P (by omega : b ≠ 0)
  have hr2 := Int.emod_lt_of_pos P hb
  have hq : P / b < 18446744073709551616 := by rw [Int.ediv_lt_iff_lt_mul hb]; rw [Int.mul_comm]; exact h1
  unfold ud
  rw [if_neg (by omega), hm, if_neg (by omega)]
  congr 1
  unfold wrap64; omega

/-- What taking the last digit off tells. -/
def stV (p b : Int) : Value := if rightB b then .tuple #[pv (U p / b), .int .u8 (chr (U p % b))] else .tuple #[pv p, .int .u8 0]

theorem right_C {b : Int} (h : rightB b = true) : 2 ≤ b ∧ b ≤ 36 := by simpa [rightB] using h

set_option maxHeartbeats 4000000 in
theorem rstep_ok (p b : Int) (hb : C64 b) (w : World) : Calls Tryd.prog 48 #[pv p, .int .i64 b] w fun e w' => e = .returned (stV p b) ∧ Calm w w' := by
  obtain ⟨pl, ph, pk, ⟨p1, p2⟩, ⟨p3, p4⟩, ep, qp⟩ := pv_split p
  have P0 := PBlk.new w ep
  have EP := Lib.hid ep
  have sw := (Calm.refl w).alloc (.cells #[.int .i64 pl, .int .i64 ph] 59)
  cases hr : rightB b with
  | false =>
    rw [stV, hr, if_neg Bool.false_ne_true, ep]
    have hri := rright_ok b
    rw [hr] at hri
    clear qp ep
    go_enter Tryd.func48, Tryd.ntmps48
    go_wp2_with (go_at_call 34; refine (hri _).mono ?_; rintro e w1 ⟨rfl, rfl⟩)
    simp [bodyPost, results, Tryd.results48, go_sem]
    exact ((Calm.refl _).alloc _).alloc _
  | true =>
    obtain ⟨b2, b36⟩ := right_C hr
    have hri := rright_ok b
    rw [hr] at hri
    rw [stV, if_pos hr, ep]
    obtain ⟨H, hH⟩ : ∃ H, ph % 18446744073709551616 = H := ⟨_, rfl⟩
    obtain ⟨L, hL⟩ : ∃ L, pl % 18446744073709551616 = L := ⟨_, rfl⟩
    have hU : U p = H * 18446744073709551616 + L := by unfold U; omega
    have H0 : 0 ≤ H ∧ H < 18446744073709551616 := by omega
    have L0 : 0 ≤ L ∧ L < 18446744073709551616 := by omega
    obtain ⟨n1, n2⟩ := step_num (by omega : 0 < b) hU
    have r0 := Int.emod_nonneg H (by omega : b ≠ 0)
    have r1 := Int.emod_lt_of_pos H (by omega : 0 < b)
    have q1 : H / b < 18446744073709551616 := Int.lt_of_le_of_lt (Int.ediv_le_self _ H0.1) H0.2
    have q0 : 0 ≤ H / b := Int.ediv_nonneg H0.1 (by omega)
    have u1 := udR_ok H b H0.1 (by omega) hb
    rw [ud_small (by omega) b36 H0.1 (by omega), ← hH, pv_lo ph ⟨p3, p4⟩, hH, tri] at u1
    have u2 := udR_ok (H % b * 18446744073709551616 + L) b (by omega) (by omega) hb
    have x0 : 0 ≤ H % b * 18446744073709551616 + L := by omega
    have x1 : H % b * 18446744073709551616 + L < b * 18446744073709551616 := by omega
    rw [ud_small (by omega) b36 x0 x1, pv_of (n := H % b * 18446744073709551616 + L) (lo := pl) (hi := H % b) (by unfold wrap64; omega) (by unfold wrap64; omega), tri] at u2
    have y0 : 0 ≤ (H % b * 18446744073709551616 + L) / b := Int.ediv_nonneg x0 (by omega)
    have y1 : (H % b * 18446744073709551616 + L) / b < 18446744073709551616 := by
      rw [Int.ediv_lt_iff_lt_mul (by omega)]; omega
    have en := pv_of (n := H / b * 18446744073709551616 + (H % b * 18446744073709551616 + L) / b) (lo := wrap64 ((H % b * 18446744073709551616 + L) / b)) (hi := wrap64 (H / b)) (by unfold wrap64; omega) (by unfold wrap64; omega)
    rw [← n1] at en
    rw [n2, en]
    generalize U p / b = N at en
    have EN := Lib.hid en
    clear en
    have z0 := Int.emod_nonneg (H % b * 18446744073709551616 + L) (by omega : b ≠ 0)
    have z1 : (H % b * 18446744073709551616 + L) % b < 36 := Int.lt_of_lt_of_le (Int.emod_lt_of_pos _ (by omega : 0 < b)) b36
    have hlt : ((H % b * 18446744073709551616 + L) % b).toNat < LET.size := by show _ < 36; omega
    have hch := let_at ((H % b * 18446744073709551616 + L) % b) z0 hlt
    generalize chr ((H % b * 18446744073709551616 + L) % b) = ch at *
    generalize (H % b * 18446744073709551616 + L) % b = z at *
    generalize wrap64 ((H % b * 18446744073709551616 + L) / b) = lo at *
    generalize wrap64 (H / b) = hi at *
    generalize H % b = r at *
    simp only at u1 u2
    clear n1 n2 r0 r1 q0 q1 x0 x1 y0 y1 hU H0 L0 hH hL ep qp
    go_enter Tryd.func48, Tryd.ntmps48
    go_wp2_with (first
      | (go_at_call 34; refine (hri _).mono ?_; rintro e w1 ⟨rfl, rfl⟩)
      | (go_at_call_of 61 (#[Value.agg #[.int .i64 ph, .int .i64 0], .int .i64 b]); refine (u1 _).mono ?_; rintro e w2 ⟨rfl, s2⟩; have B := (B2.new w EP.out pv_zero).calm s2; obtain ⟨⟨c0, c1⟩, ⟨d0, d1⟩⟩ := B.facts EP.out pv_zero)
      | (go_at_call_of 61 (#[Value.agg #[.int .i64 pl, .int .i64 r], .int .i64 b]); refine (u2 _).mono ?_; rintro e w3 ⟨rfl, s3⟩; replace B := B.calm s3; obtain ⟨⟨c0, c1⟩, ⟨d0, d1⟩⟩ := B.facts EP.out pv_zero; obtain ⟨-, f0, f1⟩ := B.fz EP.out pv_zero))
    obtain ⟨g0, g1, -, -⟩ := (B.set2 EN.out).2.cells EN.out
    have hsw := ((((Calm.refl w).alloc _).alloc _).trans s2 |>.trans s3).set2 (b := w.heap.size + 1) (by omega) (.int .i64 lo) (.int .i64 hi)
    go_region
    all_goals go_wp2
    all_goals refine bodyPost_ret (v := .tuple #[.agg #[.int .i64 lo, .int .i64 hi], .int .u8 ch]) (by simp only [results, Tryd.results48]; simp [go_sem, g0, g1]) rfl ⟨rfl, ?_⟩
    all_goals exact hsw.drewN 1
end Go.Proofs.YtglchagfclafgaaDoor
