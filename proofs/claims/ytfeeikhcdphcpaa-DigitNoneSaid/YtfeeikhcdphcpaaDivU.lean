/- The divisions of the program. -/
import Derived.Test.YtfeeikhcdphcpaaDiv
import Derived.Test.YtfeeikhcdphcpaaPairE
namespace Go.Proofs.Ytfeeikhcdphcpaa
open Go Go.RowKit
set_option linter.unusedSimpArgs false
set_option linter.unusedVariables false

theorem div64_i (a b c : Int) (h : a % 18446744073709551616 < c % 18446744073709551616) (w : World) :
    Calls Try.prog 45 #[.int .u64 (IntKind.u64.wrap a), .int .u64 (IntKind.u64.wrap b), .int .u64 (IntKind.u64.wrap c)] w fun e w' =>
      e = .returned (.tuple #[.int .u64 ((a % 18446744073709551616 * 18446744073709551616 + b % 18446744073709551616) / (c % 18446744073709551616)), .int .u64 ((a % 18446744073709551616 * 18446744073709551616 + b % 18446744073709551616) % (c % 18446744073709551616))]) ∧ Calm w w' := by
  rw [IntKind.wrap_u64, IntKind.wrap_u64, IntKind.wrap_u64]
  obtain ⟨x, hx⟩ := Int.eq_ofNat_of_zero_le (show 0 ≤ a % 18446744073709551616 by omega)
  obtain ⟨y, hy⟩ := Int.eq_ofNat_of_zero_le (show 0 ≤ b % 18446744073709551616 by omega)
  obtain ⟨z, hz⟩ := Int.eq_ofNat_of_zero_le (show 0 ≤ c % 18446744073709551616 by omega)
  have := div64_ok x y z (by omega) (by omega) (by omega) w
  rw [hx, hy, hz]
  have e0 : (x : Int) * 18446744073709551616 + (y : Int) = ((x * 18446744073709551616 + y : Nat) : Int) := by omega
  rw [e0, ← Int.natCast_ediv, ← Int.natCast_emod]
  exact this

theorem ud_ok (P b : Int) (hP0 : 0 ≤ P) (hP1 : P < 340282366920938463463374607431768211456) (hb : C64 b) (w : World) :
    Calls Try.prog 29 #[pv P, .int .i64 b] w fun e w' => e = .returned (tri (ud P b)) ∧ Calm w w' := by
  obtain ⟨pl, ph, pk, ⟨p1, p2⟩, ⟨p3, p4⟩, ep, qp⟩ := pv_split P
  have hPe : P = ph % 18446744073709551616 * 18446744073709551616 + pl % 18446744073709551616 := by omega
  rw [ep]
  clear ep qp
  by_cases hb0 : b = 0
  · subst hb0
    rw [show tri (ud P 0) = .tuple #[.int .i64 0, .int .i64 0, .int .i64 (-10)] from rfl]
    clear hPe
    go_enter Try.func29, Try.ntmps29
    go_wp2
    go_ret3
    exact ⟨rfl, (Calm.refl _).alloc _⟩
  · have hbb : (b == 0) = false := by simpa using hb0
    have hup : 0 < b % 18446744073709551616 := by obtain ⟨h1, h2⟩ := hb; omega
    by_cases hr : ph % 18446744073709551616 < b % 18446744073709551616
    · have hr2 : ¬ 18446744073709551616 ≤ P / (b % 18446744073709551616) := by
        intro h
        rw [Int.le_ediv_iff_mul_le hup] at h
        omega
      rw [show tri (ud P b) = .tuple #[.int .i64 (wrap64 (P % (b % 18446744073709551616))), .int .i64 (wrap64 (P / (b % 18446744073709551616))), .int .i64 0] by rw [ud, if_neg hb0, if_neg hr2]; rfl]
      have hd := div64_i ph pl b hr
      rw [← hPe] at hd
      have hrw : IntKind.u64.wrap ph < IntKind.u64.wrap b := by rw [IntKind.wrap_u64, IntKind.wrap_u64]; exact hr
      clear hPe hr hr2 hup hb0
      generalize P / (b % 18446744073709551616) = Q at *
      generalize P % (b % 18446744073709551616) = R at *
      go_enter Try.func29, Try.ntmps29
      go_wp2_with (go_at_call 45; refine (hd _).mono ?_; rintro e w1 ⟨rfl, s1⟩)
      go_ret3
      exact ⟨rfl, ((Calm.refl _).alloc _).trans s1⟩
    · have hr2 : 18446744073709551616 ≤ P / (b % 18446744073709551616) := by
        rw [Int.le_ediv_iff_mul_le hup]
        omega
      rw [show tri (ud P b) = .tuple #[.int .i64 0, .int .i64 0, .int .i64 (-11)] by rw [ud, if_neg hb0, if_pos hr2]; rfl]
      have hrw : ¬ IntKind.u64.wrap ph < IntKind.u64.wrap b := by rw [IntKind.wrap_u64, IntKind.wrap_u64]; exact hr
      clear hPe hr hr2 hup hb0
      go_enter Try.func29, Try.ntmps29
      go_wp2
      go_ret3
      exact ⟨rfl, (Calm.refl _).alloc _⟩

/-- A pair without its sign. -/
def absI (p : Int) : Int := if p < 0 then -p else p

end Go.Proofs.Ytfeeikhcdphcpaa
