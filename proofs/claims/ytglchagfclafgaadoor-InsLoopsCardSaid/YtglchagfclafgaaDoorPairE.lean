/- The functions of the pair layer: the document's divisions. -/
import Derived.Test.YtglchagfclafgaaDoorPairD
namespace Go.Proofs.YtglchagfclafgaaDoor
open Go Go.RowKit
set_option linter.unusedSimpArgs false
set_option linter.unusedVariables false

/-- What dividing without signs tells: what is left, the quotient, an error. -/
def ud (P b : Int) : Int × Int × Int :=
  if b = 0 then (0, 0, -10) else if 18446744073709551616 ≤ P / (b % 18446744073709551616) then (0, 0, -11) else (wrap64 (P % (b % 18446744073709551616)), wrap64 (P / (b % 18446744073709551616)), 0)

def tri (t : Int × Int × Int) : Value := .tuple #[.int .i64 t.1, .int .i64 t.2.1, .int .i64 t.2.2]

theorem udR_ok (P b : Int) (hP0 : 0 ≤ P) (hP1 : P < 340282366920938463463374607431768211456) (hb : C64 b) (w : World) :
    Calls Tryd.prog 61 #[pv P, .int .i64 b] w fun e w' => e = .returned (tri (ud P b)) ∧ Calm w w' := by
  have hl := long_ok P b hP0 hP1 hb
  obtain ⟨pl, ph, -, -, -, ep, -⟩ := pv_split P
  rw [ep] at hl
  rw [ep]
  clear ep
  by_cases hb0 : b = 0
  · subst hb0
    clear hl
    rw [show tri (ud P 0) = .tuple #[.int .i64 0, .int .i64 0, .int .i64 (-10)] from rfl]
    go_enter Tryd.func61, Tryd.ntmps61
    go_wp2
    go_ret3
    exact ⟨rfl, (Calm.refl _).alloc _⟩
  · have hbb : (b == 0) = false := by simpa using hb0
    replace hl := hl hb0
    have hup : 0 < b % 18446744073709551616 := by obtain ⟨h1, h2⟩ := hb; omega
    have hq0 : 0 ≤ P / (b % 18446744073709551616) := Int.ediv_nonneg hP0 (by omega)
    have hq1 : P / (b % 18446744073709551616) ≤ P := Int.ediv_le_self _ hP0
    obtain ⟨ql, qh, qk, q1, q2, eq, qq⟩ := pv_split (P / (b % 18446744073709551616))
    obtain ⟨q2a, q2b⟩ := q2
    rw [eq] at hl
    by_cases hr : 18446744073709551616 ≤ P / (b % 18446744073709551616)
    · have hqh : (qh == 0) = false := by
        rw [beq_eq_false_iff_ne]; intro h; subst h; omega
      rw [show tri (ud P b) = .tuple #[.int .i64 0, .int .i64 0, .int .i64 (-11)] by rw [ud, if_neg hb0, if_pos hr]; rfl]
      clear qq q2a q2b q1 eq hr hq0 hq1 hup hb0 hP0 hP1
      go_enter Tryd.func61, Tryd.ntmps61
      go_wp2_with (go_at_call 70; refine (hl _).mono ?_; rintro e w1 ⟨rfl, s1⟩)
      go_ret3
      exact ⟨rfl, ((((Calm.refl _).alloc _).trans s1).alloc _)⟩
    · have hqh : qh = 0 := by omega
      subst hqh
      have e1 := pv_fst eq
      rw [show tri (ud P b) = .tuple #[.int .i64 (wrap64 (P % (b % 18446744073709551616))), .int .i64 ql, .int .i64 0] by rw [ud, if_neg hb0, if_neg hr, e1]; rfl]
      generalize wrap64 (P % (b % 18446744073709551616)) = r at *
      clear qq q2a q2b q1 eq hr hq0 hq1 hup hb0 hP0 hP1 e1
      go_enter Tryd.func61, Tryd.ntmps61
      go_wp2_with (go_at_call 70; refine (hl _).mono ?_; rintro e w1 ⟨rfl, s1⟩)
      go_quiet (fail)
      go_wp2
      go_ret3
      exact ⟨rfl, ((((Calm.refl _).alloc _).trans s1).alloc _).drewN _⟩
end Go.Proofs.YtglchagfclafgaaDoor
