/- The functions of the pair layer: twice, half, order. -/
import Derived.Test.YtglchagfclafgaaDoorPairA
import Derived.Deep.RegionHeld3
namespace Go.Proofs.YtglchagfclafgaaDoor
open Go Go.RowKit
set_option linter.unusedSimpArgs false
set_option linter.unusedVariables false

/-- Signed pairs. -/
def S128 (a : Int) : Prop := -170141183460469231731687303715884105728 ≤ a ∧ a ≤ 170141183460469231731687303715884105727

theorem below_ok (x y : Int) (w : World) : Calls Tryd.prog 62 #[.int .i64 x, .int .i64 y] w fun e w' => e = .returned (.bool (decide (x % 18446744073709551616 < y % 18446744073709551616))) ∧ w' = w := by
  go_enter Tryd.func62, Tryd.ntmps62
  go_wp2
  go_ret
  simp [IntKind.wrap_u64]

theorem addR_ok (a b : Int) (w : World) : Calls Tryd.prog 49 #[pv a, pv b] w fun e w' => e = .returned (pv (a + b)) ∧ ∃ c1 c2 c3, w' = ((w.alloc (.cells c1 59)).alloc (.cells c2 59)).alloc (.cells c3 59) := by
  obtain ⟨al, ah, ka, ⟨a1, a2⟩, ⟨a3, a4⟩, ea, qa⟩ := pv_split a
  obtain ⟨bl, bh, kb, ⟨b1, b2⟩, ⟨b3, b4⟩, eb, qb⟩ := pv_split b
  rw [ea, eb]
  by_cases hlt : wrap64 (al + bl) % 18446744073709551616 < al % 18446744073709551616
  · have r : pv (a + b) = .agg #[.int .i64 (wrap64 (al + bl)), .int .i64 (wrap64 (wrap64 (ah + bh) + 1))] := by
      unfold wrap64 at hlt
      exact pv_of (by unfold wrap64; omega) (by unfold wrap64; omega)
    rw [r]
    clear ea eb qa qb r
    have hd : decide (wrap64 (al + bl) % 18446744073709551616 < al % 18446744073709551616) = true := by simpa using hlt
    clear hlt
    go_enter Tryd.func49, Tryd.ntmps49
    go_wp2_with (go_at_call 62; refine (below_ok _ _ _).mono ?_; rintro e w1 ⟨rfl, rfl⟩; rw [hd])
    simp [bodyPost, results, Tryd.results49, go_sem]
    exact ⟨_, _, _, rfl⟩
  · have r : pv (a + b) = .agg #[.int .i64 (wrap64 (al + bl)), .int .i64 (wrap64 (ah + bh))] := by
      unfold wrap64 at hlt
      exact pv_of (by unfold wrap64; omega) (by unfold wrap64; omega)
    rw [r]
    clear ea eb qa qb r
    have hd : decide (wrap64 (al + bl) % 18446744073709551616 < al % 18446744073709551616) = false := by simpa using hlt
    clear hlt
    go_enter Tryd.func49, Tryd.ntmps49
    go_wp2_with (go_at_call 62; refine (below_ok _ _ _).mono ?_; rintro e w1 ⟨rfl, rfl⟩; rw [hd])
    simp [bodyPost, results, Tryd.results49, go_sem]
    exact ⟨_, _, _, rfl⟩

theorem negR_ok (a : Int) (w : World) : Calls Tryd.prog 36 #[pv a] w fun e w' => e = .returned (pv (-a)) ∧ ∃ c1 c2 c3 c4 c5, w' = ((((w.alloc (.cells c1 59)).alloc (.cells c2 59)).alloc (.cells c3 59)).alloc (.cells c4 59)).alloc (.cells c5 59) := by
  obtain ⟨al, ah, ka, ⟨a1, a2⟩, ⟨a3, a4⟩, ea, qa⟩ := pv_split a
  obtain ⟨rl, rh, kr, _, _, er, _⟩ := pv_split (-a)
  rw [ea]
  have r1 : (Value.agg #[.int .i64 (-1 - al), .int .i64 (-1 - ah)]) = pv (-1 - a) := (pv_of (by unfold wrap64; omega) (by unfold wrap64; omega)).symm
  have r2 : (Value.agg #[.int .i64 1, .int .i64 0]) = pv 1 := (pv_of (by unfold wrap64; omega) (by unfold wrap64; omega)).symm
  have h1 := fun w => addR_ok (-1 - a) 1 w
  rw [← r1, ← r2, show -1 - a + 1 = -a by omega, er] at h1
  rw [er]
  clear ea qa r1 r2 er
  go_enter Tryd.func36, Tryd.ntmps36
  go_wp2_with (go_at_call 49; refine (h1 _).mono ?_; rintro e w1 ⟨rfl, c1, c2, c3, rfl⟩)
  simp [bodyPost, results, Tryd.results36, go_sem]
  exact ⟨_, _, _, _, _, rfl⟩

theorem twiceR_ok (a : Int) (w : World) : Calls Tryd.prog 73 #[pv a] w fun e w' => e = .returned (pv (a + a)) ∧ ∃ c1 c2 c3 c4 c5, w' = ((((w.alloc (.cells c1 59)).alloc (.cells c2 59)).alloc (.cells c3 59)).alloc (.cells c4 59)).alloc (.cells c5 59) := by
  obtain ⟨al, ah, ka, ⟨a1, a2⟩, ⟨a3, a4⟩, ea, qa⟩ := pv_split a
  obtain ⟨rl, rh, kr, _, _, er, _⟩ := pv_split (a + a)
  have h1 := fun w => addR_ok a a w
  rw [ea, er] at h1
  rw [ea, er]
  clear ea qa er
  go_enter Tryd.func73, Tryd.ntmps73
  go_wp2_with (go_at_call 49; refine (h1 _).mono ?_; rintro e w1 ⟨rfl, c1, c2, c3, rfl⟩)
  simp [bodyPost, results, Tryd.results73, go_sem]
  exact ⟨_, _, _, _, _, rfl⟩

theorem half_u (al : Int) : IntKind.u64.wrap ((IntKind.u64.wrap al).tdiv 2) = al % 18446744073709551616 / 2 := by
  rw [IntKind.wrap_u64, IntKind.wrap_u64, Int.tdiv_eq_ediv_of_nonneg (by omega)]
  omega

/-! ### Order -/
def cmpv (x y : Int) : Int := if x < y then -1 else if y < x then 1 else 0
def orv (x y : Int) : Int := if x = 0 then y else x

theorem ord_lt (ah bh al bl : Int) (h1 : 0 ≤ al) (h2 : al < 18446744073709551616) (h3 : 0 ≤ bl) (h4 : bl < 18446744073709551616) :
    decide (orv (cmpv ah bh) (cmpv al bl) < 0) = decide (ah * 18446744073709551616 + al < bh * 18446744073709551616 + bl) := by
  rw [decide_eq_decide]
  unfold orv cmpv
  by_cases g1 : ah < bh <;> by_cases g2 : bh < ah <;> by_cases g3 : al < bl <;> by_cases g4 : bl < al <;> simp [g1, g2, g3, g4] <;> omega

theorem ulessR_ok (a b : Int) (w : World) : Calls Tryd.prog 74 #[pv a, pv b] w fun e w' => e = .returned (.bool (decide (a % 340282366920938463463374607431768211456 < b % 340282366920938463463374607431768211456))) ∧ Calm w w' := by
  obtain ⟨al, ah, ka, ⟨a1, a2⟩, ⟨a3, a4⟩, ea, qa⟩ := pv_split a
  obtain ⟨bl, bh, kb, ⟨b1, b2⟩, ⟨b3, b4⟩, eb, qb⟩ := pv_split b
  rw [ea, eb]
  by_cases hh : ah = bh
  · subst hh
    have r : decide (a % 340282366920938463463374607431768211456 < b % 340282366920938463463374607431768211456) = decide (al % 18446744073709551616 < bl % 18446744073709551616) := by
      rw [decide_eq_decide]; omega
    rw [r]
    clear ea eb qa qb r
    go_enter Tryd.func74, Tryd.ntmps74
    go_wp2_with (go_at_call 62; refine (below_ok _ _ _).mono ?_; rintro e w1 ⟨rfl, rfl⟩)
    go_ret
    refine ⟨rfl, ?_⟩
    repeat (first | exact Calm.refl _ | apply Calm.drew | apply Calm.alloc)
  · have r : decide (a % 340282366920938463463374607431768211456 < b % 340282366920938463463374607431768211456) = decide (ah % 18446744073709551616 < bh % 18446744073709551616) := by
      rw [decide_eq_decide]; omega
    rw [r]
    have hb : (ah == bh) = false := by simpa using hh
    clear ea eb qa qb hh r
    go_enter Tryd.func74, Tryd.ntmps74
    go_wp2_with (go_at_call 62; refine (below_ok _ _ _).mono ?_; rintro e w1 ⟨rfl, rfl⟩)
    go_ret
    refine ⟨rfl, ?_⟩
    repeat (first | exact Calm.refl _ | apply Calm.drew | apply Calm.alloc)
end Go.Proofs.YtglchagfclafgaaDoor
