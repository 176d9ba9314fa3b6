/- The functions of the pair layer: twice, half, order. -/
import Derived.Test.YtjigjjkbgcnjdaaPairA
import Derived.Deep.RegionHeld3
namespace Go.Proofs.Ytjigjjkbgcnjdaa
open Go Go.RowKit
set_option linter.unusedSimpArgs false
set_option linter.unusedVariables false

theorem twice_ok (a : Int) (w : World) : Calls Try.prog 21 #[pv a] w fun e w' => e = .returned (pv (2 * a)) ∧ Calm w w' := by
  obtain ⟨al, ah, ka, ⟨a1, a2⟩, ⟨a3, a4⟩, ea, qa⟩ := pv_split a
  rw [ea]
  have r : pv (2 * a) = .agg #[.int .i64 (wrap64 (al * 2)), .int .i64 (bits .or .i64 (wrap64 (ah * 2)) (wrap64 (IntKind.u64.wrap al / 9223372036854775808)))] := by
    have e1 : wrap64 (IntKind.u64.wrap al / 9223372036854775808) = al % 18446744073709551616 / 9223372036854775808 := by rw [IntKind.wrap_u64]; unfold wrap64; omega
    rw [e1, or_bit_i64 (by unfold C64 wrap64; omega) (by unfold wrap64; omega) (by omega)]
    exact pv_of (by unfold wrap64; omega) (by unfold wrap64; omega)
  rw [r]
  clear ea qa r
  go_enter Try.func21, Try.ntmps21
  go_wp2
  simp [bodyPost, results, Try.results21, go_sem]
  exact ((Calm.refl _).alloc _).alloc _

/-- Signed pairs. -/
def S128 (a : Int) : Prop := -170141183460469231731687303715884105728 ≤ a ∧ a ≤ 170141183460469231731687303715884105727

theorem half_ok (a : Int) (ha : S128 a) (w : World) : Calls Try.prog 22 #[pv a] w fun e w' => e = .returned (pv (a / 2)) ∧ Calm w w' := by
  obtain ⟨al, ah, ka, ⟨a1, a2⟩, ⟨a3, a4⟩, ea, qa⟩ := pv_split a
  obtain ⟨s1, s2⟩ := ha
  rw [ea]
  have r : pv (a / 2) = .agg #[.int .i64 (wrap64 (bits .or .u64 (IntKind.u64.wrap al / 2) (IntKind.u64.wrap (IntKind.u64.wrap ah * 9223372036854775808)))), .int .i64 (ah / 2)] := by
    have hk : ka = 0 := by omega
    subst hk
    rw [or_comm_bits, IntKind.wrap_u64, IntKind.wrap_u64, IntKind.wrap_u64, or_join_u64 63 (by decide) (by omega) (by omega) (by omega) (by omega) (by omega)]
    exact pv_of (by unfold wrap64; omega) (by unfold wrap64; omega)
  rw [r]
  clear ea qa r
  go_enter Try.func22, Try.ntmps22
  go_wp2
  simp [bodyPost, results, Try.results22, go_sem]
  exact ((Calm.refl _).alloc _).alloc _

theorem ofR_ok (a : Int) (ha : C64 a) (w : World) : Calls Try.prog 31 #[.int .i64 a] w fun e w' => e = .returned (pv a) ∧ ∃ c, w' = w.alloc (.cells c 24) := by
  obtain ⟨h1, h2⟩ := ha
  by_cases hn : a < 0
  · rw [pv_of (lo := a) (hi := -1) (by unfold wrap64; omega) (by unfold wrap64; omega)]
    go_enter Try.func31, Try.ntmps31
    go_wp2
    simp [bodyPost, results, Try.results31, go_sem]
    exact ⟨_, rfl⟩
  · rw [pv_of (lo := a) (hi := 0) (by unfold wrap64; omega) (by unfold wrap64; omega)]
    go_enter Try.func31, Try.ntmps31
    go_wp2
    simp [bodyPost, results, Try.results31, go_sem]
    exact ⟨_, rfl⟩

theorem below_ok (x y : Int) (w : World) : Calls Try.prog 47 #[.int .i64 x, .int .i64 y] w fun e w' => e = .returned (.bool (decide (x % 18446744073709551616 < y % 18446744073709551616))) ∧ w' = w := by
  go_enter Try.func47, Try.ntmps47
  go_wp2
  go_ret
  simp [IntKind.wrap_u64]

theorem addR_ok (a b : Int) (w : World) : Calls Try.prog 27 #[pv a, pv b] w fun e w' => e = .returned (pv (a + b)) ∧ ∃ c1 c2 c3, w' = ((w.alloc (.cells c1 24)).alloc (.cells c2 24)).alloc (.cells c3 24) := by
  obtain ⟨al, ah, ka, ⟨a1, a2⟩, ⟨a3, a4⟩, ea, qa⟩ := pv_split a
  obtain ⟨bl, bh, kb, ⟨b1, b2⟩, ⟨b3, b4⟩, eb, qb⟩ := pv_split b
  rw [ea, eb]
  by_cases hlt : wrap64 (al + bl) % 18446744073709551616 < al % 18446744073709551616
  · have r : pv (a + b) = .agg #[.int .i64 (wrap64 (al + bl)), .int .i64 (wrap64 (wrap64 (ah + bh) + 1))] := by
      unfold wrap64 at hlt
      exact pv_of (by unfold wrap64; omega) (by unfold wrap64; omega)
    rw [r]
    clear ea eb qa qb r
    have hd : decide (wrap64 (al + bl) % 18446744073709551616 < al % 18446744073709551616) = true := by simpa using hlt
    clear hlt
    go_enter Try.func27, Try.ntmps27
    go_wp2_with (go_at_call 47; refine (below_ok _ _ _).mono ?_; rintro e w1 ⟨rfl, rfl⟩; rw [hd])
    simp [bodyPost, results, Try.results27, go_sem]
    exact ⟨_, _, _, rfl⟩
  · have r : pv (a + b) = .agg #[.int .i64 (wrap64 (al + bl)), .int .i64 (wrap64 (ah + bh))] := by
      unfold wrap64 at hlt
      exact pv_of (by unfold wrap64; omega) (by unfold wrap64; omega)
    rw [r]
    clear ea eb qa qb r
    have hd : decide (wrap64 (al + bl) % 18446744073709551616 < al % 18446744073709551616) = false := by simpa using hlt
    clear hlt
    go_enter Try.func27, Try.ntmps27
    go_wp2_with (go_at_call 47; refine (below_ok _ _ _).mono ?_; rintro e w1 ⟨rfl, rfl⟩; rw [hd])
    simp [bodyPost, results, Try.results27, go_sem]
    exact ⟨_, _, _, rfl⟩

theorem negR_ok (a : Int) (w : World) : Calls Try.prog 28 #[pv a] w fun e w' => e = .returned (pv (-a)) ∧ ∃ c1 c2 c3 c4 c5, w' = ((((w.alloc (.cells c1 24)).alloc (.cells c2 24)).alloc (.cells c3 24)).alloc (.cells c4 24)).alloc (.cells c5 24) := by
  obtain ⟨al, ah, ka, ⟨a1, a2⟩, ⟨a3, a4⟩, ea, qa⟩ := pv_split a
  obtain ⟨rl, rh, kr, _, _, er, _⟩ := pv_split (-a)
  rw [ea]
  have r1 : (Value.agg #[.int .i64 (-1 - al), .int .i64 (-1 - ah)]) = pv (-1 - a) := (pv_of (by unfold wrap64; omega) (by unfold wrap64; omega)).symm
  have r2 : (Value.agg #[.int .i64 1, .int .i64 0]) = pv 1 := (pv_of (by unfold wrap64; omega) (by unfold wrap64; omega)).symm
  have h1 := fun w => addR_ok (-1 - a) 1 w
  rw [← r1, ← r2, show -1 - a + 1 = -a by omega, er] at h1
  rw [er]
  clear ea qa r1 r2 er
  go_enter Try.func28, Try.ntmps28
  go_wp2_with (go_at_call 27; refine (h1 _).mono ?_; rintro e w1 ⟨rfl, c1, c2, c3, rfl⟩)
  simp [bodyPost, results, Try.results28, go_sem]
  exact ⟨_, _, _, _, _, rfl⟩

theorem twiceR_ok (a : Int) (w : World) : Calls Try.prog 29 #[pv a] w fun e w' => e = .returned (pv (a + a)) ∧ ∃ c1 c2 c3 c4 c5, w' = ((((w.alloc (.cells c1 24)).alloc (.cells c2 24)).alloc (.cells c3 24)).alloc (.cells c4 24)).alloc (.cells c5 24) := by
  obtain ⟨al, ah, ka, ⟨a1, a2⟩, ⟨a3, a4⟩, ea, qa⟩ := pv_split a
  obtain ⟨rl, rh, kr, _, _, er, _⟩ := pv_split (a + a)
  have h1 := fun w => addR_ok a a w
  rw [ea, er] at h1
  rw [ea, er]
  clear ea qa er
  go_enter Try.func29, Try.ntmps29
  go_wp2_with (go_at_call 27; refine (h1 _).mono ?_; rintro e w1 ⟨rfl, c1, c2, c3, rfl⟩)
  simp [bodyPost, results, Try.results29, go_sem]
  exact ⟨_, _, _, _, _, rfl⟩

theorem half_u (al : Int) : IntKind.u64.wrap ((IntKind.u64.wrap al).tdiv 2) = al % 18446744073709551616 / 2 := by
  rw [IntKind.wrap_u64, IntKind.wrap_u64, Int.tdiv_eq_ediv_of_nonneg (by omega)]
  omega

theorem halfR_ok (a : Int) (ha : S128 a) (w : World) : Calls Try.prog 30 #[pv a] w fun e w' => e = .returned (pv (a / 2)) ∧ Calm w w' := by
  obtain ⟨al, ah, ka, ⟨a1, a2⟩, ⟨a3, a4⟩, ea, qa⟩ := pv_split a
  obtain ⟨s1, s2⟩ := ha
  have hk : ka = 0 := by omega
  subst hk
  rw [ea]
  by_cases ho : ah % 2 = 0
  · have t1 : ah.tmod 2 = 0 := by
      by_cases hn : 0 ≤ ah
      · rw [Int.tmod_eq_emod_of_nonneg hn]; omega
      · have := Int.tmod_add_mul_tdiv ah 2; have := Int.tmod_lt_of_pos ah (show (0:Int) < 2 by decide); have := Int.lt_tmod_of_pos ah (show (0:Int) < 2 by decide); omega
    have t2 : ah.tdiv 2 = ah / 2 := by have := Int.tmod_add_mul_tdiv ah 2; omega
    have r : pv (a / 2) = .agg #[.int .i64 (wrap64 (IntKind.u64.wrap ((IntKind.u64.wrap al).tdiv 2))), .int .i64 (ah / 2)] := by
      rw [half_u]
      exact pv_of (by unfold wrap64; omega) (by unfold wrap64; omega)
    rw [r]
    have EA := Lib.hid ea
    clear ea qa r
    go_enter Try.func30, Try.ntmps30
    go_wp2
    all_goals (simp [bodyPost, results, Try.results30, go_sem]; exact ((Calm.refl _).alloc _).alloc _)
  · by_cases hn : 0 ≤ ah
    · have t1 : ah.tmod 2 = 1 := by rw [Int.tmod_eq_emod_of_nonneg hn]; omega
      have t2 : ah.tdiv 2 = ah / 2 := by rw [Int.tdiv_eq_ediv_of_nonneg hn]
      have r : pv (a / 2) = .agg #[.int .i64 (wrap64 (IntKind.u64.wrap (IntKind.u64.wrap ((IntKind.u64.wrap al).tdiv 2) + 9223372036854775808))), .int .i64 (ah / 2)] := by
        rw [half_u, IntKind.wrap_u64]
        exact pv_of (by unfold wrap64; omega) (by unfold wrap64; omega)
      rw [r]
      clear ea qa r ho
      go_enter Try.func30, Try.ntmps30
      go_wp2
      simp [bodyPost, results, Try.results30, go_sem]; exact ((Calm.refl _).alloc _).alloc _
    · have t1 : ah.tmod 2 = -1 := by
        have e : ah.tmod 2 = -((-ah).tmod 2) := by rw [← Int.neg_tmod, Int.neg_neg]
        rw [e, Int.tmod_eq_emod_of_nonneg (by omega)]
        omega
      have t2 : ah.tdiv 2 = ah / 2 + 1 := by have := Int.tmod_add_mul_tdiv ah 2; omega
      have r : pv (a / 2) = .agg #[.int .i64 (wrap64 (IntKind.u64.wrap (IntKind.u64.wrap ((IntKind.u64.wrap al).tdiv 2) + 9223372036854775808))), .int .i64 (ah / 2)] := by
        rw [half_u, IntKind.wrap_u64]
        exact pv_of (by unfold wrap64; omega) (by unfold wrap64; omega)
      rw [r]
      clear ea qa r ho
      go_enter Try.func30, Try.ntmps30
      go_wp2
      simp [bodyPost, results, Try.results30, go_sem]; exact ((Calm.refl _).alloc _).alloc _

/-! ### Order -/
def cmpv (x y : Int) : Int := if x < y then -1 else if y < x then 1 else 0
def orv (x y : Int) : Int := if x = 0 then y else x

theorem nan_ok (x : Int) (w : World) : Calls Try.prog 49 #[.int .i64 x] w fun e w' => e = .returned (.bool false) ∧ w' = w := by
  go_enter Try.func49, Try.ntmps49
  go_wp2
  go_ret
  simp
theorem nanU_ok (x : Int) (w : World) : Calls Try.prog 50 #[.int .u64 x] w fun e w' => e = .returned (.bool false) ∧ w' = w := by
  go_enter Try.func50, Try.ntmps50
  go_wp2
  go_ret
  simp

theorem cmp_ok (x y : Int) (w : World) : Calls Try.prog 45 #[.int .i64 x, .int .i64 y] w fun e w' => e = .returned (.int .i64 (cmpv x y)) ∧ w' = w := by
  unfold cmpv
  go_enter Try.func45, Try.ntmps45
  go_wp2_with (go_at_call 49; refine (nan_ok _ _).mono ?_; rintro e w1 ⟨rfl, rfl⟩)
  all_goals (go_ret; simp [*])
theorem cmpU_ok (x y : Int) (w : World) : Calls Try.prog 46 #[.int .u64 x, .int .u64 y] w fun e w' => e = .returned (.int .i64 (cmpv x y)) ∧ w' = w := by
  unfold cmpv
  go_enter Try.func46, Try.ntmps46
  go_wp2_with (go_at_call 50; refine (nanU_ok _ _).mono ?_; rintro e w1 ⟨rfl, rfl⟩)
  all_goals (go_ret; simp [*])

theorem or_ok (x y : Int) (w : World) {b : Nat} (h0 : w.cell? ⟨b, 0, none⟩ = some (.int .i64 x)) (h1 : w.cell? ⟨b, 1, none⟩ = some (.int .i64 y)) :
    Calls Try.prog 44 #[.slice (some ⟨b, 0, none⟩) 2 2] w fun e w' => e = .returned (.int .i64 (orv x y)) ∧ w' = w := by
  generalize hr : orv x y = r
  have HR := Lib.hid hr
  clear hr
  go_enter Try.func44, Try.ntmps44
  go_wp2_with fail
  go_loopg [8] 2 (fun g v wr => ∃ i : Nat, g = 2 - i ∧ i ≤ 2 ∧ v = .int .i64 i ∧ wr = w ∧ (1 ≤ i → x = 0) ∧ (2 ≤ i → y = 0))
  case atStart => exact ⟨0, rfl, by omega, rfl, rfl, by omega, by omega⟩
  case round =>
    obtain ⟨i, hg, hi, rfl, rfl, k1, k2⟩ := hrel
    have HG := Lib.hid hg
    have K1 := Lib.hid k1
    have K2 := Lib.hid k2
    clear hg k1 k2
    obtain rfl | rfl | rfl : i = 0 ∨ i = 1 ∨ i = 2 := by omega
    · by_cases hx : x = 0
      · have hb : (x == 0) = true := by simpa using hx
        have HX := Lib.hid hx
        clear hx
        go_wp2
        go_roundg 1
        case measure => rw [HG.out]; decide
        case rel => exact ⟨1, rfl, by omega, rfl, rfl, fun _ => HX.out, by omega⟩
      · have hb : (x == 0) = false := by simpa using hx
        go_wp2
        go_ret
        exact ⟨by show Ending.returned (.int .i64 x) = _; rw [← HR.out, orv, if_neg hx], rfl⟩
    · have hx := K1.out (by omega)
      have HX := Lib.hid hx
      clear hx
      by_cases hy : y = 0
      · have hb : (y == 0) = true := by simpa using hy
        have HY := Lib.hid hy
        clear hy
        go_wp2
        go_roundg 0
        case measure => rw [HG.out]; decide
        case rel => exact ⟨2, rfl, by omega, rfl, rfl, fun _ => HX.out, fun _ => HY.out⟩
      · have hb : (y == 0) = false := by simpa using hy
        go_wp2
        go_ret
        exact ⟨by show Ending.returned (.int .i64 y) = _; rw [← HR.out, orv, if_pos HX.out], rfl⟩
    · have hx := K1.out (by omega)
      have hy := K2.out (by omega)
      have HX := Lib.hid hx
      have HY := Lib.hid hy
      clear hx hy
      go_wp2
      go_ret
      exact ⟨by show Ending.returned (.int .i64 0) = _; rw [← HR.out, orv, if_pos HX.out, HY.out], rfl⟩

theorem ord_lt (ah bh al bl : Int) (h1 : 0 ≤ al) (h2 : al < 18446744073709551616) (h3 : 0 ≤ bl) (h4 : bl < 18446744073709551616) :
    decide (orv (cmpv ah bh) (cmpv al bl) < 0) = decide (ah * 18446744073709551616 + al < bh * 18446744073709551616 + bl) := by
  rw [decide_eq_decide]
  unfold orv cmpv
  by_cases g1 : ah < bh <;> by_cases g2 : bh < ah <;> by_cases g3 : al < bl <;> by_cases g4 : bl < al <;> simp [g1, g2, g3, g4] <;> omega

theorem less_raw (al ah bl bh : Int) (w : World) : Calls Try.prog 24 #[.agg #[.int .i64 al, .int .i64 ah], .agg #[.int .i64 bl, .int .i64 bh]] w fun e w' =>
    e = .returned (.bool (decide (ah * 18446744073709551616 + al % 18446744073709551616 < bh * 18446744073709551616 + bl % 18446744073709551616))) ∧ Calm w w' := by
  rw [← ord_lt _ _ _ _ (by omega) (by omega) (by omega) (by omega)]
  rw [← IntKind.wrap_u64, ← IntKind.wrap_u64]
  generalize hr : decide (orv (cmpv ah bh) (cmpv (IntKind.u64.wrap al) (IntKind.u64.wrap bl)) < 0) = r
  have HR := Lib.hid hr
  clear hr
  go_enter Try.func24, Try.ntmps24
  go_wp2_with fail
  go_region_held3 (fun W => W.cell? ⟨w.heap.size, 0, none⟩ = some (.int .i64 al) ∧ W.cell? ⟨w.heap.size, 1, none⟩ = some (.int .i64 ah) ∧ W.cell? ⟨w.heap.size + 1, 0, none⟩ = some (.int .i64 bl) ∧ W.cell? ⟨w.heap.size + 1, 1, none⟩ = some (.int .i64 bh)) (simp [go_sem, World.cell?_alloc_past])
    (first
      | (go_at_call 45; refine (cmp_ok _ _ _).mono ?_; rintro e w' ⟨rfl, rfl⟩)
      | (go_at_call 46; refine (cmpU_ok _ _ _).mono ?_; rintro e w' ⟨rfl, rfl⟩)
      | (go_at_call 44; refine (or_ok (cmpv ah bh) (cmpv (IntKind.u64.wrap al) (IntKind.u64.wrap bl)) _ (by simp [go_sem]) (by simp [go_sem])).mono ?_; rintro e w' ⟨rfl, rfl⟩))
  go_wp2
  go_ret
  exact ⟨by show Ending.returned (.bool (decide (orv (cmpv ah bh) (cmpv (IntKind.u64.wrap al) (IntKind.u64.wrap bl)) < 0))) = _; rw [HR.out], by repeat (first | exact Calm.refl _ | apply Calm.drew | apply Calm.alloc)⟩

/-- Pairs with signs. -/
theorem less_ok (a b : Int) (ha : S128 a) (hb : S128 b) (w : World) : Calls Try.prog 24 #[pv a, pv b] w fun e w' => e = .returned (.bool (decide (a < b))) ∧ Calm w w' := by
  obtain ⟨al, ah, ka, ⟨a1, a2⟩, ⟨a3, a4⟩, ea, qa⟩ := pv_split a
  obtain ⟨bl, bh, kb, ⟨b1, b2⟩, ⟨b3, b4⟩, eb, qb⟩ := pv_split b
  obtain ⟨s1, s2⟩ := ha
  obtain ⟨s3, s4⟩ := hb
  have h := less_raw al ah bl bh w
  rw [← ea, ← eb, show ah * 18446744073709551616 + al % 18446744073709551616 = a by omega, show bh * 18446744073709551616 + bl % 18446744073709551616 = b by omega] at h
  exact h

/-- The sign bit turned: from without signs to with. -/
theorem uless_ok (a b : Int) (w : World) : Calls Try.prog 25 #[pv a, pv b] w fun e w' => e = .returned (.bool (decide (a % 340282366920938463463374607431768211456 < b % 340282366920938463463374607431768211456))) ∧ Calm w w' := by
  obtain ⟨al, ah, ka, ⟨a1, a2⟩, ⟨a3, a4⟩, ea, qa⟩ := pv_split a
  obtain ⟨bl, bh, kb, ⟨b1, b2⟩, ⟨b3, b4⟩, eb, qb⟩ := pv_split b
  rw [ea, eb]
  have r : decide (a % 340282366920938463463374607431768211456 < b % 340282366920938463463374607431768211456) = decide (bits .xor .i64 ah (-9223372036854775808) * 18446744073709551616 + al % 18446744073709551616 < bits .xor .i64 bh (-9223372036854775808) * 18446744073709551616 + bl % 18446744073709551616) := by
    rw [decide_eq_decide, xor_top ⟨a3, a4⟩, xor_top ⟨b3, b4⟩]
    split <;> split <;> omega
  rw [r]
  clear ea eb qa qb r
  have h := less_raw al (bits .xor .i64 ah (-9223372036854775808)) bl (bits .xor .i64 bh (-9223372036854775808))
  generalize decide (bits .xor .i64 ah (-9223372036854775808) * 18446744073709551616 + al % 18446744073709551616 < bits .xor .i64 bh (-9223372036854775808) * 18446744073709551616 + bl % 18446744073709551616) = r at h ⊢
  go_enter Try.func25, Try.ntmps25
  go_wp2_with (go_at_call 24; refine (h _).mono ?_; rintro e w1 ⟨rfl, s1⟩)
  go_ret
  refine ⟨rfl, Calm.trans ?_ s1⟩
  repeat (first | exact Calm.refl _ | apply Calm.drew | apply Calm.alloc)

theorem lessR_raw (al ah bl bh : Int) (w : World) : Calls Try.prog 32 #[.agg #[.int .i64 al, .int .i64 ah], .agg #[.int .i64 bl, .int .i64 bh]] w fun e w' =>
    e = .returned (.bool (decide (ah * 18446744073709551616 + al % 18446744073709551616 < bh * 18446744073709551616 + bl % 18446744073709551616))) ∧ Calm w w' := by
  by_cases hh : ah = bh
  · subst hh
    have r : decide (ah * 18446744073709551616 + al % 18446744073709551616 < ah * 18446744073709551616 + bl % 18446744073709551616) = decide (al % 18446744073709551616 < bl % 18446744073709551616) := by
      rw [decide_eq_decide]; omega
    rw [r]
    go_enter Try.func32, Try.ntmps32
    go_wp2_with (go_at_call 47; refine (below_ok _ _ _).mono ?_; rintro e w1 ⟨rfl, rfl⟩)
    go_ret
    refine ⟨rfl, ?_⟩
    repeat (first | exact Calm.refl _ | apply Calm.drew | apply Calm.alloc)
  · have r : decide (ah * 18446744073709551616 + al % 18446744073709551616 < bh * 18446744073709551616 + bl % 18446744073709551616) = decide (ah < bh) := by
      rw [decide_eq_decide]; omega
    rw [r]
    have hb : (ah == bh) = false := by simpa using hh
    clear hh r
    go_enter Try.func32, Try.ntmps32
    go_wp2
    go_ret
    refine ⟨rfl, ?_⟩
    repeat (first | exact Calm.refl _ | apply Calm.drew | apply Calm.alloc)

theorem lessR_ok (a b : Int) (ha : S128 a) (hb : S128 b) (w : World) : Calls Try.prog 32 #[pv a, pv b] w fun e w' => e = .returned (.bool (decide (a < b))) ∧ Calm w w' := by
  obtain ⟨al, ah, ka, ⟨a1, a2⟩, ⟨a3, a4⟩, ea, qa⟩ := pv_split a
  obtain ⟨bl, bh, kb, ⟨b1, b2⟩, ⟨b3, b4⟩, eb, qb⟩ := pv_split b
  obtain ⟨s1, s2⟩ := ha
  obtain ⟨s3, s4⟩ := hb
  have h := lessR_raw al ah bl bh w
  rw [← ea, ← eb, show ah * 18446744073709551616 + al % 18446744073709551616 = a by omega, show bh * 18446744073709551616 + bl % 18446744073709551616 = b by omega] at h
  exact h

theorem ulessR_ok (a b : Int) (w : World) : Calls Try.prog 33 #[pv a, pv b] w fun e w' => e = .returned (.bool (decide (a % 340282366920938463463374607431768211456 < b % 340282366920938463463374607431768211456))) ∧ Calm w w' := by
  obtain ⟨al, ah, ka, ⟨a1, a2⟩, ⟨a3, a4⟩, ea, qa⟩ := pv_split a
  obtain ⟨bl, bh, kb, ⟨b1, b2⟩, ⟨b3, b4⟩, eb, qb⟩ := pv_split b
  rw [ea, eb]
  by_cases hh : ah = bh
  · subst hh
    have r : decide (a % 340282366920938463463374607431768211456 < b % 340282366920938463463374607431768211456) = decide (al % 18446744073709551616 < bl % 18446744073709551616) := by
      rw [decide_eq_decide]; omega
    rw [r]
    clear ea eb qa qb r
    go_enter Try.func33, Try.ntmps33
    go_wp2_with (go_at_call 47; refine (below_ok _ _ _).mono ?_; rintro e w1 ⟨rfl, rfl⟩)
    go_ret
    refine ⟨rfl, ?_⟩
    repeat (first | exact Calm.refl _ | apply Calm.drew | apply Calm.alloc)
  · have r : decide (a % 340282366920938463463374607431768211456 < b % 340282366920938463463374607431768211456) = decide (ah % 18446744073709551616 < bh % 18446744073709551616) := by
      rw [decide_eq_decide]; omega
    rw [r]
    have hb : (ah == bh) = false := by simpa using hh
    clear ea eb qa qb hh r
    go_enter Try.func33, Try.ntmps33
    go_wp2_with (go_at_call 47; refine (below_ok _ _ _).mono ?_; rintro e w1 ⟨rfl, rfl⟩)
    go_ret
    refine ⟨rfl, ?_⟩
    repeat (first | exact Calm.refl _ | apply Calm.drew | apply Calm.alloc)
end Go.Proofs.Ytjigjjkbgcnjdaa
