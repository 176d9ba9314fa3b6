/- math/bits: Len64, LeadingZeros64, Div64. -/
import Derived.Test.YtfeeikhcdphcpaaPairC
import Derived.Lib.Strings
import Derived.Lib.Slices
import Derived.Lib.Small
import Derived.Lib.Walk
import Derived.Lib.BitFns
namespace Go.Proofs.Ytfeeikhcdphcpaa
open Go Go.RowKit
set_option linter.unusedSimpArgs false
set_option linter.unusedVariables false

/-- The table at what is left behind a shift. -/
theorem len_part (x y : Int) (k : Nat) (h0 : 0 ≤ x) (h1 : x < 18446744073709551616) (hy : y.toNat = x.toNat / 2 ^ k) (hy0 : 0 ≤ y) (hy1 : y ≤ 255) (hk : k = 0 ∨ 2 ^ k ≤ x.toNat) :
    Lib.len8 y = (Lib.bitLen x.toNat : Int) - k ∧ k ≤ Lib.bitLen x.toNat ∧ Lib.bitLen x.toNat ≤ k + 8 := by
  rw [Lib.len8_of y hy0 hy1]
  have hl := Lib.bitLen_le8' y hy0 hy1
  rw [hy] at hl ⊢
  rcases hk with rfl | hk
  · simp at hl ⊢; omega
  · have := Lib.bitLen_shift k x.toNat hk (by omega)
    omega

set_option maxHeartbeats 4000000 in
set_option maxRecDepth 100000 in
theorem len64_ok (x : Int) (h0 : 0 ≤ x) (h1 : x < 18446744073709551616) (w : World) : Calls Try.prog 59 #[.int .u64 x] w fun e w' => e = .returned (.int .i64 (Lib.bitLen x.toNat)) ∧ w' = w := by
  by_cases ha : 4294967296 ≤ x
  · by_cases hb : 65536 ≤ x / 4294967296
    · by_cases hc : 256 ≤ x / 4294967296 / 65536
      · have h := len_part x (x / 4294967296 / 65536 / 256) 56 h0 h1 (by omega) (by omega) (by omega) (by omega)
        have y0 : 0 ≤ x / 4294967296 / 65536 / 256 := by omega
        have y1 : x / 4294967296 / 65536 / 256 ≤ 255 := by omega
        have y2 : x / 4294967296 / 65536 / 256 < 256 := by omega
        have H := Lib.hid h
        clear h
        go_enter Try.func59, Try.ntmps59
        go_wp2
        go_ret
        refine ⟨congrArg Ending.returned (congrArg (Value.int IntKind.i64) ?_), rfl⟩
        have h := H.out
        rw [h.1]
        unfold wrap64
        omega
      · have h := len_part x (x / 4294967296 / 65536) 48 h0 h1 (by omega) (by omega) (by omega) (by omega)
        have y0 : 0 ≤ x / 4294967296 / 65536 := by omega
        have y1 : x / 4294967296 / 65536 ≤ 255 := by omega
        have y2 : x / 4294967296 / 65536 < 256 := by omega
        have H := Lib.hid h
        clear h
        go_enter Try.func59, Try.ntmps59
        go_wp2
        go_ret
        refine ⟨congrArg Ending.returned (congrArg (Value.int IntKind.i64) ?_), rfl⟩
        have h := H.out
        rw [h.1]
        unfold wrap64
        omega
    · by_cases hc : 256 ≤ x / 4294967296
      · have h := len_part x (x / 4294967296 / 256) 40 h0 h1 (by omega) (by omega) (by omega) (by omega)
        have y0 : 0 ≤ x / 4294967296 / 256 := by omega
        have y1 : x / 4294967296 / 256 ≤ 255 := by omega
        have y2 : x / 4294967296 / 256 < 256 := by omega
        have H := Lib.hid h
        clear h
        go_enter Try.func59, Try.ntmps59
        go_wp2
        go_ret
        refine ⟨congrArg Ending.returned (congrArg (Value.int IntKind.i64) ?_), rfl⟩
        have h := H.out
        rw [h.1]
        unfold wrap64
        omega
      · have h := len_part x (x / 4294967296) 32 h0 h1 (by omega) (by omega) (by omega) (by omega)
        have y0 : 0 ≤ x / 4294967296 := by omega
        have y1 : x / 4294967296 ≤ 255 := by omega
        have y2 : x / 4294967296 < 256 := by omega
        have H := Lib.hid h
        clear h
        go_enter Try.func59, Try.ntmps59
        go_wp2
        go_ret
        refine ⟨congrArg Ending.returned (congrArg (Value.int IntKind.i64) ?_), rfl⟩
        have h := H.out
        rw [h.1]
        unfold wrap64
        omega
  · by_cases hb : 65536 ≤ x
    · by_cases hc : 256 ≤ x / 65536
      · have h := len_part x (x / 65536 / 256) 24 h0 h1 (by omega) (by omega) (by omega) (by omega)
        have y0 : 0 ≤ x / 65536 / 256 := by omega
        have y1 : x / 65536 / 256 ≤ 255 := by omega
        have y2 : x / 65536 / 256 < 256 := by omega
        have H := Lib.hid h
        clear h
        go_enter Try.func59, Try.ntmps59
        go_wp2
        go_ret
        refine ⟨congrArg Ending.returned (congrArg (Value.int IntKind.i64) ?_), rfl⟩
        have h := H.out
        rw [h.1]
        unfold wrap64
        omega
      · have h := len_part x (x / 65536) 16 h0 h1 (by omega) (by omega) (by omega) (by omega)
        have y0 : 0 ≤ x / 65536 := by omega
        have y1 : x / 65536 ≤ 255 := by omega
        have y2 : x / 65536 < 256 := by omega
        have H := Lib.hid h
        clear h
        go_enter Try.func59, Try.ntmps59
        go_wp2
        go_ret
        refine ⟨congrArg Ending.returned (congrArg (Value.int IntKind.i64) ?_), rfl⟩
        have h := H.out
        rw [h.1]
        unfold wrap64
        omega
    · by_cases hc : 256 ≤ x
      · have h := len_part x (x / 256) 8 h0 h1 (by omega) (by omega) (by omega) (by omega)
        have y0 : 0 ≤ x / 256 := by omega
        have y1 : x / 256 ≤ 255 := by omega
        have y2 : x / 256 < 256 := by omega
        have H := Lib.hid h
        clear h
        go_enter Try.func59, Try.ntmps59
        go_wp2
        go_ret
        refine ⟨congrArg Ending.returned (congrArg (Value.int IntKind.i64) ?_), rfl⟩
        have h := H.out
        rw [h.1]
        unfold wrap64
        omega
      · have h := len_part x (x) 0 h0 h1 (by omega) (by omega) (by omega) (by omega)
        have y0 : 0 ≤ x := by omega
        have y1 : x ≤ 255 := by omega
        have y2 : x < 256 := by omega
        have H := Lib.hid h
        clear h
        go_enter Try.func59, Try.ntmps59
        go_wp2
        go_ret
        refine ⟨congrArg Ending.returned (congrArg (Value.int IntKind.i64) ?_), rfl⟩
        have h := H.out
        rw [h.1]
        unfold wrap64
        omega

theorem bla : ∀ (f x : Nat), x < 2 ^ f → Lib.bitLenAux f x ≤ f ∧ x < 2 ^ Lib.bitLenAux f x ∧ (x ≠ 0 → 1 ≤ Lib.bitLenAux f x ∧ 2 ^ (Lib.bitLenAux f x - 1) ≤ x)
  | 0, x, h => by
    have : x = 0 := by simpa using h
    subst this
    simp [Lib.bitLenAux]
  | f + 1, x, h => by
    unfold Lib.bitLenAux
    by_cases hx : x = 0
    · subst hx; simp
    · rw [if_neg hx]
      obtain ⟨h1, h2, h3⟩ := bla f (x / 2) (by rw [Nat.pow_succ] at h; omega)
      refine ⟨by omega, ?_, fun _ => ⟨by omega, ?_⟩⟩
      · rw [Nat.add_comm, Nat.pow_succ]; omega
      · rw [Nat.add_sub_cancel_left]
        by_cases h0 : x / 2 = 0
        · rw [h0]
          cases f <;> simp [Lib.bitLenAux] <;> omega
        · obtain ⟨h4, h5⟩ := h3 h0
          obtain ⟨m, hm⟩ : ∃ m, Lib.bitLenAux f (x / 2) = m + 1 := ⟨_, (Nat.sub_add_cancel h4).symm⟩
          rw [hm] at h5 ⊢
          rw [Nat.add_sub_cancel] at h5
          rw [Nat.pow_succ]; omega

/-- How far a divisor is shifted up. -/
theorem lz64_ok (y : Nat) (h0 : 0 < y) (h1 : y < 18446744073709551616) : ∃ s : Nat, s ≤ 63 ∧ 9223372036854775808 ≤ y * 2 ^ s ∧ y * 2 ^ s < 18446744073709551616 ∧
    ∀ w, Calls Try.prog 55 #[.int .u64 y] w fun e w' => e = .returned (.int .i64 (s : Int)) ∧ w' = w := by
  obtain ⟨b1, b2, b3⟩ := bla 64 y (by omega)
  obtain ⟨b4, b5⟩ := b3 (by omega)
  have h51 := fun w => len64_ok y (by omega) (by omega) w
  simp only [Int.toNat_natCast] at h51
  unfold Lib.bitLen at h51
  generalize Lib.bitLenAux 64 y = n at *
  obtain ⟨m, rfl⟩ : ∃ m, n = m + 1 := ⟨n - 1, by omega⟩
  have e1 : 2 ^ (m + 1) * 2 ^ (64 - (m + 1)) = 18446744073709551616 := by
    rw [← Nat.pow_add, show m + 1 + (64 - (m + 1)) = 64 by omega]
  have e2 : 2 ^ m * 2 ^ (64 - (m + 1)) = 9223372036854775808 := by
    rw [← Nat.pow_add, show m + (64 - (m + 1)) = 63 by omega]
  have hp : 0 < 2 ^ (64 - (m + 1)) := Nat.two_pow_pos _
  refine ⟨64 - (m + 1), by omega, ?_, ?_, fun w => ?_⟩
  · rw [← e2]; exact Nat.mul_le_mul_right _ b5
  · rw [← e1]; exact Nat.mul_lt_mul_of_pos_right b2 hp
  · have e3 : 64 - ((m + 1 : Nat) : Int) = ((64 - (m + 1) : Nat) : Int) := by omega
    rw [← e3]
    have h := h51 w
    generalize ((m + 1 : Nat) : Int) = N at *
    have HE := Lib.hid e3
    clear e1 e2 b2 b5 b3 e3
    have hN : N ≤ 64 ∧ 0 ≤ N := by have := HE.out; omega
    obtain ⟨hN, hN0⟩ := hN
    go_enter Try.func55, Try.ntmps55
    go_wp2_with (go_at_call 59; refine h.mono ?_; rintro e w1 ⟨rfl, rfl⟩)
    go_ret
    exact ⟨rfl, rfl⟩

/-- The dividend, shifted up, in halves. -/
theorem div_parts (hi lo y s : Nat) (h1 : hi < y) (h2 : lo < 18446744073709551616) (s0 : hi ≠ 0) (s1 : s ≤ 63) (s2 : 9223372036854775808 ≤ y * 2 ^ s) (s3 : y * 2 ^ s < 18446744073709551616) :
    ∃ u u1 u0 : Nat, u1 < 4294967296 ∧ u0 < 4294967296 ∧ u < y * 2 ^ s ∧ (hi * 18446744073709551616 + lo) * 2 ^ s = (u * 4294967296 + u1) * 4294967296 + u0 ∧
      bits .or .u64 (IntKind.u64.wrap ((hi : Int) * 2 ^ s)) ((lo : Int) / 2 ^ (64 - s)) = (u : Int) ∧ IntKind.u64.wrap ((lo : Int) * 2 ^ s) = ((u1 * 4294967296 + u0 : Nat) : Int) := by
  have hp : 0 < 2 ^ s := Nat.two_pow_pos s
  have hq : 0 < 2 ^ (64 - s) := Nat.two_pow_pos _
  have he : 2 ^ (64 - s) * 2 ^ s = 18446744073709551616 := by rw [← Nat.pow_add, show 64 - s + s = 64 by omega]
  have hhs : hi * 2 ^ s < y * 2 ^ s := Nat.mul_lt_mul_of_pos_right h1 hp
  have hd := Nat.div_add_mod lo (2 ^ (64 - s))
  have hm := Nat.mod_lt lo hq
  have hds : lo / 2 ^ (64 - s) < 2 ^ s := by rw [Nat.div_lt_iff_lt_mul hq, Nat.mul_comm, he]; exact h2
  have hms : lo % 2 ^ (64 - s) * 2 ^ s < 18446744073709551616 := by rw [← he]; exact Nat.mul_lt_mul_of_pos_right hm hp
  have hls : lo * 2 ^ s = 18446744073709551616 * (lo / 2 ^ (64 - s)) + lo % 2 ^ (64 - s) * 2 ^ s := by
    conv => lhs; rw [← hd]
    rw [Nat.add_mul, Nat.mul_right_comm, he]
  have hy1 : (hi + 1) * 2 ^ s ≤ y * 2 ^ s := Nat.mul_le_mul_right _ h1
  rw [Nat.add_mul, Nat.one_mul] at hy1
  refine ⟨hi * 2 ^ s + lo / 2 ^ (64 - s), lo % 2 ^ (64 - s) * 2 ^ s / 4294967296, lo % 2 ^ (64 - s) * 2 ^ s % 4294967296, by omega, by omega, by omega, ?_, ?_, ?_⟩
  · rw [Nat.add_mul, hls, Nat.mul_right_comm]
    generalize hi * 2 ^ s = a at *
    generalize lo / 2 ^ (64 - s) = b at *
    generalize lo % 2 ^ (64 - s) * 2 ^ s = c at *
    omega
  · have e1 : IntKind.u64.wrap ((hi : Int) * 2 ^ s) = ((hi * 2 ^ s : Nat) : Int) := by
      rw [IntKind.wrap_u64, Int.natCast_mul, Int.natCast_pow]
      have : ((hi * 2 ^ s : Nat) : Int) < 18446744073709551616 := by omega
      rw [Int.natCast_mul, Int.natCast_pow] at this
      refine Int.emod_eq_of_lt (Int.mul_nonneg (by omega) (Int.le_of_lt (Int.pow_pos (by decide)))) this
    have e2 : (lo : Int) / 2 ^ (64 - s) = ((lo / 2 ^ (64 - s) : Nat) : Int) := by
      rw [Int.natCast_ediv, Int.natCast_pow]; rfl
    rw [e1, e2, Int.natCast_add]
    refine or_join_u64 s (by omega) (by omega) (by omega) ?_ (by omega) ?_
    · rw [Int.natCast_mul, Int.natCast_pow]; exact Int.mul_emod_left _ _
    · exact_mod_cast hds
  · rw [IntKind.wrap_u64]
    have e3 : (lo : Int) * 2 ^ s = ((lo * 2 ^ s : Nat) : Int) := by rw [Int.natCast_mul, Int.natCast_pow]; rfl
    rw [e3, hls]
    generalize lo / 2 ^ (64 - s) = b at *
    generalize lo % 2 ^ (64 - s) * 2 ^ s = c at *
    omega

theorem half_hi (a b : Nat) (h : b < 4294967296) : ((a * 4294967296 + b : Nat) : Int) / 4294967296 = (a : Int) := by omega
theorem half_lo (a b : Nat) (h : b < 4294967296) (h2 : a < 4294967296) : bits .and .u64 ((a * 4294967296 + b : Nat) : Int) 4294967295 = (b : Int) := by
  have := nmask (a * 4294967296 + b) (by omega)
  rw [this, show (a * 4294967296 + b) % 4294967296 = b by omega]
theorem nsub (a b : Nat) (h : b ≤ a) (ha : a < 18446744073709551616) : IntKind.u64.wrap ((a : Int) - (b : Int)) = ((a - b : Nat) : Int) := by rw [IntKind.wrap_u64]; omega

theorem kn_quot {a b N y hi lo : Nat} (h : a * 4294967296 + b = N / y) (h1 : hi < y) (h2 : lo < 18446744073709551616) (hN : N = hi * 18446744073709551616 + lo := by rfl) :
    IntKind.u64.wrap (IntKind.u64.wrap ((a : Int) * 4294967296) + (b : Int)) = ((N / y : Nat) : Int) := by
  have hq : N / y < 18446744073709551616 := by
    rw [Nat.div_lt_iff_lt_mul (by omega), hN]
    have : hi + 1 ≤ y := h1
    have := Nat.mul_le_mul_left 18446744073709551616 this
    omega
  rw [IntKind.wrap_u64, IntKind.wrap_u64, ← h]
  omega

theorem kn_quot3 {a b N : Nat} (h : a * 4294967296 + b = N) (hN : N < 18446744073709551616) :
    IntKind.u64.wrap (IntKind.u64.wrap ((a : Int) * 4294967296) + (b : Int)) = (N : Int) ∧ IntKind.u64.wrap ((a : Int) * 4294967296 + (b : Int)) = (N : Int) ∧ (a : Int) * 4294967296 + (b : Int) = (N : Int) := by
  rw [IntKind.wrap_u64, IntKind.wrap_u64, IntKind.wrap_u64]
  omega

theorem kn_less {q v1 r u Q : Nat} (h : q * v1 + r = u) (h0 : 0 < q) (h1 : q ≤ 4294967298) (ht : Q < q) : ∃ p : Nat, q = p + 1 ∧ (q : Int) - 1 = (p : Int) ∧ IntKind.u64.wrap ((q : Int) - 1) = (p : Int) ∧ p * v1 + (r + v1) = u ∧ Q ≤ p := by
  refine ⟨q - 1, by omega, by omega, by rw [IntKind.wrap_u64]; omega, ?_, by omega⟩
  rw [← h]
  obtain ⟨p, rfl⟩ : ∃ p, q = p + 1 := ⟨q - 1, by omega⟩
  rw [Nat.add_sub_cancel, Nat.add_mul]
  omega

theorem kn_rest (a b q V r : Nat) {A : Int} (hA : (V : Int) = A) (h : q * V + r = a * 4294967296 + b) (hr : r < 18446744073709551616) :
    IntKind.u64.wrap (IntKind.u64.wrap (IntKind.u64.wrap ((a : Int) * 4294967296) + (b : Int)) - IntKind.u64.wrap ((q : Int) * A)) = (r : Int) := by
  subst hA
  rw [IntKind.wrap_u64, IntKind.wrap_u64, IntKind.wrap_u64, IntKind.wrap_u64, nmul]
  generalize q * V = p at *
  omega

set_option maxHeartbeats 8000000 in
set_option maxRecDepth 100000 in
theorem div64_ok (hi lo y : Nat) (h1 : hi < y) (h2 : lo < 18446744073709551616) (h3 : y < 18446744073709551616) (w : World) :
    Calls Try.prog 45 #[.int .u64 hi, .int .u64 lo, .int .u64 y] w fun e w' => e = .returned (.tuple #[.int .u64 (((hi * 18446744073709551616 + lo) / y : Nat) : Int), .int .u64 (((hi * 18446744073709551616 + lo) % y : Nat) : Int)]) ∧ Calm w w' := by
  by_cases hz : hi = 0
  · subst hz
    rw [Nat.zero_mul, Nat.zero_add]
    have y1 : 0 < (y : Int) := by omega
    have e1 : IntKind.u64.wrap ((lo : Int) / (y : Int)) = ((lo / y : Nat) : Int) := by
      have : lo / y ≤ lo := Nat.div_le_self _ _
      rw [IntKind.wrap_u64, ← Int.natCast_ediv]
      generalize lo / y = q at *
      omega
    have e2 : (lo : Int) % (y : Int) = ((lo % y : Nat) : Int) := (Int.natCast_emod _ _).symm
    have E1 := Lib.hid e1
    have E2 := Lib.hid e2
    clear e1 e2
    have hy0 : ((y : Int) == 0) = false := by simp; omega
    go_enter Try.func45, Try.ntmps45
    go_wp2
    go_quiet (fail)
    go_wp2
    go_ret2
    exact ⟨by show Ending.returned (.tuple #[.int .u64 (IntKind.u64.wrap ((lo : Int) / (y : Int))), .int .u64 ((lo : Int) % (y : Int))]) = _; rw [E1.out, E2.out], (Calm.refl _).drewN _⟩
  · have hNQL : (hi * 18446744073709551616 + lo) / y < 18446744073709551616 := by
      rw [Nat.div_lt_iff_lt_mul (by omega)]
      have := Nat.mul_le_mul_left 18446744073709551616 (show hi + 1 ≤ y from h1)
      omega
    generalize hNQ : (hi * 18446744073709551616 + lo) / y = NQ at hNQL ⊢
    generalize hNR : (hi * 18446744073709551616 + lo) % y = NR
    have HNQ := Lib.hid hNQ
    have HNR := Lib.hid hNR
    have HNQL := Lib.hid hNQL
    clear hNQ hNR hNQL
    obtain ⟨s, s1, s2, s3, hs⟩ := lz64_ok y (by omega) h3
    obtain ⟨u, u1, u0, u1l, u0l, hul, hN, hU, hL⟩ := div_parts hi lo y s h1 h2 hz s1 s2 s3
    obtain ⟨v1, v0, hv1, hv0, hv1l, hVV⟩ : ∃ v1 v0 : Nat, 2147483648 ≤ v1 ∧ v0 < 4294967296 ∧ v1 < 4294967296 ∧ y * 2 ^ s = v1 * 4294967296 + v0 := ⟨y * 2 ^ s / 4294967296, y * 2 ^ s % 4294967296, by omega, by omega, by omega, by omega⟩
    have hV : IntKind.u64.wrap ((y : Int) * 2 ^ s) = ((v1 * 4294967296 + v0 : Nat) : Int) := by
      have e3 : (y : Int) * 2 ^ s = ((y * 2 ^ s : Nat) : Int) := by rw [Int.natCast_mul, Int.natCast_pow]; rfl
      rw [IntKind.wrap_u64, e3, hVV]; omega
    have hV1 := half_hi v1 v0 hv0
    have hV0 := half_lo v1 v0 hv0 hv1l
    have hL1 := half_hi u1 u0 u0l
    have hL0 := half_lo u1 u0 u0l u1l
    have hky := kn_all (N := hi * 18446744073709551616 + lo) (y := y) (k := 2 ^ s) (v := v1 * 4294967296 + v0) (u := u) (u1 := u1) (u0 := u0) (by omega) (Nat.two_pow_pos s) hVV.symm hN rfl rfl rfl rfl
    rw [hVV] at hul
    have hsy : ((y : Int) == 0) = false := by simp; omega
    have hsz : ((hi : Int) == 0) = false := by simp; omega
    have HKY := Lib.hid hky
    have HVV := Lib.hid hVV
    generalize hA : ((v1 * 4294967296 + v0 : Nat) : Int) = A at hV hV1 hV0
    generalize hB : ((u1 * 4294967296 + u0 : Nat) : Int) = B at hL hL1 hL0
    have HA := Lib.hid hA
    have HB := Lib.hid hB
    obtain ⟨k1, k2, k3, k4⟩ := kn_start hv1 hv0 hul u1l
    have hul2 : u < 18446744073709551616 := by omega
    have hqd : IntKind.u64.wrap ((u : Int) / (v1 : Int)) = ((u / v1 : Nat) : Int) := by
      rw [← Int.natCast_ediv]
      exact nwrap _ (Nat.lt_of_le_of_lt (Nat.div_le_self _ _) hul2)
    have hk5 : u / v1 * v1 ≤ u := Nat.div_mul_le_self _ _
    have hrd : IntKind.u64.wrap ((u : Int) - IntKind.u64.wrap (((u / v1 : Nat) : Int) * (v1 : Int))) = ((u - u / v1 * v1 : Nat) : Int) := by
      rw [nmul, nwrap _ (by omega)]
      exact nsub _ _ hk5 hul2
    generalize hq0 : u / v1 = q0 at *
    generalize hr0 : u - q0 * v1 = r0 at *
    clear hq0 hr0 hk5
    have hx1 : r0 < 4294967296 := by omega
    have K1 := Lib.hid k1
    have K2 := Lib.hid k2
    clear hA hB hky hVV hN k1 k2
    go_enter Try.func45, Try.ntmps45
    go_wp2_with (go_at_call 55; refine (hs _).mono ?_; rintro e w1 ⟨rfl, rfl⟩)
    -- INTS
    clear hqd hrd hU hV hL hs
    obtain ⟨v1I, hv1I⟩ : ∃ x : Int, x = (v1 : Int) := ⟨_, rfl⟩
    obtain ⟨v0I, hv0I⟩ : ∃ x : Int, x = (v0 : Int) := ⟨_, rfl⟩
    obtain ⟨uI, huI⟩ : ∃ x : Int, x = (u : Int) := ⟨_, rfl⟩
    obtain ⟨u1I, hu1I⟩ : ∃ x : Int, x = (u1 : Int) := ⟨_, rfl⟩
    obtain ⟨u0I, hu0I⟩ : ∃ x : Int, x = (u0 : Int) := ⟨_, rfl⟩
    rw [← hv1I, ← hv0I, ← huI, ← hu1I, ← hu0I]
    have bv1 : 2147483648 ≤ v1I := by omega
    have bv2 : v1I < 4294967296 := by omega
    have bv3 : 0 ≤ v0I := by omega
    have bv4 : v0I < 4294967296 := by omega
    have bu1 : 0 ≤ uI := by omega
    have bu2 : uI < 18446744073709551616 := by omega
    have bu3 : 0 ≤ u1I := by omega
    have bu4 : u1I < 4294967296 := by omega
    have bu5 : 0 ≤ u0I := by omega
    have bu6 : u0I < 4294967296 := by omega
    have HuI := Lib.hid huI; have Hu1I := Lib.hid hu1I; have Hu0I := Lib.hid hu0I; have Hv1I := Lib.hid hv1I; have Hv0I := Lib.hid hv0I
    clear hv1I hv0I huI hu1I hu0I
    clear hV1 hV0 hL1 hL0 hsy hsz
    go_loopg [15, 16] q0 (fun g x15 x16 wr => ∃ q r : Nat, g = q ∧ x15 = .int .u64 (q : Int) ∧ x16 = .int .u64 (r : Int) ∧ q * v1 + r = u ∧ (u * 4294967296 + u1) / (v1 * 4294967296 + v0) ≤ q ∧ q ≤ 4294967298 ∧ r < 4294967296 ∧ wr = w1)
    case atStart => exact ⟨q0, r0, rfl, rfl, rfl, K1.out, K2.out, k3, hx1, rfl⟩
    case round =>
      obtain ⟨q, r, hg, rfl, rfl, ha, hb, hc, hd, rfl⟩ := hrel
      have HG := Lib.hid hg
      clear hg K1 K2 hx1 k3 k4
      obtain ⟨W0, hW0⟩ : ∃ x, x = wr := ⟨_, rfl⟩
      subst hW0
      have hv1I := Hv1I.out; have hv0I := Hv0I.out; have huI := HuI.out; have hu1I := Hu1I.out; have hu0I := Hu0I.out
      obtain ⟨qI, hqI⟩ : ∃ x : Int, x = (q : Int) := ⟨_, rfl⟩
      obtain ⟨rI, hrI⟩ : ∃ x : Int, x = (r : Int) := ⟨_, rfl⟩
      rw [← hqI, ← hrI]
      have bq0 : 0 ≤ qI := by omega
      have bq1 : qI ≤ 4294967298 := by omega
      have br0 : 0 ≤ rI := by omega
      have br1 : rI < 4294967296 := by omega
      have HqI := Lib.hid hqI
      have HrI := Lib.hid hrI
      by_cases c1 : 4294967296 ≤ qI
      · skip
        have ht := kn_true ha hul u1l hb (.inl (by omega))
        obtain ⟨qp, hqe, hqi, hqw, hab, hbb⟩ := kn_less ha (Nat.zero_lt_of_lt ht) (by omega) ht
        rw [← hqI] at hqi hqw
        obtain ⟨qpI, hqpI⟩ : ∃ x : Int, x = (qp : Int) := ⟨_, rfl⟩
        rw [← hqpI] at hqi hqw
        have bqp0 : 0 ≤ qpI := by omega
        have bqp1 : qpI ≤ 4294967297 := by omega
        have HqpI := Lib.hid hqpI
        by_cases c2 : rI + v1I < 4294967296
        · have c2n : r + v1 < 4294967296 := by omega
          have hcc : qp ≤ 4294967298 := by omega
          have HAB := Lib.hid hab; have HBB := Lib.hid hbb; have HQE := Lib.hid hqe; have C2N := Lib.hid c2n; have HCC := Lib.hid hcc
          have hval : Value.int .u64 (rI + v1I) = .int .u64 ((r + v1 : Nat) : Int) := by rw [hrI, hv1I, Int.natCast_add]
          have hval2 : Value.int .u64 qpI = .int .u64 (qp : Int) := by rw [hqpI]
          have HVAL := Lib.hid hval; have HVAL2 := Lib.hid hval2
          clear hab hbb ha hb ht hqe c2n hcc hqpI hqI hrI hval hval2 hqi hv1I hv0I huI hu1I hu0I
          go_wp2
          go_roundg qp
          case measure => rw [HG.out]; have := HQE.out; omega
          case rel => exact ⟨qp, r + v1, rfl, HVAL2.out, HVAL.out, HAB.out, HBB.out, HCC.out, C2N.out, rfl⟩
        · have hQ := kn_break hab hul hbb (by omega) hv0 (by omega)
          clear hab hbb ha hb ht hqe hqpI hqI hrI hqi hv1I hv0I huI hu1I hu0I
          obtain ⟨R1, hR1, hR1l, hR1m⟩ : ∃ R1 : Nat, qp * (v1 * 4294967296 + v0) + R1 = u * 4294967296 + u1 ∧ R1 < (v1 * 4294967296 + v0) ∧ R1 = (u * 4294967296 + u1) % (v1 * 4294967296 + v0) := ⟨_, by rw [hQ, Nat.mul_comm, Nat.div_add_mod], Nat.mod_lt _ (by omega), rfl⟩
          have hre := kn_rest u u1 qp _ R1 HA.out hR1 (by omega)
          rw [← HuI.out, ← HqpI.out, ← Hu1I.out] at hre
          have HQ := Lib.hid hQ
          have HR1 := Lib.hid hR1m
          clear hQ hR1 hR1m
          obtain ⟨m1, m2, m3, m4⟩ := kn_start hv1 hv0 hR1l u0l
          have hqd : (R1 : Int) / (v1 : Int) = ((R1 / v1 : Nat) : Int) := (Int.natCast_ediv _ _).symm
          have hk5 : R1 / v1 * v1 ≤ R1 := Nat.div_mul_le_self _ _
          have hrd : IntKind.u64.wrap ((R1 : Int) - IntKind.u64.wrap (((R1 / v1 : Nat) : Int) * (v1 : Int))) = ((R1 - R1 / v1 * v1 : Nat) : Int) := by
            rw [nmul, nwrap _ (by omega)]
            exact nsub _ _ hk5 (by omega)
          generalize hq1 : R1 / v1 = q1 at *
          generalize hr1 : R1 - q1 * v1 = r1 at *
          clear hq1 hr1 hk5
          have hx2 : r1 < 4294967296 := by omega
          have M1 := Lib.hid m1
          have M2 := Lib.hid m2
          clear m1 m2
          obtain ⟨R1I, hR1I⟩ : ∃ x : Int, x = (R1 : Int) := ⟨_, rfl⟩
          obtain ⟨q1I, hq1I⟩ : ∃ x : Int, x = (q1 : Int) := ⟨_, rfl⟩
          obtain ⟨r1I, hr1I⟩ : ∃ x : Int, x = (r1 : Int) := ⟨_, rfl⟩
          rw [← hR1I, ← Hv1I.out, ← hq1I] at hqd
          rw [← hR1I, ← Hv1I.out, ← hq1I, ← hr1I] at hrd
          rw [← hR1I] at hre
          have bR0 : 0 ≤ R1I := by omega
          have bR1 : R1I < 18446744073709551616 := by omega
          have bq0 : 0 ≤ q1I := by omega
          have br0 : 0 ≤ r1I := by omega
          have HR1I := Lib.hid hR1I; have Hq1I := Lib.hid hq1I; have Hr1I := Lib.hid hr1I
          clear hR1I hq1I hr1I
          go_wp2_with fail
          clear hqd hrd hre
          have hul1 := hR1l
          go_loopg [18, 16] q1 (fun g x15 x16 wr => ∃ q r : Nat, g = q ∧ x15 = .int .u64 (q : Int) ∧ x16 = .int .u64 (r : Int) ∧ q * v1 + r = R1 ∧ (R1 * 4294967296 + u0) / (v1 * 4294967296 + v0) ≤ q ∧ q ≤ 4294967298 ∧ r < 4294967296 ∧ wr = W0)
          case atStart => exact ⟨q1, r1, rfl, by rw [Hq1I.out], by rw [Hr1I.out], M1.out, M2.out, m3, hx2, rfl⟩
          case round =>
            obtain ⟨q2, r2, hg2, rfl, rfl, ha2, hb2, hc2, hd2, rfl⟩ := hrel
            have HG2 := Lib.hid hg2
            clear hg2 M1 M2 hx2 m3 m4
            have hv1I := Hv1I.out; have hv0I := Hv0I.out; have huI := HuI.out; have hu1I := Hu1I.out; have hu0I := Hu0I.out
            obtain ⟨q2I, hq2I⟩ : ∃ x : Int, x = (q2 : Int) := ⟨_, rfl⟩
            obtain ⟨r2I, hr2I⟩ : ∃ x : Int, x = (r2 : Int) := ⟨_, rfl⟩
            rw [← hq2I, ← hr2I]
            have bq20 : 0 ≤ q2I := by omega
            have bq21 : q2I ≤ 4294967298 := by omega
            have br20 : 0 ≤ r2I := by omega
            have br21 : r2I < 4294967296 := by omega
            have Hq2I := Lib.hid hq2I
            have Hr2I := Lib.hid hr2I
            by_cases c1 : 4294967296 ≤ q2I
            · skip
              have ht := kn_true ha2 hul1 u0l hb2 (.inl (by omega))
              obtain ⟨q2p, hqe, hqi, hqw, hab, hbb⟩ := kn_less ha2 (Nat.zero_lt_of_lt ht) (by omega) ht
              rw [← hq2I] at hqi hqw
              obtain ⟨q2pI, hq2pI⟩ : ∃ x : Int, x = (q2p : Int) := ⟨_, rfl⟩
              rw [← hq2pI] at hqi hqw
              have bq2p0 : 0 ≤ q2pI := by omega
              have bq2p1 : q2pI ≤ 4294967297 := by omega
              have Hq2pI := Lib.hid hq2pI
              by_cases c2 : r2I + v1I < 4294967296
              · have c2n : r2 + v1 < 4294967296 := by omega
                have hcc : q2p ≤ 4294967298 := by omega
                have HAB := Lib.hid hab; have HBB := Lib.hid hbb; have HQE := Lib.hid hqe; have C2N := Lib.hid c2n; have HCC := Lib.hid hcc
                have hval : Value.int .u64 (r2I + v1I) = .int .u64 ((r2 + v1 : Nat) : Int) := by rw [hr2I, hv1I, Int.natCast_add]
                have hval2 : Value.int .u64 q2pI = .int .u64 (q2p : Int) := by rw [hq2pI]
                have HVAL := Lib.hid hval; have HVAL2 := Lib.hid hval2
                clear hab hbb ha2 hb2 ht hqe c2n hcc hq2pI hq2I hr2I hval hval2 hqi hv1I hv0I huI hu1I hu0I
                go_wp2
                go_roundg q2p
                case measure => rw [HG2.out]; have := HQE.out; omega
                case rel => exact ⟨q2p, r2 + v1, rfl, HVAL2.out, HVAL.out, HAB.out, HBB.out, HCC.out, C2N.out, rfl⟩
              · have hQ := kn_break hab hul1 hbb (by omega) hv0 (by omega)
                clear hab hbb ha2 hb2 ht hqe hq2pI hq2I hr2I hqi hv1I hv0I huI hu1I hu0I
                obtain ⟨R2, hR2, hR2l, hR2m⟩ : ∃ R2 : Nat, q2p * (v1 * 4294967296 + v0) + R2 = R1 * 4294967296 + u0 ∧ R2 < (v1 * 4294967296 + v0) ∧ R2 = (R1 * 4294967296 + u0) % (v1 * 4294967296 + v0) := ⟨_, by rw [hQ, Nat.mul_comm, Nat.div_add_mod], Nat.mod_lt _ (by omega), rfl⟩
                have hre := kn_rest R1 u0 q2p _ R2 HA.out hR2 (by omega)
                rw [← HR1I.out, ← Hq2pI.out, ← Hu0I.out] at hre
                have hky := HKY.out
                rw [← HQ.out, ← HR1.out, ← hQ, ← hR2m] at hky
                rw [HNQ.out, HNR.out] at hky
                have hq1r := kn_quot3 hky.1 HNQL.out
                have hrs : (R2 : Int) / 2 ^ s = (NR : Int) := by rw [← hky.2, Int.natCast_ediv, Int.natCast_pow]; rfl
                rw [← Hq2pI.out] at hq1r
                first | rw [← HqpI.out] at hq1r | rw [← HqI.out] at hq1r
                obtain ⟨R2I, hR2I⟩ : ∃ x : Int, x = (R2 : Int) := ⟨_, rfl⟩
                rw [← hR2I] at hre hrs
                have HQR := Lib.hid hq1r; have HRS := Lib.hid hrs
                have bR2 : 0 ≤ R2I := by omega
                clear hR2 hR2m hky hQ hq1r hrs hR2I
                go_wp2
                go_ret2
                refine ⟨?_, Calm.refl _⟩
                rw [← HRS.out]
                first | (rw [← HQR.out.1]; rfl) | (rw [← HQR.out.2.1]; rfl) | (rw [← HQR.out.2.2]; rfl)
            · have hp1 : q2 * v0 < 18446744073709551616 := Nat.lt_of_le_of_lt (Nat.mul_le_mul (show q2 ≤ 4294967295 by omega) (show v0 ≤ 4294967295 by omega)) (by decide)
              obtain ⟨pI, hpI⟩ : ∃ x : Int, x = ((q2 * v0 : Nat) : Int) := ⟨_, rfl⟩
              have hp : IntKind.u64.wrap (q2I * v0I) = pI := by rw [hpI, hq2I, hv0I, nmul, nwrap _ hp1]
              have hp0 : 0 ≤ pI := by omega
              have hp2 : pI < 18446744073709551616 := by omega
              by_cases c3 : 4294967296 * r2I + u0I < pI
              · have c3n : 4294967296 * r2 + u0 < q2 * v0 := by omega
                have ht := kn_true ha2 hul1 u0l hb2 (.inr c3n)
                obtain ⟨q2p, hqe, hqi, hqw, hab, hbb⟩ := kn_less ha2 (Nat.zero_lt_of_lt ht) (by omega) ht
                rw [← hq2I] at hqi hqw
                obtain ⟨q2pI, hq2pI⟩ : ∃ x : Int, x = (q2p : Int) := ⟨_, rfl⟩
                rw [← hq2pI] at hqi hqw
                have bq2p0 : 0 ≤ q2pI := by omega
                have bq2p1 : q2pI ≤ 4294967297 := by omega
                have Hq2pI := Lib.hid hq2pI
                by_cases c2 : r2I + v1I < 4294967296
                · have c2n : r2 + v1 < 4294967296 := by omega
                  have hcc : q2p ≤ 4294967298 := by omega
                  have HAB := Lib.hid hab; have HBB := Lib.hid hbb; have HQE := Lib.hid hqe; have C2N := Lib.hid c2n; have HCC := Lib.hid hcc
                  have hval : Value.int .u64 (r2I + v1I) = .int .u64 ((r2 + v1 : Nat) : Int) := by rw [hr2I, hv1I, Int.natCast_add]
                  have hval2 : Value.int .u64 q2pI = .int .u64 (q2p : Int) := by rw [hq2pI]
                  have HVAL := Lib.hid hval; have HVAL2 := Lib.hid hval2
                  clear hab hbb ha2 hb2 ht hqe c2n hcc hq2pI hq2I hr2I hval hval2 hqi hpI hp1 c3n hv1I hv0I huI hu1I hu0I
                  go_wp2
                  go_roundg q2p
                  case measure => rw [HG2.out]; have := HQE.out; omega
                  case rel => exact ⟨q2p, r2 + v1, rfl, HVAL2.out, HVAL.out, HAB.out, HBB.out, HCC.out, C2N.out, rfl⟩
                · have hQ := kn_break hab hul1 hbb (by omega) hv0 (by omega)
                  clear hab hbb ha2 hb2 ht hqe hq2pI hq2I hr2I hqi hpI hp1 c3n hv1I hv0I huI hu1I hu0I
                  obtain ⟨R2, hR2, hR2l, hR2m⟩ : ∃ R2 : Nat, q2p * (v1 * 4294967296 + v0) + R2 = R1 * 4294967296 + u0 ∧ R2 < (v1 * 4294967296 + v0) ∧ R2 = (R1 * 4294967296 + u0) % (v1 * 4294967296 + v0) := ⟨_, by rw [hQ, Nat.mul_comm, Nat.div_add_mod], Nat.mod_lt _ (by omega), rfl⟩
                  have hre := kn_rest R1 u0 q2p _ R2 HA.out hR2 (by omega)
                  rw [← HR1I.out, ← Hq2pI.out, ← Hu0I.out] at hre
                  have hky := HKY.out
                  rw [← HQ.out, ← HR1.out, ← hQ, ← hR2m] at hky
                  rw [HNQ.out, HNR.out] at hky
                  have hq1r := kn_quot3 hky.1 HNQL.out
                  have hrs : (R2 : Int) / 2 ^ s = (NR : Int) := by rw [← hky.2, Int.natCast_ediv, Int.natCast_pow]; rfl
                  rw [← Hq2pI.out] at hq1r
                  first | rw [← HqpI.out] at hq1r | rw [← HqI.out] at hq1r
                  obtain ⟨R2I, hR2I⟩ : ∃ x : Int, x = (R2 : Int) := ⟨_, rfl⟩
                  rw [← hR2I] at hre hrs
                  have HQR := Lib.hid hq1r; have HRS := Lib.hid hrs
                  have bR2 : 0 ≤ R2I := by omega
                  clear hR2 hR2m hky hQ hq1r hrs hR2I
                  go_wp2
                  go_ret2
                  refine ⟨?_, Calm.refl _⟩
                  rw [← HRS.out]
                  first | (rw [← HQR.out.1]; rfl) | (rw [← HQR.out.2.1]; rfl) | (rw [← HQR.out.2.2]; rfl)
              · have hQ := kn_false ha2 hul1 hb2 (by omega)
                clear ha2 hb2 hq2I hr2I hpI hp1 hv1I hv0I huI hu1I hu0I
                obtain ⟨R2, hR2, hR2l, hR2m⟩ : ∃ R2 : Nat, q2 * (v1 * 4294967296 + v0) + R2 = R1 * 4294967296 + u0 ∧ R2 < (v1 * 4294967296 + v0) ∧ R2 = (R1 * 4294967296 + u0) % (v1 * 4294967296 + v0) := ⟨_, by rw [hQ, Nat.mul_comm, Nat.div_add_mod], Nat.mod_lt _ (by omega), rfl⟩
                have hre := kn_rest R1 u0 q2 _ R2 HA.out hR2 (by omega)
                rw [← HR1I.out, ← Hq2I.out, ← Hu0I.out] at hre
                have hky := HKY.out
                rw [← HQ.out, ← HR1.out, ← hQ, ← hR2m] at hky
                rw [HNQ.out, HNR.out] at hky
                have hq1r := kn_quot3 hky.1 HNQL.out
                have hrs : (R2 : Int) / 2 ^ s = (NR : Int) := by rw [← hky.2, Int.natCast_ediv, Int.natCast_pow]; rfl
                rw [← Hq2I.out] at hq1r
                first | rw [← HqpI.out] at hq1r | rw [← HqI.out] at hq1r
                obtain ⟨R2I, hR2I⟩ : ∃ x : Int, x = (R2 : Int) := ⟨_, rfl⟩
                rw [← hR2I] at hre hrs
                have HQR := Lib.hid hq1r; have HRS := Lib.hid hrs
                have bR2 : 0 ≤ R2I := by omega
                clear hR2 hR2m hky hQ hq1r hrs hR2I
                go_wp2
                go_ret2
                refine ⟨?_, Calm.refl _⟩
                rw [← HRS.out]
                first | (rw [← HQR.out.1]; rfl) | (rw [← HQR.out.2.1]; rfl) | (rw [← HQR.out.2.2]; rfl)
      · have hp1 : q * v0 < 18446744073709551616 := Nat.lt_of_le_of_lt (Nat.mul_le_mul (show q ≤ 4294967295 by omega) (show v0 ≤ 4294967295 by omega)) (by decide)
        obtain ⟨pI, hpI⟩ : ∃ x : Int, x = ((q * v0 : Nat) : Int) := ⟨_, rfl⟩
        have hp : IntKind.u64.wrap (qI * v0I) = pI := by rw [hpI, hqI, hv0I, nmul, nwrap _ hp1]
        have hp0 : 0 ≤ pI := by omega
        have hp2 : pI < 18446744073709551616 := by omega
        by_cases c3 : 4294967296 * rI + u1I < pI
        · have c3n : 4294967296 * r + u1 < q * v0 := by omega
          have ht := kn_true ha hul u1l hb (.inr c3n)
          obtain ⟨qp, hqe, hqi, hqw, hab, hbb⟩ := kn_less ha (Nat.zero_lt_of_lt ht) (by omega) ht
          rw [← hqI] at hqi hqw
          obtain ⟨qpI, hqpI⟩ : ∃ x : Int, x = (qp : Int) := ⟨_, rfl⟩
          rw [← hqpI] at hqi hqw
          have bqp0 : 0 ≤ qpI := by omega
          have bqp1 : qpI ≤ 4294967297 := by omega
          have HqpI := Lib.hid hqpI
          by_cases c2 : rI + v1I < 4294967296
          · have c2n : r + v1 < 4294967296 := by omega
            have hcc : qp ≤ 4294967298 := by omega
            have HAB := Lib.hid hab; have HBB := Lib.hid hbb; have HQE := Lib.hid hqe; have C2N := Lib.hid c2n; have HCC := Lib.hid hcc
            have hval : Value.int .u64 (rI + v1I) = .int .u64 ((r + v1 : Nat) : Int) := by rw [hrI, hv1I, Int.natCast_add]
            have hval2 : Value.int .u64 qpI = .int .u64 (qp : Int) := by rw [hqpI]
            have HVAL := Lib.hid hval; have HVAL2 := Lib.hid hval2
            clear hab hbb ha hb ht hqe c2n hcc hqpI hqI hrI hval hval2 hqi hpI hp1 c3n hv1I hv0I huI hu1I hu0I
            go_wp2
            go_roundg qp
            case measure => rw [HG.out]; have := HQE.out; omega
            case rel => exact ⟨qp, r + v1, rfl, HVAL2.out, HVAL.out, HAB.out, HBB.out, HCC.out, C2N.out, rfl⟩
          · have hQ := kn_break hab hul hbb (by omega) hv0 (by omega)
            clear hab hbb ha hb ht hqe hqpI hqI hrI hqi hpI hp1 c3n hv1I hv0I huI hu1I hu0I
            obtain ⟨R1, hR1, hR1l, hR1m⟩ : ∃ R1 : Nat, qp * (v1 * 4294967296 + v0) + R1 = u * 4294967296 + u1 ∧ R1 < (v1 * 4294967296 + v0) ∧ R1 = (u * 4294967296 + u1) % (v1 * 4294967296 + v0) := ⟨_, by rw [hQ, Nat.mul_comm, Nat.div_add_mod], Nat.mod_lt _ (by omega), rfl⟩
            have hre := kn_rest u u1 qp _ R1 HA.out hR1 (by omega)
            rw [← HuI.out, ← HqpI.out, ← Hu1I.out] at hre
            have HQ := Lib.hid hQ
            have HR1 := Lib.hid hR1m
            clear hQ hR1 hR1m
            obtain ⟨m1, m2, m3, m4⟩ := kn_start hv1 hv0 hR1l u0l
            have hqd : (R1 : Int) / (v1 : Int) = ((R1 / v1 : Nat) : Int) := (Int.natCast_ediv _ _).symm
            have hk5 : R1 / v1 * v1 ≤ R1 := Nat.div_mul_le_self _ _
            have hrd : IntKind.u64.wrap ((R1 : Int) - IntKind.u64.wrap (((R1 / v1 : Nat) : Int) * (v1 : Int))) = ((R1 - R1 / v1 * v1 : Nat) : Int) := by
              rw [nmul, nwrap _ (by omega)]
              exact nsub _ _ hk5 (by omega)
            generalize hq1 : R1 / v1 = q1 at *
            generalize hr1 : R1 - q1 * v1 = r1 at *
            clear hq1 hr1 hk5
            have hx2 : r1 < 4294967296 := by omega
            have M1 := Lib.hid m1
            have M2 := Lib.hid m2
            clear m1 m2
            obtain ⟨R1I, hR1I⟩ : ∃ x : Int, x = (R1 : Int) := ⟨_, rfl⟩
            obtain ⟨q1I, hq1I⟩ : ∃ x : Int, x = (q1 : Int) := ⟨_, rfl⟩
            obtain ⟨r1I, hr1I⟩ : ∃ x : Int, x = (r1 : Int) := ⟨_, rfl⟩
            rw [← hR1I, ← Hv1I.out, ← hq1I] at hqd
            rw [← hR1I, ← Hv1I.out, ← hq1I, ← hr1I] at hrd
            rw [← hR1I] at hre
            have bR0 : 0 ≤ R1I := by omega
            have bR1 : R1I < 18446744073709551616 := by omega
            have bq0 : 0 ≤ q1I := by omega
            have br0 : 0 ≤ r1I := by omega
            have HR1I := Lib.hid hR1I; have Hq1I := Lib.hid hq1I; have Hr1I := Lib.hid hr1I
            clear hR1I hq1I hr1I
            go_wp2_with fail
            clear hqd hrd hre
            have hul1 := hR1l
            go_loopg [18, 16] q1 (fun g x15 x16 wr => ∃ q r : Nat, g = q ∧ x15 = .int .u64 (q : Int) ∧ x16 = .int .u64 (r : Int) ∧ q * v1 + r = R1 ∧ (R1 * 4294967296 + u0) / (v1 * 4294967296 + v0) ≤ q ∧ q ≤ 4294967298 ∧ r < 4294967296 ∧ wr = W0)
            case atStart => exact ⟨q1, r1, rfl, by rw [Hq1I.out], by rw [Hr1I.out], M1.out, M2.out, m3, hx2, rfl⟩
            case round =>
              obtain ⟨q2, r2, hg2, rfl, rfl, ha2, hb2, hc2, hd2, rfl⟩ := hrel
              have HG2 := Lib.hid hg2
              clear hg2 M1 M2 hx2 m3 m4
              have hv1I := Hv1I.out; have hv0I := Hv0I.out; have huI := HuI.out; have hu1I := Hu1I.out; have hu0I := Hu0I.out
              obtain ⟨q2I, hq2I⟩ : ∃ x : Int, x = (q2 : Int) := ⟨_, rfl⟩
              obtain ⟨r2I, hr2I⟩ : ∃ x : Int, x = (r2 : Int) := ⟨_, rfl⟩
              rw [← hq2I, ← hr2I]
              have bq20 : 0 ≤ q2I := by omega
              have bq21 : q2I ≤ 4294967298 := by omega
              have br20 : 0 ≤ r2I := by omega
              have br21 : r2I < 4294967296 := by omega
              have Hq2I := Lib.hid hq2I
              have Hr2I := Lib.hid hr2I
              by_cases c1 : 4294967296 ≤ q2I
              · skip
                have ht := kn_true ha2 hul1 u0l hb2 (.inl (by omega))
                obtain ⟨q2p, hqe, hqi, hqw, hab, hbb⟩ := kn_less ha2 (Nat.zero_lt_of_lt ht) (by omega) ht
                rw [← hq2I] at hqi hqw
                obtain ⟨q2pI, hq2pI⟩ : ∃ x : Int, x = (q2p : Int) := ⟨_, rfl⟩
                rw [← hq2pI] at hqi hqw
                have bq2p0 : 0 ≤ q2pI := by omega
                have bq2p1 : q2pI ≤ 4294967297 := by omega
                have Hq2pI := Lib.hid hq2pI
                by_cases c2 : r2I + v1I < 4294967296
                · have c2n : r2 + v1 < 4294967296 := by omega
                  have hcc : q2p ≤ 4294967298 := by omega
                  have HAB := Lib.hid hab; have HBB := Lib.hid hbb; have HQE := Lib.hid hqe; have C2N := Lib.hid c2n; have HCC := Lib.hid hcc
                  have hval : Value.int .u64 (r2I + v1I) = .int .u64 ((r2 + v1 : Nat) : Int) := by rw [hr2I, hv1I, Int.natCast_add]
                  have hval2 : Value.int .u64 q2pI = .int .u64 (q2p : Int) := by rw [hq2pI]
                  have HVAL := Lib.hid hval; have HVAL2 := Lib.hid hval2
                  clear hab hbb ha2 hb2 ht hqe c2n hcc hq2pI hq2I hr2I hval hval2 hqi hv1I hv0I huI hu1I hu0I
                  go_wp2
                  go_roundg q2p
                  case measure => rw [HG2.out]; have := HQE.out; omega
                  case rel => exact ⟨q2p, r2 + v1, rfl, HVAL2.out, HVAL.out, HAB.out, HBB.out, HCC.out, C2N.out, rfl⟩
                · have hQ := kn_break hab hul1 hbb (by omega) hv0 (by omega)
                  clear hab hbb ha2 hb2 ht hqe hq2pI hq2I hr2I hqi hv1I hv0I huI hu1I hu0I
                  obtain ⟨R2, hR2, hR2l, hR2m⟩ : ∃ R2 : Nat, q2p * (v1 * 4294967296 + v0) + R2 = R1 * 4294967296 + u0 ∧ R2 < (v1 * 4294967296 + v0) ∧ R2 = (R1 * 4294967296 + u0) % (v1 * 4294967296 + v0) := ⟨_, by rw [hQ, Nat.mul_comm, Nat.div_add_mod], Nat.mod_lt _ (by omega), rfl⟩
                  have hre := kn_rest R1 u0 q2p _ R2 HA.out hR2 (by omega)
                  rw [← HR1I.out, ← Hq2pI.out, ← Hu0I.out] at hre
                  have hky := HKY.out
                  rw [← HQ.out, ← HR1.out, ← hQ, ← hR2m] at hky
                  rw [HNQ.out, HNR.out] at hky
                  have hq1r := kn_quot3 hky.1 HNQL.out
                  have hrs : (R2 : Int) / 2 ^ s = (NR : Int) := by rw [← hky.2, Int.natCast_ediv, Int.natCast_pow]; rfl
                  rw [← Hq2pI.out] at hq1r
                  first | rw [← HqpI.out] at hq1r | rw [← HqI.out] at hq1r
                  obtain ⟨R2I, hR2I⟩ : ∃ x : Int, x = (R2 : Int) := ⟨_, rfl⟩
                  rw [← hR2I] at hre hrs
                  have HQR := Lib.hid hq1r; have HRS := Lib.hid hrs
                  have bR2 : 0 ≤ R2I := by omega
                  clear hR2 hR2m hky hQ hq1r hrs hR2I
                  go_wp2
                  go_ret2
                  refine ⟨?_, Calm.refl _⟩
                  rw [← HRS.out]
                  first | (rw [← HQR.out.1]; rfl) | (rw [← HQR.out.2.1]; rfl) | (rw [← HQR.out.2.2]; rfl)
              · have hp1 : q2 * v0 < 18446744073709551616 := Nat.lt_of_le_of_lt (Nat.mul_le_mul (show q2 ≤ 4294967295 by omega) (show v0 ≤ 4294967295 by omega)) (by decide)
                obtain ⟨pI, hpI⟩ : ∃ x : Int, x = ((q2 * v0 : Nat) : Int) := ⟨_, rfl⟩
                have hp : IntKind.u64.wrap (q2I * v0I) = pI := by rw [hpI, hq2I, hv0I, nmul, nwrap _ hp1]
                have hp0 : 0 ≤ pI := by omega
                have hp2 : pI < 18446744073709551616 := by omega
                by_cases c3 : 4294967296 * r2I + u0I < pI
                · have c3n : 4294967296 * r2 + u0 < q2 * v0 := by omega
                  have ht := kn_true ha2 hul1 u0l hb2 (.inr c3n)
                  obtain ⟨q2p, hqe, hqi, hqw, hab, hbb⟩ := kn_less ha2 (Nat.zero_lt_of_lt ht) (by omega) ht
                  rw [← hq2I] at hqi hqw
                  obtain ⟨q2pI, hq2pI⟩ : ∃ x : Int, x = (q2p : Int) := ⟨_, rfl⟩
                  rw [← hq2pI] at hqi hqw
                  have bq2p0 : 0 ≤ q2pI := by omega
                  have bq2p1 : q2pI ≤ 4294967297 := by omega
                  have Hq2pI := Lib.hid hq2pI
                  by_cases c2 : r2I + v1I < 4294967296
                  · have c2n : r2 + v1 < 4294967296 := by omega
                    have hcc : q2p ≤ 4294967298 := by omega
                    have HAB := Lib.hid hab; have HBB := Lib.hid hbb; have HQE := Lib.hid hqe; have C2N := Lib.hid c2n; have HCC := Lib.hid hcc
                    have hval : Value.int .u64 (r2I + v1I) = .int .u64 ((r2 + v1 : Nat) : Int) := by rw [hr2I, hv1I, Int.natCast_add]
                    have hval2 : Value.int .u64 q2pI = .int .u64 (q2p : Int) := by rw [hq2pI]
                    have HVAL := Lib.hid hval; have HVAL2 := Lib.hid hval2
                    clear hab hbb ha2 hb2 ht hqe c2n hcc hq2pI hq2I hr2I hval hval2 hqi hpI hp1 c3n hv1I hv0I huI hu1I hu0I
                    go_wp2
                    go_roundg q2p
                    case measure => rw [HG2.out]; have := HQE.out; omega
                    case rel => exact ⟨q2p, r2 + v1, rfl, HVAL2.out, HVAL.out, HAB.out, HBB.out, HCC.out, C2N.out, rfl⟩
                  · have hQ := kn_break hab hul1 hbb (by omega) hv0 (by omega)
                    clear hab hbb ha2 hb2 ht hqe hq2pI hq2I hr2I hqi hpI hp1 c3n hv1I hv0I huI hu1I hu0I
                    obtain ⟨R2, hR2, hR2l, hR2m⟩ : ∃ R2 : Nat, q2p * (v1 * 4294967296 + v0) + R2 = R1 * 4294967296 + u0 ∧ R2 < (v1 * 4294967296 + v0) ∧ R2 = (R1 * 4294967296 + u0) % (v1 * 4294967296 + v0) := ⟨_, by rw [hQ, Nat.mul_comm, Nat.div_add_mod], Nat.mod_lt _ (by omega), rfl⟩
                    have hre := kn_rest R1 u0 q2p _ R2 HA.out hR2 (by omega)
                    rw [← HR1I.out, ← Hq2pI.out, ← Hu0I.out] at hre
                    have hky := HKY.out
                    rw [← HQ.out, ← HR1.out, ← hQ, ← hR2m] at hky
                    rw [HNQ.out, HNR.out] at hky
                    have hq1r := kn_quot3 hky.1 HNQL.out
                    have hrs : (R2 : Int) / 2 ^ s = (NR : Int) := by rw [← hky.2, Int.natCast_ediv, Int.natCast_pow]; rfl
                    rw [← Hq2pI.out] at hq1r
                    first | rw [← HqpI.out] at hq1r | rw [← HqI.out] at hq1r
                    obtain ⟨R2I, hR2I⟩ : ∃ x : Int, x = (R2 : Int) := ⟨_, rfl⟩
                    rw [← hR2I] at hre hrs
                    have HQR := Lib.hid hq1r; have HRS := Lib.hid hrs
                    have bR2 : 0 ≤ R2I := by omega
                    clear hR2 hR2m hky hQ hq1r hrs hR2I
                    go_wp2
                    go_ret2
                    refine ⟨?_, Calm.refl _⟩
                    rw [← HRS.out]
                    first | (rw [← HQR.out.1]; rfl) | (rw [← HQR.out.2.1]; rfl) | (rw [← HQR.out.2.2]; rfl)
                · have hQ := kn_false ha2 hul1 hb2 (by omega)
                  clear ha2 hb2 hq2I hr2I hpI hp1 hv1I hv0I huI hu1I hu0I
                  obtain ⟨R2, hR2, hR2l, hR2m⟩ : ∃ R2 : Nat, q2 * (v1 * 4294967296 + v0) + R2 = R1 * 4294967296 + u0 ∧ R2 < (v1 * 4294967296 + v0) ∧ R2 = (R1 * 4294967296 + u0) % (v1 * 4294967296 + v0) := ⟨_, by rw [hQ, Nat.mul_comm, Nat.div_add_mod], Nat.mod_lt _ (by omega), rfl⟩
                  have hre := kn_rest R1 u0 q2 _ R2 HA.out hR2 (by omega)
                  rw [← HR1I.out, ← Hq2I.out, ← Hu0I.out] at hre
                  have hky := HKY.out
                  rw [← HQ.out, ← HR1.out, ← hQ, ← hR2m] at hky
                  rw [HNQ.out, HNR.out] at hky
                  have hq1r := kn_quot3 hky.1 HNQL.out
                  have hrs : (R2 : Int) / 2 ^ s = (NR : Int) := by rw [← hky.2, Int.natCast_ediv, Int.natCast_pow]; rfl
                  rw [← Hq2I.out] at hq1r
                  first | rw [← HqpI.out] at hq1r | rw [← HqI.out] at hq1r
                  obtain ⟨R2I, hR2I⟩ : ∃ x : Int, x = (R2 : Int) := ⟨_, rfl⟩
                  rw [← hR2I] at hre hrs
                  have HQR := Lib.hid hq1r; have HRS := Lib.hid hrs
                  have bR2 : 0 ≤ R2I := by omega
                  clear hR2 hR2m hky hQ hq1r hrs hR2I
                  go_wp2
                  go_ret2
                  refine ⟨?_, Calm.refl _⟩
                  rw [← HRS.out]
                  first | (rw [← HQR.out.1]; rfl) | (rw [← HQR.out.2.1]; rfl) | (rw [← HQR.out.2.2]; rfl)
        · have hQ := kn_false ha hul hb (by omega)
          clear ha hb hqI hrI hpI hp1 hv1I hv0I huI hu1I hu0I
          obtain ⟨R1, hR1, hR1l, hR1m⟩ : ∃ R1 : Nat, q * (v1 * 4294967296 + v0) + R1 = u * 4294967296 + u1 ∧ R1 < (v1 * 4294967296 + v0) ∧ R1 = (u * 4294967296 + u1) % (v1 * 4294967296 + v0) := ⟨_, by rw [hQ, Nat.mul_comm, Nat.div_add_mod], Nat.mod_lt _ (by omega), rfl⟩
          have hre := kn_rest u u1 q _ R1 HA.out hR1 (by omega)
          rw [← HuI.out, ← HqI.out, ← Hu1I.out] at hre
          have HQ := Lib.hid hQ
          have HR1 := Lib.hid hR1m
          clear hQ hR1 hR1m
          obtain ⟨m1, m2, m3, m4⟩ := kn_start hv1 hv0 hR1l u0l
          have hqd : (R1 : Int) / (v1 : Int) = ((R1 / v1 : Nat) : Int) := (Int.natCast_ediv _ _).symm
          have hk5 : R1 / v1 * v1 ≤ R1 := Nat.div_mul_le_self _ _
          have hrd : IntKind.u64.wrap ((R1 : Int) - IntKind.u64.wrap (((R1 / v1 : Nat) : Int) * (v1 : Int))) = ((R1 - R1 / v1 * v1 : Nat) : Int) := by
            rw [nmul, nwrap _ (by omega)]
            exact nsub _ _ hk5 (by omega)
          generalize hq1 : R1 / v1 = q1 at *
          generalize hr1 : R1 - q1 * v1 = r1 at *
          clear hq1 hr1 hk5
          have hx2 : r1 < 4294967296 := by omega
          have M1 := Lib.hid m1
          have M2 := Lib.hid m2
          clear m1 m2
          obtain ⟨R1I, hR1I⟩ : ∃ x : Int, x = (R1 : Int) := ⟨_, rfl⟩
          obtain ⟨q1I, hq1I⟩ : ∃ x : Int, x = (q1 : Int) := ⟨_, rfl⟩
          obtain ⟨r1I, hr1I⟩ : ∃ x : Int, x = (r1 : Int) := ⟨_, rfl⟩
          rw [← hR1I, ← Hv1I.out, ← hq1I] at hqd
          rw [← hR1I, ← Hv1I.out, ← hq1I, ← hr1I] at hrd
          rw [← hR1I] at hre
          have bR0 : 0 ≤ R1I := by omega
          have bR1 : R1I < 18446744073709551616 := by omega
          have bq0 : 0 ≤ q1I := by omega
          have br0 : 0 ≤ r1I := by omega
          have HR1I := Lib.hid hR1I; have Hq1I := Lib.hid hq1I; have Hr1I := Lib.hid hr1I
          clear hR1I hq1I hr1I
          go_wp2_with fail
          clear hqd hrd hre
          have hul1 := hR1l
          go_loopg [18, 16] q1 (fun g x15 x16 wr => ∃ q r : Nat, g = q ∧ x15 = .int .u64 (q : Int) ∧ x16 = .int .u64 (r : Int) ∧ q * v1 + r = R1 ∧ (R1 * 4294967296 + u0) / (v1 * 4294967296 + v0) ≤ q ∧ q ≤ 4294967298 ∧ r < 4294967296 ∧ wr = W0)
          case atStart => exact ⟨q1, r1, rfl, by rw [Hq1I.out], by rw [Hr1I.out], M1.out, M2.out, m3, hx2, rfl⟩
          case round =>
            obtain ⟨q2, r2, hg2, rfl, rfl, ha2, hb2, hc2, hd2, rfl⟩ := hrel
            have HG2 := Lib.hid hg2
            clear hg2 M1 M2 hx2 m3 m4
            have hv1I := Hv1I.out; have hv0I := Hv0I.out; have huI := HuI.out; have hu1I := Hu1I.out; have hu0I := Hu0I.out
            obtain ⟨q2I, hq2I⟩ : ∃ x : Int, x = (q2 : Int) := ⟨_, rfl⟩
            obtain ⟨r2I, hr2I⟩ : ∃ x : Int, x = (r2 : Int) := ⟨_, rfl⟩
            rw [← hq2I, ← hr2I]
            have bq20 : 0 ≤ q2I := by omega
            have bq21 : q2I ≤ 4294967298 := by omega
            have br20 : 0 ≤ r2I := by omega
            have br21 : r2I < 4294967296 := by omega
            have Hq2I := Lib.hid hq2I
            have Hr2I := Lib.hid hr2I
            by_cases c1 : 4294967296 ≤ q2I
            · skip
              have ht := kn_true ha2 hul1 u0l hb2 (.inl (by omega))
              obtain ⟨q2p, hqe, hqi, hqw, hab, hbb⟩ := kn_less ha2 (Nat.zero_lt_of_lt ht) (by omega) ht
              rw [← hq2I] at hqi hqw
              obtain ⟨q2pI, hq2pI⟩ : ∃ x : Int, x = (q2p : Int) := ⟨_, rfl⟩
              rw [← hq2pI] at hqi hqw
              have bq2p0 : 0 ≤ q2pI := by omega
              have bq2p1 : q2pI ≤ 4294967297 := by omega
              have Hq2pI := Lib.hid hq2pI
              by_cases c2 : r2I + v1I < 4294967296
              · have c2n : r2 + v1 < 4294967296 := by omega
                have hcc : q2p ≤ 4294967298 := by omega
                have HAB := Lib.hid hab; have HBB := Lib.hid hbb; have HQE := Lib.hid hqe; have C2N := Lib.hid c2n; have HCC := Lib.hid hcc
                have hval : Value.int .u64 (r2I + v1I) = .int .u64 ((r2 + v1 : Nat) : Int) := by rw [hr2I, hv1I, Int.natCast_add]
                have hval2 : Value.int .u64 q2pI = .int .u64 (q2p : Int) := by rw [hq2pI]
                have HVAL := Lib.hid hval; have HVAL2 := Lib.hid hval2
                clear hab hbb ha2 hb2 ht hqe c2n hcc hq2pI hq2I hr2I hval hval2 hqi hv1I hv0I huI hu1I hu0I
                go_wp2
                go_roundg q2p
                case measure => rw [HG2.out]; have := HQE.out; omega
                case rel => exact ⟨q2p, r2 + v1, rfl, HVAL2.out, HVAL.out, HAB.out, HBB.out, HCC.out, C2N.out, rfl⟩
              · have hQ := kn_break hab hul1 hbb (by omega) hv0 (by omega)
                clear hab hbb ha2 hb2 ht hqe hq2pI hq2I hr2I hqi hv1I hv0I huI hu1I hu0I
                obtain ⟨R2, hR2, hR2l, hR2m⟩ : ∃ R2 : Nat, q2p * (v1 * 4294967296 + v0) + R2 = R1 * 4294967296 + u0 ∧ R2 < (v1 * 4294967296 + v0) ∧ R2 = (R1 * 4294967296 + u0) % (v1 * 4294967296 + v0) := ⟨_, by rw [hQ, Nat.mul_comm, Nat.div_add_mod], Nat.mod_lt _ (by omega), rfl⟩
                have hre := kn_rest R1 u0 q2p _ R2 HA.out hR2 (by omega)
                rw [← HR1I.out, ← Hq2pI.out, ← Hu0I.out] at hre
                have hky := HKY.out
                rw [← HQ.out, ← HR1.out, ← hQ, ← hR2m] at hky
                rw [HNQ.out, HNR.out] at hky
                have hq1r := kn_quot3 hky.1 HNQL.out
                have hrs : (R2 : Int) / 2 ^ s = (NR : Int) := by rw [← hky.2, Int.natCast_ediv, Int.natCast_pow]; rfl
                rw [← Hq2pI.out] at hq1r
                first | rw [← HqpI.out] at hq1r | rw [← HqI.out] at hq1r
                obtain ⟨R2I, hR2I⟩ : ∃ x : Int, x = (R2 : Int) := ⟨_, rfl⟩
                rw [← hR2I] at hre hrs
                have HQR := Lib.hid hq1r; have HRS := Lib.hid hrs
                have bR2 : 0 ≤ R2I := by omega
                clear hR2 hR2m hky hQ hq1r hrs hR2I
                go_wp2
                go_ret2
                refine ⟨?_, Calm.refl _⟩
                rw [← HRS.out]
                first | (rw [← HQR.out.1]; rfl) | (rw [← HQR.out.2.1]; rfl) | (rw [← HQR.out.2.2]; rfl)
            · have hp1 : q2 * v0 < 18446744073709551616 := Nat.lt_of_le_of_lt (Nat.mul_le_mul (show q2 ≤ 4294967295 by omega) (show v0 ≤ 4294967295 by omega)) (by decide)
              obtain ⟨pI, hpI⟩ : ∃ x : Int, x = ((q2 * v0 : Nat) : Int) := ⟨_, rfl⟩
              have hp : IntKind.u64.wrap (q2I * v0I) = pI := by rw [hpI, hq2I, hv0I, nmul, nwrap _ hp1]
              have hp0 : 0 ≤ pI := by omega
              have hp2 : pI < 18446744073709551616 := by omega
              by_cases c3 : 4294967296 * r2I + u0I < pI
              · have c3n : 4294967296 * r2 + u0 < q2 * v0 := by omega
                have ht := kn_true ha2 hul1 u0l hb2 (.inr c3n)
                obtain ⟨q2p, hqe, hqi, hqw, hab, hbb⟩ := kn_less ha2 (Nat.zero_lt_of_lt ht) (by omega) ht
                rw [← hq2I] at hqi hqw
                obtain ⟨q2pI, hq2pI⟩ : ∃ x : Int, x = (q2p : Int) := ⟨_, rfl⟩
                rw [← hq2pI] at hqi hqw
                have bq2p0 : 0 ≤ q2pI := by omega
                have bq2p1 : q2pI ≤ 4294967297 := by omega
                have Hq2pI := Lib.hid hq2pI
                by_cases c2 : r2I + v1I < 4294967296
                · have c2n : r2 + v1 < 4294967296 := by omega
                  have hcc : q2p ≤ 4294967298 := by omega
                  have HAB := Lib.hid hab; have HBB := Lib.hid hbb; have HQE := Lib.hid hqe; have C2N := Lib.hid c2n; have HCC := Lib.hid hcc
                  have hval : Value.int .u64 (r2I + v1I) = .int .u64 ((r2 + v1 : Nat) : Int) := by rw [hr2I, hv1I, Int.natCast_add]
                  have hval2 : Value.int .u64 q2pI = .int .u64 (q2p : Int) := by rw [hq2pI]
                  have HVAL := Lib.hid hval; have HVAL2 := Lib.hid hval2
                  clear hab hbb ha2 hb2 ht hqe c2n hcc hq2pI hq2I hr2I hval hval2 hqi hpI hp1 c3n hv1I hv0I huI hu1I hu0I
                  go_wp2
                  go_roundg q2p
                  case measure => rw [HG2.out]; have := HQE.out; omega
                  case rel => exact ⟨q2p, r2 + v1, rfl, HVAL2.out, HVAL.out, HAB.out, HBB.out, HCC.out, C2N.out, rfl⟩
                · have hQ := kn_break hab hul1 hbb (by omega) hv0 (by omega)
                  clear hab hbb ha2 hb2 ht hqe hq2pI hq2I hr2I hqi hpI hp1 c3n hv1I hv0I huI hu1I hu0I
                  obtain ⟨R2, hR2, hR2l, hR2m⟩ : ∃ R2 : Nat, q2p * (v1 * 4294967296 + v0) + R2 = R1 * 4294967296 + u0 ∧ R2 < (v1 * 4294967296 + v0) ∧ R2 = (R1 * 4294967296 + u0) % (v1 * 4294967296 + v0) := ⟨_, by rw [hQ, Nat.mul_comm, Nat.div_add_mod], Nat.mod_lt _ (by omega), rfl⟩
                  have hre := kn_rest R1 u0 q2p _ R2 HA.out hR2 (by omega)
                  rw [← HR1I.out, ← Hq2pI.out, ← Hu0I.out] at hre
                  have hky := HKY.out
                  rw [← HQ.out, ← HR1.out, ← hQ, ← hR2m] at hky
                  rw [HNQ.out, HNR.out] at hky
                  have hq1r := kn_quot3 hky.1 HNQL.out
                  have hrs : (R2 : Int) / 2 ^ s = (NR : Int) := by rw [← hky.2, Int.natCast_ediv, Int.natCast_pow]; rfl
                  rw [← Hq2pI.out] at hq1r
                  first | rw [← HqpI.out] at hq1r | rw [← HqI.out] at hq1r
                  obtain ⟨R2I, hR2I⟩ : ∃ x : Int, x = (R2 : Int) := ⟨_, rfl⟩
                  rw [← hR2I] at hre hrs
                  have HQR := Lib.hid hq1r; have HRS := Lib.hid hrs
                  have bR2 : 0 ≤ R2I := by omega
                  clear hR2 hR2m hky hQ hq1r hrs hR2I
                  go_wp2
                  go_ret2
                  refine ⟨?_, Calm.refl _⟩
                  rw [← HRS.out]
                  first | (rw [← HQR.out.1]; rfl) | (rw [← HQR.out.2.1]; rfl) | (rw [← HQR.out.2.2]; rfl)
              · have hQ := kn_false ha2 hul1 hb2 (by omega)
                clear ha2 hb2 hq2I hr2I hpI hp1 hv1I hv0I huI hu1I hu0I
                obtain ⟨R2, hR2, hR2l, hR2m⟩ : ∃ R2 : Nat, q2 * (v1 * 4294967296 + v0) + R2 = R1 * 4294967296 + u0 ∧ R2 < (v1 * 4294967296 + v0) ∧ R2 = (R1 * 4294967296 + u0) % (v1 * 4294967296 + v0) := ⟨_, by rw [hQ, Nat.mul_comm, Nat.div_add_mod], Nat.mod_lt _ (by omega), rfl⟩
                have hre := kn_rest R1 u0 q2 _ R2 HA.out hR2 (by omega)
                rw [← HR1I.out, ← Hq2I.out, ← Hu0I.out] at hre
                have hky := HKY.out
                rw [← HQ.out, ← HR1.out, ← hQ, ← hR2m] at hky
                rw [HNQ.out, HNR.out] at hky
                have hq1r := kn_quot3 hky.1 HNQL.out
                have hrs : (R2 : Int) / 2 ^ s = (NR : Int) := by rw [← hky.2, Int.natCast_ediv, Int.natCast_pow]; rfl
                rw [← Hq2I.out] at hq1r
                first | rw [← HqpI.out] at hq1r | rw [← HqI.out] at hq1r
                obtain ⟨R2I, hR2I⟩ : ∃ x : Int, x = (R2 : Int) := ⟨_, rfl⟩
                rw [← hR2I] at hre hrs
                have HQR := Lib.hid hq1r; have HRS := Lib.hid hrs
                have bR2 : 0 ≤ R2I := by omega
                clear hR2 hR2m hky hQ hq1r hrs hR2I
                go_wp2
                go_ret2
                refine ⟨?_, Calm.refl _⟩
                rw [← HRS.out]
                first | (rw [← HQR.out.1]; rfl) | (rw [← HQR.out.2.1]; rfl) | (rw [← HQR.out.2.2]; rfl)
end Go.Proofs.Ytfeeikhcdphcpaa
