/- PairOrder: the law, from its two walks. -/
import Derived.Test.YtjigjjkbgcnjdaaOrderA
import Derived.Test.YtjigjjkbgcnjdaaOrderB
import Derived.Test.YtjigjjkbgcnjdaaShown
namespace Go.Proofs.Ytjigjjkbgcnjdaa
open Go Go.RowKit
set_option linter.unusedSimpArgs false
set_option linter.unusedVariables false

theorem order_walk (al ah bl bh x y : Int) (ha1 : C64 al) (ha2 : C64 ah) (hb1 : C64 bl) (hb2 : C64 bh) (hx : C64 x) (hy : C64 y) (w : World) :
    Calls Try.prog 7 #[.agg #[.int .i64 al, .int .i64 ah], .agg #[.int .i64 bl, .int .i64 bh], .int .i64 x, .int .i64 y] w fun e w' => e = .returned (.bool true) ∧ Calm w w' := by
  obtain ⟨a, sa, ea, qa⟩ := pv_arg ha1 ha2
  obtain ⟨b, sb, eb, qb⟩ := pv_arg hb1 hb2
  have h1 := less_ok a b sa sb
  have h2 := less_ok b a sb sa
  have h3 := uless_ok a b
  have h4 := uless_ok b a
  have h5 := half_ok b sb
  have h6 := half_ok a sa
  obtain ⟨a1, a2⟩ := id sa
  obtain ⟨b1, b2⟩ := id sb
  have h7 := less_ok (b / 2) (a / 2) ⟨by omega, by omega⟩ ⟨by omega, by omega⟩
  obtain ⟨hbl, hbh, -, -, -, ehb, -⟩ := pv_split (b / 2)
  obtain ⟨hal, hah, -, -, -, eha, -⟩ := pv_split (a / 2)
  have h8 := of_calm x hx
  have h9 := of_calm y hy
  obtain ⟨x1, x2⟩ := id hx
  obtain ⟨y1, y2⟩ := id hy
  have h10 := less_ok x y ⟨by omega, by omega⟩ ⟨by omega, by omega⟩
  rw [pv_cell hx, pv_cell hy] at h10
  have h11 := uless_ok (x % 18446744073709551616) (y % 18446744073709551616)
  rw [pv_lo x hx, pv_lo y hy] at h11
  have eu : decide (x % 18446744073709551616 % 340282366920938463463374607431768211456 < y % 18446744073709551616 % 340282366920938463463374607431768211456) = decide (IntKind.u64.wrap x < IntKind.u64.wrap y) := by
    rw [IntKind.wrap_u64, IntKind.wrap_u64, decide_eq_decide]; omega
  rw [eu] at h11
  have h12 := less_raw al (bits .xor .i64 ah (-9223372036854775808)) bl (bits .xor .i64 bh (-9223372036854775808))
  have ex : decide (bits .xor .i64 ah (-9223372036854775808) * 18446744073709551616 + al % 18446744073709551616 < bits .xor .i64 bh (-9223372036854775808) * 18446744073709551616 + bl % 18446744073709551616) = decide (a % 340282366920938463463374607431768211456 < b % 340282366920938463463374607431768211456) := by
    obtain ⟨c1, c2⟩ := id ha2
    obtain ⟨c3, c4⟩ := id hb2
    rw [decide_eq_decide, xor_top ha2, xor_top hb2]
    split <;> split <;> omega
  rw [ex] at h12
  rw [ea, eb] at h1 h3
  rw [ea, eb] at h2 h4
  rw [eb, ehb] at h5
  rw [ea, eha] at h6
  rw [ehb, eha] at h7
  have h7' : decide (a < b) = true → ∀ w, Calls Try.prog 24 #[.agg #[.int .i64 hbl, .int .i64 hbh], .agg #[.int .i64 hal, .int .i64 hah]] w fun e w' => e = .returned (.bool false) ∧ Calm w w' := by
    intro h
    have hlt := of_decide_eq_true h
    rw [show decide (b / 2 < a / 2) = false from decide_eq_false (by omega)] at h7
    exact h7
  by_cases e1 : al = bl
  · by_cases e2 : ah = bh
    · refine order_a al ah bl bh x y a b _ _ _ _ _ _ w hx hy ea eb rfl rfl shown_ok h1 h2 h3 h4 hal hah hbl hbh h5 h6 h7' h8 h9 h10 h11 h12 (.inl ?_)
      subst e1 e2
      obtain rfl : a = b := by omega
      exact ⟨rfl, rfl, by simp, by simp, by simp, by simp⟩
    · refine order_a al ah bl bh x y a b _ _ _ _ _ _ w hx hy ea eb rfl rfl shown_ok h1 h2 h3 h4 hal hah hbl hbh h5 h6 h7' h8 h9 h10 h11 h12 (.inr ⟨e1, e2, ?_, ?_⟩)
      · rw [Bool.eq_not, ne_eq, decide_eq_decide]; omega
      · rw [Bool.eq_not, ne_eq, decide_eq_decide]; omega
  · refine order_b al ah bl bh x y a b _ _ _ _ _ _ w hx hy ea eb rfl rfl shown_ok h1 h2 h3 h4 hal hah hbl hbh h5 h6 h7' h8 h9 h10 h11 h12 ⟨e1, ?_, ?_⟩
    · obtain ⟨c1, c2⟩ := id ha1
      obtain ⟨c3, c4⟩ := id hb1
      rw [Bool.eq_not, ne_eq, decide_eq_decide]; omega
    · obtain ⟨c1, c2⟩ := id ha1
      obtain ⟨c3, c4⟩ := id hb1
      rw [Bool.eq_not, ne_eq, decide_eq_decide]; omega
end Go.Proofs.Ytjigjjkbgcnjdaa
