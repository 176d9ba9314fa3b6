/- PairDivides: the walk. -/
import Derived.Test.YtjigjjkbgcnjdaaLawKit
import Derived.Test.YtjigjjkbgcnjdaaShown
import Derived.Test.YtjigjjkbgcnjdaaTruncR
import Derived.Test.YtjigjjkbgcnjdaaFloorR
namespace Go.Proofs.Ytjigjjkbgcnjdaa
open Go Go.RowKit
set_option linter.unusedSimpArgs false
set_option linter.unusedVariables false

set_option maxHeartbeats 8000000 in
theorem divides_walk (pl ph b : Int) (hp1 : C64 pl) (hp2 : C64 ph) (hb : C64 b) (w : World) :
    Calls Try.prog 3 #[.agg #[.int .i64 pl, .int .i64 ph], .int .i64 b] w fun e w' => e = .returned (.bool true) ∧ Calm w w' := by
  obtain ⟨p, sp, ep, qp⟩ := pv_arg hp1 hp2
  obtain ⟨p1, p2⟩ := id sp
  have hmod : pv p = pv (p % 340282366920938463463374607431768211456) := pv_mod (by omega)
  have h11 := ud_ok (p % 340282366920938463463374607431768211456) b (by omega) (by omega) hb
  have h12 := udR_ok (p % 340282366920938463463374607431768211456) b (by omega) (by omega) hb
  have h13 := floor_ok p b sp hb
  have h14 := floorR_ok p b sp hb
  have h15 := trunc_ok p b sp hb
  have h16 := truncR_ok p b sp hb
  rw [← hmod] at h11 h12
  rw [ep] at h11 h12 h13 h14 h15 h16
  unfold tri at h11 h12 h13 h14 h15 h16
  generalize ud (p % 340282366920938463463374607431768211456) b = u at *
  generalize fl p b = f at *
  generalize tr p b = t at *
  obtain ⟨u1, u2, u3⟩ := u
  obtain ⟨f1, f2, f3⟩ := f
  obtain ⟨t1, t2, t3⟩ := t
  simp only at h11 h12 h13 h14 h15 h16
  have P0 := PBlk.new w ep
  have EP := Lib.hid ep
  have sw := (Calm.refl w).alloc (.cells #[.int .i64 pl, .int .i64 ph] 24)
  clear ep hmod qp
  go_enter Try.func3, Try.ntmps3
  go_wp2_with (first
    | (go_at_call 10; refine (shown_ok _).mono ?_; rintro e w1 ⟨rfl, s1⟩; replace P0 := P0.calm s1; replace sw := sw.trans s1; obtain ⟨a0, a1, a2, a3⟩ := P0.cells EP.out)
    | (go_at_call 11; refine (h11 _).mono ?_; rintro e w1 ⟨rfl, s1⟩; replace P0 := P0.calm s1; replace sw := sw.trans s1; obtain ⟨a0, a1, a2, a3⟩ := P0.cells EP.out)
    | (go_at_call 12; refine (h12 _).mono ?_; rintro e w1 ⟨rfl, s1⟩; replace P0 := P0.calm s1; replace sw := sw.trans s1; obtain ⟨a0, a1, a2, a3⟩ := P0.cells EP.out)
    | (go_at_call 13; refine (h13 _).mono ?_; rintro e w1 ⟨rfl, s1⟩; replace P0 := P0.calm s1; replace sw := sw.trans s1; obtain ⟨a0, a1, a2, a3⟩ := P0.cells EP.out)
    | (go_at_call 14; refine (h14 _).mono ?_; rintro e w1 ⟨rfl, s1⟩; replace P0 := P0.calm s1; replace sw := sw.trans s1; obtain ⟨a0, a1, a2, a3⟩ := P0.cells EP.out)
    | (go_at_call 15; refine (h15 _).mono ?_; rintro e w1 ⟨rfl, s1⟩; replace P0 := P0.calm s1; replace sw := sw.trans s1; obtain ⟨a0, a1, a2, a3⟩ := P0.cells EP.out)
    | (go_at_call 16; refine (h16 _).mono ?_; rintro e w1 ⟨rfl, s1⟩; replace P0 := P0.calm s1; replace sw := sw.trans s1; obtain ⟨a0, a1, a2, a3⟩ := P0.cells EP.out))
  go_ret
  exact ⟨rfl, sw⟩
end Go.Proofs.Ytjigjjkbgcnjdaa
