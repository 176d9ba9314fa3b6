/- The document's examples, at the head of each statement of the layer. -/
import Derived.Test.YtjigjjkbgcnjdaaFloor
import Derived.Test.YtjigjjkbgcnjdaaTrunc
namespace Go.Proofs.Ytjigjjkbgcnjdaa
open Go Go.RowKit
set_option linter.unusedSimpArgs false
set_option linter.unusedVariables false

theorem shown_ok (w : World) : Calls Try.prog 10 #[] w fun e w' => e = .returned (.bool true) ∧ Calm w w' := by
  have h23 : ∀ w, Calls Try.prog 23 #[.int .i64 (-7)] w fun e w' => e = .returned (.agg #[.int .i64 (-7), .int .i64 (-1)]) ∧ Calm w w' := fun w => of_calm (-7) ⟨by omega, by omega⟩ w
  have e7 : pv (-7) = .agg #[.int .i64 (-7), .int .i64 (-1)] := pv_of (by unfold wrap64; omega) (by unfold wrap64; omega)
  have h13 := floor_ok (-7) 2 ⟨by omega, by omega⟩ ⟨by omega, by omega⟩
  have h15 := trunc_ok (-7) 2 ⟨by omega, by omega⟩ ⟨by omega, by omega⟩
  rw [e7, show tri (fl (-7) 2) = .tuple #[.int .i64 1, .int .i64 (-4), .int .i64 0] by rw [show fl (-7) 2 = (1, -4, 0) by decide +kernel]; rfl] at h13
  rw [e7, show tri (tr (-7) 2) = .tuple #[.int .i64 (-1), .int .i64 (-3), .int .i64 0] by rw [show tr (-7) 2 = (-1, -3, 0) by decide +kernel]; rfl] at h15
  have h18 : ∀ w, Calls Try.prog 18 #[.int .i64 (-1), .int .i64 (-1)] w fun e w' => e = .returned (.agg #[.int .i64 1, .int .i64 (-2)]) ∧ Calm w w' := by
    intro w
    refine (umul_ok (-1) (-1) w).mono ?_
    rintro e w' ⟨rfl, c1, c2, rfl⟩
    refine ⟨congrArg Ending.returned (pv_of (by decide +kernel) (by decide +kernel)), ((Calm.refl _).alloc _).alloc _⟩
  clear e7
  have sw := Calm.refl w
  go_enter Try.func10, Try.ntmps10
  go_wp2_with (first
    | (go_at_call 23; refine (h23 _).mono ?_; rintro e w1 ⟨rfl, s1⟩; replace sw := sw.trans s1)
    | (go_at_call 13; refine (h13 _).mono ?_; rintro e w2 ⟨rfl, s2⟩; replace sw := sw.trans s2)
    | (go_at_call 15; refine (h15 _).mono ?_; rintro e w4 ⟨rfl, s4⟩; replace sw := sw.trans s4)
    | (go_at_call 18; refine (h18 _).mono ?_; rintro e w5 ⟨rfl, s5⟩; replace sw := sw.trans s5))
  go_ret
  exact ⟨rfl, sw⟩
end Go.Proofs.Ytjigjjkbgcnjdaa
