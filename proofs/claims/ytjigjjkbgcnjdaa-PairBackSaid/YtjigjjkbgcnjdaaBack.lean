/- PairBack: the walk. -/
import Derived.Test.YtjigjjkbgcnjdaaBackLaw
import Derived.Test.YtjigjjkbgcnjdaaShown
import Derived.Test.YtjigjjkbgcnjdaaQuietC
import Derived.Deep.CutRange
namespace Go.Proofs.Ytjigjjkbgcnjdaa
open Go Go.RowKit
set_option linter.unusedSimpArgs false
set_option linter.unusedVariables false

set_option maxHeartbeats 8000000 in
theorem back_zero (pl ph : Int) (hp1 : C64 pl) (hp2 : C64 ph) (w : World) :
    Calls Try.prog 8 #[.agg #[.int .i64 pl, .int .i64 ph], .int .i64 0] w fun e w' => e = .returned (.bool true) ∧ Calm w w' := by
  obtain ⟨p, sp, ep, qp⟩ := pv_arg hp1 hp2
  have hC0 : C64 0 := ⟨by omega, by omega⟩
  have h11 := ud_ok (p % 340282366920938463463374607431768211456) 0 (by omega) (by omega) hC0
  rw [← show pv p = pv (p % 340282366920938463463374607431768211456) from pv_mod (by omega)] at h11
  have h13 := floor_ok p 0 sp hC0
  have h15 := trunc_ok p 0 sp hC0
  rw [ep, show tri (ud (p % 340282366920938463463374607431768211456) 0) = .tuple #[.int .i64 0, .int .i64 0, .int .i64 (-10)] from rfl] at h11
  rw [ep, show tri (fl p 0) = .tuple #[.int .i64 0, .int .i64 0, .int .i64 (-10)] from rfl] at h13
  rw [ep, show tri (tr p 0) = .tuple #[.int .i64 0, .int .i64 0, .int .i64 (-10)] from rfl] at h15
  have P0 := PBlk.new w ep
  have EP := Lib.hid ep
  have sw := (Calm.refl w).alloc (.cells #[.int .i64 pl, .int .i64 ph] 24)
  clear ep qp
  go_enter Try.func8, Try.ntmps8
  go_wp2_with (first
    | (go_at_call 10; refine (shown_ok _).mono ?_; rintro e w1 ⟨rfl, s1⟩; replace P0 := P0.calm s1; replace sw := sw.trans s1; obtain ⟨a0, a1, a2, a3⟩ := P0.cells EP.out)
    | (go_at_call 11; refine (h11 _).mono ?_; rintro e w1 ⟨rfl, s1⟩; replace P0 := P0.calm s1; replace sw := sw.trans s1; obtain ⟨a0, a1, a2, a3⟩ := P0.cells EP.out))
  go_quiet (fail)
  replace P0 := P0.calm ((Calm.refl _).drewN nq)
  replace sw := sw.drewN nq
  obtain ⟨a0, a1, a2, a3⟩ := P0.cells EP.out
  go_wp2_with (go_at_call 13; refine (h13 _).mono ?_; rintro e w1 ⟨rfl, s1⟩; replace P0 := P0.calm s1; replace sw := sw.trans s1; obtain ⟨a0, a1, a2, a3⟩ := P0.cells EP.out)
  go_quiet (fail)
  replace P0 := P0.calm ((Calm.refl _).drewN nq)
  replace sw := sw.drewN nq
  obtain ⟨a0, a1, a2, a3⟩ := P0.cells EP.out
  go_wp2_with (go_at_call 15; refine (h15 _).mono ?_; rintro e w1 ⟨rfl, s1⟩; replace P0 := P0.calm s1; replace sw := sw.trans s1)
  go_ret
  exact ⟨rfl, sw⟩

set_option maxRecDepth 100000 in
set_option maxHeartbeats 40000000 in
theorem back_core (pl ph b p : Int) (hp2 : C64 ph) (hb : C64 b) (hb0 : b ≠ 0) (ep : pv p = .agg #[.int .i64 pl, .int .i64 ph]) (u1 u2 u3 f1 f2 f3 t1 t2 t3 : Int)
    (h11 : ∀ w, Calls Try.prog 11 #[.agg #[.int .i64 pl, .int .i64 ph], .int .i64 b] w fun e w' => e = .returned (.tuple #[.int .i64 u1, .int .i64 u2, .int .i64 u3]) ∧ Calm w w')
    (h13 : ∀ w, Calls Try.prog 13 #[.agg #[.int .i64 pl, .int .i64 ph], .int .i64 b] w fun e w' => e = .returned (.tuple #[.int .i64 f1, .int .i64 f2, .int .i64 f3]) ∧ Calm w w')
    (h15 : ∀ w, Calls Try.prog 15 #[.agg #[.int .i64 pl, .int .i64 ph], .int .i64 b] w fun e w' => e = .returned (.tuple #[.int .i64 t1, .int .i64 t2, .int .i64 t3]) ∧ Calm w w')
    (hU : (u1 = 0 ∧ u2 = 0 ∧ u3 = -11) ∨ (u3 = 0 ∧ ∃ m1 m2, (∀ w, Calls Try.prog 18 #[.int .i64 u2, .int .i64 b] w fun e w' => e = .returned (.agg #[.int .i64 m1, .int .i64 m2]) ∧ Calm w w') ∧
      (∀ w, Calls Try.prog 17 #[.agg #[.int .i64 m1, .int .i64 m2], .agg #[.int .i64 u1, .int .i64 0]] w fun e w' => e = .returned (.agg #[.int .i64 pl, .int .i64 ph]) ∧ Calm w w') ∧
      (∀ w, Calls Try.prog 25 #[.agg #[.int .i64 u1, .int .i64 0], .agg #[.int .i64 b, .int .i64 0]] w fun e w' => e = .returned (.bool true) ∧ Calm w w')))
    (hF : (f1 = 0 ∧ f2 = 0 ∧ f3 = -11) ∨ (f3 = 0 ∧ (∃ m1 m2 k, (∀ w, Calls Try.prog 19 #[.int .i64 f2, .int .i64 b] w fun e w' => e = .returned (.agg #[.int .i64 m1, .int .i64 m2]) ∧ Calm w w') ∧
      (∀ w, Calls Try.prog 23 #[.int .i64 f1] w fun e w' => e = .returned (.agg #[.int .i64 f1, .int .i64 k]) ∧ Calm w w') ∧
      (∀ w, Calls Try.prog 17 #[.agg #[.int .i64 m1, .int .i64 m2], .agg #[.int .i64 f1, .int .i64 k]] w fun e w' => e = .returned (.agg #[.int .i64 pl, .int .i64 ph]) ∧ Calm w w')) ∧
      ((0 ≤ f1 ∧ f1 < b) ∨ (f1 = 0 ∧ ¬ 0 < b ∧ b < 0) ∨ (¬ 0 ≤ f1 ∧ f1 ≤ 0 ∧ b < f1))))
    (hT : (t1 = 0 ∧ t2 = 0 ∧ t3 = -11) ∨ (t3 = 0 ∧ (∃ m1 m2 k, (∀ w, Calls Try.prog 19 #[.int .i64 t2, .int .i64 b] w fun e w' => e = .returned (.agg #[.int .i64 m1, .int .i64 m2]) ∧ Calm w w') ∧
      (∀ w, Calls Try.prog 23 #[.int .i64 t1] w fun e w' => e = .returned (.agg #[.int .i64 t1, .int .i64 k]) ∧ Calm w w') ∧
      (∀ w, Calls Try.prog 17 #[.agg #[.int .i64 m1, .int .i64 m2], .agg #[.int .i64 t1, .int .i64 k]] w fun e w' => e = .returned (.agg #[.int .i64 pl, .int .i64 ph]) ∧ Calm w w')) ∧
      C64 t1 ∧ absI t1 < absI b ∧ (t1 = 0 ∨ (¬ t1 = 0 ∧ t1 < 0 ∧ ph < 0) ∨ (¬ t1 = 0 ∧ ¬ t1 < 0 ∧ ¬ ph < 0)))) (w : World) :
    Calls Try.prog 8 #[.agg #[.int .i64 pl, .int .i64 ph], .int .i64 b] w fun e w' => e = .returned (.bool true) ∧ Calm w w' := by
  have P0 := PBlk.new w ep
  have EP := Lib.hid ep
  have sw := (Calm.refl w).alloc (.cells #[.int .i64 pl, .int .i64 ph] 24)
  have HU := Lib.hid hU
  have HF := Lib.hid hF
  have HT := Lib.hid hT
  have HB := Lib.hid hb
  have hbb : (b == 0) = false := by simpa using hb0
  clear ep hU hF hT hb hp2
  go_enter Try.func8, Try.ntmps8
  go_upto_region 3 with (first
    | (go_at_call 10; refine (shown_ok _).mono ?_; rintro e w1 ⟨rfl, s1⟩; replace P0 := P0.calm s1; replace sw := sw.trans s1; obtain ⟨a0, a1, a2, a3⟩ := P0.cells EP.out)
    | (go_at_call 11; refine (h11 _).mono ?_; rintro e w1 ⟨rfl, s1⟩; replace P0 := P0.calm s1; replace sw := sw.trans s1; obtain ⟨a0, a1, a2, a3⟩ := P0.cells EP.out))
  go_cut [42] from 23 to 42 (fun c wx => c = .bool false ∧ Calm w1 wx)
  case first =>
    rcases HU.out with ⟨e1, e2, rfl⟩ | ⟨rfl, m1, m2, h18, h17, h25⟩
    · clear e1 e2 HU HF HT
      refine q_start (fun W => Calm w1 W) (by kernel_rfl) (Calm.refl _).drew ?_
      repeat (first
        | (refine q_off (by rfl) ?_; simp only [Act.put, List.setIfInBounds_toArray, List.set_cons_zero, List.set_cons_succ])
        | (refine q_on (by rfl) ?_; apply Exists.intro; refine ⟨fun W hW => ?_, ?_⟩; (obtain ⟨a0, a1, a2, a3⟩ := (P0.calm hW).cells EP.out; go_simp; first | done | with_reducible rfl); simp only [Act.put, List.setIfInBounds_toArray, List.set_cons_zero, List.set_cons_succ])
        | fail)
      refine q_end ?_
      intro w2 s2
      go_wp2_with fail
      go_meet
      case rel => exact ⟨rfl, s2⟩
    · clear HU HF HT
      refine q_start (fun W => Calm w1 W) (by kernel_rfl) (Calm.refl _).drew ?_
      repeat (first
        | (refine q_off (by rfl) ?_; simp only [Act.put, List.setIfInBounds_toArray, List.set_cons_zero, List.set_cons_succ])
        | (refine q_on (by rfl) ?_; apply Exists.intro; refine ⟨fun W hW => ?_, ?_⟩; (obtain ⟨a0, a1, a2, a3⟩ := (P0.calm hW).cells EP.out; go_simp; first | done | with_reducible rfl | (go_at_call 18; exact (h18 _).mono fun e w' k => ⟨k.1, hW.trans k.2⟩) | (go_at_call 17; exact (h17 _).mono fun e w' k => ⟨k.1, hW.trans k.2⟩) | (go_at_call 25; exact (h25 _).mono fun e w' k => ⟨k.1, hW.trans k.2⟩)); simp only [Act.put, List.setIfInBounds_toArray, List.set_cons_zero, List.set_cons_succ])
        | fail)
      refine q_end ?_
      intro w2 s2
      go_wp2_with fail
      go_meet
      case rel => exact ⟨rfl, s2⟩
  case rest =>
    obtain ⟨rfl, s2⟩ := hcut
    replace P0 := P0.calm s2
    replace sw := sw.trans s2
    clear s2
    obtain ⟨a0, a1, a2, a3⟩ := P0.cells EP.out
    go_upto_region 5 with fail
    go_cut [59] from 43 to 59 (fun c wx => c = .bool false ∧ wx = wc)
    case first =>
      rcases HU.out with ⟨rfl, rfl, rfl⟩ | ⟨rfl, m1, m2, h18, h17, h25⟩
      · clear HU HF HT
        go_wp2_with fail
        go_meet
        case rel => exact ⟨rfl, rfl⟩
      · clear HU HF HT
        go_wp2_with fail
        go_meet
        case rel => exact ⟨rfl, rfl⟩
    case rest =>
      obtain ⟨rfl, rfl⟩ := hcut
      clear HU
      go_upto_region 8 with (go_at_call 13; refine (h13 _).mono ?_; rintro e w1 ⟨rfl, s1⟩; replace P0 := P0.calm s1; replace sw := sw.trans s1; obtain ⟨a0, a1, a2, a3⟩ := P0.cells EP.out)
      go_cut [97] from 67 to 97 (fun c wx => c = .bool false ∧ Calm w1 wx)
      case first =>
        rcases HF.out with ⟨e1, e2, rfl⟩ | ⟨rfl, ⟨m1, m2, k, h19, h23, h17⟩, ⟨g1, g2⟩ | ⟨rfl, g1, g2⟩ | ⟨g1, g2, g3⟩⟩
        · clear e1 e2 HF HT
          refine q_start (fun W => Calm w1 W) (by kernel_rfl) (Calm.refl _).drew ?_
          repeat (first
            | (refine q_off (by rfl) ?_; simp only [Act.put, List.setIfInBounds_toArray, List.set_cons_zero, List.set_cons_succ])
            | (refine q_on (by rfl) ?_; apply Exists.intro; refine ⟨fun W hW => ?_, ?_⟩; (obtain ⟨a0, a1, a2, a3⟩ := (P0.calm hW).cells EP.out; go_simp; first | done | with_reducible rfl); simp only [Act.put, List.setIfInBounds_toArray, List.set_cons_zero, List.set_cons_succ])
            | fail)
          refine q_end ?_
          intro w2 s2
          go_wp2_with fail
          go_meet
          case rel => exact ⟨rfl, s2⟩
        · clear HF HT
          have d1 : decide (0 ≤ f1) = true := decide_eq_true (by omega)
          have d2 : decide (f1 < b) = true := decide_eq_true (by omega)
          refine q_start (fun W => Calm w1 W) (by kernel_rfl) (Calm.refl _).drew ?_
          repeat (first
            | (refine q_off (by rfl) ?_; simp only [Act.put, List.setIfInBounds_toArray, List.set_cons_zero, List.set_cons_succ])
            | (refine q_on (by rfl) ?_; apply Exists.intro; refine ⟨fun W hW => ?_, ?_⟩; (obtain ⟨a0, a1, a2, a3⟩ := (P0.calm hW).cells EP.out; go_simp; first | done | with_reducible rfl | (go_at_call 19; exact (h19 _).mono fun e w' k => ⟨k.1, hW.trans k.2⟩) | (go_at_call 17; exact (h17 _).mono fun e w' k => ⟨k.1, hW.trans k.2⟩) | (go_at_call 23; exact (h23 _).mono fun e w' k => ⟨k.1, hW.trans k.2⟩)); simp only [Act.put, List.setIfInBounds_toArray, List.set_cons_zero, List.set_cons_succ])
            | fail)
          refine q_end ?_
          intro w2 s2
          go_wp2_with fail
          go_meet
          case rel => exact ⟨rfl, s2⟩
        · clear HF HT
          have d1 : decide (0 < b) = false := decide_eq_false (by omega)
          have d2 : decide (b < 0) = true := decide_eq_true (by omega)
          refine q_start (fun W => Calm w1 W) (by kernel_rfl) (Calm.refl _).drew ?_
          repeat (first
            | (refine q_off (by rfl) ?_; simp only [Act.put, List.setIfInBounds_toArray, List.set_cons_zero, List.set_cons_succ])
            | (refine q_on (by rfl) ?_; apply Exists.intro; refine ⟨fun W hW => ?_, ?_⟩; (obtain ⟨a0, a1, a2, a3⟩ := (P0.calm hW).cells EP.out; go_simp; first | done | with_reducible rfl | (go_at_call 19; exact (h19 _).mono fun e w' k => ⟨k.1, hW.trans k.2⟩) | (go_at_call 17; exact (h17 _).mono fun e w' k => ⟨k.1, hW.trans k.2⟩) | (go_at_call 23; exact (h23 _).mono fun e w' k => ⟨k.1, hW.trans k.2⟩)); simp only [Act.put, List.setIfInBounds_toArray, List.set_cons_zero, List.set_cons_succ])
            | fail)
          refine q_end ?_
          intro w2 s2
          go_wp2_with fail
          go_meet
          case rel => exact ⟨rfl, s2⟩
        · clear HF HT
          have d1 : decide (0 ≤ f1) = false := decide_eq_false (by omega)
          have d2 : decide (f1 ≤ 0) = true := decide_eq_true (by omega)
          have d3 : decide (b < f1) = true := decide_eq_true (by omega)
          refine q_start (fun W => Calm w1 W) (by kernel_rfl) (Calm.refl _).drew ?_
          repeat (first
            | (refine q_off (by rfl) ?_; simp only [Act.put, List.setIfInBounds_toArray, List.set_cons_zero, List.set_cons_succ])
            | (refine q_on (by rfl) ?_; apply Exists.intro; refine ⟨fun W hW => ?_, ?_⟩; (obtain ⟨a0, a1, a2, a3⟩ := (P0.calm hW).cells EP.out; go_simp; first | done | with_reducible rfl | (go_at_call 19; exact (h19 _).mono fun e w' k => ⟨k.1, hW.trans k.2⟩) | (go_at_call 17; exact (h17 _).mono fun e w' k => ⟨k.1, hW.trans k.2⟩) | (go_at_call 23; exact (h23 _).mono fun e w' k => ⟨k.1, hW.trans k.2⟩)); simp only [Act.put, List.setIfInBounds_toArray, List.set_cons_zero, List.set_cons_succ])
            | fail)
          refine q_end ?_
          intro w2 s2
          go_wp2_with fail
          go_meet
          case rel => exact ⟨rfl, s2⟩
      case rest =>
        obtain ⟨rfl, s2⟩ := hcut
        replace P0 := P0.calm s2
        replace sw := sw.trans s2
        clear s2 HF
        obtain ⟨a0, a1, a2, a3⟩ := P0.cells EP.out
        rcases HT.out with ⟨rfl, rfl, rfl⟩ | ⟨rfl, ⟨m1, m2, k, h19, h23, h17⟩, hct, hlt, rfl | ⟨hz, g1, g2⟩ | ⟨hz, g1, g2⟩⟩
        · clear HT
          go_wp2_with (go_at_call 15; refine (h15 _).mono ?_; rintro e w1 ⟨rfl, s1⟩; replace P0 := P0.calm s1; replace sw := sw.trans s1; obtain ⟨a0, a1, a2, a3⟩ := P0.cells EP.out)
          go_ret
          exact ⟨rfl, sw⟩
        · clear HT
          have h26b := size26_ok b HB.out
          have h26t := size26_ok 0 hct
          generalize absI b = sb at h26b hlt
          generalize absI 0 = st at h26t hlt
          have hlb : decide (st < sb) = true := decide_eq_true hlt
          clear hct
          go_wp2_with (first
            | (go_at_call 15; refine (h15 _).mono ?_; rintro e w1 ⟨rfl, s1⟩; replace P0 := P0.calm s1; replace sw := sw.trans s1; obtain ⟨a0, a1, a2, a3⟩ := P0.cells EP.out)
            | (go_at_call_of 26 b; refine (h26b _).mono ?_; rintro e w1 ⟨rfl, rfl⟩)
            | (go_at_call 26; refine (h26t _).mono ?_; rintro e w1 ⟨rfl, rfl⟩))
          obtain ⟨wq, hwq⟩ : ∃ wq : World, wq = w1 := ⟨_, rfl⟩
          refine q_start (fun W => Calm w1 W) (by kernel_rfl) (Calm.refl _).drew ?_
          repeat (first
            | (refine q_off (by rfl) ?_; simp only [Act.put, List.setIfInBounds_toArray, List.set_cons_zero, List.set_cons_succ])
            | (refine q_on (by rfl) ?_; apply Exists.intro; refine ⟨fun W hW => ?_, ?_⟩; (obtain ⟨a0, a1, a2, a3⟩ := (P0.calm hW).cells EP.out; go_simp; first | done | with_reducible rfl | (go_at_call 19; exact (h19 _).mono fun e w' k => ⟨k.1, hW.trans k.2⟩) | (go_at_call 17; exact (h17 _).mono fun e w' k => ⟨k.1, hW.trans k.2⟩) | (go_at_call 23; exact (h23 _).mono fun e w' k => ⟨k.1, hW.trans k.2⟩)); simp only [Act.put, List.setIfInBounds_toArray, List.set_cons_zero, List.set_cons_succ])
            | fail)
          refine q_end ?_
          intro w2 s2
          go_wp2
          go_ret
          exact ⟨rfl, sw.trans s2⟩
        · clear HT
          have h26b := size26_ok b HB.out
          have h26t := size26_ok t1 hct
          generalize absI b = sb at h26b hlt
          generalize absI t1 = st at h26t hlt
          have hlb : decide (st < sb) = true := decide_eq_true hlt
          have d1 : decide (t1 < 0) = true := decide_eq_true (by omega)
          have d2 : decide (ph < 0) = true := decide_eq_true (by omega)
          have hzb : (t1 == 0) = false := by simpa using hz
          clear hct
          go_wp2_with (first
            | (go_at_call 15; refine (h15 _).mono ?_; rintro e w1 ⟨rfl, s1⟩; replace P0 := P0.calm s1; replace sw := sw.trans s1; obtain ⟨a0, a1, a2, a3⟩ := P0.cells EP.out)
            | (go_at_call_of 26 b; refine (h26b _).mono ?_; rintro e w1 ⟨rfl, rfl⟩)
            | (go_at_call 26; refine (h26t _).mono ?_; rintro e w1 ⟨rfl, rfl⟩))
          obtain ⟨wq, hwq⟩ : ∃ wq : World, wq = w1 := ⟨_, rfl⟩
          refine q_start (fun W => Calm w1 W) (by kernel_rfl) (Calm.refl _).drew ?_
          repeat (first
            | (refine q_off (by rfl) ?_; simp only [Act.put, List.setIfInBounds_toArray, List.set_cons_zero, List.set_cons_succ])
            | (refine q_on (by rfl) ?_; apply Exists.intro; refine ⟨fun W hW => ?_, ?_⟩; (obtain ⟨a0, a1, a2, a3⟩ := (P0.calm hW).cells EP.out; go_simp; first | done | with_reducible rfl | (go_at_call 19; exact (h19 _).mono fun e w' k => ⟨k.1, hW.trans k.2⟩) | (go_at_call 17; exact (h17 _).mono fun e w' k => ⟨k.1, hW.trans k.2⟩) | (go_at_call 23; exact (h23 _).mono fun e w' k => ⟨k.1, hW.trans k.2⟩)); simp only [Act.put, List.setIfInBounds_toArray, List.set_cons_zero, List.set_cons_succ])
            | fail)
          refine q_end ?_
          intro w2 s2
          go_wp2
          go_ret
          exact ⟨rfl, sw.trans s2⟩
        · clear HT
          have h26b := size26_ok b HB.out
          have h26t := size26_ok t1 hct
          generalize absI b = sb at h26b hlt
          generalize absI t1 = st at h26t hlt
          have hlb : decide (st < sb) = true := decide_eq_true hlt
          have d1 : decide (t1 < 0) = false := decide_eq_false (by omega)
          have d2 : decide (ph < 0) = false := decide_eq_false (by omega)
          have hzb : (t1 == 0) = false := by simpa using hz
          clear hct
          go_wp2_with (first
            | (go_at_call 15; refine (h15 _).mono ?_; rintro e w1 ⟨rfl, s1⟩; replace P0 := P0.calm s1; replace sw := sw.trans s1; obtain ⟨a0, a1, a2, a3⟩ := P0.cells EP.out)
            | (go_at_call_of 26 b; refine (h26b _).mono ?_; rintro e w1 ⟨rfl, rfl⟩)
            | (go_at_call 26; refine (h26t _).mono ?_; rintro e w1 ⟨rfl, rfl⟩))
          obtain ⟨wq, hwq⟩ : ∃ wq : World, wq = w1 := ⟨_, rfl⟩
          refine q_start (fun W => Calm w1 W) (by kernel_rfl) (Calm.refl _).drew ?_
          repeat (first
            | (refine q_off (by rfl) ?_; simp only [Act.put, List.setIfInBounds_toArray, List.set_cons_zero, List.set_cons_succ])
            | (refine q_on (by rfl) ?_; apply Exists.intro; refine ⟨fun W hW => ?_, ?_⟩; (obtain ⟨a0, a1, a2, a3⟩ := (P0.calm hW).cells EP.out; go_simp; first | done | with_reducible rfl | (go_at_call 19; exact (h19 _).mono fun e w' k => ⟨k.1, hW.trans k.2⟩) | (go_at_call 17; exact (h17 _).mono fun e w' k => ⟨k.1, hW.trans k.2⟩) | (go_at_call 23; exact (h23 _).mono fun e w' k => ⟨k.1, hW.trans k.2⟩)); simp only [Act.put, List.setIfInBounds_toArray, List.set_cons_zero, List.set_cons_succ])
            | fail)
          refine q_end ?_
          intro w2 s2
          go_wp2
          go_ret
          exact ⟨rfl, sw.trans s2⟩
end Go.Proofs.Ytjigjjkbgcnjdaa
