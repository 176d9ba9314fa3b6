/- PairOrder: the walk, A. -/
import Derived.Test.YtjigjjkbgcnjdaaLawKit
import Derived.Test.YtjigjjkbgcnjdaaQuietC
namespace Go.Proofs.Ytjigjjkbgcnjdaa
open Go Go.RowKit
set_option linter.unusedSimpArgs false
set_option linter.unusedVariables false

set_option maxHeartbeats 40000000 in
/-- All but the order of the two pairs. -/
theorem order_a (al ah bl bh x y : Int) (a b : Int) (q uq LT GT ULT UGT : Bool) (w : World)
    (hx : C64 x) (hy : C64 y) (ea : pv a = .agg #[.int .i64 al, .int .i64 ah]) (eb : pv b = .agg #[.int .i64 bl, .int .i64 bh])
    (hq : decide (x < y) = q) (huq : decide (IntKind.u64.wrap x < IntKind.u64.wrap y) = uq)
    (h0 : ∀ w, Calls Try.prog 10 #[] w fun e w' => e = .returned (.bool true) ∧ Calm w w')
    (h1 : ∀ w, Calls Try.prog 24 #[.agg #[.int .i64 al, .int .i64 ah], .agg #[.int .i64 bl, .int .i64 bh]] w fun e w' => e = .returned (.bool LT) ∧ Calm w w')
    (h2 : ∀ w, Calls Try.prog 24 #[.agg #[.int .i64 bl, .int .i64 bh], .agg #[.int .i64 al, .int .i64 ah]] w fun e w' => e = .returned (.bool GT) ∧ Calm w w')
    (h3 : ∀ w, Calls Try.prog 25 #[.agg #[.int .i64 al, .int .i64 ah], .agg #[.int .i64 bl, .int .i64 bh]] w fun e w' => e = .returned (.bool ULT) ∧ Calm w w')
    (h4 : ∀ w, Calls Try.prog 25 #[.agg #[.int .i64 bl, .int .i64 bh], .agg #[.int .i64 al, .int .i64 ah]] w fun e w' => e = .returned (.bool UGT) ∧ Calm w w')
    (hal hah hbl hbh : Int)
    (h5 : ∀ w, Calls Try.prog 22 #[.agg #[.int .i64 bl, .int .i64 bh]] w fun e w' => e = .returned (.agg #[.int .i64 hbl, .int .i64 hbh]) ∧ Calm w w')
    (h6 : ∀ w, Calls Try.prog 22 #[.agg #[.int .i64 al, .int .i64 ah]] w fun e w' => e = .returned (.agg #[.int .i64 hal, .int .i64 hah]) ∧ Calm w w')
    (h7 : LT = true → ∀ w, Calls Try.prog 24 #[.agg #[.int .i64 hbl, .int .i64 hbh], .agg #[.int .i64 hal, .int .i64 hah]] w fun e w' => e = .returned (.bool false) ∧ Calm w w')
    (h8 : ∀ w, Calls Try.prog 23 #[.int .i64 x] w fun e w' => e = .returned (.agg #[.int .i64 x, .int .i64 (x / 9223372036854775808)]) ∧ Calm w w')
    (h9 : ∀ w, Calls Try.prog 23 #[.int .i64 y] w fun e w' => e = .returned (.agg #[.int .i64 y, .int .i64 (y / 9223372036854775808)]) ∧ Calm w w')
    (h10 : ∀ w, Calls Try.prog 24 #[.agg #[.int .i64 x, .int .i64 (x / 9223372036854775808)], .agg #[.int .i64 y, .int .i64 (y / 9223372036854775808)]] w fun e w' => e = .returned (.bool q) ∧ Calm w w')
    (h11 : ∀ w, Calls Try.prog 25 #[.agg #[.int .i64 x, .int .i64 0], .agg #[.int .i64 y, .int .i64 0]] w fun e w' => e = .returned (.bool uq) ∧ Calm w w')
    (h12 : ∀ w, Calls Try.prog 24 #[.agg #[.int .i64 al, .int .i64 (bits .xor .i64 ah (-9223372036854775808))], .agg #[.int .i64 bl, .int .i64 (bits .xor .i64 bh (-9223372036854775808))]] w fun e w' => e = .returned (.bool ULT) ∧ Calm w w')
    (hor : (al = bl ∧ ah = bh ∧ LT = false ∧ GT = false ∧ ULT = false ∧ UGT = false) ∨ (al = bl ∧ ¬ ah = bh ∧ LT = !GT ∧ ULT = !UGT)) :
    Calls Try.prog 7 #[.agg #[.int .i64 al, .int .i64 ah], .agg #[.int .i64 bl, .int .i64 bh], .int .i64 x, .int .i64 y] w fun e w' => e = .returned (.bool true) ∧ Calm w w' := by
  have P0 := B2.new w ea eb
  have EA := Lib.hid ea
  have EB := Lib.hid eb
  clear ea eb
  rcases hor with ⟨k1, k2, k3, k4, k5, k6⟩ | ⟨k1, k2, k3, k4⟩
  · subst k1 k2 k3 k4 k5 k6
    clear h5 h6 h7
    go_enter Try.func7, Try.ntmps7
    go_wp2_with (go_at_call 10; refine (h0 _).mono ?_; rintro e w1 ⟨rfl, s1⟩)
    replace P0 := P0.calm s1
    have sw := (((Calm.refl w).alloc _).alloc _).trans s1
    refine q_start (fun W => Calm w1 W) (by kernel_rfl) (Calm.refl _).drew ?_
    repeat (first
          | (refine q_off (by rfl) ?_; simp only [Act.put, List.setIfInBounds_toArray, List.set_cons_zero, List.set_cons_succ])
          | (refine q_on (by rfl) ?_; apply Exists.intro; refine ⟨fun W hW => ?_, ?_⟩; (obtain ⟨⟨a0, a1⟩, ⟨b0, b1⟩⟩ := (P0.calm hW).facts EA.out EB.out; go_simp; first | done | with_reducible rfl | (go_at_call_of 24 (#[Value.agg #[Value.int IntKind.i64 al, Value.int IntKind.i64 ah], Value.agg #[Value.int IntKind.i64 al, Value.int IntKind.i64 ah]]); exact (h1 _).mono fun e w' k => ⟨k.1, hW.trans k.2⟩) | (go_at_call_of 25 (#[Value.agg #[Value.int IntKind.i64 al, Value.int IntKind.i64 ah], Value.agg #[Value.int IntKind.i64 al, Value.int IntKind.i64 ah]]); exact (h3 _).mono fun e w' k => ⟨k.1, hW.trans k.2⟩)); simp only [Act.put, List.setIfInBounds_toArray, List.set_cons_zero, List.set_cons_succ])
          | fail)
    refine q_end ?_
    intro w2 s2; replace P0 := P0.calm s2; replace sw := sw.trans s2; clear s1 s2
    go_wp2_with fail
    refine q_start (fun W => Calm w2 W) (by kernel_rfl) (Calm.refl _).drew ?_
    repeat (first
          | (refine q_off (by rfl) ?_; simp only [Act.put, List.setIfInBounds_toArray, List.set_cons_zero, List.set_cons_succ])
          | (refine q_on (by rfl) ?_; apply Exists.intro; refine ⟨fun W hW => ?_, ?_⟩; (obtain ⟨⟨a0, a1⟩, ⟨b0, b1⟩⟩ := (P0.calm hW).facts EA.out EB.out; go_simp; first | done | with_reducible rfl | (go_at_call_of 24 (#[Value.agg #[Value.int IntKind.i64 al, Value.int IntKind.i64 ah], Value.agg #[Value.int IntKind.i64 al, Value.int IntKind.i64 ah]]); exact (h1 _).mono fun e w' k => ⟨k.1, hW.trans k.2⟩) | (go_at_call_of 22 (#[Value.agg #[Value.int IntKind.i64 al, Value.int IntKind.i64 ah]]); exact (h5 _).mono fun e w' k => ⟨k.1, hW.trans k.2⟩) | (go_at_call_of 24 (hal); exact (h7 _).mono fun e w' k => ⟨k.1, hW.trans k.2⟩)); simp only [Act.put, List.setIfInBounds_toArray, List.set_cons_zero, List.set_cons_succ])
          | fail)
    refine q_end ?_
    intro w3 s2; replace P0 := P0.calm s2; replace sw := sw.trans s2; clear s2
    go_wp2_with fail
    refine q_start (fun W => Calm w3 W) (by kernel_rfl) (Calm.refl _).drew ?_
    repeat (first
          | (refine q_off (by rfl) ?_; simp only [Act.put, List.setIfInBounds_toArray, List.set_cons_zero, List.set_cons_succ])
          | (refine q_on (by rfl) ?_; apply Exists.intro; refine ⟨fun W hW => ?_, ?_⟩; (obtain ⟨⟨a0, a1⟩, ⟨b0, b1⟩⟩ := (P0.calm hW).facts EA.out EB.out; go_simp; first | done | with_reducible rfl | (go_at_call_of 23 (#[Value.int IntKind.i64 x]); exact (h8 _).mono fun e w' k => ⟨k.1, hW.trans k.2⟩) | (go_at_call_of 23 (#[Value.int IntKind.i64 y]); exact (h9 _).mono fun e w' k => ⟨k.1, hW.trans k.2⟩) | (go_at_call_of 24 (x); exact (h10 _).mono fun e w' k => ⟨k.1, hW.trans k.2⟩) | (go_at_call_of 25 (x); exact (h11 _).mono fun e w' k => ⟨k.1, hW.trans k.2⟩) | (go_at_call_of 25 (al); exact (h3 _).mono fun e w' k => ⟨k.1, hW.trans k.2⟩) | (go_at_call_of 24 (al); exact (h12 _).mono fun e w' k => ⟨k.1, hW.trans k.2⟩)); simp only [Act.put, List.setIfInBounds_toArray, List.set_cons_zero, List.set_cons_succ])
          | fail)
    refine q_end ?_
    intro w4 s2; replace sw := sw.trans s2; clear s2
    go_wp2
    go_ret
    exact ⟨by simp, sw⟩
  · subst k1
    have k5 : ¬ bh = ah := fun h => k2 h.symm
    cases GT
    · subst k3
      cases UGT
      · subst k4
        replace h7 := h7 rfl
        go_enter Try.func7, Try.ntmps7
        go_wp2_with (go_at_call 10; refine (h0 _).mono ?_; rintro e w1 ⟨rfl, s1⟩)
        replace P0 := P0.calm s1
        have sw := (((Calm.refl w).alloc _).alloc _).trans s1
        refine q_start (fun W => Calm w1 W) (by kernel_rfl) (Calm.refl _).drew ?_
        repeat (first
          | (refine q_off (by rfl) ?_; simp only [Act.put, List.setIfInBounds_toArray, List.set_cons_zero, List.set_cons_succ])
          | (refine q_on (by rfl) ?_; apply Exists.intro; refine ⟨fun W hW => ?_, ?_⟩; (obtain ⟨⟨a0, a1⟩, ⟨b0, b1⟩⟩ := (P0.calm hW).facts EA.out EB.out; go_simp; first | done | with_reducible rfl | (go_at_call_of 24 (#[Value.agg #[Value.int IntKind.i64 al, Value.int IntKind.i64 ah], Value.agg #[Value.int IntKind.i64 al, Value.int IntKind.i64 bh]]); exact (h1 _).mono fun e w' k => ⟨k.1, hW.trans k.2⟩) | (go_at_call_of 25 (#[Value.agg #[Value.int IntKind.i64 al, Value.int IntKind.i64 ah], Value.agg #[Value.int IntKind.i64 al, Value.int IntKind.i64 bh]]); exact (h3 _).mono fun e w' k => ⟨k.1, hW.trans k.2⟩) | (go_at_call_of 24 (#[Value.agg #[Value.int IntKind.i64 al, Value.int IntKind.i64 bh], Value.agg #[Value.int IntKind.i64 al, Value.int IntKind.i64 ah]]); exact (h2 _).mono fun e w' k => ⟨k.1, hW.trans k.2⟩) | (go_at_call_of 25 (#[Value.agg #[Value.int IntKind.i64 al, Value.int IntKind.i64 bh], Value.agg #[Value.int IntKind.i64 al, Value.int IntKind.i64 ah]]); exact (h4 _).mono fun e w' k => ⟨k.1, hW.trans k.2⟩)); simp only [Act.put, List.setIfInBounds_toArray, List.set_cons_zero, List.set_cons_succ])
          | fail)
        refine q_end ?_
        intro w2 s2; replace P0 := P0.calm s2; replace sw := sw.trans s2; clear s1 s2
        go_wp2_with fail
        refine q_start (fun W => Calm w2 W) (by kernel_rfl) (Calm.refl _).drew ?_
        repeat (first
          | (refine q_off (by rfl) ?_; simp only [Act.put, List.setIfInBounds_toArray, List.set_cons_zero, List.set_cons_succ])
          | (refine q_on (by rfl) ?_; apply Exists.intro; refine ⟨fun W hW => ?_, ?_⟩; (obtain ⟨⟨a0, a1⟩, ⟨b0, b1⟩⟩ := (P0.calm hW).facts EA.out EB.out; go_simp; first | done | with_reducible rfl | (go_at_call_of 24 (#[Value.agg #[Value.int IntKind.i64 al, Value.int IntKind.i64 ah], Value.agg #[Value.int IntKind.i64 al, Value.int IntKind.i64 bh]]); exact (h1 _).mono fun e w' k => ⟨k.1, hW.trans k.2⟩) | (go_at_call_of 22 (#[Value.agg #[Value.int IntKind.i64 al, Value.int IntKind.i64 bh]]); exact (h5 _).mono fun e w' k => ⟨k.1, hW.trans k.2⟩) | (go_at_call_of 22 (#[Value.agg #[Value.int IntKind.i64 al, Value.int IntKind.i64 ah]]); exact (h6 _).mono fun e w' k => ⟨k.1, hW.trans k.2⟩) | (go_at_call_of 24 (hal); exact (h7 _).mono fun e w' k => ⟨k.1, hW.trans k.2⟩)); simp only [Act.put, List.setIfInBounds_toArray, List.set_cons_zero, List.set_cons_succ])
          | fail)
        refine q_end ?_
        intro w3 s2; replace P0 := P0.calm s2; replace sw := sw.trans s2; clear s2
        go_wp2_with fail
        refine q_start (fun W => Calm w3 W) (by kernel_rfl) (Calm.refl _).drew ?_
        repeat (first
          | (refine q_off (by rfl) ?_; simp only [Act.put, List.setIfInBounds_toArray, List.set_cons_zero, List.set_cons_succ])
          | (refine q_on (by rfl) ?_; apply Exists.intro; refine ⟨fun W hW => ?_, ?_⟩; (obtain ⟨⟨a0, a1⟩, ⟨b0, b1⟩⟩ := (P0.calm hW).facts EA.out EB.out; go_simp; first | done | with_reducible rfl | (go_at_call_of 23 (#[Value.int IntKind.i64 x]); exact (h8 _).mono fun e w' k => ⟨k.1, hW.trans k.2⟩) | (go_at_call_of 23 (#[Value.int IntKind.i64 y]); exact (h9 _).mono fun e w' k => ⟨k.1, hW.trans k.2⟩) | (go_at_call_of 24 (x); exact (h10 _).mono fun e w' k => ⟨k.1, hW.trans k.2⟩) | (go_at_call_of 25 (x); exact (h11 _).mono fun e w' k => ⟨k.1, hW.trans k.2⟩) | (go_at_call_of 25 (al); exact (h3 _).mono fun e w' k => ⟨k.1, hW.trans k.2⟩) | (go_at_call_of 24 (al); exact (h12 _).mono fun e w' k => ⟨k.1, hW.trans k.2⟩)); simp only [Act.put, List.setIfInBounds_toArray, List.set_cons_zero, List.set_cons_succ])
          | fail)
        refine q_end ?_
        intro w4 s2; replace sw := sw.trans s2; clear s2
        go_wp2
        go_ret
        exact ⟨by simp, sw⟩
      · subst k4
        replace h7 := h7 rfl
        go_enter Try.func7, Try.ntmps7
        go_wp2_with (go_at_call 10; refine (h0 _).mono ?_; rintro e w1 ⟨rfl, s1⟩)
        replace P0 := P0.calm s1
        have sw := (((Calm.refl w).alloc _).alloc _).trans s1
        refine q_start (fun W => Calm w1 W) (by kernel_rfl) (Calm.refl _).drew ?_
        repeat (first
          | (refine q_off (by rfl) ?_; simp only [Act.put, List.setIfInBounds_toArray, List.set_cons_zero, List.set_cons_succ])
          | (refine q_on (by rfl) ?_; apply Exists.intro; refine ⟨fun W hW => ?_, ?_⟩; (obtain ⟨⟨a0, a1⟩, ⟨b0, b1⟩⟩ := (P0.calm hW).facts EA.out EB.out; go_simp; first | done | with_reducible rfl | (go_at_call_of 24 (#[Value.agg #[Value.int IntKind.i64 al, Value.int IntKind.i64 ah], Value.agg #[Value.int IntKind.i64 al, Value.int IntKind.i64 bh]]); exact (h1 _).mono fun e w' k => ⟨k.1, hW.trans k.2⟩) | (go_at_call_of 25 (#[Value.agg #[Value.int IntKind.i64 al, Value.int IntKind.i64 ah], Value.agg #[Value.int IntKind.i64 al, Value.int IntKind.i64 bh]]); exact (h3 _).mono fun e w' k => ⟨k.1, hW.trans k.2⟩) | (go_at_call_of 24 (#[Value.agg #[Value.int IntKind.i64 al, Value.int IntKind.i64 bh], Value.agg #[Value.int IntKind.i64 al, Value.int IntKind.i64 ah]]); exact (h2 _).mono fun e w' k => ⟨k.1, hW.trans k.2⟩) | (go_at_call_of 25 (#[Value.agg #[Value.int IntKind.i64 al, Value.int IntKind.i64 bh], Value.agg #[Value.int IntKind.i64 al, Value.int IntKind.i64 ah]]); exact (h4 _).mono fun e w' k => ⟨k.1, hW.trans k.2⟩)); simp only [Act.put, List.setIfInBounds_toArray, List.set_cons_zero, List.set_cons_succ])
          | fail)
        refine q_end ?_
        intro w2 s2; replace P0 := P0.calm s2; replace sw := sw.trans s2; clear s1 s2
        go_wp2_with fail
        refine q_start (fun W => Calm w2 W) (by kernel_rfl) (Calm.refl _).drew ?_
        repeat (first
          | (refine q_off (by rfl) ?_; simp only [Act.put, List.setIfInBounds_toArray, List.set_cons_zero, List.set_cons_succ])
          | (refine q_on (by rfl) ?_; apply Exists.intro; refine ⟨fun W hW => ?_, ?_⟩; (obtain ⟨⟨a0, a1⟩, ⟨b0, b1⟩⟩ := (P0.calm hW).facts EA.out EB.out; go_simp; first | done | with_reducible rfl | (go_at_call_of 24 (#[Value.agg #[Value.int IntKind.i64 al, Value.int IntKind.i64 ah], Value.agg #[Value.int IntKind.i64 al, Value.int IntKind.i64 bh]]); exact (h1 _).mono fun e w' k => ⟨k.1, hW.trans k.2⟩) | (go_at_call_of 22 (#[Value.agg #[Value.int IntKind.i64 al, Value.int IntKind.i64 bh]]); exact (h5 _).mono fun e w' k => ⟨k.1, hW.trans k.2⟩) | (go_at_call_of 22 (#[Value.agg #[Value.int IntKind.i64 al, Value.int IntKind.i64 ah]]); exact (h6 _).mono fun e w' k => ⟨k.1, hW.trans k.2⟩) | (go_at_call_of 24 (hal); exact (h7 _).mono fun e w' k => ⟨k.1, hW.trans k.2⟩)); simp only [Act.put, List.setIfInBounds_toArray, List.set_cons_zero, List.set_cons_succ])
          | fail)
        refine q_end ?_
        intro w3 s2; replace P0 := P0.calm s2; replace sw := sw.trans s2; clear s2
        go_wp2_with fail
        refine q_start (fun W => Calm w3 W) (by kernel_rfl) (Calm.refl _).drew ?_
        repeat (first
          | (refine q_off (by rfl) ?_; simp only [Act.put, List.setIfInBounds_toArray, List.set_cons_zero, List.set_cons_succ])
          | (refine q_on (by rfl) ?_; apply Exists.intro; refine ⟨fun W hW => ?_, ?_⟩; (obtain ⟨⟨a0, a1⟩, ⟨b0, b1⟩⟩ := (P0.calm hW).facts EA.out EB.out; go_simp; first | done | with_reducible rfl | (go_at_call_of 23 (#[Value.int IntKind.i64 x]); exact (h8 _).mono fun e w' k => ⟨k.1, hW.trans k.2⟩) | (go_at_call_of 23 (#[Value.int IntKind.i64 y]); exact (h9 _).mono fun e w' k => ⟨k.1, hW.trans k.2⟩) | (go_at_call_of 24 (x); exact (h10 _).mono fun e w' k => ⟨k.1, hW.trans k.2⟩) | (go_at_call_of 25 (x); exact (h11 _).mono fun e w' k => ⟨k.1, hW.trans k.2⟩) | (go_at_call_of 25 (al); exact (h3 _).mono fun e w' k => ⟨k.1, hW.trans k.2⟩) | (go_at_call_of 24 (al); exact (h12 _).mono fun e w' k => ⟨k.1, hW.trans k.2⟩)); simp only [Act.put, List.setIfInBounds_toArray, List.set_cons_zero, List.set_cons_succ])
          | fail)
        refine q_end ?_
        intro w4 s2; replace sw := sw.trans s2; clear s2
        go_wp2
        go_ret
        exact ⟨by simp, sw⟩
    · subst k3
      cases UGT
      · subst k4
        clear h5 h6 h7
        go_enter Try.func7, Try.ntmps7
        go_wp2_with (go_at_call 10; refine (h0 _).mono ?_; rintro e w1 ⟨rfl, s1⟩)
        replace P0 := P0.calm s1
        have sw := (((Calm.refl w).alloc _).alloc _).trans s1
        refine q_start (fun W => Calm w1 W) (by kernel_rfl) (Calm.refl _).drew ?_
        repeat (first
          | (refine q_off (by rfl) ?_; simp only [Act.put, List.setIfInBounds_toArray, List.set_cons_zero, List.set_cons_succ])
          | (refine q_on (by rfl) ?_; apply Exists.intro; refine ⟨fun W hW => ?_, ?_⟩; (obtain ⟨⟨a0, a1⟩, ⟨b0, b1⟩⟩ := (P0.calm hW).facts EA.out EB.out; go_simp; first | done | with_reducible rfl | (go_at_call_of 24 (#[Value.agg #[Value.int IntKind.i64 al, Value.int IntKind.i64 ah], Value.agg #[Value.int IntKind.i64 al, Value.int IntKind.i64 bh]]); exact (h1 _).mono fun e w' k => ⟨k.1, hW.trans k.2⟩) | (go_at_call_of 25 (#[Value.agg #[Value.int IntKind.i64 al, Value.int IntKind.i64 ah], Value.agg #[Value.int IntKind.i64 al, Value.int IntKind.i64 bh]]); exact (h3 _).mono fun e w' k => ⟨k.1, hW.trans k.2⟩) | (go_at_call_of 24 (#[Value.agg #[Value.int IntKind.i64 al, Value.int IntKind.i64 bh], Value.agg #[Value.int IntKind.i64 al, Value.int IntKind.i64 ah]]); exact (h2 _).mono fun e w' k => ⟨k.1, hW.trans k.2⟩) | (go_at_call_of 25 (#[Value.agg #[Value.int IntKind.i64 al, Value.int IntKind.i64 bh], Value.agg #[Value.int IntKind.i64 al, Value.int IntKind.i64 ah]]); exact (h4 _).mono fun e w' k => ⟨k.1, hW.trans k.2⟩)); simp only [Act.put, List.setIfInBounds_toArray, List.set_cons_zero, List.set_cons_succ])
          | fail)
        refine q_end ?_
        intro w2 s2; replace P0 := P0.calm s2; replace sw := sw.trans s2; clear s1 s2
        go_wp2_with fail
        refine q_start (fun W => Calm w2 W) (by kernel_rfl) (Calm.refl _).drew ?_
        repeat (first
          | (refine q_off (by rfl) ?_; simp only [Act.put, List.setIfInBounds_toArray, List.set_cons_zero, List.set_cons_succ])
          | (refine q_on (by rfl) ?_; apply Exists.intro; refine ⟨fun W hW => ?_, ?_⟩; (obtain ⟨⟨a0, a1⟩, ⟨b0, b1⟩⟩ := (P0.calm hW).facts EA.out EB.out; go_simp; first | done | with_reducible rfl | (go_at_call_of 24 (#[Value.agg #[Value.int IntKind.i64 al, Value.int IntKind.i64 ah], Value.agg #[Value.int IntKind.i64 al, Value.int IntKind.i64 bh]]); exact (h1 _).mono fun e w' k => ⟨k.1, hW.trans k.2⟩) | (go_at_call_of 22 (#[Value.agg #[Value.int IntKind.i64 al, Value.int IntKind.i64 bh]]); exact (h5 _).mono fun e w' k => ⟨k.1, hW.trans k.2⟩) | (go_at_call_of 22 (#[Value.agg #[Value.int IntKind.i64 al, Value.int IntKind.i64 ah]]); exact (h6 _).mono fun e w' k => ⟨k.1, hW.trans k.2⟩) | (go_at_call_of 24 (hal); exact (h7 _).mono fun e w' k => ⟨k.1, hW.trans k.2⟩)); simp only [Act.put, List.setIfInBounds_toArray, List.set_cons_zero, List.set_cons_succ])
          | fail)
        refine q_end ?_
        intro w3 s2; replace P0 := P0.calm s2; replace sw := sw.trans s2; clear s2
        go_wp2_with fail
        refine q_start (fun W => Calm w3 W) (by kernel_rfl) (Calm.refl _).drew ?_
        repeat (first
          | (refine q_off (by rfl) ?_; simp only [Act.put, List.setIfInBounds_toArray, List.set_cons_zero, List.set_cons_succ])
          | (refine q_on (by rfl) ?_; apply Exists.intro; refine ⟨fun W hW => ?_, ?_⟩; (obtain ⟨⟨a0, a1⟩, ⟨b0, b1⟩⟩ := (P0.calm hW).facts EA.out EB.out; go_simp; first | done | with_reducible rfl | (go_at_call_of 23 (#[Value.int IntKind.i64 x]); exact (h8 _).mono fun e w' k => ⟨k.1, hW.trans k.2⟩) | (go_at_call_of 23 (#[Value.int IntKind.i64 y]); exact (h9 _).mono fun e w' k => ⟨k.1, hW.trans k.2⟩) | (go_at_call_of 24 (x); exact (h10 _).mono fun e w' k => ⟨k.1, hW.trans k.2⟩) | (go_at_call_of 25 (x); exact (h11 _).mono fun e w' k => ⟨k.1, hW.trans k.2⟩) | (go_at_call_of 25 (al); exact (h3 _).mono fun e w' k => ⟨k.1, hW.trans k.2⟩) | (go_at_call_of 24 (al); exact (h12 _).mono fun e w' k => ⟨k.1, hW.trans k.2⟩)); simp only [Act.put, List.setIfInBounds_toArray, List.set_cons_zero, List.set_cons_succ])
          | fail)
        refine q_end ?_
        intro w4 s2; replace sw := sw.trans s2; clear s2
        go_wp2
        go_ret
        exact ⟨by simp, sw⟩
      · subst k4
        clear h5 h6 h7
        go_enter Try.func7, Try.ntmps7
        go_wp2_with (go_at_call 10; refine (h0 _).mono ?_; rintro e w1 ⟨rfl, s1⟩)
        replace P0 := P0.calm s1
        have sw := (((Calm.refl w).alloc _).alloc _).trans s1
        refine q_start (fun W => Calm w1 W) (by kernel_rfl) (Calm.refl _).drew ?_
        repeat (first
          | (refine q_off (by rfl) ?_; simp only [Act.put, List.setIfInBounds_toArray, List.set_cons_zero, List.set_cons_succ])
          | (refine q_on (by rfl) ?_; apply Exists.intro; refine ⟨fun W hW => ?_, ?_⟩; (obtain ⟨⟨a0, a1⟩, ⟨b0, b1⟩⟩ := (P0.calm hW).facts EA.out EB.out; go_simp; first | done | with_reducible rfl | (go_at_call_of 24 (#[Value.agg #[Value.int IntKind.i64 al, Value.int IntKind.i64 ah], Value.agg #[Value.int IntKind.i64 al, Value.int IntKind.i64 bh]]); exact (h1 _).mono fun e w' k => ⟨k.1, hW.trans k.2⟩) | (go_at_call_of 25 (#[Value.agg #[Value.int IntKind.i64 al, Value.int IntKind.i64 ah], Value.agg #[Value.int IntKind.i64 al, Value.int IntKind.i64 bh]]); exact (h3 _).mono fun e w' k => ⟨k.1, hW.trans k.2⟩) | (go_at_call_of 24 (#[Value.agg #[Value.int IntKind.i64 al, Value.int IntKind.i64 bh], Value.agg #[Value.int IntKind.i64 al, Value.int IntKind.i64 ah]]); exact (h2 _).mono fun e w' k => ⟨k.1, hW.trans k.2⟩) | (go_at_call_of 25 (#[Value.agg #[Value.int IntKind.i64 al, Value.int IntKind.i64 bh], Value.agg #[Value.int IntKind.i64 al, Value.int IntKind.i64 ah]]); exact (h4 _).mono fun e w' k => ⟨k.1, hW.trans k.2⟩)); simp only [Act.put, List.setIfInBounds_toArray, List.set_cons_zero, List.set_cons_succ])
          | fail)
        refine q_end ?_
        intro w2 s2; replace P0 := P0.calm s2; replace sw := sw.trans s2; clear s1 s2
        go_wp2_with fail
        refine q_start (fun W => Calm w2 W) (by kernel_rfl) (Calm.refl _).drew ?_
        repeat (first
          | (refine q_off (by rfl) ?_; simp only [Act.put, List.setIfInBounds_toArray, List.set_cons_zero, List.set_cons_succ])
          | (refine q_on (by rfl) ?_; apply Exists.intro; refine ⟨fun W hW => ?_, ?_⟩; (obtain ⟨⟨a0, a1⟩, ⟨b0, b1⟩⟩ := (P0.calm hW).facts EA.out EB.out; go_simp; first | done | with_reducible rfl | (go_at_call_of 24 (#[Value.agg #[Value.int IntKind.i64 al, Value.int IntKind.i64 ah], Value.agg #[Value.int IntKind.i64 al, Value.int IntKind.i64 bh]]); exact (h1 _).mono fun e w' k => ⟨k.1, hW.trans k.2⟩) | (go_at_call_of 22 (#[Value.agg #[Value.int IntKind.i64 al, Value.int IntKind.i64 bh]]); exact (h5 _).mono fun e w' k => ⟨k.1, hW.trans k.2⟩) | (go_at_call_of 22 (#[Value.agg #[Value.int IntKind.i64 al, Value.int IntKind.i64 ah]]); exact (h6 _).mono fun e w' k => ⟨k.1, hW.trans k.2⟩) | (go_at_call_of 24 (hal); exact (h7 _).mono fun e w' k => ⟨k.1, hW.trans k.2⟩)); simp only [Act.put, List.setIfInBounds_toArray, List.set_cons_zero, List.set_cons_succ])
          | fail)
        refine q_end ?_
        intro w3 s2; replace P0 := P0.calm s2; replace sw := sw.trans s2; clear s2
        go_wp2_with fail
        refine q_start (fun W => Calm w3 W) (by kernel_rfl) (Calm.refl _).drew ?_
        repeat (first
          | (refine q_off (by rfl) ?_; simp only [Act.put, List.setIfInBounds_toArray, List.set_cons_zero, List.set_cons_succ])
          | (refine q_on (by rfl) ?_; apply Exists.intro; refine ⟨fun W hW => ?_, ?_⟩; (obtain ⟨⟨a0, a1⟩, ⟨b0, b1⟩⟩ := (P0.calm hW).facts EA.out EB.out; go_simp; first | done | with_reducible rfl | (go_at_call_of 23 (#[Value.int IntKind.i64 x]); exact (h8 _).mono fun e w' k => ⟨k.1, hW.trans k.2⟩) | (go_at_call_of 23 (#[Value.int IntKind.i64 y]); exact (h9 _).mono fun e w' k => ⟨k.1, hW.trans k.2⟩) | (go_at_call_of 24 (x); exact (h10 _).mono fun e w' k => ⟨k.1, hW.trans k.2⟩) | (go_at_call_of 25 (x); exact (h11 _).mono fun e w' k => ⟨k.1, hW.trans k.2⟩) | (go_at_call_of 25 (al); exact (h3 _).mono fun e w' k => ⟨k.1, hW.trans k.2⟩) | (go_at_call_of 24 (al); exact (h12 _).mono fun e w' k => ⟨k.1, hW.trans k.2⟩)); simp only [Act.put, List.setIfInBounds_toArray, List.set_cons_zero, List.set_cons_succ])
          | fail)
        refine q_end ?_
        intro w4 s2; replace sw := sw.trans s2; clear s2
        go_wp2
        go_ret
        exact ⟨by simp, sw⟩
end Go.Proofs.Ytjigjjkbgcnjdaa
