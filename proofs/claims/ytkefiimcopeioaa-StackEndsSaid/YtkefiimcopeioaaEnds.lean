/- StackEnds: the walk. -/
import Derived.Test.YtkefiimcopeioaaEndsLaw
namespace Go.Proofs.Ytkefiimcopeioaa
open Go Go.RowKit
set_option linter.unusedSimpArgs false
set_option linter.unusedVariables false

theorem efitsL {l y : List Int} (h : l.length + y.length ≤ 128) : putL l y = l ++ y := by rw [putL, if_pos h]
theorem efitsE {l y : List Int} (h : l.length + y.length ≤ 128) : putE l y = 0 := by rw [putE, if_pos h]

set_option maxHeartbeats 8000000 in
theorem ends_walk {w : World} (many op : Int) (hm : 0 ≤ many ∧ many ≤ 255) (hop : I64 op) :
    Calls Try.prog 9 #[.int .u8 many, .int .i64 op] w fun e w' => e = .returned (.bool true) ∧ Below w.heap.size w w' := by
  have hB := Base.start w
  obtain ⟨n, hn⟩ : ∃ n : Nat, many % 129 = n := ⟨(many % 129).toNat, by omega⟩
  have hn1 : n ≤ 128 := by omega
  have hn2 : many.tmod 129 = n := by rw [Int.tmod_eq_emod_of_nonneg hm.1]; exact hn
  obtain ⟨m1, m2⟩ := hm
  obtain ⟨o1, o2⟩ := id hop
  go_enter Try.func9, Try.ntmps9
  go_wp2_with fail
  refine (shown_ok w (fun _ => 0)).mono ?_
  rintro e w1 ⟨rfl, s1⟩
  replace hB := hB.step s1 (by decide)
  clear s1
  -- NEW
  go_wp2_with fail
  refine (new_ok w1 (fun _ => 0) 10).mono ?_
  rintro e w2 ⟨b, o2, rfl, hs, s1⟩
  replace hB := hB.step s1 (by decide)
  clear s1
  have HN := Lib.hid hn2
  clear hn hn2 m1 m2
  go_wp2_with fail
  go_loopg [27] n (fun g v wr => ∃ (p : Nat) (o' : Owner), g = n - p ∧ p ≤ n ∧ v = .int .i64 p ∧ Stk 55 wr o' 10 b (rng p) ∧ Step [10, 11] w2 o2 wr o')
  case atStart => exact ⟨0, o2, rfl, Nat.zero_le _, rfl, hs, Step.refl _ _ _⟩
  case round =>
    obtain ⟨p, o3, hg, hp1, rfl, hs3, s3⟩ := hrel
    have HG := Lib.hid hg
    clear hg hs
    by_cases hlt : p < n
    · have hpi : (p : Int) < n := by omega
      have hp := push_ok hs3 p
      rw [efitsE (by rw [rng_len]; simp; omega), efitsL (by rw [rng_len]; simp; omega), rng_succ] at hp
      clear hs3
      go_wp2_with fail
      refine hp.mono ?_
      rintro e w4 ⟨o4, rfl, hs4, s4⟩
      clear hp
      go_wp2_with fail
      go_roundg (n - (p + 1))
      case measure => rw [HG.out]; omega
      case rel => exact ⟨p + 1, o4, rfl, by omega, by go_num, hs4, s3.trans s4⟩
    · obtain rfl : p = n := by omega
      have hpi : ¬ ((p : Int) < p) := by omega
      replace hB := hB.step s3 (by decide)
      have ha := all_ok hs3 40
      rw [rng_len] at ha
      go_wp2_with fail
      refine ha.mono ?_
      rintro e w4 ⟨v, o4, rfl, hv, s1⟩
      replace hB := hB.step s1 (by decide)
      have hs := hs3.frame s1 (by decide) (by decide)
      clear s1 ha hs3 s3
      obtain ⟨ao, cap, rfl, _, _⟩ := hv.slice
      have hd := do_ok hs (by decide) (rng_wf hn1) op
      rcases doS_err (rng p) op with ⟨h | h, e1, e2⟩ | ⟨⟨h1, h2⟩, e0 | ⟨e3, e4⟩⟩
      · rw [e1, e2] at hd
        have t1 : decide (op < 28) = true := decide_eq_true h
        go_wp2_with fail
        refine hd.mono ?_
        rintro e w5 ⟨o5, rfl, hs, s1⟩
        replace hB := hB.step s1 (by decide)
        replace hv := hv.frame s1 (by decide)
        clear s1 hd
        have h128 := hs.1
        have hdp := depth_ok hs
        have ha := all_ok hs 50
        rw [rng_len] at ha hdp h128
        go_wp2_with (first
          | (go_at_call 14; refine ha.mono ?_; rintro e w6 ⟨v6, o6, rfl, hv6, s1⟩; replace hB := hB.step s1 (by decide); replace hv := hv.frame s1 (by decide); replace hs := hs.frame s1 (by decide) (by decide); have hsm := same_ok (y := rng p) (x := rng p) (by rw [rng_len]; exact hv6.rd) (by rw [rng_len]; exact hv.rd); rw [show sameB (rng p) (rng p) = true by simp [sameB]] at hsm; clear s1)
          | (go_at_call 15; refine hsm.mono ?_; rintro e w7 ⟨rfl, n2, rfl⟩; replace hB := hB.step ((Step.refl [] w6 o6).drewN n2) (by decide); replace hs := hs.frame ((Step.refl [] w6 o6).drewN n2) (by decide) (by decide); have hdp := depth_ok hs; rw [rng_len] at hdp)
          | (go_at_call 18; refine hdp.mono ?_; rintro e w8 ⟨rfl, rfl⟩)
          | (go_at_call 24; fail))
        obtain ⟨L, hL⟩ : ∃ L, L = rng p := ⟨_, rfl⟩
        rw [← hL] at hs
        have hc := cut_ok hs 128
        obtain ⟨L2, hL2, hlen⟩ : ∃ L2, cutL L 128 = L2 ∧ L2.length = 128 := ⟨_, rfl, cut_len _⟩
        rw [hL2] at hc
        clear hL2
        go_wp2_with fail
        refine hc.mono ?_
        rintro e w5 ⟨o5, rfl, hs, s1⟩
        replace hB := hB.step s1 (by decide)
        clear s1 hc
        have hp := push_ok hs 1
        rw [show putE L2 [1] = -3 by rw [putE, if_neg (by simp; omega)], show putL L2 [1] = L2 by rw [putL, if_neg (by simp; omega)]] at hp
        go_wp2_with fail
        refine hp.mono ?_
        rintro e w6 ⟨o6, rfl, hs, s1⟩
        replace hB := hB.step s1 (by decide)
        clear s1 hp
        have hc := cut_ok hs 0
        rw [cut_zero] at hc
        go_wp2_with fail
        refine hc.mono ?_
        rintro e w7 ⟨o7, rfl, hs, s1⟩
        replace hB := hB.step s1 (by decide)
        clear s1 hc
        have hp := pop_ok hs
        rw [show popV [] = 0 from rfl, show popE [] = -4 from rfl] at hp
        go_wp2_with fail
        refine hp.mono ?_
        rintro e w8 ⟨o8, rfl, hs, s1⟩
        replace hs : Stk 55 w8 o8 10 b [] := hs
        replace hB := hB.step s1 (by decide)
        clear s1 hp
        have hp := take_ok hs 1 (by omega) 0
        rw [show takeE [] 1 = -4 from rfl, show takeL [] 1 = [] from rfl] at hp
        go_wp2_with fail
        refine hp.mono ?_
        rintro e w9 ⟨v9, o9, rfl, -, hs, s1⟩
        replace hB := hB.step s1 (by decide)
        clear s1 hp
        go_wp2_with fail
        refine (pop_nil _).mono ?_
        rintro e w10 ⟨rfl, rfl⟩
        have hd := depth_ok hs
        go_wp2_with (first
          | (go_at_call_of 18 b; refine hd.mono ?_; rintro e w11 ⟨rfl, rfl⟩)
          | (go_at_call 18; refine (depth_nil _).mono ?_; rintro e w11 ⟨rfl, rfl⟩)
          | (go_at_call 17; refine (push_nil _ _ o9).mono ?_; rintro e w11 ⟨rfl, s1⟩; replace hB := hB.step s1 (by decide))
          | (go_at_call 13; refine (do_nil _ _).mono ?_; rintro e w12 ⟨rfl, rfl⟩))
        go_ret
        exact ⟨rfl, hB.below⟩
      · rw [e1, e2] at hd
        have t1 : decide (op < 28) = false := decide_eq_false (by omega)
        have t2 : decide (42 < op) = true := decide_eq_true h
        go_wp2_with fail
        refine hd.mono ?_
        rintro e w5 ⟨o5, rfl, hs, s1⟩
        replace hB := hB.step s1 (by decide)
        replace hv := hv.frame s1 (by decide)
        clear s1 hd
        have h128 := hs.1
        have hdp := depth_ok hs
        have ha := all_ok hs 50
        rw [rng_len] at ha hdp h128
        go_wp2_with (first
          | (go_at_call 14; refine ha.mono ?_; rintro e w6 ⟨v6, o6, rfl, hv6, s1⟩; replace hB := hB.step s1 (by decide); replace hv := hv.frame s1 (by decide); replace hs := hs.frame s1 (by decide) (by decide); have hsm := same_ok (y := rng p) (x := rng p) (by rw [rng_len]; exact hv6.rd) (by rw [rng_len]; exact hv.rd); rw [show sameB (rng p) (rng p) = true by simp [sameB]] at hsm; clear s1)
          | (go_at_call 15; refine hsm.mono ?_; rintro e w7 ⟨rfl, n2, rfl⟩; replace hB := hB.step ((Step.refl [] w6 o6).drewN n2) (by decide); replace hs := hs.frame ((Step.refl [] w6 o6).drewN n2) (by decide) (by decide); have hdp := depth_ok hs; rw [rng_len] at hdp)
          | (go_at_call 18; refine hdp.mono ?_; rintro e w8 ⟨rfl, rfl⟩)
          | (go_at_call 24; fail))
        obtain ⟨L, hL⟩ : ∃ L, L = rng p := ⟨_, rfl⟩
        rw [← hL] at hs
        have hc := cut_ok hs 128
        obtain ⟨L2, hL2, hlen⟩ : ∃ L2, cutL L 128 = L2 ∧ L2.length = 128 := ⟨_, rfl, cut_len _⟩
        rw [hL2] at hc
        clear hL2
        go_wp2_with fail
        refine hc.mono ?_
        rintro e w5 ⟨o5, rfl, hs, s1⟩
        replace hB := hB.step s1 (by decide)
        clear s1 hc
        have hp := push_ok hs 1
        rw [show putE L2 [1] = -3 by rw [putE, if_neg (by simp; omega)], show putL L2 [1] = L2 by rw [putL, if_neg (by simp; omega)]] at hp
        go_wp2_with fail
        refine hp.mono ?_
        rintro e w6 ⟨o6, rfl, hs, s1⟩
        replace hB := hB.step s1 (by decide)
        clear s1 hp
        have hc := cut_ok hs 0
        rw [cut_zero] at hc
        go_wp2_with fail
        refine hc.mono ?_
        rintro e w7 ⟨o7, rfl, hs, s1⟩
        replace hB := hB.step s1 (by decide)
        clear s1 hc
        have hp := pop_ok hs
        rw [show popV [] = 0 from rfl, show popE [] = -4 from rfl] at hp
        go_wp2_with fail
        refine hp.mono ?_
        rintro e w8 ⟨o8, rfl, hs, s1⟩
        replace hs : Stk 55 w8 o8 10 b [] := hs
        replace hB := hB.step s1 (by decide)
        clear s1 hp
        have hp := take_ok hs 1 (by omega) 0
        rw [show takeE [] 1 = -4 from rfl, show takeL [] 1 = [] from rfl] at hp
        go_wp2_with fail
        refine hp.mono ?_
        rintro e w9 ⟨v9, o9, rfl, -, hs, s1⟩
        replace hB := hB.step s1 (by decide)
        clear s1 hp
        go_wp2_with fail
        refine (pop_nil _).mono ?_
        rintro e w10 ⟨rfl, rfl⟩
        have hd := depth_ok hs
        go_wp2_with (first
          | (go_at_call_of 18 b; refine hd.mono ?_; rintro e w11 ⟨rfl, rfl⟩)
          | (go_at_call 18; refine (depth_nil _).mono ?_; rintro e w11 ⟨rfl, rfl⟩)
          | (go_at_call 17; refine (push_nil _ _ o9).mono ?_; rintro e w11 ⟨rfl, s1⟩; replace hB := hB.step s1 (by decide))
          | (go_at_call 13; refine (do_nil _ _).mono ?_; rintro e w12 ⟨rfl, rfl⟩))
        go_ret
        exact ⟨rfl, hB.below⟩
      · rw [e0] at hd
        have t1 : decide (op < 28) = false := decide_eq_false (by omega)
        have t2 : decide (42 < op) = false := decide_eq_false (by omega)
        generalize (doS (rng p) op).2 = L at hd
        go_wp2_with fail
        refine hd.mono ?_
        rintro e w5 ⟨o5, rfl, hs, s1⟩
        replace hB := hB.step s1 (by decide)
        replace hv := hv.frame s1 (by decide)
        clear s1 hd
        have h128 := hs.1
        have hdp := depth_ok hs
        go_wp2_with (go_at_call 18; refine hdp.mono ?_; rintro e w8 ⟨rfl, rfl⟩)
        have hc := cut_ok hs 128
        obtain ⟨L2, hL2, hlen⟩ : ∃ L2, cutL L 128 = L2 ∧ L2.length = 128 := ⟨_, rfl, cut_len _⟩
        rw [hL2] at hc
        clear hL2
        go_wp2_with fail
        refine hc.mono ?_
        rintro e w5 ⟨o5, rfl, hs, s1⟩
        replace hB := hB.step s1 (by decide)
        clear s1 hc
        have hp := push_ok hs 1
        rw [show putE L2 [1] = -3 by rw [putE, if_neg (by simp; omega)], show putL L2 [1] = L2 by rw [putL, if_neg (by simp; omega)]] at hp
        go_wp2_with fail
        refine hp.mono ?_
        rintro e w6 ⟨o6, rfl, hs, s1⟩
        replace hB := hB.step s1 (by decide)
        clear s1 hp
        have hc := cut_ok hs 0
        rw [cut_zero] at hc
        go_wp2_with fail
        refine hc.mono ?_
        rintro e w7 ⟨o7, rfl, hs, s1⟩
        replace hB := hB.step s1 (by decide)
        clear s1 hc
        have hp := pop_ok hs
        rw [show popV [] = 0 from rfl, show popE [] = -4 from rfl] at hp
        go_wp2_with fail
        refine hp.mono ?_
        rintro e w8 ⟨o8, rfl, hs, s1⟩
        replace hs : Stk 55 w8 o8 10 b [] := hs
        replace hB := hB.step s1 (by decide)
        clear s1 hp
        have hp := take_ok hs 1 (by omega) 0
        rw [show takeE [] 1 = -4 from rfl, show takeL [] 1 = [] from rfl] at hp
        go_wp2_with fail
        refine hp.mono ?_
        rintro e w9 ⟨v9, o9, rfl, -, hs, s1⟩
        replace hB := hB.step s1 (by decide)
        clear s1 hp
        go_wp2_with fail
        refine (pop_nil _).mono ?_
        rintro e w10 ⟨rfl, rfl⟩
        have hd := depth_ok hs
        go_wp2_with (first
          | (go_at_call_of 18 b; refine hd.mono ?_; rintro e w11 ⟨rfl, rfl⟩)
          | (go_at_call 18; refine (depth_nil _).mono ?_; rintro e w11 ⟨rfl, rfl⟩)
          | (go_at_call 17; refine (push_nil _ _ o9).mono ?_; rintro e w11 ⟨rfl, s1⟩; replace hB := hB.step s1 (by decide))
          | (go_at_call 13; refine (do_nil _ _).mono ?_; rintro e w12 ⟨rfl, rfl⟩))
        go_ret
        exact ⟨rfl, hB.below⟩
      · rw [e4] at hd
        have t1 : decide (op < 28) = false := decide_eq_false (by omega)
        have t2 : decide (42 < op) = false := decide_eq_false (by omega)
        generalize (doS (rng p) op).1 = ev at hd e3
        have t3 : (ev == 1) = false := by rw [beq_eq_false_iff_ne]; omega
        have t4 : (ev != 0) = true := by rw [bne_iff_ne]; omega
        clear e3
        go_wp2_with fail
        refine hd.mono ?_
        rintro e w5 ⟨o5, rfl, hs, s1⟩
        replace hB := hB.step s1 (by decide)
        replace hv := hv.frame s1 (by decide)
        clear s1 hd
        have h128 := hs.1
        have hdp := depth_ok hs
        have ha := all_ok hs 50
        rw [rng_len] at ha hdp h128
        go_wp2_with (first
          | (go_at_call 14; refine ha.mono ?_; rintro e w6 ⟨v6, o6, rfl, hv6, s1⟩; replace hB := hB.step s1 (by decide); replace hv := hv.frame s1 (by decide); replace hs := hs.frame s1 (by decide) (by decide); have hsm := same_ok (y := rng p) (x := rng p) (by rw [rng_len]; exact hv6.rd) (by rw [rng_len]; exact hv.rd); rw [show sameB (rng p) (rng p) = true by simp [sameB]] at hsm; clear s1)
          | (go_at_call 15; refine hsm.mono ?_; rintro e w7 ⟨rfl, n2, rfl⟩; replace hB := hB.step ((Step.refl [] w6 o6).drewN n2) (by decide); replace hs := hs.frame ((Step.refl [] w6 o6).drewN n2) (by decide) (by decide); have hdp := depth_ok hs; rw [rng_len] at hdp)
          | (go_at_call 18; refine hdp.mono ?_; rintro e w8 ⟨rfl, rfl⟩)
          | (go_at_call 24; fail))
        obtain ⟨L, hL⟩ : ∃ L, L = rng p := ⟨_, rfl⟩
        rw [← hL] at hs
        have hc := cut_ok hs 128
        obtain ⟨L2, hL2, hlen⟩ : ∃ L2, cutL L 128 = L2 ∧ L2.length = 128 := ⟨_, rfl, cut_len _⟩
        rw [hL2] at hc
        clear hL2
        go_wp2_with fail
        refine hc.mono ?_
        rintro e w5 ⟨o5, rfl, hs, s1⟩
        replace hB := hB.step s1 (by decide)
        clear s1 hc
        have hp := push_ok hs 1
        rw [show putE L2 [1] = -3 by rw [putE, if_neg (by simp; omega)], show putL L2 [1] = L2 by rw [putL, if_neg (by simp; omega)]] at hp
        go_wp2_with fail
        refine hp.mono ?_
        rintro e w6 ⟨o6, rfl, hs, s1⟩
        replace hB := hB.step s1 (by decide)
        clear s1 hp
        have hc := cut_ok hs 0
        rw [cut_zero] at hc
        go_wp2_with fail
        refine hc.mono ?_
        rintro e w7 ⟨o7, rfl, hs, s1⟩
        replace hB := hB.step s1 (by decide)
        clear s1 hc
        have hp := pop_ok hs
        rw [show popV [] = 0 from rfl, show popE [] = -4 from rfl] at hp
        go_wp2_with fail
        refine hp.mono ?_
        rintro e w8 ⟨o8, rfl, hs, s1⟩
        replace hs : Stk 55 w8 o8 10 b [] := hs
        replace hB := hB.step s1 (by decide)
        clear s1 hp
        have hp := take_ok hs 1 (by omega) 0
        rw [show takeE [] 1 = -4 from rfl, show takeL [] 1 = [] from rfl] at hp
        go_wp2_with fail
        refine hp.mono ?_
        rintro e w9 ⟨v9, o9, rfl, -, hs, s1⟩
        replace hB := hB.step s1 (by decide)
        clear s1 hp
        go_wp2_with fail
        refine (pop_nil _).mono ?_
        rintro e w10 ⟨rfl, rfl⟩
        have hd := depth_ok hs
        go_wp2_with (first
          | (go_at_call_of 18 b; refine hd.mono ?_; rintro e w11 ⟨rfl, rfl⟩)
          | (go_at_call 18; refine (depth_nil _).mono ?_; rintro e w11 ⟨rfl, rfl⟩)
          | (go_at_call 17; refine (push_nil _ _ o9).mono ?_; rintro e w11 ⟨rfl, s1⟩; replace hB := hB.step s1 (by decide))
          | (go_at_call 13; refine (do_nil _ _).mono ?_; rintro e w12 ⟨rfl, rfl⟩))
        go_ret
        exact ⟨rfl, hB.below⟩
end Go.Proofs.Ytkefiimcopeioaa
