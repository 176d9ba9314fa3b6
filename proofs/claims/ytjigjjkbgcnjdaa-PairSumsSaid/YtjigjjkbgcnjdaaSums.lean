/- PairSums: the walk. -/
import Derived.Test.YtjigjjkbgcnjdaaLawKit
import Derived.Test.YtjigjjkbgcnjdaaShown
namespace Go.Proofs.Ytjigjjkbgcnjdaa
open Go Go.RowKit
set_option linter.unusedSimpArgs false
set_option linter.unusedVariables false

set_option maxHeartbeats 40000000 in
theorem sums_walk (al ah bl bh cl ch : Int) (ha1 : C64 al) (ha2 : C64 ah) (hb1 : C64 bl) (hb2 : C64 bh) (hc1 : C64 cl) (hc2 : C64 ch) (w : World) :
    Calls Try.prog 5 #[.agg #[.int .i64 al, .int .i64 ah], .agg #[.int .i64 bl, .int .i64 bh], .agg #[.int .i64 cl, .int .i64 ch]] w fun e w' => e = .returned (.bool true) ∧ Calm w w' := by
  obtain ⟨a, sa, ea, qa⟩ := pv_arg ha1 ha2
  obtain ⟨b, sb, eb, qb⟩ := pv_arg hb1 hb2
  obtain ⟨c, sc, ec, qc⟩ := pv_arg hc1 hc2
  obtain ⟨r1l, r1h, -, -, -, e1, -⟩ := pv_split (a + b)
  obtain ⟨r2l, r2h, -, -, -, e2, -⟩ := pv_split (a + b + c)
  obtain ⟨r3l, r3h, -, -, -, e3, -⟩ := pv_split (b + c)
  obtain ⟨nl, nh, -, -, -, en, -⟩ := pv_split (-a)
  obtain ⟨tl, th, -, -, -, et, -⟩ := pv_split (2 * a)
  have hab := add_calm a b
  have hba := add_calm b a
  have habc := add_calm (a + b) c
  have hbc := add_calm b c
  have habc2 := add_calm a (b + c)
  have hna := neg_calm a
  have hz := add_calm a (-a)
  have htw := twice_ok a
  have haa := add_calm a a
  rw [Int.add_comm b a] at hba
  rw [← Int.add_assoc] at habc2
  rw [Int.add_right_neg, pv_zero] at hz
  rw [← Int.two_mul] at haa
  rw [ea, eb, e1] at hab hba
  rw [e1, ec, e2] at habc
  rw [eb, ec, e3] at hbc
  rw [ea, e3, e2] at habc2
  rw [ea, en] at hna hz
  rw [ea, et] at htw haa
  have P0 := B3.new w ea eb ec
  have EA := Lib.hid ea
  have EB := Lib.hid eb
  have EC := Lib.hid ec
  have ET := Lib.hid et
  go_enter Try.func5, Try.ntmps5
  go_wp2_with (go_at_call 10; refine (shown_ok _).mono ?_; rintro e w1 ⟨rfl, s1⟩)
  replace P0 := P0.calm s1
  have P0 := P0.calm (Calm.refl _).drew
  have sw := (((((Calm.refl w).alloc _).alloc _).alloc _).trans s1).drew
  obtain ⟨⟨a0, a1⟩, ⟨b0, b1⟩, ⟨c0, c1⟩⟩ := P0.facts EA.out EB.out EC.out
  clear ea eb ec e1 e2 e3 en et
  go_region_held3 (fun W => (W.cell? ⟨w.heap.size, 0, none⟩ = some (.int .i64 al) ∧ W.cell? ⟨w.heap.size, 1, none⟩ = some (.int .i64 ah)) ∧ (W.cell? ⟨w.heap.size + 1, 0, none⟩ = some (.int .i64 bl) ∧ W.cell? ⟨w.heap.size + 1, 1, none⟩ = some (.int .i64 bh)) ∧ (W.cell? ⟨w.heap.size + 1 + 1, 0, none⟩ = some (.int .i64 cl) ∧ W.cell? ⟨w.heap.size + 1 + 1, 1, none⟩ = some (.int .i64 ch))) (first | exact ⟨⟨by assumption, by assumption⟩, ⟨by assumption, by assumption⟩, ⟨by assumption, by assumption⟩⟩)
    (first
      | (go_at_call_of 17 (#[Value.agg #[Value.int IntKind.i64 al, Value.int IntKind.i64 ah], Value.agg #[Value.int IntKind.i64 bl, Value.int IntKind.i64 bh]]); refine (hab _).mono ?_; rintro e w2 ⟨rfl, s1⟩; replace P0 := P0.calm s1; replace sw := (by first | exact sw.trans s1 | exact sw.drew.trans s1 | exact (sw.alloc _).trans s1 | exact ((sw.alloc _).drewN _).trans s1 | exact ((sw.alloc _).drew).trans s1); obtain ⟨⟨a0, a1⟩, ⟨b0, b1⟩, ⟨c0, c1⟩⟩ := P0.facts EA.out EB.out EC.out)
      | (go_at_call_of 17 (#[Value.agg #[Value.int IntKind.i64 bl, Value.int IntKind.i64 bh], Value.agg #[Value.int IntKind.i64 al, Value.int IntKind.i64 ah]]); refine (hba _).mono ?_; rintro e w2 ⟨rfl, s1⟩; replace P0 := P0.calm s1; replace sw := (by first | exact sw.trans s1 | exact sw.drew.trans s1 | exact (sw.alloc _).trans s1 | exact ((sw.alloc _).drewN _).trans s1 | exact ((sw.alloc _).drew).trans s1); obtain ⟨⟨a0, a1⟩, ⟨b0, b1⟩, ⟨c0, c1⟩⟩ := P0.facts EA.out EB.out EC.out)
      | (go_at_call_of 17 (#[Value.agg #[Value.int IntKind.i64 r1l, Value.int IntKind.i64 r1h], Value.agg #[Value.int IntKind.i64 cl, Value.int IntKind.i64 ch]]); refine (habc _).mono ?_; rintro e w2 ⟨rfl, s1⟩; replace P0 := P0.calm s1; replace sw := (by first | exact sw.trans s1 | exact sw.drew.trans s1 | exact (sw.alloc _).trans s1 | exact ((sw.alloc _).drewN _).trans s1 | exact ((sw.alloc _).drew).trans s1); obtain ⟨⟨a0, a1⟩, ⟨b0, b1⟩, ⟨c0, c1⟩⟩ := P0.facts EA.out EB.out EC.out)
      | (go_at_call_of 17 (#[Value.agg #[Value.int IntKind.i64 bl, Value.int IntKind.i64 bh], Value.agg #[Value.int IntKind.i64 cl, Value.int IntKind.i64 ch]]); refine (hbc _).mono ?_; rintro e w2 ⟨rfl, s1⟩; replace P0 := P0.calm s1; replace sw := (by first | exact sw.trans s1 | exact sw.drew.trans s1 | exact (sw.alloc _).trans s1 | exact ((sw.alloc _).drewN _).trans s1 | exact ((sw.alloc _).drew).trans s1); obtain ⟨⟨a0, a1⟩, ⟨b0, b1⟩, ⟨c0, c1⟩⟩ := P0.facts EA.out EB.out EC.out)
      | (go_at_call_of 17 (#[Value.agg #[Value.int IntKind.i64 al, Value.int IntKind.i64 ah], Value.agg #[Value.int IntKind.i64 r3l, Value.int IntKind.i64 r3h]]); refine (habc2 _).mono ?_; rintro e w2 ⟨rfl, s1⟩; replace P0 := P0.calm s1; replace sw := (by first | exact sw.trans s1 | exact sw.drew.trans s1 | exact (sw.alloc _).trans s1 | exact ((sw.alloc _).drewN _).trans s1 | exact ((sw.alloc _).drew).trans s1); obtain ⟨⟨a0, a1⟩, ⟨b0, b1⟩, ⟨c0, c1⟩⟩ := P0.facts EA.out EB.out EC.out)
      | (go_at_call 20; refine (hna _).mono ?_; rintro e w2 ⟨rfl, s1⟩; replace P0 := P0.calm s1; replace sw := (by first | exact sw.trans s1 | exact sw.drew.trans s1 | exact (sw.alloc _).trans s1 | exact ((sw.alloc _).drewN _).trans s1 | exact ((sw.alloc _).drew).trans s1); obtain ⟨⟨a0, a1⟩, ⟨b0, b1⟩, ⟨c0, c1⟩⟩ := P0.facts EA.out EB.out EC.out)
      | (go_at_call_of 17 (#[Value.agg #[Value.int IntKind.i64 al, Value.int IntKind.i64 ah], Value.agg #[Value.int IntKind.i64 nl, Value.int IntKind.i64 nh]]); refine (hz _).mono ?_; rintro e w2 ⟨rfl, s1⟩; replace P0 := P0.calm s1; replace sw := (by first | exact sw.trans s1 | exact sw.drew.trans s1 | exact (sw.alloc _).trans s1 | exact ((sw.alloc _).drewN _).trans s1 | exact ((sw.alloc _).drew).trans s1); obtain ⟨⟨a0, a1⟩, ⟨b0, b1⟩, ⟨c0, c1⟩⟩ := P0.facts EA.out EB.out EC.out)
      | (go_at_call 21; refine (htw _).mono ?_; rintro e w2 ⟨rfl, s1⟩; replace P0 := P0.calm s1; replace sw := (by first | exact sw.trans s1 | exact sw.drew.trans s1 | exact (sw.alloc _).trans s1 | exact ((sw.alloc _).drewN _).trans s1 | exact ((sw.alloc _).drew).trans s1); obtain ⟨⟨a0, a1⟩, ⟨b0, b1⟩, ⟨c0, c1⟩⟩ := P0.facts EA.out EB.out EC.out)
      | (go_at_call_of 17 (#[Value.agg #[Value.int IntKind.i64 al, Value.int IntKind.i64 ah], Value.agg #[Value.int IntKind.i64 al, Value.int IntKind.i64 ah]]); refine (haa _).mono ?_; rintro e w2 ⟨rfl, s1⟩; replace P0 := P0.calm s1; replace sw := (by first | exact sw.trans s1 | exact sw.drew.trans s1 | exact (sw.alloc _).trans s1 | exact ((sw.alloc _).drewN _).trans s1 | exact ((sw.alloc _).drew).trans s1); obtain ⟨⟨a0, a1⟩, ⟨b0, b1⟩, ⟨c0, c1⟩⟩ := P0.facts EA.out EB.out EC.out))
  clear hab hba habc hbc habc2 hna hz haa
  -- products and sums of cells
  obtain ⟨m1l, m1h, -, -, -, em1, -⟩ := pv_split (al * cl)
  obtain ⟨m2l, m2h, m2k, -, -, em2, qm2⟩ := pv_split (al * cl + cl)
  obtain ⟨m3l, m3h, m3k, -, -, em3, qm3⟩ := pv_split (wrap64 (al + 1) * cl)
  obtain ⟨xyl, xyh, -, -, -, exy, -⟩ := pv_split (al * bl)
  obtain ⟨ul, uh, -, -, -, eu, -⟩ := pv_split ((al % 18446744073709551616) * (bl % 18446744073709551616))
  obtain ⟨ml, mh, -, -, -, em, -⟩ := pv_split (-al)
  have hm1 := mul_ok al cl ha1 hc1
  have hofc := of_calm cl hc1
  have hm2 := add_calm (al * cl) cl
  have hm3 := mul_ok (wrap64 (al + 1)) cl (by unfold C64 wrap64; omega) hc1
  have hxy := mul_ok al bl ha1 hb1
  have hyx := mul_ok bl al hb1 ha1
  have huxy := umul_calm al bl
  have huyx := umul_calm bl al
  have hmm := mul_ok al (-1) ha1 ⟨by omega, by omega⟩
  have hofa := of_calm al ha1
  have hng := neg_calm al
  rw [Int.mul_comm bl al] at hyx
  rw [Int.mul_comm (bl % 18446744073709551616)] at huyx
  rw [Int.mul_neg, Int.mul_one, em] at hmm
  rw [em1] at hm1
  rw [em1, pv_cell hc1, em2] at hm2
  rw [em3] at hm3
  rw [exy] at hxy hyx
  rw [eu] at huxy huyx
  rw [pv_cell ha1, em] at hng
  obtain ⟨x1, x2⟩ := id ha1
  obtain ⟨z1, z2⟩ := id hc1
  have hcase : m3l = m2l ∧ ((m2h == m3h) = (!(al == 9223372036854775807) || (cl == 0))) := by
    by_cases hmax : al = 9223372036854775807
    · have e2 := pv_fst em2
      have e3 := pv_fst em3
      rw [hmax, show wrap64 (9223372036854775807 + 1) = -9223372036854775808 by unfold wrap64; omega] at qm3 e3
      rw [hmax] at qm2 e2
      have hlow : m3l = m2l := by unfold wrap64 at e2 e3; omega
      refine ⟨hlow, ?_⟩
      rw [show (al == 9223372036854775807) = true by rw [hmax]; rfl]
      by_cases hc0 : cl = 0
      · rw [hc0] at em2 em3
        rw [hmax] at em2 em3
        rw [show wrap64 (9223372036854775807 + 1) * 0 = 9223372036854775807 * 0 + 0 by omega, em2] at em3
        simp only [Value.agg.injEq, Array.mk.injEq, List.cons.injEq, Value.int.injEq, true_and, and_true] at em3
        rw [em3.2, hc0]
        simp
      · rw [show (cl == 0) = false by simpa using hc0]
        simp only [Bool.not_true, Bool.or_false, beq_eq_false_iff_ne]
        intro h
        unfold wrap64 at e2 e3
        omega
    · rw [show wrap64 (al + 1) = al + 1 by unfold wrap64; omega, Int.add_mul, Int.one_mul, em2] at em3
      simp only [Value.agg.injEq, Array.mk.injEq, List.cons.injEq, Value.int.injEq, true_and, and_true] at em3
      refine ⟨em3.1.symm, ?_⟩
      rw [show (al == 9223372036854775807) = false by simpa using hmax, em3.2]
      simp
  clear em1 em2 em3 exy eu em qm2 qm3
  -- half of what is twice
  have h22 : ∃ hh : Int, (∀ w, Calls Try.prog 22 #[.agg #[.int .i64 tl, .int .i64 th]] w fun e w' => e = .returned (.agg #[.int .i64 al, .int .i64 hh]) ∧ Calm w w') ∧ (hh = ah ∨ ((hh == ah) = false ∧ bits .xor .i64 ah (-9223372036854775808) = hh)) := by
    obtain ⟨y1, y2⟩ := id ha2
    have hxt := xor_top ha2
    by_cases hbig : -85070591730234615865843651857942052864 ≤ a ∧ a < 85070591730234615865843651857942052864
    · refine ⟨ah, fun w => ?_, .inl rfl⟩
      have h := half_ok (2 * a) ⟨by omega, by omega⟩ w
      rw [ET.out, show 2 * a / 2 = a by omega, EA.out] at h
      exact h
    · by_cases hn : ah < 0
      · rw [if_pos hn] at hxt
        refine ⟨ah + 9223372036854775808, fun w => ?_, .inr ⟨by rw [beq_eq_false_iff_ne]; omega, hxt⟩⟩
        have h := half_ok (2 * a + 340282366920938463463374607431768211456) ⟨by omega, by omega⟩ w
        rw [← pv_mod (m := 2 * a) (by omega), ET.out, pv_of (lo := al) (hi := ah + 9223372036854775808) (by unfold wrap64; omega) (by unfold wrap64; omega)] at h
        exact h
      · rw [if_neg hn] at hxt
        refine ⟨ah - 9223372036854775808, fun w => ?_, .inr ⟨by rw [beq_eq_false_iff_ne]; omega, hxt⟩⟩
        have h := half_ok (2 * a - 340282366920938463463374607431768211456) ⟨by omega, by omega⟩ w
        rw [← pv_mod (m := 2 * a) (by omega), ET.out, pv_of (lo := al) (hi := ah - 9223372036854775808) (by unfold wrap64; omega) (by unfold wrap64; omega)] at h
        exact h
  obtain ⟨hh, h22, hcas⟩ := h22
  have HC := Lib.hid hcase
  clear hcase
  generalize hw1 : wrap64 (al + 1) = xp at hm3
  have HD := Lib.hid hcas
  clear hcas qa qb qc x1 x2 z1 z2
  refine Or.elim HD.out (fun hhe => ?_) (fun hhe => ?_)
  · subst hhe
    go_wp2_with (first
      | (go_at_call 21; refine (htw _).mono ?_; rintro e w3 ⟨rfl, s1⟩; replace P0 := P0.calm s1; replace sw := (by first | exact sw.trans s1 | exact sw.drew.trans s1 | exact (sw.alloc _).trans s1 | exact ((sw.alloc _).drewN _).trans s1 | exact ((sw.alloc _).drew).trans s1))
      | (go_at_call 22; refine (h22 _).mono ?_; rintro e w4 ⟨rfl, s1⟩; replace P0 := P0.calm s1; replace sw := (by first | exact sw.trans s1 | exact sw.drew.trans s1 | exact (sw.alloc _).trans s1 | exact ((sw.alloc _).drewN _).trans s1 | exact ((sw.alloc _).drew).trans s1); obtain ⟨⟨a0, a1⟩, ⟨b0, b1⟩, ⟨c0, c1⟩⟩ := P0.facts EA.out EB.out EC.out; have lt0 := P0.1.lt; have lt1 := P0.2.1.lt; have lt2 := P0.2.2.lt))
    go_quiet (fail)
    clear a0 a1 b0 b1 c0 c1 lt0 lt1 lt2 h22 htw
    have t1 : True := trivial; have t2 : True := trivial; have t3 : True := trivial; have t4 : True := trivial; have t5 : True := trivial; have t6 : True := trivial
    have K0 := HC.out
    obtain ⟨k1, K3⟩ := K0
    subst k1
    by_cases hmax : al = 9223372036854775807
    · have hal1 : al + 1 = 9223372036854775808 := by omega
      rw [hal1] at hw1
      clear hal1
      subst hmax
      by_cases hc0 : cl = 0
      · subst hc0
        have K5 : (m2h == m3h) = true := by rw [K3]; rfl
        have K6 : m2h = m3h := by simpa using K5
        subst K6
        clear K3 K5
        go_wp2_with (first
            | (go_at_call 19; have _t := t1; refine (hm1 _).mono ?_; rintro e w5 ⟨rfl, s1⟩; replace sw := (by first | exact sw.trans s1 | exact ((sw.alloc _).drewN _).trans s1); clear _t t1)
            | (go_at_call 23; have _t := t6; refine (hofc _).mono ?_; rintro e w5 ⟨rfl, s1⟩; replace sw := (by first | exact sw.trans s1 | exact ((sw.alloc _).drewN _).trans s1); clear _t t6)
            | (go_at_call 17; refine (hm2 _).mono ?_; rintro e w5 ⟨rfl, s1⟩; replace sw := (by first | exact sw.trans s1 | exact ((sw.alloc _).drewN _).trans s1))
            | (go_at_call 19; have _t := t2; refine (hm3 _).mono ?_; rintro e w5 ⟨rfl, s1⟩; replace sw := (by first | exact sw.trans s1 | exact ((sw.alloc _).drewN _).trans s1); clear _t t2)
            | (go_at_call 19; have _t := t3; refine (hxy _).mono ?_; rintro e w5 ⟨rfl, s1⟩; replace sw := (by first | exact sw.trans s1 | exact ((sw.alloc _).drewN _).trans s1); clear _t t3)
            | (go_at_call 19; have _t := t4; refine (hyx _).mono ?_; rintro e w5 ⟨rfl, s1⟩; replace sw := (by first | exact sw.trans s1 | exact ((sw.alloc _).drewN _).trans s1); clear _t t4)
            | (go_at_call 18; have _t := t5; refine (huxy _).mono ?_; rintro e w5 ⟨rfl, s1⟩; replace sw := (by first | exact sw.trans s1 | exact ((sw.alloc _).drewN _).trans s1); clear _t t5)
            | (go_at_call 18; refine (huyx _).mono ?_; rintro e w5 ⟨rfl, s1⟩; replace sw := (by first | exact sw.trans s1 | exact ((sw.alloc _).drewN _).trans s1))
            | (go_at_call 19; refine (hmm _).mono ?_; rintro e w5 ⟨rfl, s1⟩; replace sw := (by first | exact sw.trans s1 | exact ((sw.alloc _).drewN _).trans s1))
            | (go_at_call 23; refine (hofa _).mono ?_; rintro e w5 ⟨rfl, s1⟩; replace sw := (by first | exact sw.trans s1 | exact ((sw.alloc _).drewN _).trans s1))
            | (go_at_call 20; refine (hng _).mono ?_; rintro e w5 ⟨rfl, s1⟩; replace sw := (by first | exact sw.trans s1 | exact ((sw.alloc _).drewN _).trans s1)))
        go_ret
        exact ⟨by first | rfl | simp [*], sw⟩
      · have K5 : (m2h == m3h) = false := by rw [K3]; simpa using hc0
        have K6 : ¬ m2h = m3h := by simpa using K5
        clear K3
        go_wp2_with (first
            | (go_at_call 19; have _t := t1; refine (hm1 _).mono ?_; rintro e w5 ⟨rfl, s1⟩; replace sw := (by first | exact sw.trans s1 | exact ((sw.alloc _).drewN _).trans s1); clear _t t1)
            | (go_at_call 23; have _t := t6; refine (hofc _).mono ?_; rintro e w5 ⟨rfl, s1⟩; replace sw := (by first | exact sw.trans s1 | exact ((sw.alloc _).drewN _).trans s1); clear _t t6)
            | (go_at_call 17; refine (hm2 _).mono ?_; rintro e w5 ⟨rfl, s1⟩; replace sw := (by first | exact sw.trans s1 | exact ((sw.alloc _).drewN _).trans s1))
            | (go_at_call 19; have _t := t2; refine (hm3 _).mono ?_; rintro e w5 ⟨rfl, s1⟩; replace sw := (by first | exact sw.trans s1 | exact ((sw.alloc _).drewN _).trans s1); clear _t t2)
            | (go_at_call 19; have _t := t3; refine (hxy _).mono ?_; rintro e w5 ⟨rfl, s1⟩; replace sw := (by first | exact sw.trans s1 | exact ((sw.alloc _).drewN _).trans s1); clear _t t3)
            | (go_at_call 19; have _t := t4; refine (hyx _).mono ?_; rintro e w5 ⟨rfl, s1⟩; replace sw := (by first | exact sw.trans s1 | exact ((sw.alloc _).drewN _).trans s1); clear _t t4)
            | (go_at_call 18; have _t := t5; refine (huxy _).mono ?_; rintro e w5 ⟨rfl, s1⟩; replace sw := (by first | exact sw.trans s1 | exact ((sw.alloc _).drewN _).trans s1); clear _t t5)
            | (go_at_call 18; refine (huyx _).mono ?_; rintro e w5 ⟨rfl, s1⟩; replace sw := (by first | exact sw.trans s1 | exact ((sw.alloc _).drewN _).trans s1))
            | (go_at_call 19; refine (hmm _).mono ?_; rintro e w5 ⟨rfl, s1⟩; replace sw := (by first | exact sw.trans s1 | exact ((sw.alloc _).drewN _).trans s1))
            | (go_at_call 23; refine (hofa _).mono ?_; rintro e w5 ⟨rfl, s1⟩; replace sw := (by first | exact sw.trans s1 | exact ((sw.alloc _).drewN _).trans s1))
            | (go_at_call 20; refine (hng _).mono ?_; rintro e w5 ⟨rfl, s1⟩; replace sw := (by first | exact sw.trans s1 | exact ((sw.alloc _).drewN _).trans s1)))
        go_ret
        exact ⟨by first | rfl | simp [*], sw⟩
    · have K5 : m2h = m3h := by rw [show (al == 9223372036854775807) = false by simpa using hmax] at K3; simpa using K3
      subst K5
      clear K3
      go_wp2_with (first
          | (go_at_call 19; have _t := t1; refine (hm1 _).mono ?_; rintro e w5 ⟨rfl, s1⟩; replace sw := (by first | exact sw.trans s1 | exact ((sw.alloc _).drewN _).trans s1); clear _t t1)
          | (go_at_call 23; have _t := t6; refine (hofc _).mono ?_; rintro e w5 ⟨rfl, s1⟩; replace sw := (by first | exact sw.trans s1 | exact ((sw.alloc _).drewN _).trans s1); clear _t t6)
          | (go_at_call 17; refine (hm2 _).mono ?_; rintro e w5 ⟨rfl, s1⟩; replace sw := (by first | exact sw.trans s1 | exact ((sw.alloc _).drewN _).trans s1))
          | (go_at_call 19; have _t := t2; refine (hm3 _).mono ?_; rintro e w5 ⟨rfl, s1⟩; replace sw := (by first | exact sw.trans s1 | exact ((sw.alloc _).drewN _).trans s1); clear _t t2)
          | (go_at_call 19; have _t := t3; refine (hxy _).mono ?_; rintro e w5 ⟨rfl, s1⟩; replace sw := (by first | exact sw.trans s1 | exact ((sw.alloc _).drewN _).trans s1); clear _t t3)
          | (go_at_call 19; have _t := t4; refine (hyx _).mono ?_; rintro e w5 ⟨rfl, s1⟩; replace sw := (by first | exact sw.trans s1 | exact ((sw.alloc _).drewN _).trans s1); clear _t t4)
          | (go_at_call 18; have _t := t5; refine (huxy _).mono ?_; rintro e w5 ⟨rfl, s1⟩; replace sw := (by first | exact sw.trans s1 | exact ((sw.alloc _).drewN _).trans s1); clear _t t5)
          | (go_at_call 18; refine (huyx _).mono ?_; rintro e w5 ⟨rfl, s1⟩; replace sw := (by first | exact sw.trans s1 | exact ((sw.alloc _).drewN _).trans s1))
          | (go_at_call 19; refine (hmm _).mono ?_; rintro e w5 ⟨rfl, s1⟩; replace sw := (by first | exact sw.trans s1 | exact ((sw.alloc _).drewN _).trans s1))
          | (go_at_call 23; refine (hofa _).mono ?_; rintro e w5 ⟨rfl, s1⟩; replace sw := (by first | exact sw.trans s1 | exact ((sw.alloc _).drewN _).trans s1))
          | (go_at_call 20; refine (hng _).mono ?_; rintro e w5 ⟨rfl, s1⟩; replace sw := (by first | exact sw.trans s1 | exact ((sw.alloc _).drewN _).trans s1)))
      go_ret
      exact ⟨by first | rfl | simp [*], sw⟩
  obtain ⟨hh1, hh2⟩ := hhe
  go_wp2_with (first
    | (go_at_call 21; refine (htw _).mono ?_; rintro e w3 ⟨rfl, s1⟩; replace P0 := P0.calm s1; replace sw := (by first | exact sw.trans s1 | exact sw.drew.trans s1 | exact (sw.alloc _).trans s1 | exact ((sw.alloc _).drewN _).trans s1 | exact ((sw.alloc _).drew).trans s1))
    | (go_at_call 22; refine (h22 _).mono ?_; rintro e w4 ⟨rfl, s1⟩; replace P0 := P0.calm s1; replace sw := (by first | exact sw.trans s1 | exact sw.drew.trans s1 | exact (sw.alloc _).trans s1 | exact ((sw.alloc _).drewN _).trans s1 | exact ((sw.alloc _).drew).trans s1); obtain ⟨⟨a0, a1⟩, ⟨b0, b1⟩, ⟨c0, c1⟩⟩ := P0.facts EA.out EB.out EC.out; have lt0 := P0.1.lt; have lt1 := P0.2.1.lt; have lt2 := P0.2.2.lt))
  go_quiet (fail)
  clear a0 a1 b0 b1 c0 c1 lt0 lt1 lt2 h22 htw
  have t1 : True := trivial; have t2 : True := trivial; have t3 : True := trivial; have t4 : True := trivial; have t5 : True := trivial; have t6 : True := trivial
  have K0 := HC.out
  obtain ⟨k1, K3⟩ := K0
  subst k1
  by_cases hmax : al = 9223372036854775807
  · have hal1 : al + 1 = 9223372036854775808 := by omega
    rw [hal1] at hw1
    clear hal1
    subst hmax
    by_cases hc0 : cl = 0
    · subst hc0
      have K5 : (m2h == m3h) = true := by rw [K3]; rfl
      have K6 : m2h = m3h := by simpa using K5
      subst K6
      clear K3 K5
      go_wp2_with (first
          | (go_at_call 19; have _t := t1; refine (hm1 _).mono ?_; rintro e w5 ⟨rfl, s1⟩; replace sw := (by first | exact sw.trans s1 | exact ((sw.alloc _).drewN _).trans s1); clear _t t1)
          | (go_at_call 23; have _t := t6; refine (hofc _).mono ?_; rintro e w5 ⟨rfl, s1⟩; replace sw := (by first | exact sw.trans s1 | exact ((sw.alloc _).drewN _).trans s1); clear _t t6)
          | (go_at_call 17; refine (hm2 _).mono ?_; rintro e w5 ⟨rfl, s1⟩; replace sw := (by first | exact sw.trans s1 | exact ((sw.alloc _).drewN _).trans s1))
          | (go_at_call 19; have _t := t2; refine (hm3 _).mono ?_; rintro e w5 ⟨rfl, s1⟩; replace sw := (by first | exact sw.trans s1 | exact ((sw.alloc _).drewN _).trans s1); clear _t t2)
          | (go_at_call 19; have _t := t3; refine (hxy _).mono ?_; rintro e w5 ⟨rfl, s1⟩; replace sw := (by first | exact sw.trans s1 | exact ((sw.alloc _).drewN _).trans s1); clear _t t3)
          | (go_at_call 19; have _t := t4; refine (hyx _).mono ?_; rintro e w5 ⟨rfl, s1⟩; replace sw := (by first | exact sw.trans s1 | exact ((sw.alloc _).drewN _).trans s1); clear _t t4)
          | (go_at_call 18; have _t := t5; refine (huxy _).mono ?_; rintro e w5 ⟨rfl, s1⟩; replace sw := (by first | exact sw.trans s1 | exact ((sw.alloc _).drewN _).trans s1); clear _t t5)
          | (go_at_call 18; refine (huyx _).mono ?_; rintro e w5 ⟨rfl, s1⟩; replace sw := (by first | exact sw.trans s1 | exact ((sw.alloc _).drewN _).trans s1))
          | (go_at_call 19; refine (hmm _).mono ?_; rintro e w5 ⟨rfl, s1⟩; replace sw := (by first | exact sw.trans s1 | exact ((sw.alloc _).drewN _).trans s1))
          | (go_at_call 23; refine (hofa _).mono ?_; rintro e w5 ⟨rfl, s1⟩; replace sw := (by first | exact sw.trans s1 | exact ((sw.alloc _).drewN _).trans s1))
          | (go_at_call 20; refine (hng _).mono ?_; rintro e w5 ⟨rfl, s1⟩; replace sw := (by first | exact sw.trans s1 | exact ((sw.alloc _).drewN _).trans s1)))
      go_ret
      exact ⟨by first | rfl | simp [*], sw⟩
    · have K5 : (m2h == m3h) = false := by rw [K3]; simpa using hc0
      have K6 : ¬ m2h = m3h := by simpa using K5
      clear K3
      go_wp2_with (first
          | (go_at_call 19; have _t := t1; refine (hm1 _).mono ?_; rintro e w5 ⟨rfl, s1⟩; replace sw := (by first | exact sw.trans s1 | exact ((sw.alloc _).drewN _).trans s1); clear _t t1)
          | (go_at_call 23; have _t := t6; refine (hofc _).mono ?_; rintro e w5 ⟨rfl, s1⟩; replace sw := (by first | exact sw.trans s1 | exact ((sw.alloc _).drewN _).trans s1); clear _t t6)
          | (go_at_call 17; refine (hm2 _).mono ?_; rintro e w5 ⟨rfl, s1⟩; replace sw := (by first | exact sw.trans s1 | exact ((sw.alloc _).drewN _).trans s1))
          | (go_at_call 19; have _t := t2; refine (hm3 _).mono ?_; rintro e w5 ⟨rfl, s1⟩; replace sw := (by first | exact sw.trans s1 | exact ((sw.alloc _).drewN _).trans s1); clear _t t2)
          | (go_at_call 19; have _t := t3; refine (hxy _).mono ?_; rintro e w5 ⟨rfl, s1⟩; replace sw := (by first | exact sw.trans s1 | exact ((sw.alloc _).drewN _).trans s1); clear _t t3)
          | (go_at_call 19; have _t := t4; refine (hyx _).mono ?_; rintro e w5 ⟨rfl, s1⟩; replace sw := (by first | exact sw.trans s1 | exact ((sw.alloc _).drewN _).trans s1); clear _t t4)
          | (go_at_call 18; have _t := t5; refine (huxy _).mono ?_; rintro e w5 ⟨rfl, s1⟩; replace sw := (by first | exact sw.trans s1 | exact ((sw.alloc _).drewN _).trans s1); clear _t t5)
          | (go_at_call 18; refine (huyx _).mono ?_; rintro e w5 ⟨rfl, s1⟩; replace sw := (by first | exact sw.trans s1 | exact ((sw.alloc _).drewN _).trans s1))
          | (go_at_call 19; refine (hmm _).mono ?_; rintro e w5 ⟨rfl, s1⟩; replace sw := (by first | exact sw.trans s1 | exact ((sw.alloc _).drewN _).trans s1))
          | (go_at_call 23; refine (hofa _).mono ?_; rintro e w5 ⟨rfl, s1⟩; replace sw := (by first | exact sw.trans s1 | exact ((sw.alloc _).drewN _).trans s1))
          | (go_at_call 20; refine (hng _).mono ?_; rintro e w5 ⟨rfl, s1⟩; replace sw := (by first | exact sw.trans s1 | exact ((sw.alloc _).drewN _).trans s1)))
      go_ret
      exact ⟨by first | rfl | simp [*], sw⟩
  · have K5 : m2h = m3h := by rw [show (al == 9223372036854775807) = false by simpa using hmax] at K3; simpa using K3
    subst K5
    clear K3
    go_wp2_with (first
        | (go_at_call 19; have _t := t1; refine (hm1 _).mono ?_; rintro e w5 ⟨rfl, s1⟩; replace sw := (by first | exact sw.trans s1 | exact ((sw.alloc _).drewN _).trans s1); clear _t t1)
        | (go_at_call 23; have _t := t6; refine (hofc _).mono ?_; rintro e w5 ⟨rfl, s1⟩; replace sw := (by first | exact sw.trans s1 | exact ((sw.alloc _).drewN _).trans s1); clear _t t6)
        | (go_at_call 17; refine (hm2 _).mono ?_; rintro e w5 ⟨rfl, s1⟩; replace sw := (by first | exact sw.trans s1 | exact ((sw.alloc _).drewN _).trans s1))
        | (go_at_call 19; have _t := t2; refine (hm3 _).mono ?_; rintro e w5 ⟨rfl, s1⟩; replace sw := (by first | exact sw.trans s1 | exact ((sw.alloc _).drewN _).trans s1); clear _t t2)
        | (go_at_call 19; have _t := t3; refine (hxy _).mono ?_; rintro e w5 ⟨rfl, s1⟩; replace sw := (by first | exact sw.trans s1 | exact ((sw.alloc _).drewN _).trans s1); clear _t t3)
        | (go_at_call 19; have _t := t4; refine (hyx _).mono ?_; rintro e w5 ⟨rfl, s1⟩; replace sw := (by first | exact sw.trans s1 | exact ((sw.alloc _).drewN _).trans s1); clear _t t4)
        | (go_at_call 18; have _t := t5; refine (huxy _).mono ?_; rintro e w5 ⟨rfl, s1⟩; replace sw := (by first | exact sw.trans s1 | exact ((sw.alloc _).drewN _).trans s1); clear _t t5)
        | (go_at_call 18; refine (huyx _).mono ?_; rintro e w5 ⟨rfl, s1⟩; replace sw := (by first | exact sw.trans s1 | exact ((sw.alloc _).drewN _).trans s1))
        | (go_at_call 19; refine (hmm _).mono ?_; rintro e w5 ⟨rfl, s1⟩; replace sw := (by first | exact sw.trans s1 | exact ((sw.alloc _).drewN _).trans s1))
        | (go_at_call 23; refine (hofa _).mono ?_; rintro e w5 ⟨rfl, s1⟩; replace sw := (by first | exact sw.trans s1 | exact ((sw.alloc _).drewN _).trans s1))
        | (go_at_call 20; refine (hng _).mono ?_; rintro e w5 ⟨rfl, s1⟩; replace sw := (by first | exact sw.trans s1 | exact ((sw.alloc _).drewN _).trans s1)))
    go_ret
    exact ⟨by first | rfl | simp [*], sw⟩
end Go.Proofs.Ytjigjjkbgcnjdaa
