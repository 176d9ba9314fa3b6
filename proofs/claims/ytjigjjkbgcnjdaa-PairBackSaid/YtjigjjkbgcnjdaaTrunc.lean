/- Division with signs, towards 0: the program's walk. -/
import Derived.Test.YtjigjjkbgcnjdaaDivT
namespace Go.Proofs.Ytjigjjkbgcnjdaa
open Go Go.RowKit
set_option linter.unusedSimpArgs false
set_option linter.unusedVariables false

set_option maxHeartbeats 8000000 in
theorem trunc_ok (p b : Int) (hp : S128 p) (hb : C64 b) (w : World) : Calls Try.prog 15 #[pv p, .int .i64 b] w fun e w' => e = .returned (tri (tr p b)) ∧ Calm w w' := by
  obtain ⟨pl, ph, pk, ⟨p1, p2⟩, ⟨p3, p4⟩, ep, qp⟩ := pv_split p
  obtain ⟨xl, xh, yl, yh, hx, hy, hu⟩ := heads hp hb ep
  have hof := of_calm b hb
  rw [ep]
  have P0 := PBlk.new w ep
  have EP := Lib.hid ep
  have hpk : pk = 0 := by obtain ⟨h1, h2⟩ := hp; omega
  have hsg : ph < 0 ↔ p < 0 := by subst hpk; omega
  by_cases hb0 : b = 0
  · rw [if_pos hb0] at hu
    rw [show tri (tr p b) = .tuple #[.int .i64 0, .int .i64 0, .int .i64 (-10)] by rw [tr, if_pos hb0]; rfl]
    rw [show tri (0, 0, -10) = .tuple #[.int .i64 0, .int .i64 0, .int .i64 (-10)] from rfl] at hu
    clear ep qp hb0 hsg hpk
    go_enter Try.func15, Try.ntmps15
    go_wp2_with (first
      | (go_at_call_of 38 ph; refine (hx _).mono ?_; rintro e w1 ⟨rfl, s1⟩)
      | (go_at_call 23; refine (hof _).mono ?_; rintro e w2 ⟨rfl, s2⟩)
      | (go_at_call_of 38 b; refine (hy _).mono ?_; rintro e w3 ⟨rfl, s3⟩)
      | (go_at_call 11; refine (hu _).mono ?_; rintro e w4 ⟨rfl, s4⟩))
    go_ret3
    exact ⟨rfl, (((((Calm.refl _).alloc _).trans s1).trans s2).trans s3).trans s4⟩
  · rw [if_neg hb0] at hu
    obtain ⟨q1, q2, q3, q4, q5, q6⟩ := abs_facts hp hb hb0
    by_cases hbig : 18446744073709551616 ≤ dQ p b
    · have hnf : fit (tq p b) = false := by
        unfold fit tq
        simp only [decide_eq_false_iff_not]
        split <;> omega
      rw [if_pos hbig] at hu
      rw [show tri (tr p b) = .tuple #[.int .i64 0, .int .i64 0, .int .i64 (-11)] by rw [tr, if_neg hb0, hnf]; rfl]
      rw [show tri (0, 0, -11) = .tuple #[.int .i64 0, .int .i64 0, .int .i64 (-11)] from rfl] at hu
      clear ep qp hb0 hsg hpk hbig hnf q1 q2 q3 q4 q5 q6
      go_enter Try.func15, Try.ntmps15
      go_wp2_with (first
        | (go_at_call_of 38 ph; refine (hx _).mono ?_; rintro e w1 ⟨rfl, s1⟩)
        | (go_at_call 23; refine (hof _).mono ?_; rintro e w2 ⟨rfl, s2⟩)
        | (go_at_call_of 38 b; refine (hy _).mono ?_; rintro e w3 ⟨rfl, s3⟩)
        | (go_at_call 11; refine (hu _).mono ?_; rintro e w4 ⟨rfl, s4⟩))
      go_ret3
      exact ⟨rfl, (((((Calm.refl _).alloc _).trans s1).trans s2).trans s3).trans s4⟩
    · rw [if_neg hbig] at hu
      rw [show tri (dR p b, wrap64 (dQ p b), 0) = .tuple #[.int .i64 (dR p b), .int .i64 (wrap64 (dQ p b)), .int .i64 0] from rfl] at hu
      have eq0 : pv (dQ p b) = .agg #[.int .i64 (wrap64 (dQ p b)), .int .i64 0] := pv_of rfl (by unfold wrap64; omega)
      have hS : S128 (tq p b) := by unfold tq S128; split <;> omega
      obtain ⟨tl, th, -, t1, -, et, -⟩ := pv_split (tq p b)
      have hfit := fit_eq hS et
      have h20 := neg_calm (dQ p b)
      have hofT := of_calm tl t1
      have hxor : bits .xor .i64 ph b < 0 ↔ ¬ (p < 0 ↔ b < 0) := by
        rw [xor_neg ⟨p3, p4⟩ hb, ← hsg]
        simp only [ne_eq, eq_iff_iff]
      have htr : tri (tr p b) = if fit (tq p b) = true then .tuple #[.int .i64 (tm p b), .int .i64 (tq p b), .int .i64 0] else .tuple #[.int .i64 0, .int .i64 0, .int .i64 (-11)] := by
        rw [tr, if_neg hb0]
        split <;> rfl
      rw [htr]
      have htm : tm p b = if ph < 0 then wrap64 (-dR p b) else dR p b := by
        unfold tm
        by_cases h : p < 0
        · rw [if_pos h, if_pos (hsg.2 h)]; unfold wrap64; omega
        · rw [if_neg h, if_neg (fun h2 => h (hsg.1 h2))]
      have HBS := Lib.hid hbig
      clear hbig qp hpk
      by_cases hx1 : bits .xor .i64 ph b < 0
      · have htq : tq p b = -dQ p b := by
          unfold tq
          rw [if_neg (hxor.1 hx1)]
        rw [← htq, et, eq0] at h20
        have EQ0 := Lib.hid eq0
        clear htq
        generalize wrap64 (dQ p b) = ql at *
        by_cases hph : ph < 0
        · by_cases hfi : fit (tq p b) = true
          · have hv := fit_val et hfi
            rw [if_pos hfi]
            rw [hfit] at hfi
            have hte : th = tl / 9223372036854775808 := by simpa using hfi
            rw [htm, if_pos hph, ← hv]
            generalize hth : tl / 9223372036854775808 = t63 at *
            have HTH := Lib.hid hth
            generalize dR p b = r at *
            have et2 := et
            have ET := Lib.hid et2
            clear et2
            clear htr htm hxor hfit hfi hS ep et hsg q1 q2 q3 q4 q5 q6 eq0 hth t1 hb0 hv
            subst hte
            go_enter Try.func15, Try.ntmps15
            go_wp2_with (first
              | (go_at_call_of 38 ph; refine (hx _).mono ?_; rintro e w1 ⟨rfl, s1⟩; replace P0 := P0.calm s1; have sw := ((Calm.refl w).alloc _).trans s1)
              | (go_at_call 23; refine (hof _).mono ?_; rintro e w2 ⟨rfl, s2⟩; replace P0 := P0.calm s2; replace sw := sw.trans s2)
              | (go_at_call_of 38 b; refine (hy _).mono ?_; rintro e w3 ⟨rfl, s3⟩; replace P0 := P0.calm s3; replace sw := sw.trans s3)
              | (go_at_call 11; refine (hu _).mono ?_; rintro e w4 ⟨rfl, s4⟩; replace P0 := P0.calm s4; replace sw := sw.trans s4; have lt := P0.lt; obtain ⟨a0, a1, a2, a3⟩ := P0.cells EP.out)
              | (go_at_call 20; refine (h20 _).mono ?_; rintro e w5 ⟨rfl, s5⟩; replace sw := (sw.alloc _).trans s5; have P1 := (P0.calm ((Calm.refl _).alloc _)).calm s5; have hW := (PBlk.new w4 EQ0.out).calm s5; have lt1 := hW.lt; obtain ⟨a0, a1, a2, a3⟩ := P1.cells EP.out; obtain ⟨b0, b1, b2, b3⟩ := hW.cells EQ0.out))
            have hW1 := (hW.set ET.out).calm (Calm.refl _).drew
            have hP1 := (P1.other2 (c := w4.heap.size) (by omega) (.int .i64 tl) (.int .i64 th)).calm (Calm.refl _).drew
            have sw1 := (sw.set2 (b := w4.heap.size) (by omega) (.int .i64 tl) (.int .i64 th)).drew
            obtain ⟨a0, a1, a2, a3⟩ := hP1.cells EP.out
            obtain ⟨b0, b1, b2, b3⟩ := hW1.cells ET.out
            go_region_with (first | (go_at_call 23; refine (hofT _).mono ?_; rintro e w6 ⟨rfl, s6⟩; replace hP1 := hP1.calm s6; replace sw1 := sw1.trans s6; replace hW1 := hW1.calm s6; obtain ⟨a0, a1, a2, a3⟩ := hP1.cells EP.out; obtain ⟨b0, b1, b2, b3⟩ := hW1.cells ET.out))
            all_goals go_wp2
            all_goals go_quiet (fail)
            all_goals go_wp2
            all_goals go_ret3
            all_goals first | exact ⟨rfl, sw1⟩ | exact ⟨rfl, sw1.drewN _⟩
          · rw [if_neg hfi]
            rw [hfit] at hfi
            have hte : ((th : Int) == tl / 9223372036854775808) = false := by simpa using hfi
            generalize hth : tl / 9223372036854775808 = t63 at *
            have HTH := Lib.hid hth
            generalize dR p b = r at *
            have et2 := et
            have ET := Lib.hid et2
            clear et2
            clear htr htm hxor hfit hfi hS ep et hsg q1 q2 q3 q4 q5 q6 eq0 hth t1 hb0
            go_enter Try.func15, Try.ntmps15
            go_wp2_with (first
              | (go_at_call_of 38 ph; refine (hx _).mono ?_; rintro e w1 ⟨rfl, s1⟩; replace P0 := P0.calm s1; have sw := ((Calm.refl w).alloc _).trans s1)
              | (go_at_call 23; refine (hof _).mono ?_; rintro e w2 ⟨rfl, s2⟩; replace P0 := P0.calm s2; replace sw := sw.trans s2)
              | (go_at_call_of 38 b; refine (hy _).mono ?_; rintro e w3 ⟨rfl, s3⟩; replace P0 := P0.calm s3; replace sw := sw.trans s3)
              | (go_at_call 11; refine (hu _).mono ?_; rintro e w4 ⟨rfl, s4⟩; replace P0 := P0.calm s4; replace sw := sw.trans s4; have lt := P0.lt; obtain ⟨a0, a1, a2, a3⟩ := P0.cells EP.out)
              | (go_at_call 20; refine (h20 _).mono ?_; rintro e w5 ⟨rfl, s5⟩; replace sw := (sw.alloc _).trans s5; have P1 := (P0.calm ((Calm.refl _).alloc _)).calm s5; have hW := (PBlk.new w4 EQ0.out).calm s5; have lt1 := hW.lt; obtain ⟨a0, a1, a2, a3⟩ := P1.cells EP.out; obtain ⟨b0, b1, b2, b3⟩ := hW.cells EQ0.out))
            have hW1 := (hW.set ET.out).calm (Calm.refl _).drew
            have hP1 := (P1.other2 (c := w4.heap.size) (by omega) (.int .i64 tl) (.int .i64 th)).calm (Calm.refl _).drew
            have sw1 := (sw.set2 (b := w4.heap.size) (by omega) (.int .i64 tl) (.int .i64 th)).drew
            obtain ⟨a0, a1, a2, a3⟩ := hP1.cells EP.out
            obtain ⟨b0, b1, b2, b3⟩ := hW1.cells ET.out
            go_region_with (first | (go_at_call 23; refine (hofT _).mono ?_; rintro e w6 ⟨rfl, s6⟩; replace hP1 := hP1.calm s6; replace sw1 := sw1.trans s6; replace hW1 := hW1.calm s6; obtain ⟨a0, a1, a2, a3⟩ := hP1.cells EP.out; obtain ⟨b0, b1, b2, b3⟩ := hW1.cells ET.out))
            all_goals go_wp2
            all_goals go_ret3
            all_goals first | exact ⟨rfl, sw1⟩ | exact ⟨rfl, sw1.drewN _⟩
        · by_cases hfi : fit (tq p b) = true
          · have hv := fit_val et hfi
            rw [if_pos hfi]
            rw [hfit] at hfi
            have hte : th = tl / 9223372036854775808 := by simpa using hfi
            rw [htm, if_neg hph, ← hv]
            generalize hth : tl / 9223372036854775808 = t63 at *
            have HTH := Lib.hid hth
            generalize dR p b = r at *
            have et2 := et
            have ET := Lib.hid et2
            clear et2
            clear htr htm hxor hfit hfi hS ep et hsg q1 q2 q3 q4 q5 q6 eq0 hth t1 hb0 hv
            subst hte
            go_enter Try.func15, Try.ntmps15
            go_wp2_with (first
              | (go_at_call_of 38 ph; refine (hx _).mono ?_; rintro e w1 ⟨rfl, s1⟩; replace P0 := P0.calm s1; have sw := ((Calm.refl w).alloc _).trans s1)
              | (go_at_call 23; refine (hof _).mono ?_; rintro e w2 ⟨rfl, s2⟩; replace P0 := P0.calm s2; replace sw := sw.trans s2)
              | (go_at_call_of 38 b; refine (hy _).mono ?_; rintro e w3 ⟨rfl, s3⟩; replace P0 := P0.calm s3; replace sw := sw.trans s3)
              | (go_at_call 11; refine (hu _).mono ?_; rintro e w4 ⟨rfl, s4⟩; replace P0 := P0.calm s4; replace sw := sw.trans s4; have lt := P0.lt; obtain ⟨a0, a1, a2, a3⟩ := P0.cells EP.out)
              | (go_at_call 20; refine (h20 _).mono ?_; rintro e w5 ⟨rfl, s5⟩; replace sw := (sw.alloc _).trans s5; have P1 := (P0.calm ((Calm.refl _).alloc _)).calm s5; have hW := (PBlk.new w4 EQ0.out).calm s5; have lt1 := hW.lt; obtain ⟨a0, a1, a2, a3⟩ := P1.cells EP.out; obtain ⟨b0, b1, b2, b3⟩ := hW.cells EQ0.out))
            have hW1 := (hW.set ET.out).calm (Calm.refl _).drew
            have hP1 := (P1.other2 (c := w4.heap.size) (by omega) (.int .i64 tl) (.int .i64 th)).calm (Calm.refl _).drew
            have sw1 := (sw.set2 (b := w4.heap.size) (by omega) (.int .i64 tl) (.int .i64 th)).drew
            obtain ⟨a0, a1, a2, a3⟩ := hP1.cells EP.out
            obtain ⟨b0, b1, b2, b3⟩ := hW1.cells ET.out
            go_region_with (first | (go_at_call 23; refine (hofT _).mono ?_; rintro e w6 ⟨rfl, s6⟩; replace hP1 := hP1.calm s6; replace sw1 := sw1.trans s6; replace hW1 := hW1.calm s6; obtain ⟨a0, a1, a2, a3⟩ := hP1.cells EP.out; obtain ⟨b0, b1, b2, b3⟩ := hW1.cells ET.out))
            all_goals go_wp2
            all_goals go_quiet (fail)
            all_goals go_wp2
            all_goals go_ret3
            all_goals first | exact ⟨rfl, sw1⟩ | exact ⟨rfl, sw1.drewN _⟩
          · rw [if_neg hfi]
            rw [hfit] at hfi
            have hte : ((th : Int) == tl / 9223372036854775808) = false := by simpa using hfi
            generalize hth : tl / 9223372036854775808 = t63 at *
            have HTH := Lib.hid hth
            generalize dR p b = r at *
            have et2 := et
            have ET := Lib.hid et2
            clear et2
            clear htr htm hxor hfit hfi hS ep et hsg q1 q2 q3 q4 q5 q6 eq0 hth t1 hb0
            go_enter Try.func15, Try.ntmps15
            go_wp2_with (first
              | (go_at_call_of 38 ph; refine (hx _).mono ?_; rintro e w1 ⟨rfl, s1⟩; replace P0 := P0.calm s1; have sw := ((Calm.refl w).alloc _).trans s1)
              | (go_at_call 23; refine (hof _).mono ?_; rintro e w2 ⟨rfl, s2⟩; replace P0 := P0.calm s2; replace sw := sw.trans s2)
              | (go_at_call_of 38 b; refine (hy _).mono ?_; rintro e w3 ⟨rfl, s3⟩; replace P0 := P0.calm s3; replace sw := sw.trans s3)
              | (go_at_call 11; refine (hu _).mono ?_; rintro e w4 ⟨rfl, s4⟩; replace P0 := P0.calm s4; replace sw := sw.trans s4; have lt := P0.lt; obtain ⟨a0, a1, a2, a3⟩ := P0.cells EP.out)
              | (go_at_call 20; refine (h20 _).mono ?_; rintro e w5 ⟨rfl, s5⟩; replace sw := (sw.alloc _).trans s5; have P1 := (P0.calm ((Calm.refl _).alloc _)).calm s5; have hW := (PBlk.new w4 EQ0.out).calm s5; have lt1 := hW.lt; obtain ⟨a0, a1, a2, a3⟩ := P1.cells EP.out; obtain ⟨b0, b1, b2, b3⟩ := hW.cells EQ0.out))
            have hW1 := (hW.set ET.out).calm (Calm.refl _).drew
            have hP1 := (P1.other2 (c := w4.heap.size) (by omega) (.int .i64 tl) (.int .i64 th)).calm (Calm.refl _).drew
            have sw1 := (sw.set2 (b := w4.heap.size) (by omega) (.int .i64 tl) (.int .i64 th)).drew
            obtain ⟨a0, a1, a2, a3⟩ := hP1.cells EP.out
            obtain ⟨b0, b1, b2, b3⟩ := hW1.cells ET.out
            go_region_with (first | (go_at_call 23; refine (hofT _).mono ?_; rintro e w6 ⟨rfl, s6⟩; replace hP1 := hP1.calm s6; replace sw1 := sw1.trans s6; replace hW1 := hW1.calm s6; obtain ⟨a0, a1, a2, a3⟩ := hP1.cells EP.out; obtain ⟨b0, b1, b2, b3⟩ := hW1.cells ET.out))
            all_goals go_wp2
            all_goals go_ret3
            all_goals first | exact ⟨rfl, sw1⟩ | exact ⟨rfl, sw1.drewN _⟩
      · have htq : tq p b = dQ p b := by
          unfold tq
          rw [if_pos (Classical.not_not.1 (fun h => hx1 (hxor.2 h)))]
        have eqs := et
        rw [htq, eq0] at eqs
        simp only [Value.agg.injEq, Array.mk.injEq, List.cons.injEq, Value.int.injEq, true_and, and_true] at eqs
        obtain ⟨e1, e2⟩ := eqs
        rw [e1] at hu eq0
        subst e2
        clear e1
        clear h20
        have EQ0 := Lib.hid eq0
        clear htq
        by_cases hph : ph < 0
        · by_cases hfi : fit (tq p b) = true
          · have hv := fit_val et hfi
            rw [if_pos hfi]
            rw [hfit] at hfi
            have hte : 0 = tl / 9223372036854775808 := by simpa using hfi
            rw [htm, if_pos hph, ← hv]
            generalize hth : tl / 9223372036854775808 = t63 at *
            have HTH := Lib.hid hth
            generalize dR p b = r at *
            have et2 := et
            have ET := Lib.hid et2
            clear et2
            clear htr htm hxor hfit hfi hS ep et hsg q1 q2 q3 q4 q5 q6 eq0 hth t1 hb0 hv
            subst hte
            go_enter Try.func15, Try.ntmps15
            go_wp2_with (first
              | (go_at_call_of 38 ph; refine (hx _).mono ?_; rintro e w1 ⟨rfl, s1⟩; replace P0 := P0.calm s1; have sw := ((Calm.refl w).alloc _).trans s1)
              | (go_at_call 23; refine (hof _).mono ?_; rintro e w2 ⟨rfl, s2⟩; replace P0 := P0.calm s2; replace sw := sw.trans s2)
              | (go_at_call_of 38 b; refine (hy _).mono ?_; rintro e w3 ⟨rfl, s3⟩; replace P0 := P0.calm s3; replace sw := sw.trans s3)
              | (go_at_call 11; refine (hu _).mono ?_; rintro e w4 ⟨rfl, s4⟩; replace P0 := P0.calm s4; replace sw := sw.trans s4; have lt := P0.lt; obtain ⟨a0, a1, a2, a3⟩ := P0.cells EP.out))
            have hW1 := (PBlk.new w4 ET.out).calm (Calm.refl _).drew
            have hP1 := (P0.calm ((Calm.refl _).alloc (.cells #[.int .i64 tl, .int .i64 0] 24))).calm (Calm.refl _).drew
            have sw1 := (sw.alloc (.cells #[.int .i64 tl, .int .i64 0] 24)).drew
            obtain ⟨a0, a1, a2, a3⟩ := hP1.cells EP.out
            obtain ⟨b0, b1, b2, b3⟩ := hW1.cells ET.out
            go_region_with (first | (go_at_call 23; refine (hofT _).mono ?_; rintro e w6 ⟨rfl, s6⟩; replace hP1 := hP1.calm s6; replace sw1 := sw1.trans s6; replace hW1 := hW1.calm s6; obtain ⟨a0, a1, a2, a3⟩ := hP1.cells EP.out; obtain ⟨b0, b1, b2, b3⟩ := hW1.cells ET.out))
            all_goals go_wp2
            all_goals go_quiet (fail)
            all_goals go_wp2
            all_goals go_ret3
            all_goals first | exact ⟨rfl, sw1⟩ | exact ⟨rfl, sw1.drewN _⟩
          · rw [if_neg hfi]
            rw [hfit] at hfi
            have hte : ((0 : Int) == tl / 9223372036854775808) = false := by simpa using hfi
            generalize hth : tl / 9223372036854775808 = t63 at *
            have HTH := Lib.hid hth
            generalize dR p b = r at *
            have et2 := et
            have ET := Lib.hid et2
            clear et2
            clear htr htm hxor hfit hfi hS ep et hsg q1 q2 q3 q4 q5 q6 eq0 hth t1 hb0
            go_enter Try.func15, Try.ntmps15
            go_wp2_with (first
              | (go_at_call_of 38 ph; refine (hx _).mono ?_; rintro e w1 ⟨rfl, s1⟩; replace P0 := P0.calm s1; have sw := ((Calm.refl w).alloc _).trans s1)
              | (go_at_call 23; refine (hof _).mono ?_; rintro e w2 ⟨rfl, s2⟩; replace P0 := P0.calm s2; replace sw := sw.trans s2)
              | (go_at_call_of 38 b; refine (hy _).mono ?_; rintro e w3 ⟨rfl, s3⟩; replace P0 := P0.calm s3; replace sw := sw.trans s3)
              | (go_at_call 11; refine (hu _).mono ?_; rintro e w4 ⟨rfl, s4⟩; replace P0 := P0.calm s4; replace sw := sw.trans s4; have lt := P0.lt; obtain ⟨a0, a1, a2, a3⟩ := P0.cells EP.out))
            have hW1 := (PBlk.new w4 ET.out).calm (Calm.refl _).drew
            have hP1 := (P0.calm ((Calm.refl _).alloc (.cells #[.int .i64 tl, .int .i64 0] 24))).calm (Calm.refl _).drew
            have sw1 := (sw.alloc (.cells #[.int .i64 tl, .int .i64 0] 24)).drew
            obtain ⟨a0, a1, a2, a3⟩ := hP1.cells EP.out
            obtain ⟨b0, b1, b2, b3⟩ := hW1.cells ET.out
            go_region_with (first | (go_at_call 23; refine (hofT _).mono ?_; rintro e w6 ⟨rfl, s6⟩; replace hP1 := hP1.calm s6; replace sw1 := sw1.trans s6; replace hW1 := hW1.calm s6; obtain ⟨a0, a1, a2, a3⟩ := hP1.cells EP.out; obtain ⟨b0, b1, b2, b3⟩ := hW1.cells ET.out))
            all_goals go_wp2
            all_goals go_ret3
            all_goals first | exact ⟨rfl, sw1⟩ | exact ⟨rfl, sw1.drewN _⟩
        · by_cases hfi : fit (tq p b) = true
          · have hv := fit_val et hfi
            rw [if_pos hfi]
            rw [hfit] at hfi
            have hte : 0 = tl / 9223372036854775808 := by simpa using hfi
            rw [htm, if_neg hph, ← hv]
            generalize hth : tl / 9223372036854775808 = t63 at *
            have HTH := Lib.hid hth
            generalize dR p b = r at *
            have et2 := et
            have ET := Lib.hid et2
            clear et2
            clear htr htm hxor hfit hfi hS ep et hsg q1 q2 q3 q4 q5 q6 eq0 hth t1 hb0 hv
            subst hte
            go_enter Try.func15, Try.ntmps15
            go_wp2_with (first
              | (go_at_call_of 38 ph; refine (hx _).mono ?_; rintro e w1 ⟨rfl, s1⟩; replace P0 := P0.calm s1; have sw := ((Calm.refl w).alloc _).trans s1)
              | (go_at_call 23; refine (hof _).mono ?_; rintro e w2 ⟨rfl, s2⟩; replace P0 := P0.calm s2; replace sw := sw.trans s2)
              | (go_at_call_of 38 b; refine (hy _).mono ?_; rintro e w3 ⟨rfl, s3⟩; replace P0 := P0.calm s3; replace sw := sw.trans s3)
              | (go_at_call 11; refine (hu _).mono ?_; rintro e w4 ⟨rfl, s4⟩; replace P0 := P0.calm s4; replace sw := sw.trans s4; have lt := P0.lt; obtain ⟨a0, a1, a2, a3⟩ := P0.cells EP.out))
            have hW1 := (PBlk.new w4 ET.out).calm (Calm.refl _).drew
            have hP1 := (P0.calm ((Calm.refl _).alloc (.cells #[.int .i64 tl, .int .i64 0] 24))).calm (Calm.refl _).drew
            have sw1 := (sw.alloc (.cells #[.int .i64 tl, .int .i64 0] 24)).drew
            obtain ⟨a0, a1, a2, a3⟩ := hP1.cells EP.out
            obtain ⟨b0, b1, b2, b3⟩ := hW1.cells ET.out
            go_region_with (first | (go_at_call 23; refine (hofT _).mono ?_; rintro e w6 ⟨rfl, s6⟩; replace hP1 := hP1.calm s6; replace sw1 := sw1.trans s6; replace hW1 := hW1.calm s6; obtain ⟨a0, a1, a2, a3⟩ := hP1.cells EP.out; obtain ⟨b0, b1, b2, b3⟩ := hW1.cells ET.out))
            all_goals go_wp2
            all_goals go_quiet (fail)
            all_goals go_wp2
            all_goals go_ret3
            all_goals first | exact ⟨rfl, sw1⟩ | exact ⟨rfl, sw1.drewN _⟩
          · rw [if_neg hfi]
            rw [hfit] at hfi
            have hte : ((0 : Int) == tl / 9223372036854775808) = false := by simpa using hfi
            generalize hth : tl / 9223372036854775808 = t63 at *
            have HTH := Lib.hid hth
            generalize dR p b = r at *
            have et2 := et
            have ET := Lib.hid et2
            clear et2
            clear htr htm hxor hfit hfi hS ep et hsg q1 q2 q3 q4 q5 q6 eq0 hth t1 hb0
            go_enter Try.func15, Try.ntmps15
            go_wp2_with (first
              | (go_at_call_of 38 ph; refine (hx _).mono ?_; rintro e w1 ⟨rfl, s1⟩; replace P0 := P0.calm s1; have sw := ((Calm.refl w).alloc _).trans s1)
              | (go_at_call 23; refine (hof _).mono ?_; rintro e w2 ⟨rfl, s2⟩; replace P0 := P0.calm s2; replace sw := sw.trans s2)
              | (go_at_call_of 38 b; refine (hy _).mono ?_; rintro e w3 ⟨rfl, s3⟩; replace P0 := P0.calm s3; replace sw := sw.trans s3)
              | (go_at_call 11; refine (hu _).mono ?_; rintro e w4 ⟨rfl, s4⟩; replace P0 := P0.calm s4; replace sw := sw.trans s4; have lt := P0.lt; obtain ⟨a0, a1, a2, a3⟩ := P0.cells EP.out))
            have hW1 := (PBlk.new w4 ET.out).calm (Calm.refl _).drew
            have hP1 := (P0.calm ((Calm.refl _).alloc (.cells #[.int .i64 tl, .int .i64 0] 24))).calm (Calm.refl _).drew
            have sw1 := (sw.alloc (.cells #[.int .i64 tl, .int .i64 0] 24)).drew
            obtain ⟨a0, a1, a2, a3⟩ := hP1.cells EP.out
            obtain ⟨b0, b1, b2, b3⟩ := hW1.cells ET.out
            go_region_with (first | (go_at_call 23; refine (hofT _).mono ?_; rintro e w6 ⟨rfl, s6⟩; replace hP1 := hP1.calm s6; replace sw1 := sw1.trans s6; replace hW1 := hW1.calm s6; obtain ⟨a0, a1, a2, a3⟩ := hP1.cells EP.out; obtain ⟨b0, b1, b2, b3⟩ := hW1.cells ET.out))
            all_goals go_wp2
            all_goals go_ret3
            all_goals first | exact ⟨rfl, sw1⟩ | exact ⟨rfl, sw1.drewN _⟩
end Go.Proofs.Ytjigjjkbgcnjdaa
