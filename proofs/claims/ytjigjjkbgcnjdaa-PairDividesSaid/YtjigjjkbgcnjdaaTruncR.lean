/- Division with signs, towards 0: the document's walk. -/
import Derived.Test.YtjigjjkbgcnjdaaDivT
namespace Go.Proofs.Ytjigjjkbgcnjdaa
open Go Go.RowKit
set_option linter.unusedSimpArgs false
set_option linter.unusedVariables false

set_option maxHeartbeats 8000000 in
theorem truncR_ok (p b : Int) (hp : S128 p) (hb : C64 b) (w : World) : Calls Try.prog 16 #[pv p, .int .i64 b] w fun e w' => e = .returned (tri (tr p b)) ∧ Calm w w' := by
  obtain ⟨pl, ph, pk, ⟨p1, p2⟩, ⟨p3, p4⟩, ep, qp⟩ := pv_split p
  rw [ep]
  have hpk : pk = 0 := by obtain ⟨h1, h2⟩ := hp; omega
  have hsg : ph < 0 ↔ p < 0 := by subst hpk; omega
  have sw := Calm.refl w
  by_cases hb0 : b = 0
  · rw [show tri (tr p b) = .tuple #[.int .i64 0, .int .i64 0, .int .i64 (-10)] by rw [tr, if_pos hb0]; rfl]
    subst hb0
    clear ep qp hsg hpk
    go_enter Try.func16, Try.ntmps16
    go_wp2
    go_ret3
    exact ⟨rfl, sw.alloc _⟩
  · have hbb : (b == 0) = false := by simpa using hb0
    obtain ⟨q1, q2, q3, q4, q5, q6⟩ := abs_facts hp hb hb0
    obtain ⟨xl, xh, -, -, -, ex, -⟩ := pv_split (absI p)
    obtain ⟨ql, qh, qk, ql1, qh1, eq, qq⟩ := pv_split (dQ p b)
    obtain ⟨b1, b2⟩ := id hb
    have habb : 0 < absI b ∧ absI b ≤ 9223372036854775808 := by unfold absI; split <;> omega
    have habp : 0 ≤ absI p ∧ absI p ≤ 170141183460469231731687303715884105728 := by obtain ⟨h1, h2⟩ := hp; unfold absI; split <;> omega
    have hyC : C64 (wrap64 (absI b)) := by unfold C64 wrap64; omega
    have hy0 : wrap64 (absI b) ≠ 0 := by unfold wrap64; omega
    have hyu : wrap64 (absI b) % 18446744073709551616 = absI b := by unfold wrap64; omega
    have h37 := long_ok (absI p) (wrap64 (absI b)) habp.1 (by omega) hyC hy0
    rw [hyu, ex, show wrap64 (absI p % absI b) = dR p b by unfold dR at *; unfold wrap64; omega, show absI p / absI b = dQ p b from rfl, eq] at h37
    have h28p : ∀ w, p < 0 → Calls Try.prog 28 #[.agg #[.int .i64 pl, .int .i64 ph]] w fun e w' => e = .returned (.agg #[.int .i64 xl, .int .i64 xh]) ∧ Calm w w' := by
      intro w h
      rw [← ep, ← ex, absI, if_pos h]; exact negR_calm p w
    have hxp : ¬ p < 0 → xl = pl ∧ xh = ph := by
      intro h
      rw [absI, if_neg h, ep] at ex
      simp only [Value.agg.injEq, Array.mk.injEq, List.cons.injEq, Value.int.injEq, true_and, and_true] at ex
      exact ⟨ex.1.symm, ex.2.symm⟩
    have hyn : wrap64 (absI b) = if b < 0 then wrap64 (-b) else b := by unfold absI; split <;> unfold wrap64 <;> omega
    have htm : tm p b = if p < 0 then wrap64 (-dR p b) else dR p b := by
      unfold tm
      split
      · unfold wrap64; omega
      · rfl
    have EP := Lib.hid ep
    have EX := Lib.hid ex
    have EQ := Lib.hid eq
    have P0 := PBlk.new w ep
    by_cases hbig : dQ p b = 170141183460469231731687303715884105728
    · have hps : p < 0 := by
        have h6 := Int.ediv_le_self (absI b) habp.1
        rw [show absI p / absI b = dQ p b from rfl, hbig] at h6
        obtain ⟨h7, h8⟩ := hp
        unfold absI at h6
        split at h6 <;> omega
      have hqh : qh < 0 := by obtain ⟨h1, h2⟩ := qh1; omega
      have hnf : fit (tq p b) = false := by unfold fit tq; simp only [decide_eq_false_iff_not]; split <;> omega
      rw [show tri (tr p b) = .tuple #[.int .i64 0, .int .i64 0, .int .i64 (-11)] by rw [tr, if_neg hb0, hnf]; rfl]
      have hph : ph < 0 := hsg.2 hps
      replace h28p := fun w => h28p w hps
      by_cases hbs : b < 0
      · rw [if_pos hbs] at hyn
        rw [hyn] at h37
        clear htm hxp hsg ep ex eq qp hpk q1 q2 q3 q4 q5 q6 hbig hb0 hyC hy0 hyu habb habp qq ql1 qh1 hp hb hps hnf
        generalize dR p b = r at *
        go_enter Try.func16, Try.ntmps16
        go_wp2_with (first
            | (go_at_call_of 28 pl; refine (h28p _).mono ?_; rintro e w1 ⟨rfl, s1⟩; have X0 := (PBlk.new (w.alloc (.cells #[.int .i64 pl, .int .i64 ph] 24)) EP.out).calm s1; replace P0 := (P0.calm ((Calm.refl _).alloc _)).calm s1; replace sw := ((sw.alloc _).alloc _).trans s1; (try (simp only [World.size_alloc] at X0)); have lt := X0.lt; obtain ⟨a0, a1, a2, a3⟩ := P0.cells EP.out; obtain ⟨x0, x1, x2, x3⟩ := X0.cells EP.out)
            | (go_at_call 37; refine (h37 _).mono ?_; rintro e w3 ⟨rfl, s2⟩; replace P0 := (P0.other2 (c := w.heap.size + 1) (by omega) _ _).calm s2; replace sw := (sw.set2 (b := w.heap.size + 1) (by omega) _ _).trans s2; have lt0 := P0.lt; obtain ⟨a0, a1, a2, a3⟩ := P0.cells EP.out))
        go_ret3
        exact ⟨rfl, sw.alloc _⟩
      · rw [if_neg hbs] at hyn
        rw [hyn] at h37
        clear htm hxp hsg ep ex eq qp hpk q1 q2 q3 q4 q5 q6 hbig hb0 hyC hy0 hyu habb habp qq ql1 qh1 hp hb hps hnf
        generalize dR p b = r at *
        go_enter Try.func16, Try.ntmps16
        go_wp2_with (first
            | (go_at_call_of 28 pl; refine (h28p _).mono ?_; rintro e w1 ⟨rfl, s1⟩; have X0 := (PBlk.new (w.alloc (.cells #[.int .i64 pl, .int .i64 ph] 24)) EP.out).calm s1; replace P0 := (P0.calm ((Calm.refl _).alloc _)).calm s1; replace sw := ((sw.alloc _).alloc _).trans s1; (try (simp only [World.size_alloc] at X0)); have lt := X0.lt; obtain ⟨a0, a1, a2, a3⟩ := P0.cells EP.out; obtain ⟨x0, x1, x2, x3⟩ := X0.cells EP.out)
            | (go_at_call 37; refine (h37 _).mono ?_; rintro e w3 ⟨rfl, s2⟩; replace P0 := (P0.other2 (c := w.heap.size + 1) (by omega) _ _).calm s2; replace sw := (sw.set2 (b := w.heap.size + 1) (by omega) _ _).trans s2; have lt0 := P0.lt; obtain ⟨a0, a1, a2, a3⟩ := P0.cells EP.out))
        go_ret3
        exact ⟨rfl, sw.alloc _⟩
    · have hS : S128 (tq p b) := by unfold tq S128; split <;> omega
      have hqh : ¬ qh < 0 := by obtain ⟨h1, h2⟩ := qh1; omega
      obtain ⟨tl, th, -, -, -, et, -⟩ := pv_split (tq p b)
      have h39 := fits_ok (tq p b) hS
      rw [et] at h39
      have h28q : ¬ (p < 0 ↔ b < 0) → ∀ w, Calls Try.prog 28 #[.agg #[.int .i64 ql, .int .i64 qh]] w fun e w' => e = .returned (.agg #[.int .i64 tl, .int .i64 th]) ∧ Calm w w' := by
        intro h w
        rw [← eq, ← et, tq, if_neg h]; exact negR_calm (dQ p b) w
      have hqt : (p < 0 ↔ b < 0) → ql = tl ∧ qh = th := by
        intro h
        rw [tq, if_pos h, eq] at et
        simp only [Value.agg.injEq, Array.mk.injEq, List.cons.injEq, Value.int.injEq, true_and, and_true] at et
        exact et
      have htr : tri (tr p b) = if fit (tq p b) = true then .tuple #[.int .i64 (tm p b), .int .i64 (tq p b), .int .i64 0] else .tuple #[.int .i64 0, .int .i64 0, .int .i64 (-11)] := by
        rw [tr, if_neg hb0]
        split <;> rfl
      rw [htr]
      have ET := Lib.hid et
      by_cases hps : p < 0
      · by_cases hbs : b < 0
        · by_cases hfi : fit (tq p b) = true
          · have hv := fit_val et hfi
            rw [if_pos hfi, ← hv]
            rw [hfi] at h39
            rw [if_pos hps] at htm
            rw [if_pos hbs] at hyn
            rw [hyn] at h37
            have hph : ph < 0 := hsg.2 hps
            have g1 : decide (ph < 0) = true := decide_eq_true hph
            have g2 : decide (b < 0) = true := decide_eq_true hbs
            replace h28p := fun w => h28p w hps
            obtain ⟨e3, e4⟩ := hqt (by simp [hps, hbs])
            subst e3 e4
            clear h28q
            generalize tm p b = l at *
            clear htr hqt hxp hsg hS ep ex et eq qp hpk q1 q2 q3 q4 q5 q6 hbig hb0 hyC hy0 hyu habb habp qq ql1 qh1 hp hb hps hfi hv
            generalize dR p b = r at *
            go_enter Try.func16, Try.ntmps16
            go_wp2_with (first
            | (go_at_call_of 28 pl; refine (h28p _).mono ?_; rintro e w1 ⟨rfl, s1⟩; have X0 := (PBlk.new (w.alloc (.cells #[.int .i64 pl, .int .i64 ph] 24)) EP.out).calm s1; replace P0 := (P0.calm ((Calm.refl _).alloc _)).calm s1; replace sw := ((sw.alloc _).alloc _).trans s1; (try (simp only [World.size_alloc] at X0)); have lt := X0.lt; obtain ⟨a0, a1, a2, a3⟩ := P0.cells EP.out; obtain ⟨x0, x1, x2, x3⟩ := X0.cells EP.out)
            | (go_at_call 37; refine (h37 _).mono ?_; rintro e w3 ⟨rfl, s2⟩; replace P0 := (P0.other2 (c := w.heap.size + 1) (by omega) _ _).calm s2; replace sw := (sw.set2 (b := w.heap.size + 1) (by omega) _ _).trans s2; have lt0 := P0.lt; obtain ⟨a0, a1, a2, a3⟩ := P0.cells EP.out)
            | (go_at_call 39; refine (h39 _).mono ?_; rintro e w5 ⟨rfl, s4⟩; have Q1 := (PBlk.new w3 ET.out).calm s4; replace sw := (sw.alloc _).trans s4; obtain ⟨b0, b1, b2, b3⟩ := Q1.cells ET.out))
            go_quiet (fail)
            go_wp2
            go_ret3
            exact ⟨by first | rfl | simp [*], by first | exact sw | exact sw.drewN _⟩
          · rw [if_neg hfi]
            rw [show fit (tq p b) = false by simpa using hfi] at h39
            rw [if_pos hps] at htm
            rw [if_pos hbs] at hyn
            rw [hyn] at h37
            have hph : ph < 0 := hsg.2 hps
            have g1 : decide (ph < 0) = true := decide_eq_true hph
            have g2 : decide (b < 0) = true := decide_eq_true hbs
            replace h28p := fun w => h28p w hps
            obtain ⟨e3, e4⟩ := hqt (by simp [hps, hbs])
            subst e3 e4
            clear h28q
            generalize tm p b = l at *
            clear htr hqt hxp hsg hS ep ex et eq qp hpk q1 q2 q3 q4 q5 q6 hbig hb0 hyC hy0 hyu habb habp qq ql1 qh1 hp hb hps hfi
            generalize dR p b = r at *
            go_enter Try.func16, Try.ntmps16
            go_wp2_with (first
            | (go_at_call_of 28 pl; refine (h28p _).mono ?_; rintro e w1 ⟨rfl, s1⟩; have X0 := (PBlk.new (w.alloc (.cells #[.int .i64 pl, .int .i64 ph] 24)) EP.out).calm s1; replace P0 := (P0.calm ((Calm.refl _).alloc _)).calm s1; replace sw := ((sw.alloc _).alloc _).trans s1; (try (simp only [World.size_alloc] at X0)); have lt := X0.lt; obtain ⟨a0, a1, a2, a3⟩ := P0.cells EP.out; obtain ⟨x0, x1, x2, x3⟩ := X0.cells EP.out)
            | (go_at_call 37; refine (h37 _).mono ?_; rintro e w3 ⟨rfl, s2⟩; replace P0 := (P0.other2 (c := w.heap.size + 1) (by omega) _ _).calm s2; replace sw := (sw.set2 (b := w.heap.size + 1) (by omega) _ _).trans s2; have lt0 := P0.lt; obtain ⟨a0, a1, a2, a3⟩ := P0.cells EP.out)
            | (go_at_call 39; refine (h39 _).mono ?_; rintro e w5 ⟨rfl, s4⟩; have Q1 := (PBlk.new w3 ET.out).calm s4; replace sw := (sw.alloc _).trans s4; obtain ⟨b0, b1, b2, b3⟩ := Q1.cells ET.out))
            go_ret3
            exact ⟨by first | rfl | simp [*], by first | exact sw | exact sw.drewN _⟩
        · by_cases hfi : fit (tq p b) = true
          · have hv := fit_val et hfi
            rw [if_pos hfi, ← hv]
            rw [hfi] at h39
            rw [if_pos hps] at htm
            rw [if_neg hbs] at hyn
            rw [hyn] at h37
            have hph : ph < 0 := hsg.2 hps
            have g1 : decide (ph < 0) = true := decide_eq_true hph
            have g2 : decide (b < 0) = false := decide_eq_false hbs
            replace h28p := fun w => h28p w hps
            replace h28q := h28q (fun h => absurd h (by simp [hps, hbs]))
            generalize tm p b = l at *
            clear htr hqt hxp hsg hS ep ex et eq qp hpk q1 q2 q3 q4 q5 q6 hbig hb0 hyC hy0 hyu habb habp qq ql1 qh1 hp hb hps hfi hv
            generalize dR p b = r at *
            go_enter Try.func16, Try.ntmps16
            go_wp2_with (first
            | (go_at_call_of 28 pl; refine (h28p _).mono ?_; rintro e w1 ⟨rfl, s1⟩; have X0 := (PBlk.new (w.alloc (.cells #[.int .i64 pl, .int .i64 ph] 24)) EP.out).calm s1; replace P0 := (P0.calm ((Calm.refl _).alloc _)).calm s1; replace sw := ((sw.alloc _).alloc _).trans s1; (try (simp only [World.size_alloc] at X0)); have lt := X0.lt; obtain ⟨a0, a1, a2, a3⟩ := P0.cells EP.out; obtain ⟨x0, x1, x2, x3⟩ := X0.cells EP.out)
            | (go_at_call 37; refine (h37 _).mono ?_; rintro e w3 ⟨rfl, s2⟩; replace P0 := (P0.other2 (c := w.heap.size + 1) (by omega) _ _).calm s2; replace sw := (sw.set2 (b := w.heap.size + 1) (by omega) _ _).trans s2; have lt0 := P0.lt; obtain ⟨a0, a1, a2, a3⟩ := P0.cells EP.out)
            | (go_at_call_of 28 ql; refine (h28q _).mono ?_; rintro e w4 ⟨rfl, s3⟩; have Q0 := (PBlk.new w3 EQ.out).calm s3; replace P0 := (P0.calm ((Calm.refl _).alloc _)).calm s3; replace sw := (sw.alloc _).trans s3; have lt1 := Q0.lt; obtain ⟨a0, a1, a2, a3⟩ := P0.cells EP.out; obtain ⟨b0, b1, b2, b3⟩ := Q0.cells EQ.out)
            | (go_at_call 39; refine (h39 _).mono ?_; rintro e w5 ⟨rfl, s4⟩; have Q1 := (Q0.set ET.out).calm s4; replace sw := (sw.set2 (b := w3.heap.size) (by omega) _ _).trans s4; obtain ⟨b0, b1, b2, b3⟩ := Q1.cells ET.out))
            go_quiet (fail)
            go_wp2
            go_ret3
            exact ⟨by first | rfl | simp [*], by first | exact sw | exact sw.drewN _⟩
          · rw [if_neg hfi]
            rw [show fit (tq p b) = false by simpa using hfi] at h39
            rw [if_pos hps] at htm
            rw [if_neg hbs] at hyn
            rw [hyn] at h37
            have hph : ph < 0 := hsg.2 hps
            have g1 : decide (ph < 0) = true := decide_eq_true hph
            have g2 : decide (b < 0) = false := decide_eq_false hbs
            replace h28p := fun w => h28p w hps
            replace h28q := h28q (fun h => absurd h (by simp [hps, hbs]))
            generalize tm p b = l at *
            clear htr hqt hxp hsg hS ep ex et eq qp hpk q1 q2 q3 q4 q5 q6 hbig hb0 hyC hy0 hyu habb habp qq ql1 qh1 hp hb hps hfi
            generalize dR p b = r at *
            go_enter Try.func16, Try.ntmps16
            go_wp2_with (first
            | (go_at_call_of 28 pl; refine (h28p _).mono ?_; rintro e w1 ⟨rfl, s1⟩; have X0 := (PBlk.new (w.alloc (.cells #[.int .i64 pl, .int .i64 ph] 24)) EP.out).calm s1; replace P0 := (P0.calm ((Calm.refl _).alloc _)).calm s1; replace sw := ((sw.alloc _).alloc _).trans s1; (try (simp only [World.size_alloc] at X0)); have lt := X0.lt; obtain ⟨a0, a1, a2, a3⟩ := P0.cells EP.out; obtain ⟨x0, x1, x2, x3⟩ := X0.cells EP.out)
            | (go_at_call 37; refine (h37 _).mono ?_; rintro e w3 ⟨rfl, s2⟩; replace P0 := (P0.other2 (c := w.heap.size + 1) (by omega) _ _).calm s2; replace sw := (sw.set2 (b := w.heap.size + 1) (by omega) _ _).trans s2; have lt0 := P0.lt; obtain ⟨a0, a1, a2, a3⟩ := P0.cells EP.out)
            | (go_at_call_of 28 ql; refine (h28q _).mono ?_; rintro e w4 ⟨rfl, s3⟩; have Q0 := (PBlk.new w3 EQ.out).calm s3; replace P0 := (P0.calm ((Calm.refl _).alloc _)).calm s3; replace sw := (sw.alloc _).trans s3; have lt1 := Q0.lt; obtain ⟨a0, a1, a2, a3⟩ := P0.cells EP.out; obtain ⟨b0, b1, b2, b3⟩ := Q0.cells EQ.out)
            | (go_at_call 39; refine (h39 _).mono ?_; rintro e w5 ⟨rfl, s4⟩; have Q1 := (Q0.set ET.out).calm s4; replace sw := (sw.set2 (b := w3.heap.size) (by omega) _ _).trans s4; obtain ⟨b0, b1, b2, b3⟩ := Q1.cells ET.out))
            go_ret3
            exact ⟨by first | rfl | simp [*], by first | exact sw | exact sw.drewN _⟩
      · by_cases hbs : b < 0
        · by_cases hfi : fit (tq p b) = true
          · have hv := fit_val et hfi
            rw [if_pos hfi, ← hv]
            rw [hfi] at h39
            rw [if_neg hps] at htm
            rw [if_pos hbs] at hyn
            rw [hyn] at h37
            have hph : ¬ ph < 0 := fun h => hps (hsg.1 h)
            have g1 : decide (ph < 0) = false := decide_eq_false hph
            have g2 : decide (b < 0) = true := decide_eq_true hbs
            obtain ⟨e1, e2⟩ := hxp hps
            subst e1 e2
            clear h28p
            replace h28q := h28q (fun h => absurd h (by simp [hps, hbs]))
            generalize tm p b = l at *
            clear htr hqt hxp hsg hS ep ex et eq qp hpk q1 q2 q3 q4 q5 q6 hbig hb0 hyC hy0 hyu habb habp qq ql1 qh1 hp hb hps hfi hv
            generalize dR p b = r at *
            go_enter Try.func16, Try.ntmps16
            go_wp2_with (first
            | (go_at_call 37; refine (h37 _).mono ?_; rintro e w3 ⟨rfl, s2⟩; replace P0 := (P0.calm ((Calm.refl _).alloc _)).calm s2; replace sw := ((sw.alloc _).alloc _).trans s2; have lt0 := P0.lt; obtain ⟨a0, a1, a2, a3⟩ := P0.cells EP.out)
            | (go_at_call_of 28 ql; refine (h28q _).mono ?_; rintro e w4 ⟨rfl, s3⟩; have Q0 := (PBlk.new w3 EQ.out).calm s3; replace P0 := (P0.calm ((Calm.refl _).alloc _)).calm s3; replace sw := (sw.alloc _).trans s3; have lt1 := Q0.lt; obtain ⟨a0, a1, a2, a3⟩ := P0.cells EP.out; obtain ⟨b0, b1, b2, b3⟩ := Q0.cells EQ.out)
            | (go_at_call 39; refine (h39 _).mono ?_; rintro e w5 ⟨rfl, s4⟩; have Q1 := (Q0.set ET.out).calm s4; replace sw := (sw.set2 (b := w3.heap.size) (by omega) _ _).trans s4; obtain ⟨b0, b1, b2, b3⟩ := Q1.cells ET.out))
            go_quiet (fail)
            go_wp2
            go_ret3
            exact ⟨by first | rfl | simp [*], by first | exact sw | exact sw.drewN _⟩
          · rw [if_neg hfi]
            rw [show fit (tq p b) = false by simpa using hfi] at h39
            rw [if_neg hps] at htm
            rw [if_pos hbs] at hyn
            rw [hyn] at h37
            have hph : ¬ ph < 0 := fun h => hps (hsg.1 h)
            have g1 : decide (ph < 0) = false := decide_eq_false hph
            have g2 : decide (b < 0) = true := decide_eq_true hbs
            obtain ⟨e1, e2⟩ := hxp hps
            subst e1 e2
            clear h28p
            replace h28q := h28q (fun h => absurd h (by simp [hps, hbs]))
            generalize tm p b = l at *
            clear htr hqt hxp hsg hS ep ex et eq qp hpk q1 q2 q3 q4 q5 q6 hbig hb0 hyC hy0 hyu habb habp qq ql1 qh1 hp hb hps hfi
            generalize dR p b = r at *
            go_enter Try.func16, Try.ntmps16
            go_wp2_with (first
            | (go_at_call 37; refine (h37 _).mono ?_; rintro e w3 ⟨rfl, s2⟩; replace P0 := (P0.calm ((Calm.refl _).alloc _)).calm s2; replace sw := ((sw.alloc _).alloc _).trans s2; have lt0 := P0.lt; obtain ⟨a0, a1, a2, a3⟩ := P0.cells EP.out)
            | (go_at_call_of 28 ql; refine (h28q _).mono ?_; rintro e w4 ⟨rfl, s3⟩; have Q0 := (PBlk.new w3 EQ.out).calm s3; replace P0 := (P0.calm ((Calm.refl _).alloc _)).calm s3; replace sw := (sw.alloc _).trans s3; have lt1 := Q0.lt; obtain ⟨a0, a1, a2, a3⟩ := P0.cells EP.out; obtain ⟨b0, b1, b2, b3⟩ := Q0.cells EQ.out)
            | (go_at_call 39; refine (h39 _).mono ?_; rintro e w5 ⟨rfl, s4⟩; have Q1 := (Q0.set ET.out).calm s4; replace sw := (sw.set2 (b := w3.heap.size) (by omega) _ _).trans s4; obtain ⟨b0, b1, b2, b3⟩ := Q1.cells ET.out))
            go_ret3
            exact ⟨by first | rfl | simp [*], by first | exact sw | exact sw.drewN _⟩
        · by_cases hfi : fit (tq p b) = true
          · have hv := fit_val et hfi
            rw [if_pos hfi, ← hv]
            rw [hfi] at h39
            rw [if_neg hps] at htm
            rw [if_neg hbs] at hyn
            rw [hyn] at h37
            have hph : ¬ ph < 0 := fun h => hps (hsg.1 h)
            have g1 : decide (ph < 0) = false := decide_eq_false hph
            have g2 : decide (b < 0) = false := decide_eq_false hbs
            obtain ⟨e1, e2⟩ := hxp hps
            subst e1 e2
            clear h28p
            obtain ⟨e3, e4⟩ := hqt (by simp [hps, hbs])
            subst e3 e4
            clear h28q
            generalize tm p b = l at *
            clear htr hqt hxp hsg hS ep ex et eq qp hpk q1 q2 q3 q4 q5 q6 hbig hb0 hyC hy0 hyu habb habp qq ql1 qh1 hp hb hps hfi hv
            generalize dR p b = r at *
            go_enter Try.func16, Try.ntmps16
            go_wp2_with (first
            | (go_at_call 37; refine (h37 _).mono ?_; rintro e w3 ⟨rfl, s2⟩; replace P0 := (P0.calm ((Calm.refl _).alloc _)).calm s2; replace sw := ((sw.alloc _).alloc _).trans s2; have lt0 := P0.lt; obtain ⟨a0, a1, a2, a3⟩ := P0.cells EP.out)
            | (go_at_call 39; refine (h39 _).mono ?_; rintro e w5 ⟨rfl, s4⟩; have Q1 := (PBlk.new w3 ET.out).calm s4; replace sw := (sw.alloc _).trans s4; obtain ⟨b0, b1, b2, b3⟩ := Q1.cells ET.out))
            go_quiet (fail)
            go_wp2
            go_ret3
            exact ⟨by first | rfl | simp [*], by first | exact sw | exact sw.drewN _⟩
          · rw [if_neg hfi]
            rw [show fit (tq p b) = false by simpa using hfi] at h39
            rw [if_neg hps] at htm
            rw [if_neg hbs] at hyn
            rw [hyn] at h37
            have hph : ¬ ph < 0 := fun h => hps (hsg.1 h)
            have g1 : decide (ph < 0) = false := decide_eq_false hph
            have g2 : decide (b < 0) = false := decide_eq_false hbs
            obtain ⟨e1, e2⟩ := hxp hps
            subst e1 e2
            clear h28p
            obtain ⟨e3, e4⟩ := hqt (by simp [hps, hbs])
            subst e3 e4
            clear h28q
            generalize tm p b = l at *
            clear htr hqt hxp hsg hS ep ex et eq qp hpk q1 q2 q3 q4 q5 q6 hbig hb0 hyC hy0 hyu habb habp qq ql1 qh1 hp hb hps hfi
            generalize dR p b = r at *
            go_enter Try.func16, Try.ntmps16
            go_wp2_with (first
            | (go_at_call 37; refine (h37 _).mono ?_; rintro e w3 ⟨rfl, s2⟩; replace P0 := (P0.calm ((Calm.refl _).alloc _)).calm s2; replace sw := ((sw.alloc _).alloc _).trans s2; have lt0 := P0.lt; obtain ⟨a0, a1, a2, a3⟩ := P0.cells EP.out)
            | (go_at_call 39; refine (h39 _).mono ?_; rintro e w5 ⟨rfl, s4⟩; have Q1 := (PBlk.new w3 ET.out).calm s4; replace sw := (sw.alloc _).trans s4; obtain ⟨b0, b1, b2, b3⟩ := Q1.cells ET.out))
            go_ret3
            exact ⟨by first | rfl | simp [*], by first | exact sw | exact sw.drewN _⟩
end Go.Proofs.Ytjigjjkbgcnjdaa
