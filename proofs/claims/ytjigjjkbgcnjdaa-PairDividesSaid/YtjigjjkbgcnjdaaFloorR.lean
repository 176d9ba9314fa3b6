/- Division with signs, rounded down: the document's walk. -/
import Derived.Test.YtjigjjkbgcnjdaaDivT
namespace Go.Proofs.Ytjigjjkbgcnjdaa
open Go Go.RowKit
set_option linter.unusedSimpArgs false
set_option linter.unusedVariables false

set_option maxHeartbeats 8000000 in
theorem floorR_ok (p b : Int) (hp : S128 p) (hb : C64 b) (w : World) : Calls Try.prog 14 #[pv p, .int .i64 b] w fun e w' => e = .returned (tri (fl p b)) ∧ Calm w w' := by
  obtain ⟨pl, ph, pk, ⟨p1, p2⟩, ⟨p3, p4⟩, ep, qp⟩ := pv_split p
  rw [ep]
  have hpk : pk = 0 := by obtain ⟨h1, h2⟩ := hp; omega
  have sw := Calm.refl w
  by_cases hb0 : b = 0
  · rw [show tri (fl p b) = .tuple #[.int .i64 0, .int .i64 0, .int .i64 (-10)] by rw [fl, if_pos hb0]; rfl]
    subst hb0
    clear ep qp hpk
    go_enter Try.func14, Try.ntmps14
    go_wp2
    go_ret3
    exact ⟨rfl, sw.alloc _⟩
  · have hbb : (b == 0) = false := by simpa using hb0
    obtain ⟨q1, q2, q3, q4, q5, q6⟩ := abs_facts hp hb hb0
    obtain ⟨b1, b2⟩ := id hb
    have habb : 0 < absI b ∧ absI b ≤ 9223372036854775808 := by unfold absI; split <;> omega
    have EP := Lib.hid ep
    have P0 := PBlk.new w ep
    by_cases htop : p = -170141183460469231731687303715884105728
    · have hpv : pl = 0 ∧ ph = -9223372036854775808 := by omega
      obtain ⟨z1, z2⟩ := hpv
      have hnf : fit (fq p b) = false := by
        have hd : 18446744073709551616 ≤ dQ p b := by
          unfold dQ
          rw [Int.le_ediv_iff_mul_le habb.1, htop, show absI (-170141183460469231731687303715884105728) = 170141183460469231731687303715884105728 from rfl]
          omega
        unfold fit fq
        simp only [decide_eq_false_iff_not]
        split
        · omega
        · split <;> omega
      rw [show tri (fl p b) = .tuple #[.int .i64 0, .int .i64 0, .int .i64 (-11)] by rw [fl, if_neg hb0, hnf]; rfl]
      have h28p := negR_calm p
      rw [ep, show pv (-p) = .agg #[.int .i64 0, .int .i64 (-9223372036854775808)] by rw [htop]; exact pv_of (by unfold wrap64; omega) (by unfold wrap64; omega)] at h28p
      rw [z1, z2] at h28p P0 EP ⊢
      clear ep qp hpk htop hnf q1 q2 q3 q4 q5 q6 habb hb0 z1 z2 hp hb
      by_cases hbs : b < 0
      · go_enter Try.func14, Try.ntmps14
        go_wp2_with (first
            | (go_at_call 28; refine (h28p _).mono ?_; rintro e w1 ⟨rfl, s1⟩; have X0 := (PBlk.new (w.alloc (.cells #[.int .i64 0, .int .i64 (-9223372036854775808)] 24)) EP.out).calm s1; replace P0 := (P0.calm ((Calm.refl _).alloc _)).calm s1; replace sw := ((sw.alloc _).alloc _).trans s1; (try (simp only [World.size_alloc] at X0)); have lt := X0.lt; obtain ⟨a0, a1, a2, a3⟩ := P0.cells EP.out; obtain ⟨x0, x1, x2, x3⟩ := X0.cells EP.out))
        go_ret3
        exact ⟨rfl, sw.set2 (by omega) _ _⟩
      · go_enter Try.func14, Try.ntmps14
        go_wp2
        go_ret3
        exact ⟨rfl, (sw.alloc _).alloc _⟩
    · have htp : (pl == 0 && ph == (-9223372036854775808)) = false := by
        rw [Bool.and_eq_false_iff, beq_eq_false_iff_ne, beq_eq_false_iff_ne]
        omega
      have hne : ¬ (pl = 0 ∧ ph = -9223372036854775808) := by omega
      obtain ⟨h1, h2⟩ := id hp
      have habp : 0 ≤ absI p ∧ absI p ≤ 170141183460469231731687303715884105727 := by unfold absI; split <;> omega
      have hQ : dQ p b ≤ absI p := Int.ediv_le_self _ habp.1
      obtain ⟨xl, xh, xk, xl1, xh1, ex, qx⟩ := pv_split (if b < 0 then -p else p)
      obtain ⟨al, ah, -, -, -, ea, -⟩ := pv_split (absI p)
      obtain ⟨ql, qh, -, -, -, eq, -⟩ := pv_split (dQ p b)
      obtain ⟨nl, nh, -, -, -, en, -⟩ := pv_split (-dQ p b)
      have hyC : C64 (wrap64 (absI b)) := by unfold C64 wrap64; omega
      have hy0 : wrap64 (absI b) ≠ 0 := by unfold wrap64; omega
      have hyu : wrap64 (absI b) % 18446744073709551616 = absI b := by unfold wrap64; omega
      have h37 := long_ok (absI p) (wrap64 (absI b)) habp.1 (by omega) hyC hy0
      rw [hyu, ea, show wrap64 (absI p % absI b) = dR p b by unfold dR at *; unfold wrap64; omega, show absI p / absI b = dQ p b from rfl, eq] at h37
      have h28p := negR_calm p
      have h28x := negR_calm (if b < 0 then -p else p)
      have h28q := negR_calm (dQ p b)
      have hx0 : xh < 0 ↔ (if b < 0 then -p else p) < 0 := by
        obtain ⟨g1, g2⟩ := xh1
        obtain ⟨g3, g4⟩ := xl1
        split at qx <;> rename_i hbb2 <;> simp only [hbb2, if_true, if_false] <;> omega
      have hS : S128 (fq p b) := by
        unfold S128 fq
        split
        · omega
        · split <;> omega
      obtain ⟨tl, th, -, -, -, et, -⟩ := pv_split (fq p b)
      have h39 := fits_ok (fq p b) hS
      rw [et] at h39
      have em1 : pv (-1) = .agg #[.int .i64 (-1), .int .i64 (-1)] := pv_of (by unfold wrap64; omega) (by unfold wrap64; omega)
      have h27 := addR_calm (-dQ p b) (-1)
      rw [en, em1] at h27
      rw [eq, en] at h28q
      have hyn : wrap64 (absI b) = if b < 0 then wrap64 (-b) else b := by unfold absI; split <;> unfold wrap64 <;> omega
      have htr : tri (fl p b) = if fit (fq p b) = true then .tuple #[.int .i64 (fm p b), .int .i64 (fq p b), .int .i64 0] else .tuple #[.int .i64 0, .int .i64 0, .int .i64 (-11)] := by
        rw [fl, if_neg hb0]
        split <;> rfl
      rw [htr]
      have EX := Lib.hid ex
      have EA := Lib.hid ea
      have EQ := Lib.hid eq
      have EN := Lib.hid en
      have ET := Lib.hid et
      by_cases hbs : b < 0
      · by_cases hX : (if b < 0 then -p else p) < 0
        · by_cases hr0 : dR p b = 0
          · by_cases hfi : fit (fq p b) = true
            · have hyb := hyn
              rw [if_pos hbs] at hyb
              rw [hyb] at h37
              simp only [hbs, if_true] at ex hx0 h28x hX
              have hxh : xh < 0 := hx0.2 hX
              have g1 : decide (xh < 0) = true := decide_eq_true hxh
              have g2 : decide (b < 0) = true := decide_eq_true hbs
              rw [ep, ex] at h28p
              have hab : -(-p) = absI p := by unfold absI; split <;> omega
              rw [hab, ea, ex] at h28x
              have hsn : ¬ (p < 0 ↔ b < 0) := by omega
              have hfq : fq p b = -dQ p b := by unfold fq; rw [if_neg hsn, if_pos hr0]
              have hfm : fm p b = 0 := by unfold fm tm; rw [if_neg hsn, if_pos hr0, hr0]; split <;> rfl
              have eqs := et
              rw [hfq, en] at eqs
              simp only [Value.agg.injEq, Array.mk.injEq, List.cons.injEq, Value.int.injEq, true_and, and_true] at eqs
              obtain ⟨e3, e4⟩ := eqs
              have hv := fit_val et hfi
              rw [if_pos hfi, ← hv, hfm]
              rw [hfi] at h39
              clear htr hfq hfm hab hS ep ex ea eq en et em1 qp qx xl1 xh1 hpk q1 q2 q3 q4 q5 q6 hb0 hyC hy0 hyu habb habp hQ hp hb hfi hX hx0 hyn hyb htop h1 h2 hv hsn
              generalize dR p b = r at *
              subst hr0
              subst e3 e4
              go_enter Try.func14, Try.ntmps14
              go_wp2_with (first
            | (go_at_call_of 28 pl; refine (h28p _).mono ?_; rintro e w1 ⟨rfl, s1⟩; have X0 := (PBlk.new (w.alloc (.cells _ 24)) EP.out).calm s1; replace P0 := (P0.calm ((Calm.refl _).alloc _)).calm s1; replace sw := ((sw.alloc _).alloc _).trans s1; (try (simp only [World.size_alloc] at X0)); have lt := X0.lt; obtain ⟨a0, a1, a2, a3⟩ := P0.cells EP.out; obtain ⟨x0, x1, x2, x3⟩ := X0.cells EP.out)
            | (go_at_call_of 28 xl; refine (h28x _).mono ?_; rintro e w2 ⟨rfl, s1⟩; replace X0 := (X0.set EX.out).calm s1; replace P0 := (P0.other2 (c := w.heap.size + 1) (by omega) _ _).calm s1; replace sw := (sw.set2 (b := w.heap.size + 1) (by omega) _ _).trans s1; (try (simp only [World.size_alloc] at X0)); have lt := X0.lt; obtain ⟨a0, a1, a2, a3⟩ := P0.cells EP.out; obtain ⟨x0, x1, x2, x3⟩ := X0.cells EX.out)
            | (go_at_call 37; refine (h37 _).mono ?_; rintro e w3 ⟨rfl, s2⟩; replace sw := (sw.set2 (b := w.heap.size + 1) (by omega) _ _).trans s2; have hw3 := sw.size)
            | (go_at_call_of 28 ql; refine (h28q _).mono ?_; rintro e w4 ⟨rfl, s3⟩; have Q0 := (PBlk.new w3 EQ.out).calm s3; replace sw := (sw.alloc _).trans s3; have lt1 := s2.size; obtain ⟨b0, b1', b2', b3⟩ := Q0.cells EQ.out)
            | (go_at_call 39; refine (h39 _).mono ?_; rintro e w5 ⟨rfl, s4⟩; have Q1 := (Q0.set ET.out).calm s4; replace sw := (sw.set2 (b := w3.heap.size) hw3 _ _).trans s4; obtain ⟨b0, b1', b2', b3⟩ := Q1.cells ET.out))
              all_goals go_quiet (fail)
              all_goals go_wp2
              all_goals go_ret3
              all_goals exact ⟨by first | rfl | simp [*], by first | exact sw | exact sw.drewN _⟩
            · have hyb := hyn
              rw [if_pos hbs] at hyb
              rw [hyb] at h37
              simp only [hbs, if_true] at ex hx0 h28x hX
              have hxh : xh < 0 := hx0.2 hX
              have g1 : decide (xh < 0) = true := decide_eq_true hxh
              have g2 : decide (b < 0) = true := decide_eq_true hbs
              rw [ep, ex] at h28p
              have hab : -(-p) = absI p := by unfold absI; split <;> omega
              rw [hab, ea, ex] at h28x
              have hsn : ¬ (p < 0 ↔ b < 0) := by omega
              have hfq : fq p b = -dQ p b := by unfold fq; rw [if_neg hsn, if_pos hr0]
              have hfm : fm p b = 0 := by unfold fm tm; rw [if_neg hsn, if_pos hr0, hr0]; split <;> rfl
              have eqs := et
              rw [hfq, en] at eqs
              simp only [Value.agg.injEq, Array.mk.injEq, List.cons.injEq, Value.int.injEq, true_and, and_true] at eqs
              obtain ⟨e3, e4⟩ := eqs
              rw [if_neg hfi]
              rw [show fit (fq p b) = false by simpa using hfi] at h39
              clear htr hfq hfm hab hS ep ex ea eq en et em1 qp qx xl1 xh1 hpk q1 q2 q3 q4 q5 q6 hb0 hyC hy0 hyu habb habp hQ hp hb hfi hX hx0 hyn hyb htop h1 h2 hsn
              generalize dR p b = r at *
              subst hr0
              subst e3 e4
              go_enter Try.func14, Try.ntmps14
              go_wp2_with (first
            | (go_at_call_of 28 pl; refine (h28p _).mono ?_; rintro e w1 ⟨rfl, s1⟩; have X0 := (PBlk.new (w.alloc (.cells _ 24)) EP.out).calm s1; replace P0 := (P0.calm ((Calm.refl _).alloc _)).calm s1; replace sw := ((sw.alloc _).alloc _).trans s1; (try (simp only [World.size_alloc] at X0)); have lt := X0.lt; obtain ⟨a0, a1, a2, a3⟩ := P0.cells EP.out; obtain ⟨x0, x1, x2, x3⟩ := X0.cells EP.out)
            | (go_at_call_of 28 xl; refine (h28x _).mono ?_; rintro e w2 ⟨rfl, s1⟩; replace X0 := (X0.set EX.out).calm s1; replace P0 := (P0.other2 (c := w.heap.size + 1) (by omega) _ _).calm s1; replace sw := (sw.set2 (b := w.heap.size + 1) (by omega) _ _).trans s1; (try (simp only [World.size_alloc] at X0)); have lt := X0.lt; obtain ⟨a0, a1, a2, a3⟩ := P0.cells EP.out; obtain ⟨x0, x1, x2, x3⟩ := X0.cells EX.out)
            | (go_at_call 37; refine (h37 _).mono ?_; rintro e w3 ⟨rfl, s2⟩; replace sw := (sw.set2 (b := w.heap.size + 1) (by omega) _ _).trans s2; have hw3 := sw.size)
            | (go_at_call_of 28 ql; refine (h28q _).mono ?_; rintro e w4 ⟨rfl, s3⟩; have Q0 := (PBlk.new w3 EQ.out).calm s3; replace sw := (sw.alloc _).trans s3; have lt1 := s2.size; obtain ⟨b0, b1', b2', b3⟩ := Q0.cells EQ.out)
            | (go_at_call 39; refine (h39 _).mono ?_; rintro e w5 ⟨rfl, s4⟩; have Q1 := (Q0.set ET.out).calm s4; replace sw := (sw.set2 (b := w3.heap.size) hw3 _ _).trans s4; obtain ⟨b0, b1', b2', b3⟩ := Q1.cells ET.out))
              all_goals go_ret3
              all_goals exact ⟨by first | rfl | simp [*], by first | exact sw | exact sw.drewN _⟩
          · by_cases hfi : fit (fq p b) = true
            · have hyb := hyn
              rw [if_pos hbs] at hyb
              rw [hyb] at h37
              simp only [hbs, if_true] at ex hx0 h28x hX
              have hxh : xh < 0 := hx0.2 hX
              have g1 : decide (xh < 0) = true := decide_eq_true hxh
              have g2 : decide (b < 0) = true := decide_eq_true hbs
              rw [ep, ex] at h28p
              have hab : -(-p) = absI p := by unfold absI; split <;> omega
              rw [hab, ea, ex] at h28x
              have hsn : ¬ (p < 0 ↔ b < 0) := by omega
              have hfq : fq p b = -dQ p b + -1 := by unfold fq; rw [if_neg hsn, if_neg hr0]; omega
              have hfm : fm p b = wrap64 (-wrap64 (wrap64 (-b) - dR p b)) := by
                  unfold fm tm; rw [if_neg hsn, if_neg hr0]
                  unfold absI at q5
                  rw [if_pos hbs] at q5
                  rw [if_neg (by omega)]
                  unfold wrap64; omega
              rw [← hfq, et] at h27
              have hv := fit_val et hfi
              rw [if_pos hfi, ← hv, hfm]
              rw [hfi] at h39
              clear htr hfq hfm hab hS ep ex ea eq en et em1 qp qx xl1 xh1 hpk q1 q2 q3 q4 q5 q6 hb0 hyC hy0 hyu habb habp hQ hp hb hfi hX hx0 hyn hyb htop h1 h2 hv hsn
              generalize dR p b = r at *
              have hrb : (r == 0) = false := by simpa using hr0
              have hrc : (r != 0) = true := by simpa using hr0
              go_enter Try.func14, Try.ntmps14
              go_wp2_with (first
            | (go_at_call_of 28 pl; refine (h28p _).mono ?_; rintro e w1 ⟨rfl, s1⟩; have X0 := (PBlk.new (w.alloc (.cells _ 24)) EP.out).calm s1; replace P0 := (P0.calm ((Calm.refl _).alloc _)).calm s1; replace sw := ((sw.alloc _).alloc _).trans s1; (try (simp only [World.size_alloc] at X0)); have lt := X0.lt; obtain ⟨a0, a1, a2, a3⟩ := P0.cells EP.out; obtain ⟨x0, x1, x2, x3⟩ := X0.cells EP.out)
            | (go_at_call_of 28 xl; refine (h28x _).mono ?_; rintro e w2 ⟨rfl, s1⟩; replace X0 := (X0.set EX.out).calm s1; replace P0 := (P0.other2 (c := w.heap.size + 1) (by omega) _ _).calm s1; replace sw := (sw.set2 (b := w.heap.size + 1) (by omega) _ _).trans s1; (try (simp only [World.size_alloc] at X0)); have lt := X0.lt; obtain ⟨a0, a1, a2, a3⟩ := P0.cells EP.out; obtain ⟨x0, x1, x2, x3⟩ := X0.cells EX.out)
            | (go_at_call 37; refine (h37 _).mono ?_; rintro e w3 ⟨rfl, s2⟩; replace sw := (sw.set2 (b := w.heap.size + 1) (by omega) _ _).trans s2; have hw3 := sw.size)
            | (go_at_call_of 28 ql; refine (h28q _).mono ?_; rintro e w4 ⟨rfl, s3⟩; have Q0 := (PBlk.new w3 EQ.out).calm s3; replace sw := (sw.alloc _).trans s3; have lt1 := s2.size; obtain ⟨b0, b1', b2', b3⟩ := Q0.cells EQ.out)
            | (go_at_call 27; refine (h27 _).mono ?_; rintro e w6 ⟨rfl, s5⟩; replace Q0 := (Q0.set EN.out).calm s5; replace sw := (sw.set2 (b := w3.heap.size) hw3 _ _).trans s5; obtain ⟨b0, b1', b2', b3⟩ := Q0.cells EN.out)
            | (go_at_call 39; refine (h39 _).mono ?_; rintro e w5 ⟨rfl, s4⟩; have Q1 := (Q0.set ET.out).calm s4; replace sw := (sw.set2 (b := w3.heap.size) hw3 _ _).trans s4; obtain ⟨b0, b1', b2', b3⟩ := Q1.cells ET.out))
              all_goals go_quiet (fail)
              all_goals go_wp2
              all_goals go_ret3
              all_goals exact ⟨by first | rfl | simp [*], by first | exact sw | exact sw.drewN _⟩
            · have hyb := hyn
              rw [if_pos hbs] at hyb
              rw [hyb] at h37
              simp only [hbs, if_true] at ex hx0 h28x hX
              have hxh : xh < 0 := hx0.2 hX
              have g1 : decide (xh < 0) = true := decide_eq_true hxh
              have g2 : decide (b < 0) = true := decide_eq_true hbs
              rw [ep, ex] at h28p
              have hab : -(-p) = absI p := by unfold absI; split <;> omega
              rw [hab, ea, ex] at h28x
              have hsn : ¬ (p < 0 ↔ b < 0) := by omega
              have hfq : fq p b = -dQ p b + -1 := by unfold fq; rw [if_neg hsn, if_neg hr0]; omega
              have hfm : fm p b = wrap64 (-wrap64 (wrap64 (-b) - dR p b)) := by
                  unfold fm tm; rw [if_neg hsn, if_neg hr0]
                  unfold absI at q5
                  rw [if_pos hbs] at q5
                  rw [if_neg (by omega)]
                  unfold wrap64; omega
              rw [← hfq, et] at h27
              rw [if_neg hfi]
              rw [show fit (fq p b) = false by simpa using hfi] at h39
              clear htr hfq hfm hab hS ep ex ea eq en et em1 qp qx xl1 xh1 hpk q1 q2 q3 q4 q5 q6 hb0 hyC hy0 hyu habb habp hQ hp hb hfi hX hx0 hyn hyb htop h1 h2 hsn
              generalize dR p b = r at *
              have hrb : (r == 0) = false := by simpa using hr0
              have hrc : (r != 0) = true := by simpa using hr0
              go_enter Try.func14, Try.ntmps14
              go_wp2_with (first
            | (go_at_call_of 28 pl; refine (h28p _).mono ?_; rintro e w1 ⟨rfl, s1⟩; have X0 := (PBlk.new (w.alloc (.cells _ 24)) EP.out).calm s1; replace P0 := (P0.calm ((Calm.refl _).alloc _)).calm s1; replace sw := ((sw.alloc _).alloc _).trans s1; (try (simp only [World.size_alloc] at X0)); have lt := X0.lt; obtain ⟨a0, a1, a2, a3⟩ := P0.cells EP.out; obtain ⟨x0, x1, x2, x3⟩ := X0.cells EP.out)
            | (go_at_call_of 28 xl; refine (h28x _).mono ?_; rintro e w2 ⟨rfl, s1⟩; replace X0 := (X0.set EX.out).calm s1; replace P0 := (P0.other2 (c := w.heap.size + 1) (by omega) _ _).calm s1; replace sw := (sw.set2 (b := w.heap.size + 1) (by omega) _ _).trans s1; (try (simp only [World.size_alloc] at X0)); have lt := X0.lt; obtain ⟨a0, a1, a2, a3⟩ := P0.cells EP.out; obtain ⟨x0, x1, x2, x3⟩ := X0.cells EX.out)
            | (go_at_call 37; refine (h37 _).mono ?_; rintro e w3 ⟨rfl, s2⟩; replace sw := (sw.set2 (b := w.heap.size + 1) (by omega) _ _).trans s2; have hw3 := sw.size)
            | (go_at_call_of 28 ql; refine (h28q _).mono ?_; rintro e w4 ⟨rfl, s3⟩; have Q0 := (PBlk.new w3 EQ.out).calm s3; replace sw := (sw.alloc _).trans s3; have lt1 := s2.size; obtain ⟨b0, b1', b2', b3⟩ := Q0.cells EQ.out)
            | (go_at_call 27; refine (h27 _).mono ?_; rintro e w6 ⟨rfl, s5⟩; replace Q0 := (Q0.set EN.out).calm s5; replace sw := (sw.set2 (b := w3.heap.size) hw3 _ _).trans s5; obtain ⟨b0, b1', b2', b3⟩ := Q0.cells EN.out)
            | (go_at_call 39; refine (h39 _).mono ?_; rintro e w5 ⟨rfl, s4⟩; have Q1 := (Q0.set ET.out).calm s4; replace sw := (sw.set2 (b := w3.heap.size) hw3 _ _).trans s4; obtain ⟨b0, b1', b2', b3⟩ := Q1.cells ET.out))
              all_goals go_ret3
              all_goals exact ⟨by first | rfl | simp [*], by first | exact sw | exact sw.drewN _⟩
        · by_cases hfi : fit (fq p b) = true
          · have hyb := hyn
            rw [if_pos hbs] at hyb
            rw [hyb] at h37
            simp only [hbs, if_true] at ex hx0 h28x hX
            have hxh : ¬ xh < 0 := fun h => hX (hx0.1 h)
            have g1 : decide (xh < 0) = false := decide_eq_false hxh
            have g2 : decide (b < 0) = true := decide_eq_true hbs
            rw [ep, ex] at h28p
            have hab : -p = absI p := by unfold absI; split <;> omega
            have eax := ea
            rw [← hab, ex] at eax
            simp only [Value.agg.injEq, Array.mk.injEq, List.cons.injEq, Value.int.injEq, true_and, and_true] at eax
            obtain ⟨e1, e2⟩ := eax
            rw [← e1, ← e2] at h37
            have hp0 : p = 0 → dQ p b = 0 ∧ dR p b = 0 := fun h => by
                  have h8 : absI p = 0 := by rw [h]; rfl
                  have h9 : dQ p b = 0 := by omega
                  rw [h9, Int.mul_zero] at q6
                  exact ⟨h9, by omega⟩
            have hfq : fq p b = dQ p b := by
                  unfold fq
                  by_cases hpz : p = 0
                  · obtain ⟨z1, z2⟩ := hp0 hpz
                    rw [z1, z2]; split <;> rfl
                  · rw [if_pos (by omega)]
            have hfm : fm p b = wrap64 (-dR p b) := by
                  unfold fm tm
                  by_cases hpz : p = 0
                  · obtain ⟨z1, z2⟩ := hp0 hpz
                    rw [z2]; (repeat' split) <;> first | omega | (unfold wrap64; omega)
                  · rw [if_pos (by omega)]; rw [if_pos (by omega)]; unfold wrap64; omega
            have eqs := et
            rw [hfq, eq] at eqs
            simp only [Value.agg.injEq, Array.mk.injEq, List.cons.injEq, Value.int.injEq, true_and, and_true] at eqs
            obtain ⟨e3, e4⟩ := eqs
            have hv := fit_val et hfi
            rw [if_pos hfi, ← hv, hfm]
            rw [hfi] at h39
            clear htr hfq hfm hab hS ep ex ea eq en et em1 qp qx xl1 xh1 hpk q1 q2 q3 q4 q5 q6 hb0 hyC hy0 hyu habb habp hQ hp hb hfi hX hx0 hyn hyb htop h1 h2 hv hp0
            generalize dR p b = r at *
            subst e1 e2 e3 e4
            go_enter Try.func14, Try.ntmps14
            go_wp2_with (first
            | (go_at_call_of 28 pl; refine (h28p _).mono ?_; rintro e w1 ⟨rfl, s1⟩; have X0 := (PBlk.new (w.alloc (.cells _ 24)) EP.out).calm s1; replace P0 := (P0.calm ((Calm.refl _).alloc _)).calm s1; replace sw := ((sw.alloc _).alloc _).trans s1; (try (simp only [World.size_alloc] at X0)); have lt := X0.lt; obtain ⟨a0, a1, a2, a3⟩ := P0.cells EP.out; obtain ⟨x0, x1, x2, x3⟩ := X0.cells EP.out)
            | (go_at_call 37; refine (h37 _).mono ?_; rintro e w3 ⟨rfl, s2⟩; replace sw := (sw.set2 (b := w.heap.size + 1) (by omega) _ _).trans s2; have hw3 := sw.size)
            | (go_at_call 39; refine (h39 _).mono ?_; rintro e w5 ⟨rfl, s4⟩; have Q1 := (PBlk.new w3 ET.out).calm s4; replace sw := (sw.alloc _).trans s4; obtain ⟨b0, b1', b2', b3⟩ := Q1.cells ET.out))
            all_goals go_quiet (fail)
            all_goals go_wp2
            all_goals go_ret3
            all_goals exact ⟨by first | rfl | simp [*], by first | exact sw | exact sw.drewN _⟩
          · have hyb := hyn
            rw [if_pos hbs] at hyb
            rw [hyb] at h37
            simp only [hbs, if_true] at ex hx0 h28x hX
            have hxh : ¬ xh < 0 := fun h => hX (hx0.1 h)
            have g1 : decide (xh < 0) = false := decide_eq_false hxh
            have g2 : decide (b < 0) = true := decide_eq_true hbs
            rw [ep, ex] at h28p
            have hab : -p = absI p := by unfold absI; split <;> omega
            have eax := ea
            rw [← hab, ex] at eax
            simp only [Value.agg.injEq, Array.mk.injEq, List.cons.injEq, Value.int.injEq, true_and, and_true] at eax
            obtain ⟨e1, e2⟩ := eax
            rw [← e1, ← e2] at h37
            have hp0 : p = 0 → dQ p b = 0 ∧ dR p b = 0 := fun h => by
                  have h8 : absI p = 0 := by rw [h]; rfl
                  have h9 : dQ p b = 0 := by omega
                  rw [h9, Int.mul_zero] at q6
                  exact ⟨h9, by omega⟩
            have hfq : fq p b = dQ p b := by
                  unfold fq
                  by_cases hpz : p = 0
                  · obtain ⟨z1, z2⟩ := hp0 hpz
                    rw [z1, z2]; split <;> rfl
                  · rw [if_pos (by omega)]
            have hfm : fm p b = wrap64 (-dR p b) := by
                  unfold fm tm
                  by_cases hpz : p = 0
                  · obtain ⟨z1, z2⟩ := hp0 hpz
                    rw [z2]; (repeat' split) <;> first | omega | (unfold wrap64; omega)
                  · rw [if_pos (by omega)]; rw [if_pos (by omega)]; unfold wrap64; omega
            have eqs := et
            rw [hfq, eq] at eqs
            simp only [Value.agg.injEq, Array.mk.injEq, List.cons.injEq, Value.int.injEq, true_and, and_true] at eqs
            obtain ⟨e3, e4⟩ := eqs
            rw [if_neg hfi]
            rw [show fit (fq p b) = false by simpa using hfi] at h39
            clear htr hfq hfm hab hS ep ex ea eq en et em1 qp qx xl1 xh1 hpk q1 q2 q3 q4 q5 q6 hb0 hyC hy0 hyu habb habp hQ hp hb hfi hX hx0 hyn hyb htop h1 h2 hp0
            generalize dR p b = r at *
            subst e1 e2 e3 e4
            go_enter Try.func14, Try.ntmps14
            go_wp2_with (first
            | (go_at_call_of 28 pl; refine (h28p _).mono ?_; rintro e w1 ⟨rfl, s1⟩; have X0 := (PBlk.new (w.alloc (.cells _ 24)) EP.out).calm s1; replace P0 := (P0.calm ((Calm.refl _).alloc _)).calm s1; replace sw := ((sw.alloc _).alloc _).trans s1; (try (simp only [World.size_alloc] at X0)); have lt := X0.lt; obtain ⟨a0, a1, a2, a3⟩ := P0.cells EP.out; obtain ⟨x0, x1, x2, x3⟩ := X0.cells EP.out)
            | (go_at_call 37; refine (h37 _).mono ?_; rintro e w3 ⟨rfl, s2⟩; replace sw := (sw.set2 (b := w.heap.size + 1) (by omega) _ _).trans s2; have hw3 := sw.size)
            | (go_at_call 39; refine (h39 _).mono ?_; rintro e w5 ⟨rfl, s4⟩; have Q1 := (PBlk.new w3 ET.out).calm s4; replace sw := (sw.alloc _).trans s4; obtain ⟨b0, b1', b2', b3⟩ := Q1.cells ET.out))
            all_goals go_ret3
            all_goals exact ⟨by first | rfl | simp [*], by first | exact sw | exact sw.drewN _⟩
      · by_cases hX : (if b < 0 then -p else p) < 0
        · by_cases hr0 : dR p b = 0
          · by_cases hfi : fit (fq p b) = true
            · have hyb := hyn
              rw [if_neg hbs] at hyb
              rw [hyb] at h37
              simp only [hbs, if_false] at ex hx0 h28x hX
              have hxh : xh < 0 := hx0.2 hX
              have g1 : decide (xh < 0) = true := decide_eq_true hxh
              have g2 : decide (b < 0) = false := decide_eq_false hbs
              have hab : -(p) = absI p := by unfold absI; split <;> omega
              rw [hab, ea, ex] at h28x
              have hsn : ¬ (p < 0 ↔ b < 0) := by omega
              have hfq : fq p b = -dQ p b := by unfold fq; rw [if_neg hsn, if_pos hr0]
              have hfm : fm p b = 0 := by unfold fm tm; rw [if_neg hsn, if_pos hr0, hr0]; split <;> rfl
              have eqs := et
              rw [hfq, en] at eqs
              simp only [Value.agg.injEq, Array.mk.injEq, List.cons.injEq, Value.int.injEq, true_and, and_true] at eqs
              obtain ⟨e3, e4⟩ := eqs
              have hv := fit_val et hfi
              rw [if_pos hfi, ← hv, hfm]
              rw [hfi] at h39
              clear htr hfq hfm hab hS ep ex ea eq en et em1 qp qx xl1 xh1 hpk q1 q2 q3 q4 q5 q6 hb0 hyC hy0 hyu habb habp hQ hp hb hfi hX hx0 hyn hyb htop h1 h2 hv hsn
              have exs : pl = xl ∧ ph = xh := by
                  have hx9 := EX.out
                  rw [if_neg hbs] at hx9
                  have := EP.out.symm.trans hx9
                  simpa using this
              obtain ⟨e5, e6⟩ := exs
              subst e5 e6
              generalize dR p b = r at *
              subst hr0
              subst e3 e4
              refine (Classical.em (pl = 0)).elim (fun hz => ?_) (fun hz => ?_)
              all_goals (try (have hz2 : ¬ ph = (-9223372036854775808) := fun h => hne ⟨hz, h⟩))
              all_goals (try subst hz)
              all_goals go_enter Try.func14, Try.ntmps14
              all_goals go_wp2_with (first
            | (go_at_call_of 28 ph; refine (h28x _).mono ?_; rintro e w2 ⟨rfl, s1⟩; have X0 := (PBlk.new (w.alloc (.cells _ 24)) EP.out).calm s1; replace P0 := (P0.calm ((Calm.refl _).alloc _)).calm s1; replace sw := ((sw.alloc _).alloc _).trans s1; (try (simp only [World.size_alloc] at X0)); have lt := X0.lt; obtain ⟨a0, a1, a2, a3⟩ := P0.cells EP.out; obtain ⟨x0, x1, x2, x3⟩ := X0.cells EP.out)
            | (go_at_call 37; refine (h37 _).mono ?_; rintro e w3 ⟨rfl, s2⟩; replace sw := (sw.set2 (b := w.heap.size + 1) (by omega) _ _).trans s2; have hw3 := sw.size)
            | (go_at_call_of 28 ql; refine (h28q _).mono ?_; rintro e w4 ⟨rfl, s3⟩; have Q0 := (PBlk.new w3 EQ.out).calm s3; replace sw := (sw.alloc _).trans s3; have lt1 := s2.size; obtain ⟨b0, b1', b2', b3⟩ := Q0.cells EQ.out)
            | (go_at_call 39; refine (h39 _).mono ?_; rintro e w5 ⟨rfl, s4⟩; have Q1 := (Q0.set ET.out).calm s4; replace sw := (sw.set2 (b := w3.heap.size) hw3 _ _).trans s4; obtain ⟨b0, b1', b2', b3⟩ := Q1.cells ET.out))
              all_goals go_quiet (fail)
              all_goals go_wp2
              all_goals go_ret3
              all_goals exact ⟨by first | rfl | simp [*], by first | exact sw | exact sw.drewN _⟩
            · have hyb := hyn
              rw [if_neg hbs] at hyb
              rw [hyb] at h37
              simp only [hbs, if_false] at ex hx0 h28x hX
              have hxh : xh < 0 := hx0.2 hX
              have g1 : decide (xh < 0) = true := decide_eq_true hxh
              have g2 : decide (b < 0) = false := decide_eq_false hbs
              have hab : -(p) = absI p := by unfold absI; split <;> omega
              rw [hab, ea, ex] at h28x
              have hsn : ¬ (p < 0 ↔ b < 0) := by omega
              have hfq : fq p b = -dQ p b := by unfold fq; rw [if_neg hsn, if_pos hr0]
              have hfm : fm p b = 0 := by unfold fm tm; rw [if_neg hsn, if_pos hr0, hr0]; split <;> rfl
              have eqs := et
              rw [hfq, en] at eqs
              simp only [Value.agg.injEq, Array.mk.injEq, List.cons.injEq, Value.int.injEq, true_and, and_true] at eqs
              obtain ⟨e3, e4⟩ := eqs
              rw [if_neg hfi]
              rw [show fit (fq p b) = false by simpa using hfi] at h39
              clear htr hfq hfm hab hS ep ex ea eq en et em1 qp qx xl1 xh1 hpk q1 q2 q3 q4 q5 q6 hb0 hyC hy0 hyu habb habp hQ hp hb hfi hX hx0 hyn hyb htop h1 h2 hsn
              have exs : pl = xl ∧ ph = xh := by
                  have hx9 := EX.out
                  rw [if_neg hbs] at hx9
                  have := EP.out.symm.trans hx9
                  simpa using this
              obtain ⟨e5, e6⟩ := exs
              subst e5 e6
              generalize dR p b = r at *
              subst hr0
              subst e3 e4
              refine (Classical.em (pl = 0)).elim (fun hz => ?_) (fun hz => ?_)
              all_goals (try (have hz2 : ¬ ph = (-9223372036854775808) := fun h => hne ⟨hz, h⟩))
              all_goals (try subst hz)
              all_goals go_enter Try.func14, Try.ntmps14
              all_goals go_wp2_with (first
            | (go_at_call_of 28 ph; refine (h28x _).mono ?_; rintro e w2 ⟨rfl, s1⟩; have X0 := (PBlk.new (w.alloc (.cells _ 24)) EP.out).calm s1; replace P0 := (P0.calm ((Calm.refl _).alloc _)).calm s1; replace sw := ((sw.alloc _).alloc _).trans s1; (try (simp only [World.size_alloc] at X0)); have lt := X0.lt; obtain ⟨a0, a1, a2, a3⟩ := P0.cells EP.out; obtain ⟨x0, x1, x2, x3⟩ := X0.cells EP.out)
            | (go_at_call 37; refine (h37 _).mono ?_; rintro e w3 ⟨rfl, s2⟩; replace sw := (sw.set2 (b := w.heap.size + 1) (by omega) _ _).trans s2; have hw3 := sw.size)
            | (go_at_call_of 28 ql; refine (h28q _).mono ?_; rintro e w4 ⟨rfl, s3⟩; have Q0 := (PBlk.new w3 EQ.out).calm s3; replace sw := (sw.alloc _).trans s3; have lt1 := s2.size; obtain ⟨b0, b1', b2', b3⟩ := Q0.cells EQ.out)
            | (go_at_call 39; refine (h39 _).mono ?_; rintro e w5 ⟨rfl, s4⟩; have Q1 := (Q0.set ET.out).calm s4; replace sw := (sw.set2 (b := w3.heap.size) hw3 _ _).trans s4; obtain ⟨b0, b1', b2', b3⟩ := Q1.cells ET.out))
              all_goals go_ret3
              all_goals exact ⟨by first | rfl | simp [*], by first | exact sw | exact sw.drewN _⟩
          · by_cases hfi : fit (fq p b) = true
            · have hyb := hyn
              rw [if_neg hbs] at hyb
              rw [hyb] at h37
              simp only [hbs, if_false] at ex hx0 h28x hX
              have hxh : xh < 0 := hx0.2 hX
              have g1 : decide (xh < 0) = true := decide_eq_true hxh
              have g2 : decide (b < 0) = false := decide_eq_false hbs
              have hab : -(p) = absI p := by unfold absI; split <;> omega
              rw [hab, ea, ex] at h28x
              have hsn : ¬ (p < 0 ↔ b < 0) := by omega
              have hfq : fq p b = -dQ p b + -1 := by unfold fq; rw [if_neg hsn, if_neg hr0]; omega
              have hfm : fm p b = wrap64 (b - dR p b) := by
                  unfold fm tm; rw [if_neg hsn, if_neg hr0]
                  unfold absI at q5
                  rw [if_neg hbs] at q5
                  rw [if_pos (by omega)]
                  unfold wrap64; omega
              rw [← hfq, et] at h27
              have hv := fit_val et hfi
              rw [if_pos hfi, ← hv, hfm]
              rw [hfi] at h39
              clear htr hfq hfm hab hS ep ex ea eq en et em1 qp qx xl1 xh1 hpk q1 q2 q3 q4 q5 q6 hb0 hyC hy0 hyu habb habp hQ hp hb hfi hX hx0 hyn hyb htop h1 h2 hv hsn
              have exs : pl = xl ∧ ph = xh := by
                  have hx9 := EX.out
                  rw [if_neg hbs] at hx9
                  have := EP.out.symm.trans hx9
                  simpa using this
              obtain ⟨e5, e6⟩ := exs
              subst e5 e6
              generalize dR p b = r at *
              have hrb : (r == 0) = false := by simpa using hr0
              have hrc : (r != 0) = true := by simpa using hr0
              refine (Classical.em (pl = 0)).elim (fun hz => ?_) (fun hz => ?_)
              all_goals (try (have hz2 : ¬ ph = (-9223372036854775808) := fun h => hne ⟨hz, h⟩))
              all_goals (try subst hz)
              all_goals go_enter Try.func14, Try.ntmps14
              all_goals go_wp2_with (first
            | (go_at_call_of 28 ph; refine (h28x _).mono ?_; rintro e w2 ⟨rfl, s1⟩; have X0 := (PBlk.new (w.alloc (.cells _ 24)) EP.out).calm s1; replace P0 := (P0.calm ((Calm.refl _).alloc _)).calm s1; replace sw := ((sw.alloc _).alloc _).trans s1; (try (simp only [World.size_alloc] at X0)); have lt := X0.lt; obtain ⟨a0, a1, a2, a3⟩ := P0.cells EP.out; obtain ⟨x0, x1, x2, x3⟩ := X0.cells EP.out)
            | (go_at_call 37; refine (h37 _).mono ?_; rintro e w3 ⟨rfl, s2⟩; replace sw := (sw.set2 (b := w.heap.size + 1) (by omega) _ _).trans s2; have hw3 := sw.size)
            | (go_at_call_of 28 ql; refine (h28q _).mono ?_; rintro e w4 ⟨rfl, s3⟩; have Q0 := (PBlk.new w3 EQ.out).calm s3; replace sw := (sw.alloc _).trans s3; have lt1 := s2.size; obtain ⟨b0, b1', b2', b3⟩ := Q0.cells EQ.out)
            | (go_at_call 27; refine (h27 _).mono ?_; rintro e w6 ⟨rfl, s5⟩; replace Q0 := (Q0.set EN.out).calm s5; replace sw := (sw.set2 (b := w3.heap.size) hw3 _ _).trans s5; obtain ⟨b0, b1', b2', b3⟩ := Q0.cells EN.out)
            | (go_at_call 39; refine (h39 _).mono ?_; rintro e w5 ⟨rfl, s4⟩; have Q1 := (Q0.set ET.out).calm s4; replace sw := (sw.set2 (b := w3.heap.size) hw3 _ _).trans s4; obtain ⟨b0, b1', b2', b3⟩ := Q1.cells ET.out))
              all_goals go_quiet (fail)
              all_goals go_wp2
              all_goals go_ret3
              all_goals exact ⟨by first | rfl | simp [*], by first | exact sw | exact sw.drewN _⟩
            · have hyb := hyn
              rw [if_neg hbs] at hyb
              rw [hyb] at h37
              simp only [hbs, if_false] at ex hx0 h28x hX
              have hxh : xh < 0 := hx0.2 hX
              have g1 : decide (xh < 0) = true := decide_eq_true hxh
              have g2 : decide (b < 0) = false := decide_eq_false hbs
              have hab : -(p) = absI p := by unfold absI; split <;> omega
              rw [hab, ea, ex] at h28x
              have hsn : ¬ (p < 0 ↔ b < 0) := by omega
              have hfq : fq p b = -dQ p b + -1 := by unfold fq; rw [if_neg hsn, if_neg hr0]; omega
              have hfm : fm p b = wrap64 (b - dR p b) := by
                  unfold fm tm; rw [if_neg hsn, if_neg hr0]
                  unfold absI at q5
                  rw [if_neg hbs] at q5
                  rw [if_pos (by omega)]
                  unfold wrap64; omega
              rw [← hfq, et] at h27
              rw [if_neg hfi]
              rw [show fit (fq p b) = false by simpa using hfi] at h39
              clear htr hfq hfm hab hS ep ex ea eq en et em1 qp qx xl1 xh1 hpk q1 q2 q3 q4 q5 q6 hb0 hyC hy0 hyu habb habp hQ hp hb hfi hX hx0 hyn hyb htop h1 h2 hsn
              have exs : pl = xl ∧ ph = xh := by
                  have hx9 := EX.out
                  rw [if_neg hbs] at hx9
                  have := EP.out.symm.trans hx9
                  simpa using this
              obtain ⟨e5, e6⟩ := exs
              subst e5 e6
              generalize dR p b = r at *
              have hrb : (r == 0) = false := by simpa using hr0
              have hrc : (r != 0) = true := by simpa using hr0
              refine (Classical.em (pl = 0)).elim (fun hz => ?_) (fun hz => ?_)
              all_goals (try (have hz2 : ¬ ph = (-9223372036854775808) := fun h => hne ⟨hz, h⟩))
              all_goals (try subst hz)
              all_goals go_enter Try.func14, Try.ntmps14
              all_goals go_wp2_with (first
            | (go_at_call_of 28 ph; refine (h28x _).mono ?_; rintro e w2 ⟨rfl, s1⟩; have X0 := (PBlk.new (w.alloc (.cells _ 24)) EP.out).calm s1; replace P0 := (P0.calm ((Calm.refl _).alloc _)).calm s1; replace sw := ((sw.alloc _).alloc _).trans s1; (try (simp only [World.size_alloc] at X0)); have lt := X0.lt; obtain ⟨a0, a1, a2, a3⟩ := P0.cells EP.out; obtain ⟨x0, x1, x2, x3⟩ := X0.cells EP.out)
            | (go_at_call 37; refine (h37 _).mono ?_; rintro e w3 ⟨rfl, s2⟩; replace sw := (sw.set2 (b := w.heap.size + 1) (by omega) _ _).trans s2; have hw3 := sw.size)
            | (go_at_call_of 28 ql; refine (h28q _).mono ?_; rintro e w4 ⟨rfl, s3⟩; have Q0 := (PBlk.new w3 EQ.out).calm s3; replace sw := (sw.alloc _).trans s3; have lt1 := s2.size; obtain ⟨b0, b1', b2', b3⟩ := Q0.cells EQ.out)
            | (go_at_call 27; refine (h27 _).mono ?_; rintro e w6 ⟨rfl, s5⟩; replace Q0 := (Q0.set EN.out).calm s5; replace sw := (sw.set2 (b := w3.heap.size) hw3 _ _).trans s5; obtain ⟨b0, b1', b2', b3⟩ := Q0.cells EN.out)
            | (go_at_call 39; refine (h39 _).mono ?_; rintro e w5 ⟨rfl, s4⟩; have Q1 := (Q0.set ET.out).calm s4; replace sw := (sw.set2 (b := w3.heap.size) hw3 _ _).trans s4; obtain ⟨b0, b1', b2', b3⟩ := Q1.cells ET.out))
              all_goals go_ret3
              all_goals exact ⟨by first | rfl | simp [*], by first | exact sw | exact sw.drewN _⟩
        · by_cases hfi : fit (fq p b) = true
          · have hyb := hyn
            rw [if_neg hbs] at hyb
            rw [hyb] at h37
            simp only [hbs, if_false] at ex hx0 h28x hX
            have hxh : ¬ xh < 0 := fun h => hX (hx0.1 h)
            have g1 : decide (xh < 0) = false := decide_eq_false hxh
            have g2 : decide (b < 0) = false := decide_eq_false hbs
            have hab : p = absI p := by unfold absI; split <;> omega
            have eax := ea
            rw [← hab, ex] at eax
            simp only [Value.agg.injEq, Array.mk.injEq, List.cons.injEq, Value.int.injEq, true_and, and_true] at eax
            obtain ⟨e1, e2⟩ := eax
            rw [← e1, ← e2] at h37
            have hp0 : p = 0 → dQ p b = 0 ∧ dR p b = 0 := fun h => by
                  have h8 : absI p = 0 := by rw [h]; rfl
                  have h9 : dQ p b = 0 := by omega
                  rw [h9, Int.mul_zero] at q6
                  exact ⟨h9, by omega⟩
            have hfq : fq p b = dQ p b := by
                  unfold fq
                  by_cases hpz : p = 0
                  · obtain ⟨z1, z2⟩ := hp0 hpz
                    rw [z1, z2]; split <;> rfl
                  · rw [if_pos (by omega)]
            have hfm : fm p b = dR p b := by
                  unfold fm tm
                  by_cases hpz : p = 0
                  · obtain ⟨z1, z2⟩ := hp0 hpz
                    rw [z2]; (repeat' split) <;> first | omega | (unfold wrap64; omega)
                  · rw [if_pos (by omega)]; rw [if_neg (by omega)]
            have eqs := et
            rw [hfq, eq] at eqs
            simp only [Value.agg.injEq, Array.mk.injEq, List.cons.injEq, Value.int.injEq, true_and, and_true] at eqs
            obtain ⟨e3, e4⟩ := eqs
            have hv := fit_val et hfi
            rw [if_pos hfi, ← hv, hfm]
            rw [hfi] at h39
            clear htr hfq hfm hab hS ep ex ea eq en et em1 qp qx xl1 xh1 hpk q1 q2 q3 q4 q5 q6 hb0 hyC hy0 hyu habb habp hQ hp hb hfi hX hx0 hyn hyb htop h1 h2 hv hp0
            have exs : pl = xl ∧ ph = xh := by
                  have hx9 := EX.out
                  rw [if_neg hbs] at hx9
                  have := EP.out.symm.trans hx9
                  simpa using this
            obtain ⟨e5, e6⟩ := exs
            subst e5 e6
            generalize dR p b = r at *
            subst e1 e2 e3 e4
            go_enter Try.func14, Try.ntmps14
            go_wp2_with (first
            | (go_at_call 37; refine (h37 _).mono ?_; rintro e w3 ⟨rfl, s2⟩; replace sw := ((sw.alloc _).alloc _).trans s2; have hw3 := sw.size)
            | (go_at_call 39; refine (h39 _).mono ?_; rintro e w5 ⟨rfl, s4⟩; have Q1 := (PBlk.new w3 ET.out).calm s4; replace sw := (sw.alloc _).trans s4; obtain ⟨b0, b1', b2', b3⟩ := Q1.cells ET.out))
            all_goals go_quiet (fail)
            all_goals go_wp2
            all_goals go_ret3
            all_goals exact ⟨by first | rfl | simp [*], by first | exact sw | exact sw.drewN _⟩
          · have hyb := hyn
            rw [if_neg hbs] at hyb
            rw [hyb] at h37
            simp only [hbs, if_false] at ex hx0 h28x hX
            have hxh : ¬ xh < 0 := fun h => hX (hx0.1 h)
            have g1 : decide (xh < 0) = false := decide_eq_false hxh
            have g2 : decide (b < 0) = false := decide_eq_false hbs
            have hab : p = absI p := by unfold absI; split <;> omega
            have eax := ea
            rw [← hab, ex] at eax
            simp only [Value.agg.injEq, Array.mk.injEq, List.cons.injEq, Value.int.injEq, true_and, and_true] at eax
            obtain ⟨e1, e2⟩ := eax
            rw [← e1, ← e2] at h37
            have hp0 : p = 0 → dQ p b = 0 ∧ dR p b = 0 := fun h => by
                  have h8 : absI p = 0 := by rw [h]; rfl
                  have h9 : dQ p b = 0 := by omega
                  rw [h9, Int.mul_zero] at q6
                  exact ⟨h9, by omega⟩
            have hfq : fq p b = dQ p b := by
                  unfold fq
                  by_cases hpz : p = 0
                  · obtain ⟨z1, z2⟩ := hp0 hpz
                    rw [z1, z2]; split <;> rfl
                  · rw [if_pos (by omega)]
            have hfm : fm p b = dR p b := by
                  unfold fm tm
                  by_cases hpz : p = 0
                  · obtain ⟨z1, z2⟩ := hp0 hpz
                    rw [z2]; (repeat' split) <;> first | omega | (unfold wrap64; omega)
                  · rw [if_pos (by omega)]; rw [if_neg (by omega)]
            have eqs := et
            rw [hfq, eq] at eqs
            simp only [Value.agg.injEq, Array.mk.injEq, List.cons.injEq, Value.int.injEq, true_and, and_true] at eqs
            obtain ⟨e3, e4⟩ := eqs
            rw [if_neg hfi]
            rw [show fit (fq p b) = false by simpa using hfi] at h39
            clear htr hfq hfm hab hS ep ex ea eq en et em1 qp qx xl1 xh1 hpk q1 q2 q3 q4 q5 q6 hb0 hyC hy0 hyu habb habp hQ hp hb hfi hX hx0 hyn hyb htop h1 h2 hp0
            have exs : pl = xl ∧ ph = xh := by
                  have hx9 := EX.out
                  rw [if_neg hbs] at hx9
                  have := EP.out.symm.trans hx9
                  simpa using this
            obtain ⟨e5, e6⟩ := exs
            subst e5 e6
            generalize dR p b = r at *
            subst e1 e2 e3 e4
            go_enter Try.func14, Try.ntmps14
            go_wp2_with (first
            | (go_at_call 37; refine (h37 _).mono ?_; rintro e w3 ⟨rfl, s2⟩; replace sw := ((sw.alloc _).alloc _).trans s2; have hw3 := sw.size)
            | (go_at_call 39; refine (h39 _).mono ?_; rintro e w5 ⟨rfl, s4⟩; have Q1 := (PBlk.new w3 ET.out).calm s4; replace sw := (sw.alloc _).trans s4; obtain ⟨b0, b1', b2', b3⟩ := Q1.cells ET.out))
            all_goals go_ret3
            all_goals exact ⟨by first | rfl | simp [*], by first | exact sw | exact sw.drewN _⟩
end Go.Proofs.Ytjigjjkbgcnjdaa
