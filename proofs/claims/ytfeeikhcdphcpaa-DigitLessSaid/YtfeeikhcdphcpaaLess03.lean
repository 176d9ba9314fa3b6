/- DigitLess: the walk. -/
import Derived.Test.YtfeeikhcdphcpaaDigP
namespace Go.Proofs.Ytfeeikhcdphcpaa
open Go Go.RowKit
set_option linter.unusedSimpArgs false
set_option linter.unusedVariables false

theorem toList_mk (l : List UInt8) : (ByteArray.mk l.toArray).toList = l := bl_toList l

/-- Two texts against one another, as two numbers. -/
theorem less_num {b : Int} (hR : rightB b = true) (p q : Int) :
    (decide (((textL p b).length : Int) < (textL q b).length) || (decide (((textL p b).length : Int) = (textL q b).length) && Op.bytesLess (textL p b) (textL q b))) = decide (U p < U q) ∧ (textL p b = textL q b → U p = U q) := by
  rw [textL_txt hR, textL_txt hR]
  obtain ⟨bn, rfl, h2, h36⟩ := right_nat hR
  obtain ⟨m, hm⟩ := Int.eq_ofNat_of_zero_le (U_range p).1
  obtain ⟨n, hn⟩ := Int.eq_ofNat_of_zero_le (U_range q).1
  rw [hm, hn, Int.toNat_natCast, Int.toNat_natCast, Int.toNat_natCast]
  constructor
  · rw [txt_less h2 h36]; simp
  · intro h; rw [txt_inj h2 h36 h]
theorem textL_U {p q b : Int} (h : U p = U q) : textL p b = textL q b := by unfold textL; rw [h]

set_option maxHeartbeats 3000000 in
theorem less_walk (al ah bl_ bh x : Int) (ha1 : C64 al) (ha2 : C64 ah) (hb1 : C64 bl_) (hb2 : C64 bh) (hx : 0 ≤ x ∧ x < 256) (w : World) :
    Calls Try.prog 7 #[.agg #[.int .i64 al, .int .i64 ah], .agg #[.int .i64 bl_, .int .i64 bh], .int .u8 x] w fun e w' => e = .returned (.bool true) ∧ Calm w w' := by
  obtain ⟨p, sp, ep, qp⟩ := pv_arg ha1 ha2
  obtain ⟨q, sq, eq, qq⟩ := pv_arg hb1 hb2
  obtain ⟨r, hr⟩ : ∃ r, x.tmod 35 = r := ⟨_, rfl⟩
  have hr2 : x.tmod 35 = x % 35 := Int.tmod_eq_emod_of_nonneg hx.1
  have r0 : 0 ≤ r := by omega
  have r1 : r < 35 := by omega
  obtain ⟨b, hbv⟩ : ∃ b, r + 2 = b := ⟨_, rfl⟩
  have hR : rightB b = true := by rw [← hbv]; exact right_35 r0 r1
  have b0 : 2 ≤ b := by omega
  have b1 : b ≤ 36 := by omega
  have hwx : wrap64 x = x := by unfold wrap64; omega
  have h15 := text_ok p b
  have h15q := text_ok q b
  have h27 := ulessR_ok p q
  rw [textB_eq] at h15 h15q
  obtain ⟨hless, hinj⟩ := less_num hR p q
  have hsame := textL_U (p := p) (q := q) (b := b)
  have hUlt : decide (p % 340282366920938463463374607431768211456 < q % 340282366920938463463374607431768211456) = decide (U p < U q) := rfl
  have hUeq : U p = U q ↔ (al = bl_ ∧ ah = bh) := by
    obtain ⟨a1, a2⟩ := ha1
    obtain ⟨a3, a4⟩ := ha2
    obtain ⟨c1, c2⟩ := hb1
    obtain ⟨c3, c4⟩ := hb2
    unfold U
    constructor
    · intro h; omega
    · rintro ⟨rfl, rfl⟩; omega
  rw [hUlt, ← hless] at h27
  rw [ep] at h15 h27
  rw [eq] at h15q h27
  have s1 : (ByteArray.mk (textL p b).toArray).size = (textL p b).length := bl_size _
  have s2 : (ByteArray.mk (textL q b).toArray).size = (textL q b).length := bl_size _
  have t1 := toList_mk (textL p b)
  have t2 := toList_mk (textL q b)
  have l1 := textL_len p b
  have l2 := textL_len q b
  clear hless hUlt qp qq sp sq hR hr2
  generalize textL p b = P at *
  generalize textL q b = Q at *
  generalize (ByteArray.mk P.toArray) = S at *
  generalize (ByteArray.mk Q.toArray) = T at *
  rw [← s1, ← s2, ← t1, ← t2] at h27
  have hst : (S.toList == T.toList) = (decide (al = bl_) && decide (ah = bh)) := by
    rw [t1, t2]
    by_cases h : P = Q
    · have := hUeq.1 (hinj h); simp [h, this]
    · have h3 : ¬ (al = bl_ ∧ ah = bh) := fun h3 => h (hsame (hUeq.2 h3))
      have h4 : (P == Q) = false := by simpa using h
      rw [h4]
      by_cases h5 : al = bl_
      · have h6 : ¬ ah = bh := fun h6 => h3 ⟨h5, h6⟩
        simp [h5, h6]
      · simp [h5]
  clear s1 s2 t1 t2 l1 l2 hinj hsame hUeq
  obtain ⟨LT, hLT⟩ : ∃ LT, Op.bytesLess S.toList T.toList = LT := ⟨_, rfl⟩
  rw [hLT] at h27
  have P0 := B2.new w ep eq
  have EP := Lib.hid ep
  have EQ := Lib.hid eq
  have sw := ((Calm.refl w).alloc (.cells #[.int .i64 al, .int .i64 ah] 24)).alloc (.cells #[.int .i64 bl_, .int .i64 bh] 24)
  clear ep eq
  go_enter Try.func7, Try.ntmps7
  go_wp2_with (go_at_call 10; refine (shown_ok _).mono ?_; rintro e w1 ⟨rfl, s1⟩; replace P0 := P0.calm s1; replace sw := sw.trans s1)
  refine q_start (fun W => Calm w1 W) (by kernel_rfl) (Calm.refl _).drew ?_
  repeat (first
    | (refine q_off (by rfl) ?_; simp only [Act.put, List.setIfInBounds_toArray, List.set_cons_zero, List.set_cons_succ])
    | (refine q_on (by rfl) ?_; apply Exists.intro; refine ⟨fun W hW => ?_, ?_⟩; (obtain ⟨⟨a0, a1⟩, ⟨b0, b1⟩⟩ := (P0.calm hW).facts EP.out EQ.out; go_simp; first | done | with_reducible rfl | (go_at_call_of 15 (#[Value.agg #[.int .i64 al, .int .i64 ah], .int .i64 b]); exact (h15 _).mono fun e w' k => ⟨k.1, hW.trans k.2⟩) | (go_at_call_of 15 (#[Value.agg #[.int .i64 bl_, .int .i64 bh], .int .i64 b]); exact (h15q _).mono fun e w' k => ⟨k.1, hW.trans k.2⟩)); simp only [Act.put, List.setIfInBounds_toArray, List.set_cons_zero, List.set_cons_succ])
    | fail)
  refine q_end ?_
  intro w2 s2
  replace P0 := P0.calm s2
  replace sw := sw.trans s2
  obtain ⟨⟨a0, a1⟩, ⟨c0, c1⟩⟩ := P0.facts EP.out EQ.out
  by_cases k1 : al = bl_
  · subst k1
    by_cases k2 : ah = bh
    · subst k2
      rw [decide_eq_true rfl, decide_eq_true rfl, Bool.true_and] at hst
      rcases Int.lt_trichotomy (S.size : Int) (T.size : Int) with g | g | g
      · rw [decide_eq_true g, Bool.true_or] at h27
        go_wp2_with (go_at_call 27; refine (h27 _).mono ?_; rintro e w3 ⟨rfl, s3⟩; replace P0 := P0.calm s3; replace sw := sw.trans s3; obtain ⟨⟨a0, a1⟩, ⟨c0, c1⟩⟩ := P0.facts EP.out EQ.out)
        go_ret
        exact ⟨by simp, sw⟩
      · have g1 : ¬ (S.size : Int) < (T.size : Int) := by omega
        rw [decide_eq_false g1, decide_eq_true g, Bool.false_or, Bool.true_and] at h27
        go_wp2_with (go_at_call 27; refine (h27 _).mono ?_; rintro e w3 ⟨rfl, s3⟩; replace P0 := P0.calm s3; replace sw := sw.trans s3; obtain ⟨⟨a0, a1⟩, ⟨c0, c1⟩⟩ := P0.facts EP.out EQ.out)
        go_ret
        exact ⟨by simp, sw⟩
      · have g1 : ¬ (S.size : Int) < (T.size : Int) := by omega
        have g2 : ¬ (S.size : Int) = (T.size : Int) := by omega
        rw [decide_eq_false g1, decide_eq_false g2, Bool.false_or, Bool.false_and] at h27
        have g3 : ((S.size : Int) == (T.size : Int)) = false := by rw [beq_eq_false_iff_ne]; exact g2
        go_wp2_with (go_at_call 27; refine (h27 _).mono ?_; rintro e w3 ⟨rfl, s3⟩; replace P0 := P0.calm s3; replace sw := sw.trans s3; obtain ⟨⟨a0, a1⟩, ⟨c0, c1⟩⟩ := P0.facts EP.out EQ.out)
        go_ret
        exact ⟨by simp, sw⟩
    · rw [decide_eq_true rfl, decide_eq_false k2, Bool.true_and] at hst
      have k3 : (ah == bh) = false := by rw [beq_eq_false_iff_ne]; exact k2
      rcases Int.lt_trichotomy (S.size : Int) (T.size : Int) with g | g | g
      · rw [decide_eq_true g, Bool.true_or] at h27
        go_wp2_with (go_at_call 27; refine (h27 _).mono ?_; rintro e w3 ⟨rfl, s3⟩; replace P0 := P0.calm s3; replace sw := sw.trans s3; obtain ⟨⟨a0, a1⟩, ⟨c0, c1⟩⟩ := P0.facts EP.out EQ.out)
        go_ret
        exact ⟨by simp, sw⟩
      · have g1 : ¬ (S.size : Int) < (T.size : Int) := by omega
        rw [decide_eq_false g1, decide_eq_true g, Bool.false_or, Bool.true_and] at h27
        go_wp2_with (go_at_call 27; refine (h27 _).mono ?_; rintro e w3 ⟨rfl, s3⟩; replace P0 := P0.calm s3; replace sw := sw.trans s3; obtain ⟨⟨a0, a1⟩, ⟨c0, c1⟩⟩ := P0.facts EP.out EQ.out)
        go_ret
        exact ⟨by simp, sw⟩
      · have g1 : ¬ (S.size : Int) < (T.size : Int) := by omega
        have g2 : ¬ (S.size : Int) = (T.size : Int) := by omega
        rw [decide_eq_false g1, decide_eq_false g2, Bool.false_or, Bool.false_and] at h27
        have g3 : ((S.size : Int) == (T.size : Int)) = false := by rw [beq_eq_false_iff_ne]; exact g2
        go_wp2_with (go_at_call 27; refine (h27 _).mono ?_; rintro e w3 ⟨rfl, s3⟩; replace P0 := P0.calm s3; replace sw := sw.trans s3; obtain ⟨⟨a0, a1⟩, ⟨c0, c1⟩⟩ := P0.facts EP.out EQ.out)
        go_ret
        exact ⟨by simp, sw⟩
  · rw [decide_eq_false k1, Bool.false_and] at hst
    have k3 : (al == bl_) = false := by rw [beq_eq_false_iff_ne]; exact k1
    rcases Int.lt_trichotomy (S.size : Int) (T.size : Int) with g | g | g
    · rw [decide_eq_true g, Bool.true_or] at h27
      go_wp2_with (go_at_call 27; refine (h27 _).mono ?_; rintro e w3 ⟨rfl, s3⟩; replace P0 := P0.calm s3; replace sw := sw.trans s3; obtain ⟨⟨a0, a1⟩, ⟨c0, c1⟩⟩ := P0.facts EP.out EQ.out)
      go_ret
      exact ⟨by simp, sw⟩
    · have g1 : ¬ (S.size : Int) < (T.size : Int) := by omega
      rw [decide_eq_false g1, decide_eq_true g, Bool.false_or, Bool.true_and] at h27
      go_wp2_with (go_at_call 27; refine (h27 _).mono ?_; rintro e w3 ⟨rfl, s3⟩; replace P0 := P0.calm s3; replace sw := sw.trans s3; obtain ⟨⟨a0, a1⟩, ⟨c0, c1⟩⟩ := P0.facts EP.out EQ.out)
      go_ret
      exact ⟨by simp, sw⟩
    · have g1 : ¬ (S.size : Int) < (T.size : Int) := by omega
      have g2 : ¬ (S.size : Int) = (T.size : Int) := by omega
      rw [decide_eq_false g1, decide_eq_false g2, Bool.false_or, Bool.false_and] at h27
      have g3 : ((S.size : Int) == (T.size : Int)) = false := by rw [beq_eq_false_iff_ne]; exact g2
      go_wp2_with (go_at_call 27; refine (h27 _).mono ?_; rintro e w3 ⟨rfl, s3⟩; replace P0 := P0.calm s3; replace sw := sw.trans s3; obtain ⟨⟨a0, a1⟩, ⟨c0, c1⟩⟩ := P0.facts EP.out EQ.out)
      go_ret
      exact ⟨by simp, sw⟩
end Go.Proofs.Ytfeeikhcdphcpaa
