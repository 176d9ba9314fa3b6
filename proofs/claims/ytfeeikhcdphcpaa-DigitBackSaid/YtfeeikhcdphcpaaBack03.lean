/- DigitBack: the walk. -/
import Derived.Test.YtfeeikhcdphcpaaDigP
namespace Go.Proofs.Ytfeeikhcdphcpaa
open Go Go.RowKit
set_option linter.unusedSimpArgs false
set_option linter.unusedVariables false

set_option maxHeartbeats 1500000 in
theorem back_walk (pl ph x : Int) (hp1 : C64 pl) (hp2 : C64 ph) (hx : 0 ≤ x ∧ x < 256) (w : World) :
    Calls Try.prog 5 #[.agg #[.int .i64 pl, .int .i64 ph], .int .u8 x] w fun e w' => e = .returned (.bool true) ∧ Calm w w' := by
  obtain ⟨p, sp, ep, -⟩ := pv_arg hp1 hp2
  obtain ⟨r, hr⟩ : ∃ r, x.tmod 35 = r := ⟨_, rfl⟩
  have hr2 : x.tmod 35 = x % 35 := Int.tmod_eq_emod_of_nonneg hx.1
  have r0 : 0 ≤ r := by omega
  have r1 : r < 35 := by omega
  obtain ⟨b, hbv⟩ : ∃ b, r + 2 = b := ⟨_, rfl⟩
  have hR : rightB b = true := by rw [← hbv]; exact right_35 r0 r1
  have b0 : 2 ≤ b := by omega
  have b1 : b ≤ 36 := by omega
  have hb : C64 b := ⟨by omega, by omega⟩
  have h15 := text_ok p b
  have h21 := accept_ok 0 b hb (textB p b) (by rw [textB_eq]; show (textL p b).toArray.size ≤ _; have := textL_len p b; simp; omega)
  have h17 := signed_ok p b sp
  have hsl : (signL p b).length ≤ 129 := by
    unfold signL
    have h1 := textL_len (-p) b
    have h2 := textL_len p b
    split <;> simp <;> omega
  have h24 := number_ok (signL p b ++ [46]) (by simp; omega) b hb
  obtain ⟨v, hv, hvp⟩ := num_signed hR p
  rw [numV, hv, hvp] at h24
  have ks : Op.stringOp .add ⟨(signL p b).toArray⟩ ⟨#[46]⟩ = pure (.string (bl (signL p b ++ [46]))) := sadd (signL p b) [46] (by simp; omega)
  have h15o := text_ok (pl % 18446744073709551616) b
  have h24o := number_ok (textL (pl % 18446744073709551616) b) (by have := textL_len (pl % 18446744073709551616) b; omega) b hb
  rw [numV, num_text hR, U_low, Int.emod_emod_of_dvd _ (by decide : (18446744073709551616 : Int) ∣ 18446744073709551616), pv_lo pl hp1] at h24o
  rw [accV, hR, if_pos rfl, if_pos rfl, textB_eq, show lst ⟨(textL p b).toArray⟩ = textL p b from rfl, acc_text hR, pv_U, pv_zero] at h21
  rw [textB_eq] at h15 h15o
  rw [pv_lo pl hp1] at h15o
  rw [ep] at h15 h17 h21 h24
  have hlen := textL_len p b
  have hlen1 := textL_len1 hR p
  have hz := textL_zero hR p
  obtain ⟨T, hT⟩ : ∃ T, textL p b = T := ⟨_, rfl⟩
  rw [hT] at h15 h21 hlen hlen1 hz
  rw [show (ByteArray.mk (textL (pl % 18446744073709551616) b).toArray) = bl (textL (pl % 18446744073709551616) b) from rfl] at h15o
  rw [show (ByteArray.mk T.toArray) = bl T from rfl] at h15 h21
  generalize bl (signL p b ++ [46]) = S2 at *
  generalize (ByteArray.mk (signL p b).toArray) = S at *
  generalize bl (textL (pl % 18446744073709551616) b) = T1 at *
  have hsz : (bl T).size = T.length := bl_size T
  have hl0 : (0 : Int) < (bl T).size := by rw [hsz]; omega
  have hl1 : ((bl T).size : Int) ≤ 130 := by rw [hsz]; omega
  have hl2 : 0 < (bl T).size := by omega
  have hone : (bl T).size = 1 ∨ ((((bl T)[0]'hl2).toNat : Nat) : Int) ≠ 48 := by
    rcases hz with h | ⟨c, r2, e, hc⟩
    · exact .inl (by rw [hsz]; exact h)
    · right
      intro h48
      apply hc
      have h3 : (((bl T)[0]'hl2).toNat : Nat) = c.toNat := by subst e; rfl
      apply UInt8.toNat_inj.1
      rw [← h3]
      show _ = 48
      omega
  generalize bl T = TB at *
  have P0 := PBlk.new w ep
  have EP := Lib.hid ep
  have EO := Lib.hid (pv_lo pl hp1)
  have sw := (Calm.refl w).alloc (.cells #[.int .i64 pl, .int .i64 ph] 24)
  have HON := Lib.hid hone
  have hwx : wrap64 x = x := by unfold wrap64; omega
  clear ep hvp hv hT hz hlen hlen1 hr2 hx sp hsl hR hone hsz
  go_enter Try.func5, Try.ntmps5
  rcases HON.out with h1 | h1
  · have h1i : ((TB.size : Nat) : Int) = 1 := by omega
    clear h1
    go_wp2_with (first
      | (go_at_call 10; refine (shown_ok _).mono ?_; rintro e w1 ⟨rfl, s1⟩; replace P0 := P0.calm s1; replace sw := sw.trans s1; obtain ⟨a0, a1, -, -⟩ := P0.cells EP.out)
      | (go_at_call_of 15 (#[Value.agg #[.int .i64 pl, .int .i64 ph], .int .i64 b]); refine (h15 _).mono ?_; rintro e w2 ⟨rfl, s2⟩; replace P0 := P0.calm s2; replace sw := sw.trans s2; obtain ⟨a0, a1, -, -⟩ := P0.cells EP.out)
      | (go_at_call 21; refine (h21 _).mono ?_; rintro e w3 ⟨rfl, s3⟩; replace P0 := (P0.calm s3).calm ((Calm.refl _).alloc (.cells #[.int .i64 pl, .int .i64 ph] 24)); replace sw := (sw.trans s3).alloc (.cells #[.int .i64 pl, .int .i64 ph] 24); have PA := PBlk.new w3 EP.out; obtain ⟨a0, a1, -, -⟩ := P0.cells EP.out)
      | (go_at_call 17; refine (h17 _).mono ?_; rintro e w4 ⟨rfl, s4⟩; replace P0 := P0.calm s4; replace PA := PA.calm s4; replace sw := sw.trans s4; obtain ⟨a0, a1, -, -⟩ := P0.cells EP.out)
      | (simp only [ks])
      | (go_at_call_of 24 (#[Value.string S2, .int .i64 b]); refine (h24 _).mono ?_; rintro e w5 ⟨rfl, s5⟩; replace P0 := (P0.calm s5).calm ((Calm.refl _).alloc (.cells #[.int .i64 pl, .int .i64 ph] 24)); replace PA := (PA.calm s5).calm ((Calm.refl _).alloc (.cells #[.int .i64 pl, .int .i64 ph] 24)); replace sw := (sw.trans s5).alloc (.cells #[.int .i64 pl, .int .i64 ph] 24); have PB := PBlk.new w5 EP.out; obtain ⟨a0, a1, -, -⟩ := P0.cells EP.out; replace P0 := P0.calm ((Calm.refl _).alloc (.cells #[.int .i64 pl, .int .i64 0] 24)); replace PA := PA.calm ((Calm.refl _).alloc (.cells #[.int .i64 pl, .int .i64 0] 24)); replace PB := PB.calm ((Calm.refl _).alloc (.cells #[.int .i64 pl, .int .i64 0] 24)); replace sw := sw.alloc (.cells #[.int .i64 pl, .int .i64 0] 24); have PO := PBlk.new (w5.alloc (.cells #[.int .i64 pl, .int .i64 ph] 24)) EO.out; rw [World.size_alloc] at PO)
      | (go_at_call 15; refine (h15o _).mono ?_; rintro e w6 ⟨rfl, s6⟩; replace P0 := P0.calm s6; replace PA := PA.calm s6; replace PB := PB.calm s6; replace PO := PO.calm s6; replace sw := sw.trans s6)
      | (go_at_call 24; refine (h24o _).mono ?_; rintro e w7 ⟨rfl, s7⟩; replace P0 := (P0.calm s7).calm ((Calm.refl _).alloc (.cells #[.int .i64 pl, .int .i64 0] 24)); replace PA := (PA.calm s7).calm ((Calm.refl _).alloc (.cells #[.int .i64 pl, .int .i64 0] 24)); replace PB := (PB.calm s7).calm ((Calm.refl _).alloc (.cells #[.int .i64 pl, .int .i64 0] 24)); replace PO := (PO.calm s7).calm ((Calm.refl _).alloc (.cells #[.int .i64 pl, .int .i64 0] 24)); replace sw := (sw.trans s7).alloc (.cells #[.int .i64 pl, .int .i64 0] 24); have PC := PBlk.new w7 EO.out; obtain ⟨a0, a1, -, -⟩ := P0.cells EP.out; obtain ⟨b0, b1, -, -⟩ := PA.cells EP.out; obtain ⟨c0, c1, -, -⟩ := PB.cells EP.out; obtain ⟨d0, d1, -, -⟩ := PO.cells EO.out; obtain ⟨e0, e1, -, -⟩ := PC.cells EO.out))
    go_ret
    exact ⟨rfl, sw⟩
  · by_cases h2 : ((TB.size : Nat) : Int) = 1
    · go_wp2_with (first
        | (go_at_call 10; refine (shown_ok _).mono ?_; rintro e w1 ⟨rfl, s1⟩; replace P0 := P0.calm s1; replace sw := sw.trans s1; obtain ⟨a0, a1, -, -⟩ := P0.cells EP.out)
        | (go_at_call_of 15 (#[Value.agg #[.int .i64 pl, .int .i64 ph], .int .i64 b]); refine (h15 _).mono ?_; rintro e w2 ⟨rfl, s2⟩; replace P0 := P0.calm s2; replace sw := sw.trans s2; obtain ⟨a0, a1, -, -⟩ := P0.cells EP.out)
        | (go_at_call 21; refine (h21 _).mono ?_; rintro e w3 ⟨rfl, s3⟩; replace P0 := (P0.calm s3).calm ((Calm.refl _).alloc (.cells #[.int .i64 pl, .int .i64 ph] 24)); replace sw := (sw.trans s3).alloc (.cells #[.int .i64 pl, .int .i64 ph] 24); have PA := PBlk.new w3 EP.out; obtain ⟨a0, a1, -, -⟩ := P0.cells EP.out)
        | (go_at_call 17; refine (h17 _).mono ?_; rintro e w4 ⟨rfl, s4⟩; replace P0 := P0.calm s4; replace PA := PA.calm s4; replace sw := sw.trans s4; obtain ⟨a0, a1, -, -⟩ := P0.cells EP.out)
        | (simp only [ks])
        | (go_at_call_of 24 (#[Value.string S2, .int .i64 b]); refine (h24 _).mono ?_; rintro e w5 ⟨rfl, s5⟩; replace P0 := (P0.calm s5).calm ((Calm.refl _).alloc (.cells #[.int .i64 pl, .int .i64 ph] 24)); replace PA := (PA.calm s5).calm ((Calm.refl _).alloc (.cells #[.int .i64 pl, .int .i64 ph] 24)); replace sw := (sw.trans s5).alloc (.cells #[.int .i64 pl, .int .i64 ph] 24); have PB := PBlk.new w5 EP.out; obtain ⟨a0, a1, -, -⟩ := P0.cells EP.out; replace P0 := P0.calm ((Calm.refl _).alloc (.cells #[.int .i64 pl, .int .i64 0] 24)); replace PA := PA.calm ((Calm.refl _).alloc (.cells #[.int .i64 pl, .int .i64 0] 24)); replace PB := PB.calm ((Calm.refl _).alloc (.cells #[.int .i64 pl, .int .i64 0] 24)); replace sw := sw.alloc (.cells #[.int .i64 pl, .int .i64 0] 24); have PO := PBlk.new (w5.alloc (.cells #[.int .i64 pl, .int .i64 ph] 24)) EO.out; rw [World.size_alloc] at PO)
        | (go_at_call 15; refine (h15o _).mono ?_; rintro e w6 ⟨rfl, s6⟩; replace P0 := P0.calm s6; replace PA := PA.calm s6; replace PB := PB.calm s6; replace PO := PO.calm s6; replace sw := sw.trans s6)
        | (go_at_call 24; refine (h24o _).mono ?_; rintro e w7 ⟨rfl, s7⟩; replace P0 := (P0.calm s7).calm ((Calm.refl _).alloc (.cells #[.int .i64 pl, .int .i64 0] 24)); replace PA := (PA.calm s7).calm ((Calm.refl _).alloc (.cells #[.int .i64 pl, .int .i64 0] 24)); replace PB := (PB.calm s7).calm ((Calm.refl _).alloc (.cells #[.int .i64 pl, .int .i64 0] 24)); replace PO := (PO.calm s7).calm ((Calm.refl _).alloc (.cells #[.int .i64 pl, .int .i64 0] 24)); replace sw := (sw.trans s7).alloc (.cells #[.int .i64 pl, .int .i64 0] 24); have PC := PBlk.new w7 EO.out; obtain ⟨a0, a1, -, -⟩ := P0.cells EP.out; obtain ⟨b0, b1, -, -⟩ := PA.cells EP.out; obtain ⟨c0, c1, -, -⟩ := PB.cells EP.out; obtain ⟨d0, d1, -, -⟩ := PO.cells EO.out; obtain ⟨e0, e1, -, -⟩ := PC.cells EO.out))
      go_ret
      exact ⟨rfl, sw⟩
    · have h3 : (((TB.size : Nat) : Int) == 1) = false := by rw [beq_eq_false_iff_ne]; exact h2
      have h4 : ((((TB[0]'hl2).toNat : Nat) : Int) != 48) = true := by rw [bne_iff_ne]; exact h1
      go_wp2_with (first
        | (go_at_call 10; refine (shown_ok _).mono ?_; rintro e w1 ⟨rfl, s1⟩; replace P0 := P0.calm s1; replace sw := sw.trans s1; obtain ⟨a0, a1, -, -⟩ := P0.cells EP.out)
        | (go_at_call_of 15 (#[Value.agg #[.int .i64 pl, .int .i64 ph], .int .i64 b]); refine (h15 _).mono ?_; rintro e w2 ⟨rfl, s2⟩; replace P0 := P0.calm s2; replace sw := sw.trans s2; obtain ⟨a0, a1, -, -⟩ := P0.cells EP.out)
        | (go_at_call 21; refine (h21 _).mono ?_; rintro e w3 ⟨rfl, s3⟩; replace P0 := (P0.calm s3).calm ((Calm.refl _).alloc (.cells #[.int .i64 pl, .int .i64 ph] 24)); replace sw := (sw.trans s3).alloc (.cells #[.int .i64 pl, .int .i64 ph] 24); have PA := PBlk.new w3 EP.out; obtain ⟨a0, a1, -, -⟩ := P0.cells EP.out)
        | (go_at_call 17; refine (h17 _).mono ?_; rintro e w4 ⟨rfl, s4⟩; replace P0 := P0.calm s4; replace PA := PA.calm s4; replace sw := sw.trans s4; obtain ⟨a0, a1, -, -⟩ := P0.cells EP.out)
        | (simp only [ks])
        | (go_at_call_of 24 (#[Value.string S2, .int .i64 b]); refine (h24 _).mono ?_; rintro e w5 ⟨rfl, s5⟩; replace P0 := (P0.calm s5).calm ((Calm.refl _).alloc (.cells #[.int .i64 pl, .int .i64 ph] 24)); replace PA := (PA.calm s5).calm ((Calm.refl _).alloc (.cells #[.int .i64 pl, .int .i64 ph] 24)); replace sw := (sw.trans s5).alloc (.cells #[.int .i64 pl, .int .i64 ph] 24); have PB := PBlk.new w5 EP.out; obtain ⟨a0, a1, -, -⟩ := P0.cells EP.out; replace P0 := P0.calm ((Calm.refl _).alloc (.cells #[.int .i64 pl, .int .i64 0] 24)); replace PA := PA.calm ((Calm.refl _).alloc (.cells #[.int .i64 pl, .int .i64 0] 24)); replace PB := PB.calm ((Calm.refl _).alloc (.cells #[.int .i64 pl, .int .i64 0] 24)); replace sw := sw.alloc (.cells #[.int .i64 pl, .int .i64 0] 24); have PO := PBlk.new (w5.alloc (.cells #[.int .i64 pl, .int .i64 ph] 24)) EO.out; rw [World.size_alloc] at PO)
        | (go_at_call 15; refine (h15o _).mono ?_; rintro e w6 ⟨rfl, s6⟩; replace P0 := P0.calm s6; replace PA := PA.calm s6; replace PB := PB.calm s6; replace PO := PO.calm s6; replace sw := sw.trans s6)
        | (go_at_call 24; refine (h24o _).mono ?_; rintro e w7 ⟨rfl, s7⟩; replace P0 := (P0.calm s7).calm ((Calm.refl _).alloc (.cells #[.int .i64 pl, .int .i64 0] 24)); replace PA := (PA.calm s7).calm ((Calm.refl _).alloc (.cells #[.int .i64 pl, .int .i64 0] 24)); replace PB := (PB.calm s7).calm ((Calm.refl _).alloc (.cells #[.int .i64 pl, .int .i64 0] 24)); replace PO := (PO.calm s7).calm ((Calm.refl _).alloc (.cells #[.int .i64 pl, .int .i64 0] 24)); replace sw := (sw.trans s7).alloc (.cells #[.int .i64 pl, .int .i64 0] 24); have PC := PBlk.new w7 EO.out; obtain ⟨a0, a1, -, -⟩ := P0.cells EP.out; obtain ⟨b0, b1, -, -⟩ := PA.cells EP.out; obtain ⟨c0, c1, -, -⟩ := PB.cells EP.out; obtain ⟨d0, d1, -, -⟩ := PO.cells EO.out; obtain ⟨e0, e1, -, -⟩ := PC.cells EO.out))
      go_ret
      exact ⟨rfl, sw⟩
end Go.Proofs.Ytfeeikhcdphcpaa
