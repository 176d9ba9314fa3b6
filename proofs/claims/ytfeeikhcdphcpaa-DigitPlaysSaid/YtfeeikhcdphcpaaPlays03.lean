/- DigitPlays, DigitReads: the walks. -/
import Derived.Test.YtfeeikhcdphcpaaDigX
namespace Go.Proofs.Ytfeeikhcdphcpaa
open Go Go.RowKit
set_option linter.unusedSimpArgs false
set_option linter.unusedVariables false

theorem stV_pv (p b : Int) : ∃ n x, stV p b = .tuple #[pv n, .int .u8 x] := by
  unfold stV
  split
  · exact ⟨_, _, rfl⟩
  · exact ⟨_, _, rfl⟩

set_option maxHeartbeats 8000000 in
theorem plays_walk (pl ph b c n : Int) (hp1 : C64 pl) (hp2 : C64 ph) (hb : C64 b) (hc : 0 ≤ c ∧ c < 256) (w : World) :
    Calls Try.prog 3 #[.agg #[.int .i64 pl, .int .i64 ph], .int .i64 b, .int .u8 c, .int .i64 n] w fun e w' => e = .returned (.bool true) ∧ Calm w w' := by
  obtain ⟨p, sp, ep, -⟩ := pv_arg hp1 hp2
  obtain ⟨m, x, hst⟩ := stV_pv p b
  obtain ⟨ql, qh, -, -, -, eq, -⟩ := pv_split m
  rw [eq] at hst
  have h11 := step_ok p b hb
  have h12 := rstep_ok p b hb
  rw [hst, ep] at h11 h12
  have h13 := val_ok c b hc.1 hc.2
  have h14 := rval_ok c b hc.1 hc.2
  have h15 := text_ok p b
  have h16 := rtext_ok p b
  have h17 := signed_ok p b sp
  have h18 := rsigned_ok p b sp
  have h19 := chr_ok n
  have h20 := rchr_ok n
  rw [ep] at h15 h16 h17 h18
  generalize valV c b = V at *
  generalize valB c b = B at *
  generalize textB p b = T at *
  generalize (ByteArray.mk (signL p b).toArray) = S at *
  generalize chr n = CH at *
  have P0 := PBlk.new w ep
  have EP := Lib.hid ep
  have EQ := Lib.hid eq
  have sw := (Calm.refl w).alloc (.cells #[.int .i64 pl, .int .i64 ph] 24)
  clear ep eq hst hc
  go_enter Try.func3, Try.ntmps3
  go_wp2_with (first
    | (go_at_call 10; refine (shown_ok _).mono ?_; rintro e w1 ⟨rfl, s1⟩; replace P0 := P0.calm s1; replace sw := sw.trans s1; obtain ⟨a0, a1, -, -⟩ := P0.cells EP.out)
    | (go_at_call 11; refine (h11 _).mono ?_; rintro e w2 ⟨rfl, s2⟩; have PQ := PBlk.new w2 EQ.out; replace P0 := (P0.calm s2).calm ((Calm.refl _).alloc (.cells #[.int .i64 ql, .int .i64 qh] 24)); replace sw := (sw.trans s2).alloc (.cells #[.int .i64 ql, .int .i64 qh] 24); obtain ⟨a0, a1, -, -⟩ := P0.cells EP.out)
    | (go_at_call 12; refine (h12 _).mono ?_; rintro e w3 ⟨rfl, s3⟩; have PR := PBlk.new w3 EQ.out; replace PQ := (PQ.calm s3).calm ((Calm.refl _).alloc (.cells #[.int .i64 ql, .int .i64 qh] 24)); replace P0 := (P0.calm s3).calm ((Calm.refl _).alloc (.cells #[.int .i64 ql, .int .i64 qh] 24)); replace sw := (sw.trans s3).alloc (.cells #[.int .i64 ql, .int .i64 qh] 24); obtain ⟨a0, a1, -, -⟩ := P0.cells EP.out)
    | (go_at_call 13; refine (h13 _).mono ?_; rintro e w4 ⟨rfl, rfl⟩)
    | (go_at_call 14; refine (h14 _).mono ?_; rintro e w5 ⟨rfl, rfl⟩))
  have h19' : ∀ w, Calls Try.prog 19 #[.int .i64 n] w fun e w' => e = .returned (.int .u8 CH) ∧ Calm w w' := fun w => (h19 w).mono fun e w' k => ⟨k.1, by rw [k.2]; exact Calm.refl _⟩
  have h20' : ∀ w, Calls Try.prog 20 #[.int .i64 n] w fun e w' => e = .returned (.int .u8 CH) ∧ Calm w w' := fun w => (h20 w).mono fun e w' k => ⟨k.1, by rw [k.2]; exact Calm.refl _⟩
  refine q_start (fun W => Calm (w3.alloc (.cells #[.int .i64 ql, .int .i64 qh] 24)) W) (by kernel_rfl) (Calm.refl _).drew ?_
  repeat (first
    | (refine q_off (by rfl) ?_; simp only [Act.put, List.setIfInBounds_toArray, List.set_cons_zero, List.set_cons_succ])
    | (refine q_on (by rfl) ?_; apply Exists.intro; refine ⟨fun W hW => ?_, ?_⟩; (obtain ⟨a0, a1, -, -⟩ := (P0.calm hW).cells EP.out; obtain ⟨b0, b1, -, -⟩ := (PQ.calm hW).cells EQ.out; obtain ⟨c0, c1, -, -⟩ := (PR.calm hW).cells EQ.out; go_simp; first | done | with_reducible rfl | (go_at_call 15; exact (h15 _).mono fun e w' k => ⟨k.1, hW.trans k.2⟩) | (go_at_call 16; exact (h16 _).mono fun e w' k => ⟨k.1, hW.trans k.2⟩) | (go_at_call 17; exact (h17 _).mono fun e w' k => ⟨k.1, hW.trans k.2⟩) | (go_at_call 18; exact (h18 _).mono fun e w' k => ⟨k.1, hW.trans k.2⟩) | (go_at_call 19; exact (h19' _).mono fun e w' k => ⟨k.1, hW.trans k.2⟩) | (go_at_call 20; exact (h20' _).mono fun e w' k => ⟨k.1, hW.trans k.2⟩)); simp only [Act.put, List.setIfInBounds_toArray, List.set_cons_zero, List.set_cons_succ])
    | fail)
  refine q_end ?_
  intro w9 s9
  go_wp2
  go_ret
  exact ⟨rfl, sw.trans s9⟩

end Go.Proofs.Ytfeeikhcdphcpaa
