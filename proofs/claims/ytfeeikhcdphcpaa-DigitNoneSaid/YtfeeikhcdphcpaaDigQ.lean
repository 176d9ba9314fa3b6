/- Digits taken in: both sides. -/
import Derived.Test.YtfeeikhcdphcpaaDigS
namespace Go.Proofs.Ytfeeikhcdphcpaa
open Go Go.RowKit
set_option linter.unusedSimpArgs false
set_option linter.unusedVariables false

def fewB (s : ByteArray) : ByteArray := s.extract 0 (min (s.size : Int) 200).toNat
theorem few_ok (s : ByteArray) (w : World) : Calls Try.prog 22 #[.string s] w fun e w' => e = .returned (.string (fewB s)) ∧ w' = w := by
  unfold fewB
  have h0 : 0 ≤ min (s.size : Int) 200 := by omega
  have h1 : min (s.size : Int) 200 ≤ s.size := by omega
  go_enter Try.func22, Try.ntmps22
  go_wp2
  go_ret
  exact ⟨rfl, rfl⟩

/-- The low cell times a base, and the high one. -/
theorem mul_base {P b hi lo nl nh : Int} (eP : pv P = .agg #[.int .i64 lo, .int .i64 hi]) (eN : pv ((lo % 18446744073709551616) * b) = .agg #[.int .i64 nl, .int .i64 nh]) :
    pv (P * b) = .agg #[.int .i64 nl, .int .i64 (wrap64 (nh + wrap64 (hi * b)))] := by
  simp only [pv, Value.agg.injEq, Array.mk.injEq, List.cons.injEq, Value.int.injEq, true_and, and_true] at eP eN
  obtain ⟨e1, e2⟩ := eP
  obtain ⟨e3, e4⟩ := eN
  have hk : ∃ k, P = k * 340282366920938463463374607431768211456 + hi * 18446744073709551616 + lo % 18446744073709551616 := by
    refine ⟨(P / 18446744073709551616 - hi) / 18446744073709551616, ?_⟩
    unfold wrap64 at e1 e2
    omega
  obtain ⟨k, hk⟩ := hk
  have h1 : P * b = (k * b) * 340282366920938463463374607431768211456 + (hi * b) * 18446744073709551616 + (lo % 18446744073709551616) * b := by
    conv => lhs; rw [hk]
    rw [Int.add_mul, Int.add_mul, Int.mul_right_comm k, Int.mul_right_comm hi]
  generalize (lo % 18446744073709551616) * b = Q at *
  generalize hi * b = M at *
  generalize k * b = K at *
  rw [h1]
  subst e3 e4
  exact pv_of (by unfold wrap64; omega) (by unfold wrap64; omega)

theorem umul_base {P b hi lo : Int} (hb0 : 0 ≤ b) (hb : b ≤ 36) (w : World) : Calls Try.prog 36 #[.int .i64 lo, .int .i64 b] w fun e w' => e = .returned (pv ((lo % 18446744073709551616) * b)) ∧ Calm w w' := by
  have h := umul_ok lo b w
  rw [show b % 18446744073709551616 = b by omega] at h
  refine h.mono ?_
  rintro e w' ⟨rfl, c1, c2, rfl⟩
  exact ⟨rfl, ((Calm.refl _).alloc _).alloc _⟩
theorem rumul_base {P b hi lo : Int} (hlo : C64 lo) (hb0 : 0 ≤ b) (hb : b ≤ 36) (w : World) : Calls Try.prog 39 #[.int .i64 lo, .int .i64 b] w fun e w' => e = .returned (pv ((lo % 18446744073709551616) * b)) ∧ Calm w w' := by
  have h := umulR_ok lo b hlo ⟨by omega, by omega⟩ w
  rwa [show b % 18446744073709551616 = b by omega] at h
theorem of_calm (a : Int) (ha : C64 a) (w : World) : Calls Try.prog 38 #[.int .i64 a] w fun e w' => e = .returned (pv a) ∧ Calm w w' := by
  refine (of_ok a ha w).mono ?_
  rintro e w' ⟨rfl, c, rfl⟩
  exact ⟨rfl, (Calm.refl _).alloc _⟩
theorem add_calm (a b : Int) (w : World) : Calls Try.prog 37 #[pv a, pv b] w fun e w' => e = .returned (pv (a + b)) ∧ Calm w w' := by
  refine (add_ok a b w).mono ?_
  rintro e w' ⟨rfl, c1, c2, c3, c4, rfl⟩
  exact ⟨rfl, ((((Calm.refl _).alloc _).alloc _).alloc _).alloc _⟩

/-- What is taken in, and what is left. -/
def accV (p b : Int) (l : List UInt8) : Value := .tuple #[pv (if rightB b then (acc b p l).1 else p), .int .i64 (if rightB b then (acc b p l).2 else (l.length : Int))]

theorem lst_drop {s : ByteArray} {j : Nat} (h : j < s.size) : (lst s).drop j = s[j]'h :: (lst s).drop (j + 1) := by
  have hj : j < (lst s).length := h
  rw [List.drop_eq_getElem_cons hj]
  rfl

set_option maxHeartbeats 8000000 in
theorem accept_ok (p b : Int) (hb : C64 b) (s : ByteArray) (hs : s.size ≤ 9223372036854775807) (w : World) : Calls Try.prog 21 #[pv p, .string s, .int .i64 b] w fun e w' => e = .returned (accV p b (lst s)) ∧ Calm w w' := by
  obtain ⟨pl, ph, -, -, -, ep, -⟩ := pv_split p
  have hri := right_ok b
  obtain ⟨R, hR⟩ : ∃ R, rightB b = R := ⟨_, rfl⟩
  rw [hR] at hri
  obtain ⟨V, hV⟩ : ∃ V, accV p b (lst s) = V := ⟨_, rfl⟩
  have P0 := B2.new w ep pv_zero
  have sw := ((Calm.refl w).alloc (.cells #[.int .i64 pl, .int .i64 ph] 24)).alloc (.cells #[.int .i64 0, .int .i64 0] 24)
  rw [hV, ep]
  have HV := Lib.hid hV
  have HR := Lib.hid hR
  clear hV hR ep
  go_enter Try.func21, Try.ntmps21
  go_wp2_with fail
  go_loopg [8, 9, 10, 11, 14] s.size (fun g a1 a2 a3 a4 a wr => ∃ (j : Nat) (P : Int), g = s.size - j ∧ j ≤ s.size ∧ a = .int .i64 j ∧ B2 wr w.heap.size P 0 ∧ Calm w wr ∧ Hid ((j = 0 → P = p) ∧ (0 < j → R = true) ∧ (R = true → acc b p (lst s) = acc b P ((lst s).drop j))))
  case atStart => exact ⟨0, p, rfl, Nat.zero_le _, rfl, P0, sw, Lib.hid ⟨fun _ => rfl, fun h => absurd h (Nat.lt_irrefl _), fun _ => rfl⟩⟩
  case round =>
    obtain ⟨j, P, hg, hj, rfl, hB, st, hinv⟩ := hrel
    have HG := Lib.hid hg
    clear hg P0 sw
    obtain ⟨lo, hi, -, c64, -, eP, -⟩ := pv_split P
    obtain ⟨⟨c0, c1⟩, ⟨d0, d1⟩⟩ := hB.facts eP pv_zero
    obtain ⟨⟨f0, f1⟩, ⟨f2, f3⟩⟩ := hB.fz eP pv_zero
    have EP := Lib.hid eP
    by_cases hlt : j < s.size
    · have hji : (j : Int) < s.size := by omega
      have hdr := lst_drop hlt
      obtain ⟨c, hc⟩ : ∃ c, s[j]'hlt = c := ⟨_, rfl⟩
      rw [hc] at hdr
      obtain ⟨d, hd⟩ : ∃ d : Int, d = ((c.toNat : Nat) : Int) := ⟨_, rfl⟩
      have hcd : (((s[j]'hlt).toNat : Nat) : Int) = d := by rw [hc, hd]
      have d255 : 0 ≤ d ∧ d < 256 := by have := c.toNat_lt; omega
      have hval := val_ok d b d255.1 d255.2
      have HDR := Lib.hid hdr
      have HD := Lib.hid hd
      clear hdr hc hd eP
      have hstop : valB d b = false ∨ R = false → accV p b (lst s) = .tuple #[.agg #[.int .i64 lo, .int .i64 hi], .int .i64 ((s.size : Int) - j)] := by
        intro h
        obtain ⟨i1, i2, i3⟩ := hinv.out
        cases R with
        | false =>
          obtain rfl : j = 0 := Nat.eq_zero_of_not_pos fun h => absurd (i2 h) (by simp)
          rw [accV, HR.out, if_neg Bool.false_ne_true, if_neg Bool.false_ne_true, ← i1 rfl, EP.out, lst_len]
          simp
        | true =>
          have hv : valB d b = false := by rcases h with h | h; exact h; cases h
          rw [accV, HR.out, if_pos rfl, if_pos rfl, i3 rfl, HDR.out, acc_cons, ← HD.out, hv, if_neg Bool.false_ne_true, EP.out, List.length_drop, lst_len]
          have e : ((s.size - (j + 1) : Nat) : Int) + 1 = (s.size : Int) - j := by omega
          rw [e]
      have hgo : valB d b = true → R = true → acc b p (lst s) = acc b (P * b + dig d) ((lst s).drop (j + 1)) := by
        intro hv hR
        rw [hinv.out.2.2 hR, HDR.out, acc_cons, ← HD.out, hv, if_pos rfl]
      have hB2 := hB.set2 EP.out
      obtain ⟨g0, g1, -, -⟩ := hB2.2.cells EP.out
      have hst2 := st.set2 (b := w.heap.size + 1) (by omega) (.int .i64 lo) (.int .i64 hi)
      cases hv : valB d b with
      | false =>
        have hfin := hstop (.inl hv)
        have hv0 : valV d b = 0 := by unfold valV; rw [hv]; rfl
        rw [hv, hv0] at hval
        have HF := Lib.hid hfin
        clear hfin hstop hgo hv hv0
        go_wp2_with (first | (go_at_call 13; refine (hval _).mono ?_; rintro e w2 ⟨rfl, rfl⟩))
        refine bodyPost_ret (v := V) (by rw [← HV.out, HF.out]; simp only [results, Try.results21]; simp [go_sem, g0, g1]) rfl ⟨rfl, hst2⟩
      | true =>
        have hv1 : valV d b = dig d := by unfold valV; rw [hv]; rfl
        rw [hv, hv1] at hval
        cases R with
        | false =>
          have hfin := hstop (.inr rfl)
          have HF := Lib.hid hfin
          clear hfin hstop hgo hv hv1
          go_wp2_with (first | (go_at_call 13; refine (hval _).mono ?_; rintro e w2 ⟨rfl, rfl⟩) | (go_at_call 28; refine (hri _).mono ?_; rintro e w1 ⟨rfl, rfl⟩))
          refine bodyPost_ret (v := V) (by rw [← HV.out, HF.out]; simp only [results, Try.results21]; simp [go_sem, g0, g1]) rfl ⟨rfl, hst2⟩
        | true =>
          have hgo2 := hgo hv rfl
          obtain ⟨b2, b36⟩ := right_C HR.out
          have hdv : 0 ≤ dig d ∧ dig d < b := by simpa [valB] using hv
          obtain ⟨n, hn⟩ : ∃ n, dig d = n := ⟨_, rfl⟩
          rw [hn] at hgo2 hdv hval
          have hum := umul_base (P := P) (hi := hi) (lo := lo) (by omega : 0 ≤ b) b36
          obtain ⟨nl, nh, -, -, -, eN, -⟩ := pv_split ((lo % 18446744073709551616) * b)
          have eM := mul_base EP.out eN
          have hof := of_calm n ⟨by omega, by omega⟩
          obtain ⟨ol, oh, -, -, -, eO, -⟩ := pv_split n
          have had := add_calm (P * b) n
          obtain ⟨l3, h3, -, -, -, e3, -⟩ := pv_split (P * b + n)
          rw [eN] at hum
          rw [eO] at hof
          rw [eM, eO, e3] at had
          obtain ⟨mh, hmh⟩ : ∃ m, wrap64 (nh + wrap64 (hi * b)) = m := ⟨_, rfl⟩
          rw [hmh] at eM had
          have EM := Lib.hid eM
          have E3 := Lib.hid e3
          have HGO := Lib.hid hgo2
          clear eN eM eO e3 hgo2 hn hv hv1 hstop hgo g0 g1 hB2 hst2
          go_wp2_with (first
            | (go_at_call 13; refine (hval _).mono ?_; rintro e w2 ⟨rfl, rfl⟩)
            | (go_at_call 28; refine (hri _).mono ?_; rintro e w1 ⟨rfl, rfl⟩)
            | (go_at_call 36; refine (hum _).mono ?_; rintro e w3 ⟨rfl, s3⟩; have hB3 := (hB.calm s3).calm ((Calm.refl _).alloc (.cells #[.int .i64 nl, .int .i64 nh] 24)); obtain ⟨⟨c0, c1⟩, ⟨d0, d1⟩⟩ := hB3.facts EP.out pv_zero))
          have HB := (hB.calm s3).calm ((Calm.refl _).alloc (.cells #[.int .i64 nl, .int .i64 mh] 24))
          have PN := PBlk.new w3 EM.out
          have SW := (st.trans s3).alloc (.cells #[.int .i64 nl, .int .i64 mh] 24)
          clear hB st hB3 c0 c1 d0 d1 f0 f1 f2 f3
          obtain ⟨⟨c0, c1⟩, -⟩ := HB.facts EP.out pv_zero
          obtain ⟨n0, n1, -, -⟩ := PN.cells EM.out
          obtain ⟨⟨f0, f1⟩, -⟩ := HB.fz EP.out pv_zero
          replace HB := HB.calm (Calm.refl _).drew
          replace PN := PN.calm (Calm.refl _).drew
          replace SW := SW.drew
          go_region_with (first
            | (go_at_call 38; refine (hof _).mono ?_; rintro e w4 ⟨rfl, s4⟩; replace HB := HB.calm s4; replace PN := PN.calm s4; replace SW := SW.trans s4; obtain ⟨n0, n1, -, -⟩ := PN.cells EM.out; obtain ⟨⟨c0, c1⟩, -⟩ := HB.facts EP.out pv_zero; obtain ⟨⟨f0, f1⟩, -⟩ := HB.fz EP.out pv_zero)
            | (go_at_call 37; refine (had _).mono ?_; rintro e w5 ⟨rfl, s5⟩; replace HB := HB.calm s5; replace PN := PN.calm s5; replace SW := SW.trans s5; obtain ⟨⟨c0, c1⟩, -⟩ := HB.facts EP.out pv_zero; obtain ⟨⟨f0, f1⟩, -⟩ := HB.fz EP.out pv_zero))
          all_goals have HB3 := HB.set1 E3.out
          all_goals have SW3 := SW.set2 (b := w.heap.size) (Nat.le_refl _) (.int .i64 l3) (.int .i64 h3)
          all_goals go_wp2_with fail
          all_goals go_roundg (s.size - (j + 1))
          all_goals first | (rw [HG.out]; omega) | exact ⟨j + 1, P * b + n, rfl, hlt, by go_num, HB3, SW3, Lib.hid ⟨fun h => absurd h (by omega), fun _ => trivial, fun _ => HGO.out⟩⟩
    · obtain rfl : j = s.size := by omega
      have hji : ¬ (s.size : Int) < s.size := by omega
      have hfin : accV p b (lst s) = .tuple #[.agg #[.int .i64 lo, .int .i64 hi], .int .i64 0] := by
        obtain ⟨i1, i2, i3⟩ := hinv.out
        cases R with
        | false =>
          have h0 : s.size = 0 := Nat.eq_zero_of_not_pos fun h => absurd (i2 h) (by simp)
          rw [accV, HR.out, if_neg Bool.false_ne_true, if_neg Bool.false_ne_true, ← i1 h0, EP.out, lst_len, h0]
          rfl
        | true =>
          rw [accV, HR.out, if_pos rfl, if_pos rfl, i3 rfl, List.drop_of_length_le (by rw [lst_len]; exact Nat.le_refl _)]
          simp only [acc, EP.out]
      have hB2 := hB.set2 EP.out
      obtain ⟨g0, g1, -, -⟩ := hB2.2.cells EP.out
      have hst2 := st.set2 (b := w.heap.size + 1) (by omega) (.int .i64 lo) (.int .i64 hi)
      have HF := Lib.hid hfin
      clear hfin
      go_wp2_with fail
      refine bodyPost_ret (v := V) (by rw [← HV.out, HF.out]; simp only [results, Try.results21]; simp [go_sem, g0, g1]) rfl ⟨rfl, hst2⟩
set_option maxHeartbeats 8000000 in
theorem raccept_ok (p b : Int) (hb : C64 b) (s : ByteArray) (hs : s.size ≤ 9223372036854775807) (w : World) : Calls Try.prog 23 #[pv p, .string s, .int .i64 b] w fun e w' => e = .returned (accV p b (lst s)) ∧ Calm w w' := by
  obtain ⟨pl, ph, -, -, -, ep, -⟩ := pv_split p
  have hri := rright_ok b
  obtain ⟨R, hR⟩ : ∃ R, rightB b = R := ⟨_, rfl⟩
  rw [hR] at hri
  obtain ⟨V, hV⟩ : ∃ V, accV p b (lst s) = V := ⟨_, rfl⟩
  have P0 := B2.new w ep pv_zero
  have sw := ((Calm.refl w).alloc (.cells #[.int .i64 pl, .int .i64 ph] 24)).alloc (.cells #[.int .i64 0, .int .i64 0] 24)
  rw [hV, ep]
  have EP0 := Lib.hid ep
  have HV := Lib.hid hV
  have HR := Lib.hid hR
  clear hV hR ep
  cases R with
  | false =>
    have hfin : accV p b (lst s) = .tuple #[.agg #[.int .i64 pl, .int .i64 ph], .int .i64 (s.size : Nat)] := by
      rw [accV, HR.out, if_neg Bool.false_ne_true, if_neg Bool.false_ne_true, EP0.out, lst_len]
    rw [← HV.out, hfin]
    clear hfin
    go_enter Try.func23, Try.ntmps23
    go_wp2_with (go_at_call 30; refine (hri _).mono ?_; rintro e w1 ⟨rfl, rfl⟩)
    simp [bodyPost, results, Try.results23, go_sem]
    exact ((Calm.refl _).alloc _).alloc _
  | true =>
    go_enter Try.func23, Try.ntmps23
    go_wp2_with (go_at_call 30; refine (hri _).mono ?_; rintro e w1 ⟨rfl, rfl⟩)
    go_loopg [8, 9, 10, 11] s.size (fun g a a2 a3 a4 wr => ∃ (j : Nat) (P : Int), g = s.size - j ∧ j ≤ s.size ∧ a = .int .i64 j ∧ B2 wr w.heap.size P 0 ∧ Calm w wr ∧ Hid (acc b p (lst s) = acc b P ((lst s).drop j)))
    case atStart => exact ⟨0, p, rfl, Nat.zero_le _, rfl, P0, sw, Lib.hid rfl⟩
    case round =>
      obtain ⟨j, P, hg, hj, rfl, hB, st, hinv⟩ := hrel
      have HG := Lib.hid hg
      clear hg P0 sw
      obtain ⟨lo, hi, -, c64, -, eP, -⟩ := pv_split P
      obtain ⟨⟨c0, c1⟩, ⟨d0, d1⟩⟩ := hB.facts eP pv_zero
      obtain ⟨⟨f0, f1⟩, ⟨f2, f3⟩⟩ := hB.fz eP pv_zero
      have EP := Lib.hid eP
      by_cases hlt : j < s.size
      · have hji : (j : Int) < s.size := by omega
        have hdr := lst_drop hlt
        obtain ⟨c, hc⟩ : ∃ c, s[j]'hlt = c := ⟨_, rfl⟩
        rw [hc] at hdr
        obtain ⟨d, hd⟩ : ∃ d : Int, d = ((c.toNat : Nat) : Int) := ⟨_, rfl⟩
        have hcd : (((s[j]'hlt).toNat : Nat) : Int) = d := by rw [hc, hd]
        have d255 : 0 ≤ d ∧ d < 256 := by have := c.toNat_lt; omega
        have hval := rval_ok d b d255.1 d255.2
        have HDR := Lib.hid hdr
        have HD := Lib.hid hd
        clear hdr hc hd eP
        have hstop : valB d b = false → accV p b (lst s) = .tuple #[.agg #[.int .i64 lo, .int .i64 hi], .int .i64 ((s.size : Int) - j)] := by
          intro hv
          rw [accV, HR.out, if_pos rfl, if_pos rfl, hinv.out, HDR.out, acc_cons, ← HD.out, hv, if_neg Bool.false_ne_true, EP.out, List.length_drop, lst_len]
          have e : ((s.size - (j + 1) : Nat) : Int) + 1 = (s.size : Int) - j := by omega
          rw [e]
        have hgo : valB d b = true → acc b p (lst s) = acc b (P * b + dig d) ((lst s).drop (j + 1)) := by
          intro hv
          rw [hinv.out, HDR.out, acc_cons, ← HD.out, hv, if_pos rfl]
        have hB2 := hB.set2 EP.out
        obtain ⟨g0, g1, -, -⟩ := hB2.2.cells EP.out
        have hst2 := st.set2 (b := w.heap.size + 1) (by omega) (.int .i64 lo) (.int .i64 hi)
        cases hv : valB d b with
        | false =>
          have hfin := hstop hv
          have hv0 : valV d b = 0 := by unfold valV; rw [hv]; rfl
          rw [hv, hv0] at hval
          have HF := Lib.hid hfin
          clear hfin hstop hgo hv hv0
          go_wp2_with (first | (go_at_call 14; refine (hval _).mono ?_; rintro e w2 ⟨rfl, rfl⟩))
          refine bodyPost_ret (v := V) (by rw [← HV.out, HF.out]; simp only [results, Try.results23]; simp [go_sem, g0, g1]) rfl ⟨rfl, hst2⟩
        | true =>
          have hv1 : valV d b = dig d := by unfold valV; rw [hv]; rfl
          rw [hv, hv1] at hval
          have hgo2 := hgo hv
          obtain ⟨b2, b36⟩ := right_C HR.out
          have hdv : 0 ≤ dig d ∧ dig d < b := by simpa [valB] using hv
          obtain ⟨n, hn⟩ : ∃ n, dig d = n := ⟨_, rfl⟩
          rw [hn] at hgo2 hdv hval
          have hum := rumul_base (P := P) (hi := hi) (lo := lo) c64 (by omega : 0 ≤ b) b36
          obtain ⟨nl, nh, -, -, -, eN, -⟩ := pv_split ((lo % 18446744073709551616) * b)
          have eM := mul_base EP.out eN
          have eO : pv n = .agg #[.int .i64 n, .int .i64 0] := pv_of (by unfold wrap64; omega) (by unfold wrap64; omega)
          have had := addR_calm (P * b) n
          obtain ⟨l3, h3, -, -, -, e3, -⟩ := pv_split (P * b + n)
          rw [eN] at hum
          rw [eM, eO, e3] at had
          obtain ⟨mh, hmh⟩ : ∃ m, wrap64 (nh + wrap64 (hi * b)) = m := ⟨_, rfl⟩
          rw [hmh] at eM had
          have EM := Lib.hid eM
          have E3 := Lib.hid e3
          have HGO := Lib.hid hgo2
          clear eN eM eO e3 hgo2 hn hv hv1 hstop hgo g0 g1 hB2 hst2
          go_wp2_with (first
            | (go_at_call 14; refine (hval _).mono ?_; rintro e w2 ⟨rfl, rfl⟩)
            | (go_at_call 30; refine (hri _).mono ?_; rintro e w1 ⟨rfl, rfl⟩)
            | (go_at_call 39; refine (hum _).mono ?_; rintro e w3 ⟨rfl, s3⟩; have hB3 := (hB.calm s3).calm ((Calm.refl _).alloc (.cells #[.int .i64 nl, .int .i64 nh] 24)); obtain ⟨⟨c0, c1⟩, ⟨d0, d1⟩⟩ := hB3.facts EP.out pv_zero))
          have HB := (hB.calm s3).calm ((Calm.refl _).alloc (.cells #[.int .i64 nl, .int .i64 mh] 24))
          have PN := PBlk.new w3 EM.out
          have SW := (st.trans s3).alloc (.cells #[.int .i64 nl, .int .i64 mh] 24)
          clear hB st hB3 c0 c1 d0 d1 f0 f1 f2 f3
          obtain ⟨⟨c0, c1⟩, -⟩ := HB.facts EP.out pv_zero
          obtain ⟨n0, n1, -, -⟩ := PN.cells EM.out
          obtain ⟨⟨f0, f1⟩, -⟩ := HB.fz EP.out pv_zero
          go_wp2_with (first
            | (go_at_call 40; refine (had _).mono ?_; rintro e w5 ⟨rfl, s5⟩; replace HB := HB.calm s5; replace PN := PN.calm s5; replace SW := SW.trans s5; obtain ⟨⟨c0, c1⟩, -⟩ := HB.facts EP.out pv_zero; obtain ⟨⟨f0, f1⟩, -⟩ := HB.fz EP.out pv_zero))
          all_goals have HB3 := HB.set1 E3.out
          all_goals have SW3 := SW.set2 (b := w.heap.size) (Nat.le_refl _) (.int .i64 l3) (.int .i64 h3)
          all_goals go_roundg (s.size - (j + 1))
          all_goals first | (rw [HG.out]; omega) | exact ⟨j + 1, P * b + n, rfl, hlt, by go_num, HB3, SW3, Lib.hid HGO.out⟩
      · obtain rfl : j = s.size := by omega
        have hji : ¬ (s.size : Int) < s.size := by omega
        have hfin : accV p b (lst s) = .tuple #[.agg #[.int .i64 lo, .int .i64 hi], .int .i64 0] := by
          rw [accV, HR.out, if_pos rfl, if_pos rfl, hinv.out, List.drop_of_length_le (by rw [lst_len]; exact Nat.le_refl _)]
          simp only [acc, EP.out]
        have hB2 := hB.set2 EP.out
        obtain ⟨g0, g1, -, -⟩ := hB2.2.cells EP.out
        have hst2 := st.set2 (b := w.heap.size + 1) (by omega) (.int .i64 lo) (.int .i64 hi)
        have HF := Lib.hid hfin
        clear hfin
        go_wp2_with fail
        refine bodyPost_ret (v := V) (by rw [← HV.out, HF.out]; simp only [results, Try.results23]; simp [go_sem, g0, g1]) rfl ⟨rfl, hst2⟩
end Go.Proofs.Ytfeeikhcdphcpaa
