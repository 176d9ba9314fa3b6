/- DigitParts: the walk. -/
import Derived.Test.YtfeeikhcdphcpaaDigP
namespace Go.Proofs.Ytfeeikhcdphcpaa
open Go Go.RowKit
set_option linter.unusedSimpArgs false
set_option linter.unusedVariables false

/-- What is taken in piece by piece. -/
theorem parts_num (b : Int) (x y : List UInt8) :
    ∃ p n q m r k, accV 0 b x = .tuple #[pv p, .int .i64 n] ∧ accV 0 b (x ++ y) = .tuple #[pv q, .int .i64 m] ∧ accV p b y = .tuple #[pv r, .int .i64 k] ∧ 0 ≤ n ∧ n ≤ x.length ∧ 0 ≤ k ∧ k ≤ y.length ∧
      ((0 < n ∧ pv q = pv p ∧ m = n + y.length) ∨ (n = 0 ∧ pv q = pv r ∧ m = k ∧ (k = 0 ∨ b < 2 ∨ 36 < b ∨ ∃ h : y.length - k.toNat < y.length, valB ((y[y.length - k.toNat]'h).toNat : Nat) b = false))) := by
  cases hR : rightB b with
  | false =>
    refine ⟨0, x.length, 0, (x ++ y).length, 0, y.length, ?_, ?_, ?_, by omega, by omega, by omega, by omega, ?_⟩
    · unfold accV; rw [hR]; rfl
    · unfold accV; rw [hR]; rfl
    · unfold accV; rw [hR]; rfl
    · have hb : b < 2 ∨ 36 < b := by unfold rightB at hR; simp at hR; omega
      by_cases h : 0 < (x.length : Int)
      · exact .inl ⟨h, rfl, by simp⟩
      · exact .inr ⟨by omega, rfl, by simp; omega, .inr (hb.elim .inl fun h => .inr (.inl h))⟩
  | true =>
    have h1 := acc_range b x 0
    have h2 := acc_range b y (acc b 0 x).1
    have ha := acc_app b x y 0
    refine ⟨(acc b 0 x).1, (acc b 0 x).2, (acc b 0 (x ++ y)).1, (acc b 0 (x ++ y)).2, (acc b (acc b 0 x).1 y).1, (acc b (acc b 0 x).1 y).2, ?_, ?_, ?_, h1.1, h1.2, h2.1, h2.2, ?_⟩
    · unfold accV; rw [hR]; rfl
    · unfold accV; rw [hR]; rfl
    · unfold accV; rw [hR]; rfl
    · by_cases h0 : (acc b 0 x).2 = 0
      · rw [if_pos h0] at ha
        rw [ha]
        refine .inr ⟨h0, rfl, rfl, ?_⟩
        by_cases hk : (acc b (acc b 0 x).1 y).2 = 0
        · exact .inl hk
        · obtain ⟨u, c, v, e1, e2, e3⟩ := acc_left b y (acc b 0 x).1 (by omega)
          rw [e2]
          have hlen : y.length = u.length + (v.length + 1) := by rw [e1]; simp
          have ht : ((v.length : Int) + 1).toNat = v.length + 1 := by omega
          refine .inr (.inr (.inr ⟨by rw [ht]; omega, ?_⟩))
          have hi : y.length - ((v.length : Int) + 1).toNat = u.length := by rw [ht]; omega
          have hg : y[y.length - ((v.length : Int) + 1).toNat]? = some c := by rw [hi, e1]; simp
          obtain ⟨hlt, hv⟩ := List.getElem?_eq_some_iff.1 hg
          rw [hv]; exact e3
      · rw [if_neg h0] at ha
        rw [ha]
        exact .inl ⟨by omega, rfl, rfl⟩

set_option maxHeartbeats 3000000 in
theorem parts_walk (s t : ByteArray) (b : Int) (hb : C64 b) (w : World) :
    Calls Try.prog 6 #[.string s, .string t, .int .i64 b] w fun e w' => e = .returned (.bool true) ∧ Calm w w' := by
  have f1 := few_ok s
  have f2 := few_ok t
  obtain ⟨lx, hlx⟩ : ∃ lx, lst (fewB s) = lx := ⟨_, rfl⟩
  obtain ⟨ly, hly⟩ : ∃ ly, lst (fewB t) = ly := ⟨_, rfl⟩
  have nx : lx.length ≤ 200 := by rw [← hlx]; exact few_len s
  have ny : ly.length ≤ 200 := by rw [← hly]; exact few_len t
  have ex : fewB s = bl lx := by rw [← hlx, bl_lst]
  have ey : fewB t = bl ly := by rw [← hly, bl_lst]
  rw [ex] at f1
  rw [ey] at f2
  obtain ⟨p, n, q, m, r, k, e1, e2, e3, hn, hnx, hk, hky, hor⟩ := parts_num b lx ly
  have a1 := accept_ok 0 b hb (bl lx) (by rw [bl_size]; omega)
  have a2 := accept_ok 0 b hb (bl (lx ++ ly)) (by rw [bl_size]; simp; omega)
  have a3 := accept_ok p b hb (bl ly) (by rw [bl_size]; omega)
  have ks : Op.stringOp .add (bl lx) (bl ly) = pure (.string (bl (lx ++ ly))) := sadd lx ly (by omega)
  obtain ⟨p0, p1, -, -, -, ep, -⟩ := pv_split p
  obtain ⟨q0, q1, -, -, -, eq, -⟩ := pv_split q
  obtain ⟨r0, r1, -, -, -, er, -⟩ := pv_split r
  rw [lst_bl, e1, pv_zero, ep] at a1
  rw [lst_bl, e2, pv_zero, eq] at a2
  rw [lst_bl, e3, ep, er] at a3
  have hsy : (bl ly).size = ly.length := bl_size ly
  have hgy : ∀ i (h1 : i < (bl ly).size) (h2 : i < ly.length), (bl ly)[i]'h1 = ly[i]'h2 := fun i h1 h2 => rfl
  generalize bl (lx ++ ly) = XY at *
  generalize bl lx = X at *
  generalize bl ly = Y at *
  rw [← hsy] at hky
  have hym : (Y.size : Int) ≤ 200 := by omega
  have hdist : (∃ h : ly.length - k.toNat < ly.length, valB ((ly[ly.length - k.toNat]'h).toNat : Nat) b = false) → ∃ h : Y.size - k.toNat < Y.size, valB ((Y[Y.size - k.toNat]'h).toNat : Nat) b = false := by
    rintro ⟨h, hv⟩
    have h' : Y.size - k.toNat < Y.size := by rw [hsy]; exact h
    refine ⟨h', ?_⟩
    rw [hgy _ h' (by rw [hsy]; exact h)]
    simp only [hsy]
    exact hv
  have EP := Lib.hid ep
  have EQ := Lib.hid eq
  have ER := Lib.hid er
  clear ep er e1 e2 e3 hlx hly ex ey hgy
  have hyi : ((Y.size : Nat) : Int) = ly.length := by omega
  rcases hor with ⟨h1, h2, h3⟩ | ⟨h1, h2, h3, h4⟩
  · rw [EP.out, eq] at h2
    simp only [Value.agg.injEq, Array.mk.injEq, List.cons.injEq, Value.int.injEq, true_and, and_true] at h2
    obtain ⟨rfl, rfl⟩ := h2
    rw [← hyi] at h3
    have hn2 : n ≤ 200 := by omega
    subst h3
    clear eq hdist a3 hsy hyi
    go_enter Try.func6, Try.ntmps6
    go_wp2_with (first
      | (go_at_call 10; refine (shown_ok _).mono ?_; rintro e w1 ⟨rfl, s1⟩)
      | (go_at_call_of 22 (#[Value.string s]); refine (f1 _).mono ?_; rintro e w2 ⟨rfl, rfl⟩)
      | (go_at_call_of 22 (#[Value.string t]); refine (f2 _).mono ?_; rintro e w2 ⟨rfl, rfl⟩)
      | (simp only [ks])
      | (go_at_call_of 21 (#[Value.agg #[.int .i64 0, .int .i64 0], .string X, .int .i64 b]); refine (a1 _).mono ?_; rintro e w3 ⟨rfl, s3⟩; have PA := PBlk.new w3 EP.out; have sw := (s1.trans s3).alloc (.cells #[.int .i64 q0, .int .i64 q1] 24))
      | (go_at_call_of 21 (#[Value.agg #[.int .i64 0, .int .i64 0], .string XY, .int .i64 b]); refine (a2 _).mono ?_; rintro e w5 ⟨rfl, s5⟩; replace PA := (PA.calm s5).calm ((Calm.refl _).alloc (.cells #[.int .i64 q0, .int .i64 q1] 24)); replace sw := (sw.trans s5).alloc (.cells #[.int .i64 q0, .int .i64 q1] 24); obtain ⟨b0, b1, -, -⟩ := PA.cells EP.out))
    go_ret
    exact ⟨rfl, sw⟩
  · rw [ER.out, eq] at h2
    simp only [Value.agg.injEq, Array.mk.injEq, List.cons.injEq, Value.int.injEq, true_and, and_true] at h2
    obtain ⟨rfl, rfl⟩ := h2
    subst h3 h1
    clear eq hsy hyi
    have hisV : ∀ w, Calls Try.prog 26 #[.int .u8 0, .int .i64 b] w fun e w' => e = .returned (.bool (valB 0 b)) ∧ w' = w := is_ok 0 b (by omega) (by omega)
    by_cases hm0 : m = 0
    · subst hm0
      clear h4 hdist
      go_enter Try.func6, Try.ntmps6
      go_wp2_with (first
        | (go_at_call 10; refine (shown_ok _).mono ?_; rintro e w1 ⟨rfl, s1⟩)
        | (go_at_call_of 22 (#[Value.string s]); refine (f1 _).mono ?_; rintro e w2 ⟨rfl, rfl⟩)
        | (go_at_call_of 22 (#[Value.string t]); refine (f2 _).mono ?_; rintro e w2 ⟨rfl, rfl⟩)
        | (simp only [ks])
        | (go_at_call_of 21 (#[Value.agg #[.int .i64 0, .int .i64 0], .string X, .int .i64 b]); refine (a1 _).mono ?_; rintro e w3 ⟨rfl, s3⟩; have PA := PBlk.new w3 EP.out; have sw := (s1.trans s3).alloc (.cells #[.int .i64 p0, .int .i64 p1] 24))
        | (go_at_call_of 21 (#[Value.agg #[.int .i64 0, .int .i64 0], .string XY, .int .i64 b]); refine (a2 _).mono ?_; rintro e w5 ⟨rfl, s5⟩; replace PA := (PA.calm s5).calm ((Calm.refl _).alloc (.cells #[.int .i64 q0, .int .i64 q1] 24)); have PB := PBlk.new w5 EQ.out; replace sw := (sw.trans s5).alloc (.cells #[.int .i64 q0, .int .i64 q1] 24); obtain ⟨b0, b1, -, -⟩ := PA.cells EP.out)
        | (go_at_call_of 21 (#[Value.agg #[.int .i64 p0, .int .i64 p1], .string Y, .int .i64 b]); refine (a3 _).mono ?_; rintro e w7 ⟨rfl, s7⟩; have PC := PBlk.new w7 EQ.out; replace PB := (PB.calm s7).calm ((Calm.refl _).alloc (.cells #[.int .i64 q0, .int .i64 q1] 24)); replace sw := (sw.trans s7).alloc (.cells #[.int .i64 q0, .int .i64 q1] 24); obtain ⟨c0, c1, -, -⟩ := PB.cells EQ.out)
        | (go_at_call 26; refine (hisV _).mono ?_; rintro e w8 ⟨rfl, rfl⟩))
      go_ret
      exact ⟨rfl, sw⟩
    · have g0 : (m == 0) = false := by rw [beq_eq_false_iff_ne]; exact hm0
      by_cases hb2 : b < 2
      · clear h4 hdist
        go_enter Try.func6, Try.ntmps6
        go_wp2_with (first
          | (go_at_call 10; refine (shown_ok _).mono ?_; rintro e w1 ⟨rfl, s1⟩)
          | (go_at_call_of 22 (#[Value.string s]); refine (f1 _).mono ?_; rintro e w2 ⟨rfl, rfl⟩)
          | (go_at_call_of 22 (#[Value.string t]); refine (f2 _).mono ?_; rintro e w2 ⟨rfl, rfl⟩)
          | (simp only [ks])
          | (go_at_call_of 21 (#[Value.agg #[.int .i64 0, .int .i64 0], .string X, .int .i64 b]); refine (a1 _).mono ?_; rintro e w3 ⟨rfl, s3⟩; have PA := PBlk.new w3 EP.out; have sw := (s1.trans s3).alloc (.cells #[.int .i64 p0, .int .i64 p1] 24))
          | (go_at_call_of 21 (#[Value.agg #[.int .i64 0, .int .i64 0], .string XY, .int .i64 b]); refine (a2 _).mono ?_; rintro e w5 ⟨rfl, s5⟩; replace PA := (PA.calm s5).calm ((Calm.refl _).alloc (.cells #[.int .i64 q0, .int .i64 q1] 24)); have PB := PBlk.new w5 EQ.out; replace sw := (sw.trans s5).alloc (.cells #[.int .i64 q0, .int .i64 q1] 24); obtain ⟨b0, b1, -, -⟩ := PA.cells EP.out)
          | (go_at_call_of 21 (#[Value.agg #[.int .i64 p0, .int .i64 p1], .string Y, .int .i64 b]); refine (a3 _).mono ?_; rintro e w7 ⟨rfl, s7⟩; have PC := PBlk.new w7 EQ.out; replace PB := (PB.calm s7).calm ((Calm.refl _).alloc (.cells #[.int .i64 q0, .int .i64 q1] 24)); replace sw := (sw.trans s7).alloc (.cells #[.int .i64 q0, .int .i64 q1] 24); obtain ⟨c0, c1, -, -⟩ := PB.cells EQ.out)
          | (go_at_call 26; refine (hisV _).mono ?_; rintro e w8 ⟨rfl, rfl⟩))
        go_ret
        exact ⟨rfl, sw⟩
      · by_cases hb3 : 36 < b
        · clear h4 hdist
          go_enter Try.func6, Try.ntmps6
          go_wp2_with (first
            | (go_at_call 10; refine (shown_ok _).mono ?_; rintro e w1 ⟨rfl, s1⟩)
            | (go_at_call_of 22 (#[Value.string s]); refine (f1 _).mono ?_; rintro e w2 ⟨rfl, rfl⟩)
            | (go_at_call_of 22 (#[Value.string t]); refine (f2 _).mono ?_; rintro e w2 ⟨rfl, rfl⟩)
            | (simp only [ks])
            | (go_at_call_of 21 (#[Value.agg #[.int .i64 0, .int .i64 0], .string X, .int .i64 b]); refine (a1 _).mono ?_; rintro e w3 ⟨rfl, s3⟩; have PA := PBlk.new w3 EP.out; have sw := (s1.trans s3).alloc (.cells #[.int .i64 p0, .int .i64 p1] 24))
            | (go_at_call_of 21 (#[Value.agg #[.int .i64 0, .int .i64 0], .string XY, .int .i64 b]); refine (a2 _).mono ?_; rintro e w5 ⟨rfl, s5⟩; replace PA := (PA.calm s5).calm ((Calm.refl _).alloc (.cells #[.int .i64 q0, .int .i64 q1] 24)); have PB := PBlk.new w5 EQ.out; replace sw := (sw.trans s5).alloc (.cells #[.int .i64 q0, .int .i64 q1] 24); obtain ⟨b0, b1, -, -⟩ := PA.cells EP.out)
            | (go_at_call_of 21 (#[Value.agg #[.int .i64 p0, .int .i64 p1], .string Y, .int .i64 b]); refine (a3 _).mono ?_; rintro e w7 ⟨rfl, s7⟩; have PC := PBlk.new w7 EQ.out; replace PB := (PB.calm s7).calm ((Calm.refl _).alloc (.cells #[.int .i64 q0, .int .i64 q1] 24)); replace sw := (sw.trans s7).alloc (.cells #[.int .i64 q0, .int .i64 q1] 24); obtain ⟨c0, c1, -, -⟩ := PB.cells EQ.out)
            | (go_at_call 26; refine (hisV _).mono ?_; rintro e w8 ⟨rfl, rfl⟩))
          go_ret
          exact ⟨rfl, sw⟩
        · obtain ⟨hlt, hv⟩ := hdist (by rcases h4 with h | h | h | h; exact absurd h hm0; exact absurd h hb2; exact absurd h hb3; exact h)
          clear hisV h4 hdist
          obtain ⟨d, hd⟩ : ∃ d : Int, (((Y[Y.size - m.toNat]'hlt).toNat : Nat) : Int) = d := ⟨_, rfl⟩
          have d255 : 0 ≤ d ∧ d < 256 := by have := (Y[Y.size - m.toNat]'hlt).toNat_lt; omega
          have hisV := is_ok d b d255.1 d255.2
          rw [hd] at hv
          rw [hv] at hisV
          have hix : ((Y.size : Int) - m).toNat = Y.size - m.toNat := by omega
          have hi0 : 0 ≤ (Y.size : Int) - m := by omega
          have hi1 : (Y.size : Int) - m < Y.size := by omega
          clear hv
          go_enter Try.func6, Try.ntmps6
          go_wp2_with (first
            | (go_at_call 10; refine (shown_ok _).mono ?_; rintro e w1 ⟨rfl, s1⟩)
            | (go_at_call_of 22 (#[Value.string s]); refine (f1 _).mono ?_; rintro e w2 ⟨rfl, rfl⟩)
            | (go_at_call_of 22 (#[Value.string t]); refine (f2 _).mono ?_; rintro e w2 ⟨rfl, rfl⟩)
            | (simp only [ks])
            | (go_at_call_of 21 (#[Value.agg #[.int .i64 0, .int .i64 0], .string X, .int .i64 b]); refine (a1 _).mono ?_; rintro e w3 ⟨rfl, s3⟩; have PA := PBlk.new w3 EP.out; have sw := (s1.trans s3).alloc (.cells #[.int .i64 p0, .int .i64 p1] 24))
            | (go_at_call_of 21 (#[Value.agg #[.int .i64 0, .int .i64 0], .string XY, .int .i64 b]); refine (a2 _).mono ?_; rintro e w5 ⟨rfl, s5⟩; replace PA := (PA.calm s5).calm ((Calm.refl _).alloc (.cells #[.int .i64 q0, .int .i64 q1] 24)); have PB := PBlk.new w5 EQ.out; replace sw := (sw.trans s5).alloc (.cells #[.int .i64 q0, .int .i64 q1] 24); obtain ⟨b0, b1, -, -⟩ := PA.cells EP.out)
            | (go_at_call_of 21 (#[Value.agg #[.int .i64 p0, .int .i64 p1], .string Y, .int .i64 b]); refine (a3 _).mono ?_; rintro e w7 ⟨rfl, s7⟩; have PC := PBlk.new w7 EQ.out; replace PB := (PB.calm s7).calm ((Calm.refl _).alloc (.cells #[.int .i64 q0, .int .i64 q1] 24)); replace sw := (sw.trans s7).alloc (.cells #[.int .i64 q0, .int .i64 q1] 24); obtain ⟨c0, c1, -, -⟩ := PB.cells EQ.out)
            | (go_at_call 26; refine (hisV _).mono ?_; rintro e w8 ⟨rfl, rfl⟩))
          go_ret
          exact ⟨rfl, sw⟩
end Go.Proofs.Ytfeeikhcdphcpaa
