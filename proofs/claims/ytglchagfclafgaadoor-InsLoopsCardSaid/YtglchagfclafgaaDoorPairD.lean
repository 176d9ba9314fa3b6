/- The functions of the pair layer: the document's long division. -/
import Derived.Test.YtglchagfclafgaaDoorPairC
namespace Go.Proofs.YtglchagfclafgaaDoor
open Go Go.RowKit
set_option linter.unusedSimpArgs false
set_option linter.unusedVariables false

theorem pv_cell {x : Int} (h : C64 x) : pv x = .agg #[.int .i64 x, .int .i64 (x / 9223372036854775808)] := by
  obtain ⟨h1, h2⟩ := h
  exact pv_of (by unfold wrap64; omega) (by unfold wrap64; omega)

/-- Is a pair with a sign a cell's? -/
def fit (a : Int) : Bool := decide (-9223372036854775808 ≤ a ∧ a ≤ 9223372036854775807)

/-! ### The long division -/
theorem long_step {A b m : Int} (hb : 0 < b) (hm : m = 0 ∨ m = 1) :
    (2 * (A % b) + m < b → (2 * A + m) % b = 2 * (A % b) + m ∧ (2 * A + m) / b = 2 * (A / b)) ∧
    (b ≤ 2 * (A % b) + m → (2 * A + m) % b = 2 * (A % b) + m - b ∧ (2 * A + m) / b = 2 * (A / b) + 1) := by
  have h1 := Int.emod_nonneg A (show b ≠ 0 by omega)
  have h2 := Int.emod_lt_of_pos A hb
  have h3 := Int.mul_ediv_add_emod A b
  generalize A % b = r at *
  generalize A / b = q at *
  refine ⟨fun h => ?_, fun h => ?_⟩
  · have e : 2 * A + m = (2 * r + m) + b * (2 * q) := by rw [← h3, Int.mul_add, Int.mul_left_comm]; omega
    rw [e]
    refine ⟨?_, ?_⟩
    · rw [Int.add_mul_emod_self_left, Int.emod_eq_of_lt (by omega) h]
    · rw [Int.add_mul_ediv_left _ _ (by omega), Int.ediv_eq_zero_of_lt (by omega) h, Int.zero_add]
  · have e : 2 * A + m = (2 * r + m - b) + b * (2 * q + 1) := by rw [← h3, Int.mul_add, Int.mul_left_comm, Int.mul_add b]; omega
    rw [e]
    refine ⟨?_, ?_⟩
    · rw [Int.add_mul_emod_self_left, Int.emod_eq_of_lt (by omega) (by omega)]
    · rw [Int.add_mul_ediv_left _ _ (by omega), Int.ediv_eq_zero_of_lt (by omega) (by omega), Int.zero_add]

/-- The highest bit of what is left of the dividend. -/
theorem top_bit {P K M A B : Int} (hK : 0 < K) (hP : P = A * (2 * K) + B) (hB0 : 0 ≤ B) (hB : B < 2 * K) (hM : 2 * K * M = 340282366920938463463374607431768211456) (hM0 : 0 < M) {lo hi : Int} (e : pv (B * M) = .agg #[.int .i64 lo, .int .i64 hi]) :
    (hi < 0 ↔ K ≤ B) := by
  have h1 : B * M < 2 * K * M := Int.mul_lt_mul_of_pos_right hB hM0
  have h2 : 0 ≤ B * M := Int.mul_nonneg hB0 (by omega)
  have h3 : K * M = 170141183460469231731687303715884105728 := by rw [Int.mul_assoc] at hM; omega
  rw [pv] at e
  simp only [Value.agg.injEq, Array.mk.injEq, List.cons.injEq, Value.int.injEq, true_and, and_true] at e
  have h4 : hi = wrap64 (B * M / 18446744073709551616) := e.2.symm
  have h5 : K ≤ B ↔ K * M ≤ B * M := ⟨fun h => Int.mul_le_mul_of_nonneg_right h (by omega), fun h => by
    rcases Int.lt_or_le B K with h6 | h6
    · have := Int.mul_lt_mul_of_pos_right h6 hM0; omega
    · exact h6⟩
  rw [h4, h5, h3]
  generalize B * M = X at *
  unfold wrap64
  omega

/-! ### Four pairs in four blocks, one behind the other: what is divided, the result, what is left, the quotient -/
def F4 (w : World) (z : Nat) (p l q : Int) : Prop := PBlk w z p ∧ PBlk w (z + 1) 0 ∧ PBlk w (z + 1 + 1) l ∧ PBlk w (z + 1 + 1 + 1) q

theorem F4.calm {w w' : World} {z : Nat} {p l q : Int} (h : F4 w z p l q) (s : Calm w w') : F4 w' z p l q := ⟨h.1.calm s, h.2.1.calm s, h.2.2.1.calm s, h.2.2.2.calm s⟩
theorem F4.setP {w : World} {z : Nat} {p l q m lo hi : Int} (h : F4 w z p l q) (e : pv m = .agg #[.int .i64 lo, .int .i64 hi]) : F4 ((w.setCell ⟨z, 0, none⟩ (.int .i64 lo)).setCell ⟨z, 1, none⟩ (.int .i64 hi)) z m l q :=
  ⟨h.1.set e, h.2.1.other2 (by omega) _ _, h.2.2.1.other2 (by omega) _ _, h.2.2.2.other2 (by omega) _ _⟩
theorem F4.setL {w : World} {z : Nat} {p l q m lo hi : Int} (h : F4 w z p l q) (e : pv m = .agg #[.int .i64 lo, .int .i64 hi]) : F4 ((w.setCell ⟨z + 1 + 1, 0, none⟩ (.int .i64 lo)).setCell ⟨z + 1 + 1, 1, none⟩ (.int .i64 hi)) z p m q :=
  ⟨h.1.other2 (by omega) _ _, h.2.1.other2 (by omega) _ _, h.2.2.1.set e, h.2.2.2.other2 (by omega) _ _⟩
theorem F4.setQ {w : World} {z : Nat} {p l q m lo hi : Int} (h : F4 w z p l q) (e : pv m = .agg #[.int .i64 lo, .int .i64 hi]) : F4 ((w.setCell ⟨z + 1 + 1 + 1, 0, none⟩ (.int .i64 lo)).setCell ⟨z + 1 + 1 + 1, 1, none⟩ (.int .i64 hi)) z p l m :=
  ⟨h.1.other2 (by omega) _ _, h.2.1.other2 (by omega) _ _, h.2.2.1.other2 (by omega) _ _, h.2.2.2.set e⟩
theorem F4.facts {w : World} {z : Nat} {p l q pl ph ll lh ql qh : Int} (h : F4 w z p l q) (ep : pv p = .agg #[.int .i64 pl, .int .i64 ph]) (el : pv l = .agg #[.int .i64 ll, .int .i64 lh]) (eq : pv q = .agg #[.int .i64 ql, .int .i64 qh]) :
    (w.cell? ⟨z, 0, none⟩ = some (.int .i64 pl) ∧ w.cell? ⟨z, 1, none⟩ = some (.int .i64 ph) ∧ w.frozen? ⟨z, 0, none⟩ = false ∧ w.frozen? ⟨z, 1, none⟩ = false) ∧
    (w.cell? ⟨z + 1 + 1, 0, none⟩ = some (.int .i64 ll) ∧ w.cell? ⟨z + 1 + 1, 1, none⟩ = some (.int .i64 lh) ∧ w.frozen? ⟨z + 1 + 1, 0, none⟩ = false ∧ w.frozen? ⟨z + 1 + 1, 1, none⟩ = false) ∧
    (w.cell? ⟨z + 1 + 1 + 1, 0, none⟩ = some (.int .i64 ql) ∧ w.cell? ⟨z + 1 + 1 + 1, 1, none⟩ = some (.int .i64 qh) ∧ w.frozen? ⟨z + 1 + 1 + 1, 0, none⟩ = false ∧ w.frozen? ⟨z + 1 + 1 + 1, 1, none⟩ = false) :=
  ⟨h.1.cells ep, h.2.2.1.cells el, h.2.2.2.cells eq⟩

theorem F4.to {w : World} {z : Nat} {p l q p' l' q' : Int} (h : F4 w z p l q) (hp : pv p = pv p') (hl : l = l') (hq : q = q') : F4 w z p' l' q' := by
  subst hl hq
  obtain ⟨⟨lo, hi, e, hb⟩, h2⟩ := h
  exact ⟨⟨lo, hi, hp ▸ e, hb⟩, h2⟩

theorem pv_one : pv 1 = .agg #[.int .i64 1, .int .i64 0] := pv_of (by unfold wrap64; omega) (by unfold wrap64; omega)
theorem pv_zero : pv 0 = .agg #[.int .i64 0, .int .i64 0] := pv_of (by unfold wrap64; omega) (by unfold wrap64; omega)

theorem pv_fst {n lo hi : Int} (e : pv n = .agg #[.int .i64 lo, .int .i64 hi]) : wrap64 n = lo := by
  rw [pv] at e
  simp only [Value.agg.injEq, Array.mk.injEq, List.cons.injEq, Value.int.injEq, true_and, and_true] at e
  exact e.1

theorem F4.new (w : World) {P pl ph : Int} (e : pv P = .agg #[.int .i64 pl, .int .i64 ph]) :
    F4 ((((w.alloc (.cells #[.int .i64 pl, .int .i64 ph] 59)).alloc (.cells #[.int .i64 0, .int .i64 0] 59)).alloc (.cells #[.int .i64 0, .int .i64 0] 59)).alloc (.cells #[.int .i64 0, .int .i64 0] 59)) w.heap.size P 0 0 := by
  have h1 := PBlk.new w e
  have h2 := PBlk.new (w.alloc (.cells #[.int .i64 pl, .int .i64 ph] 59)) pv_zero
  have h3 := PBlk.new ((w.alloc (.cells #[.int .i64 pl, .int .i64 ph] 59)).alloc (.cells #[.int .i64 0, .int .i64 0] 59)) pv_zero
  have h4 := PBlk.new (((w.alloc (.cells #[.int .i64 pl, .int .i64 ph] 59)).alloc (.cells #[.int .i64 0, .int .i64 0] 59)).alloc (.cells #[.int .i64 0, .int .i64 0] 59)) pv_zero
  simp only [World.size_alloc] at h2 h3 h4
  exact ⟨h1.calm ((((Calm.refl _).alloc _).alloc _).alloc _), h2.calm (((Calm.refl _).alloc _).alloc _), h3.calm ((Calm.refl _).alloc _), h4⟩

set_option maxHeartbeats 8000000 in
theorem long_ok (P b : Int) (hP0 : 0 ≤ P) (hP1 : P < 340282366920938463463374607431768211456) (hb : C64 b) (hb0 : b ≠ 0) (w : World) :
    Calls Tryd.prog 70 #[pv P, .int .i64 b] w fun e w' => e = .returned (.tuple #[.int .i64 (wrap64 (P % (b % 18446744073709551616))), pv (P / (b % 18446744073709551616))]) ∧ Calm w w' := by
  have eb := pv_lo b hb
  have hbp : 0 < b % 18446744073709551616 := by obtain ⟨h1, h2⟩ := hb; omega
  have hbq : b % 18446744073709551616 < 18446744073709551616 := by omega
  generalize b % 18446744073709551616 = u at *
  obtain ⟨pl, ph, kp, -, -, ep, -⟩ := pv_split P
  have EP0 := Lib.hid ep
  have EB := Lib.hid eb
  rw [ep]
  clear ep eb hb hb0
  go_enter Tryd.func70, Tryd.ntmps70
  go_wp2_with fail
  have hF := F4.new w EP0.out
  have sw : Calm w ((((w.alloc (.cells #[.int .i64 pl, .int .i64 ph] 59)).alloc (.cells #[.int .i64 0, .int .i64 0] 59)).alloc (.cells #[.int .i64 0, .int .i64 0] 59)).alloc (.cells #[.int .i64 0, .int .i64 0] 59)) := ((((Calm.refl _).alloc _).alloc _).alloc _).alloc _
  generalize (((w.alloc (.cells #[.int .i64 pl, .int .i64 ph] 59)).alloc (.cells #[.int .i64 0, .int .i64 0] 59)).alloc (.cells #[.int .i64 0, .int .i64 0] 59)).alloc (.cells #[.int .i64 0, .int .i64 0] 59) = W0 at *
  go_loopg [8] 128 (fun g v wr => ∃ (n : Nat) (A B M : Int), g = n ∧ n ≤ 128 ∧ v = .int .i64 (128 - (n : Int)) ∧ P = A * 2 ^ n + B ∧ 0 ≤ A ∧ 0 ≤ B ∧ B < 2 ^ n ∧ 2 ^ n * M = 340282366920938463463374607431768211456 ∧ 0 < M ∧ F4 wr w.heap.size (B * M) (A % u) (A / u) ∧ Calm w wr)
  case atStart =>
    refine ⟨128, 0, P, 1, rfl, by omega, rfl, by omega, by omega, hP0, by simpa using hP1, by decide, by decide, ?_, sw⟩
    simpa using hF
  case round =>
    clear sw hF
    obtain ⟨n, A, B, M, hg, hn, rfl, hA, hA0, hB0, hB1, hM, hM0, hF, sw⟩ := hrel
    obtain ⟨xl, xh, -, -, -, ex, -⟩ := pv_split (B * M)
    obtain ⟨ll, lh, -, -, -, el, -⟩ := pv_split (A % u)
    obtain ⟨ql, qh, -, -, -, eq, -⟩ := pv_split (A / u)
    have HG := Lib.hid hg
    have EX := Lib.hid ex
    have EL := Lib.hid el
    have EQ := Lib.hid eq
    obtain ⟨⟨a0, a1, a2, a3⟩, ⟨b0, b1, b2, b3⟩, ⟨c0, c1, c2, c3⟩⟩ := hF.facts ex el eq
    rcases n with _ | k
    · have hz : B = 0 := by simp at hB1; omega
      have hAP : P = A := by rw [hA, hz]; simp
      have HAP := Lib.hid hAP
      obtain ⟨d0, d1, d2, d3⟩ := hF.2.1.cells pv_zero
      clear hg ex el eq hA hA0 hB0 hB1 hM hM0 hz hAP
      go_wp2_with fail
      go_region
      all_goals go_wp2
      all_goals (refine bodyPost_ret (v := .tuple #[.int .i64 ll, .agg #[.int .i64 ql, .int .i64 qh]]) (by simp [results, Tryd.results70, go_sem, World.cell?_setCell_same' _ _ _ (show (wr.cell? ⟨w.heap.size + 1, 0, none⟩).isSome = true by rw [d0]; rfl), d1]) rfl ⟨?_, (sw.set2 (by omega) _ _).drew⟩)
      all_goals rw [HAP.out, pv_fst EL.out, EQ.out]
    · obtain ⟨i, hi⟩ : ∃ i : Int, i = 128 - ((k + 1 : Nat) : Int) := ⟨_, rfl⟩
      have hi0 : 0 ≤ i := by omega
      have hi1 : i < 128 := by omega
      have hi2 : 128 - (k : Int) = i + 1 := by omega
      rw [← hi]
      have HI := Lib.hid hi2
      clear hi hi2
      have hK : (2 : Int) ^ (k + 1) = 2 * 2 ^ k := by rw [Int.pow_succ]; omega
      have hK0 : (0 : Int) < 2 ^ k := Int.pow_pos (by decide)
      rw [hK] at hA hB1 hM
      have htop := top_bit hK0 hA hB0 hB1 hM hM0 ex
      have hKM : 2 ^ k * 2 * M = 340282366920938463463374607431768211456 := by rw [Int.mul_comm (2 ^ k) 2]; exact hM
      have hAK : A * (2 * 2 ^ k) = 2 * A * 2 ^ k := by rw [← Int.mul_assoc, Int.mul_comm A 2]
      have hL0 : 0 ≤ A % u := Int.emod_nonneg _ (by omega)
      have hL1 : A % u < u := Int.emod_lt_of_pos _ hbp
      by_cases hmb : B < 2 ^ k
      · have hx : 0 ≤ xh := by
          rcases Int.lt_or_le xh 0 with h | h
          · have := htop.1 h; omega
          · exact h
        by_cases hc : 2 * (A % u) + 0 < u
        · have hXL := (long_step (A := A) (m := 0) hbp (.inl rfl)).1 (by omega)
          have hl : A % u + A % u = (2 * A + 0) % u := by rw [hXL.1]; omega
          have hq : A / u + A / u = (2 * A + 0) / u := by rw [hXL.2]; omega
          have hp : pv (B * M + B * M) = pv (B * (2 * M)) := by rw [Int.mul_left_comm B 2 M]; congr 1; omega
          have hall : P = (2 * A + 0) * 2 ^ k + (B) ∧ 0 ≤ 2 * A + 0 ∧ 0 ≤ B ∧ B < 2 ^ k ∧ 2 ^ k * (2 * M) = 340282366920938463463374607431768211456 ∧ 0 < 2 * M := ⟨by rw [hA, hAK, Int.add_mul]; omega, by omega, by omega, by omega, by rw [← Int.mul_assoc, hKM], by omega⟩
          have h29L := twiceR_calm (A % u)
          have h29P := twiceR_calm (B * M)
          have h29Q := twiceR_calm (A / u)
          obtain ⟨r1l, r1h, -, -, -, e1, -⟩ := pv_split (A % u + A % u)
          obtain ⟨rpl, rph, -, -, -, ep2, -⟩ := pv_split (B * M + B * M)
          obtain ⟨rql, rqh, -, -, -, eq2, -⟩ := pv_split (A / u + A / u)
          have E1 := Lib.hid e1
          have EP2 := Lib.hid ep2
          have EQ2 := Lib.hid eq2
          rw [el, e1] at h29L
          rw [ex, ep2] at h29P
          rw [eq, eq2] at h29Q
          have h33 := ulessR_ok (A % u + A % u) u
          rw [decide_eq_true (by omega), e1, EB.out] at h33
          have HL := Lib.hid hl
          have HQ := Lib.hid hq
          have HP := Lib.hid hp
          have HALL := Lib.hid hall
          clear hXL hl hq hp hall e1 ep2 eq2 ex el eq hA hA0 hB0 hB1 hM hM0 hKM hK hK0 hg hL0 hL1 hc hmb htop hAK
          go_wp2_with (first
          | (go_at_call 73; refine (h29L _).mono ?_; rintro e w1 ⟨rfl, s1⟩; replace hF := hF.calm s1; replace sw := sw.trans s1; obtain ⟨⟨a0, a1, a2, a3⟩, ⟨b0, b1, b2, b3⟩, ⟨c0, c1, c2, c3⟩⟩ := hF.facts EX.out EL.out EQ.out)
          | (go_at_call 73; refine (h29P _).mono ?_; rintro e w3 ⟨rfl, s3⟩; replace hF := (hF.setL E1.out).calm s3; replace sw := (sw.set2 (b := w.heap.size + 1 + 1) (by omega) _ _).trans s3; obtain ⟨⟨a0, a1, a2, a3⟩, ⟨b0, b1, b2, b3⟩, ⟨c0, c1, c2, c3⟩⟩ := hF.facts EX.out E1.out EQ.out)
          | (go_at_call 73; refine (h29Q _).mono ?_; rintro e w4 ⟨rfl, s4⟩; replace hF := (hF.setP EP2.out).calm s4; replace sw := (sw.set2 (b := w.heap.size) (by omega) _ _).trans s4; obtain ⟨⟨a0, a1, a2, a3⟩, ⟨b0, b1, b2, b3⟩, ⟨c0, c1, c2, c3⟩⟩ := hF.facts EP2.out E1.out EQ.out)
          | (go_at_call 74; refine (h33 _).mono ?_; rintro e w5 ⟨rfl, s5⟩; replace hF := (hF.setQ EQ2.out).calm s5; replace sw := (sw.set2 (b := w.heap.size + 1 + 1 + 1) (by omega) _ _).trans s5; obtain ⟨⟨a0, a1, a2, a3⟩, ⟨b0, b1, b2, b3⟩, ⟨c0, c1, c2, c3⟩⟩ := hF.facts EP2.out E1.out EQ2.out))
          go_roundg k
          case measure => rw [HG.out]; omega
          case rel => exact ⟨k, 2 * A + 0, B, 2 * M, rfl, by omega, by rw [HI.out], HALL.out.1, HALL.out.2.1, HALL.out.2.2.1, HALL.out.2.2.2.1, HALL.out.2.2.2.2.1, HALL.out.2.2.2.2.2, hF.to HP.out HL.out HQ.out, sw⟩
        · have hXL := (long_step (A := A) (m := 0) hbp (.inl rfl)).2 (by omega)
          have hl : A % u + A % u + -u = (2 * A + 0) % u := by rw [hXL.1]; omega
          have hq : A / u + A / u + 1 = (2 * A + 0) / u := by rw [hXL.2]; omega
          have hp : pv (B * M + B * M) = pv (B * (2 * M)) := by rw [Int.mul_left_comm B 2 M]; congr 1; omega
          have hall : P = (2 * A + 0) * 2 ^ k + (B) ∧ 0 ≤ 2 * A + 0 ∧ 0 ≤ B ∧ B < 2 ^ k ∧ 2 ^ k * (2 * M) = 340282366920938463463374607431768211456 ∧ 0 < 2 * M := ⟨by rw [hA, hAK, Int.add_mul]; omega, by omega, by omega, by omega, by rw [← Int.mul_assoc, hKM], by omega⟩
          have h29L := twiceR_calm (A % u)
          have h29P := twiceR_calm (B * M)
          have h29Q := twiceR_calm (A / u)
          obtain ⟨r1l, r1h, -, -, -, e1, -⟩ := pv_split (A % u + A % u)
          obtain ⟨rpl, rph, -, -, -, ep2, -⟩ := pv_split (B * M + B * M)
          obtain ⟨rql, rqh, -, -, -, eq2, -⟩ := pv_split (A / u + A / u)
          have E1 := Lib.hid e1
          have EP2 := Lib.hid ep2
          have EQ2 := Lib.hid eq2
          rw [el, e1] at h29L
          rw [ex, ep2] at h29P
          rw [eq, eq2] at h29Q
          have h33 := ulessR_ok (A % u + A % u) u
          rw [decide_eq_false (by omega), e1, EB.out] at h33
          have h28 := negR_calm u
          obtain ⟨nl, nh, -, -, -, en, -⟩ := pv_split (-u)
          have h27B := addR_calm (A % u + A % u) (-u)
          obtain ⟨r3l, r3h, -, -, -, e3, -⟩ := pv_split (A % u + A % u + -u)
          have E3 := Lib.hid e3
          have h27Q := addR_calm (A / u + A / u) 1
          obtain ⟨r4l, r4h, -, -, -, e4, -⟩ := pv_split (A / u + A / u + 1)
          have E4 := Lib.hid e4
          rw [EB.out, en] at h28
          rw [e1, en, e3] at h27B
          rw [eq2, pv_one, e4] at h27Q
          have HL := Lib.hid hl
          have HQ := Lib.hid hq
          have HP := Lib.hid hp
          have HALL := Lib.hid hall
          clear hXL hl hq hp hall e1 ep2 eq2 ex el eq hA hA0 hB0 hB1 hM hM0 hKM hK hK0 hg hL0 hL1 hc hmb htop hAK en e3 e4
          go_wp2_with (first
          | (go_at_call 73; refine (h29L _).mono ?_; rintro e w1 ⟨rfl, s1⟩; replace hF := hF.calm s1; replace sw := sw.trans s1; obtain ⟨⟨a0, a1, a2, a3⟩, ⟨b0, b1, b2, b3⟩, ⟨c0, c1, c2, c3⟩⟩ := hF.facts EX.out EL.out EQ.out)
          | (go_at_call 73; refine (h29P _).mono ?_; rintro e w3 ⟨rfl, s3⟩; replace hF := (hF.setL E1.out).calm s3; replace sw := (sw.set2 (b := w.heap.size + 1 + 1) (by omega) _ _).trans s3; obtain ⟨⟨a0, a1, a2, a3⟩, ⟨b0, b1, b2, b3⟩, ⟨c0, c1, c2, c3⟩⟩ := hF.facts EX.out E1.out EQ.out)
          | (go_at_call 73; refine (h29Q _).mono ?_; rintro e w4 ⟨rfl, s4⟩; replace hF := (hF.setP EP2.out).calm s4; replace sw := (sw.set2 (b := w.heap.size) (by omega) _ _).trans s4; obtain ⟨⟨a0, a1, a2, a3⟩, ⟨b0, b1, b2, b3⟩, ⟨c0, c1, c2, c3⟩⟩ := hF.facts EP2.out E1.out EQ.out)
          | (go_at_call 74; refine (h33 _).mono ?_; rintro e w5 ⟨rfl, s5⟩; replace hF := (hF.setQ EQ2.out).calm s5; replace sw := (sw.set2 (b := w.heap.size + 1 + 1 + 1) (by omega) _ _).trans s5; obtain ⟨⟨a0, a1, a2, a3⟩, ⟨b0, b1, b2, b3⟩, ⟨c0, c1, c2, c3⟩⟩ := hF.facts EP2.out E1.out EQ2.out))
          have sd : Calm w5 w5.drew := (Calm.refl _).drew
          replace hF := hF.calm sd
          replace sw := sw.trans sd
          obtain ⟨⟨a0, a1, a2, a3⟩, ⟨b0, b1, b2, b3⟩, ⟨c0, c1, c2, c3⟩⟩ := hF.facts EP2.out E1.out EQ2.out
          go_region_with
          (first
          | (go_at_call 36; refine (h28 _).mono ?_; rintro e w6 ⟨rfl, s6⟩; replace hF := hF.calm s6; replace sw := sw.trans s6; obtain ⟨⟨a0, a1, a2, a3⟩, ⟨b0, b1, b2, b3⟩, ⟨c0, c1, c2, c3⟩⟩ := hF.facts EP2.out E1.out EQ2.out)
          | (go_at_call 49; refine (h27B _).mono ?_; rintro e w7 ⟨rfl, s7⟩; replace hF := hF.calm s7; replace sw := sw.trans s7; obtain ⟨⟨a0, a1, a2, a3⟩, ⟨b0, b1, b2, b3⟩, ⟨c0, c1, c2, c3⟩⟩ := hF.facts EP2.out E1.out EQ2.out))
          all_goals go_wp2_with (first
          | (go_at_call 49; refine (h27Q _).mono ?_; rintro e w8 ⟨rfl, s8⟩; replace hF := ((hF.setL E3.out).calm (Calm.refl _).drew).calm s8; replace sw := ((sw.set2 (b := w.heap.size + 1 + 1) (by omega) _ _).drew).trans s8; obtain ⟨⟨a0, a1, a2, a3⟩, ⟨b0, b1, b2, b3⟩, ⟨c0, c1, c2, c3⟩⟩ := hF.facts EP2.out E3.out EQ2.out)
          | (go_at_call 49; refine (h27Q _).mono ?_; rintro e w8 ⟨rfl, s8⟩; replace hF := (hF.setL E3.out).calm s8; replace sw := (sw.set2 (b := w.heap.size + 1 + 1) (by omega) _ _).trans s8; obtain ⟨⟨a0, a1, a2, a3⟩, ⟨b0, b1, b2, b3⟩, ⟨c0, c1, c2, c3⟩⟩ := hF.facts EP2.out E3.out EQ2.out))
          all_goals go_roundg k
          all_goals first | (rw [HG.out]; omega) | exact ⟨k, 2 * A + 0, B, 2 * M, rfl, by omega, by rw [HI.out], HALL.out.1, HALL.out.2.1, HALL.out.2.2.1, HALL.out.2.2.2.1, HALL.out.2.2.2.2.1, HALL.out.2.2.2.2.2, (hF.setQ E4.out).to HP.out HL.out HQ.out, sw.set2 (by omega) _ _⟩
      · have hx : xh < 0 := htop.2 (by omega)
        by_cases hc : 2 * (A % u) + 1 < u
        · have hXL := (long_step (A := A) (m := 1) hbp (.inr rfl)).1 (by omega)
          have hl : A % u + A % u + 1 = (2 * A + 1) % u := by rw [hXL.1]; omega
          have hq : A / u + A / u = (2 * A + 1) / u := by rw [hXL.2]; omega
          have hp : pv (B * M + B * M) = pv ((B - 2 ^ k) * (2 * M)) := pv_mod (by rw [Int.sub_mul, Int.mul_left_comm B 2 M, ← Int.mul_assoc (2 ^ k) 2 M, hKM]; omega)
          have hall : P = (2 * A + 1) * 2 ^ k + (B - 2 ^ k) ∧ 0 ≤ 2 * A + 1 ∧ 0 ≤ B - 2 ^ k ∧ B - 2 ^ k < 2 ^ k ∧ 2 ^ k * (2 * M) = 340282366920938463463374607431768211456 ∧ 0 < 2 * M := ⟨by rw [hA, hAK, Int.add_mul]; omega, by omega, by omega, by omega, by rw [← Int.mul_assoc, hKM], by omega⟩
          have h29L := twiceR_calm (A % u)
          have h29P := twiceR_calm (B * M)
          have h29Q := twiceR_calm (A / u)
          obtain ⟨r1l, r1h, -, -, -, e1, -⟩ := pv_split (A % u + A % u)
          obtain ⟨rpl, rph, -, -, -, ep2, -⟩ := pv_split (B * M + B * M)
          obtain ⟨rql, rqh, -, -, -, eq2, -⟩ := pv_split (A / u + A / u)
          have E1 := Lib.hid e1
          have EP2 := Lib.hid ep2
          have EQ2 := Lib.hid eq2
          rw [el, e1] at h29L
          rw [ex, ep2] at h29P
          rw [eq, eq2] at h29Q
          have h27L := addR_calm (A % u + A % u) 1
          obtain ⟨r2l, r2h, -, -, -, e2, -⟩ := pv_split (A % u + A % u + 1)
          have E2 := Lib.hid e2
          rw [e1, pv_one, e2] at h27L
          have h33 := ulessR_ok (A % u + A % u + 1) u
          rw [decide_eq_true (by omega), e2, EB.out] at h33
          have HL := Lib.hid hl
          have HQ := Lib.hid hq
          have HP := Lib.hid hp
          have HALL := Lib.hid hall
          clear hXL hl hq hp hall e1 ep2 eq2 ex el eq hA hA0 hB0 hB1 hM hM0 hKM hK hK0 hg hL0 hL1 hc hmb htop hAK e2
          go_wp2_with (first
          | (go_at_call 73; refine (h29L _).mono ?_; rintro e w1 ⟨rfl, s1⟩; replace hF := hF.calm s1; replace sw := sw.trans s1; obtain ⟨⟨a0, a1, a2, a3⟩, ⟨b0, b1, b2, b3⟩, ⟨c0, c1, c2, c3⟩⟩ := hF.facts EX.out EL.out EQ.out)
          | (go_at_call 49; refine (h27L _).mono ?_; rintro e w2 ⟨rfl, s2⟩; replace hF := (hF.setL E1.out).calm s2; replace sw := (sw.set2 (b := w.heap.size + 1 + 1) (by omega) _ _).trans s2; obtain ⟨⟨a0, a1, a2, a3⟩, ⟨b0, b1, b2, b3⟩, ⟨c0, c1, c2, c3⟩⟩ := hF.facts EX.out E1.out EQ.out)
          | (go_at_call 73; refine (h29P _).mono ?_; rintro e w3 ⟨rfl, s3⟩; replace hF := (hF.setL E2.out).calm s3; replace sw := (sw.set2 (b := w.heap.size + 1 + 1) (by omega) _ _).trans s3; obtain ⟨⟨a0, a1, a2, a3⟩, ⟨b0, b1, b2, b3⟩, ⟨c0, c1, c2, c3⟩⟩ := hF.facts EX.out E2.out EQ.out)
          | (go_at_call 73; refine (h29Q _).mono ?_; rintro e w4 ⟨rfl, s4⟩; replace hF := (hF.setP EP2.out).calm s4; replace sw := (sw.set2 (b := w.heap.size) (by omega) _ _).trans s4; obtain ⟨⟨a0, a1, a2, a3⟩, ⟨b0, b1, b2, b3⟩, ⟨c0, c1, c2, c3⟩⟩ := hF.facts EP2.out E2.out EQ.out)
          | (go_at_call 74; refine (h33 _).mono ?_; rintro e w5 ⟨rfl, s5⟩; replace hF := (hF.setQ EQ2.out).calm s5; replace sw := (sw.set2 (b := w.heap.size + 1 + 1 + 1) (by omega) _ _).trans s5; obtain ⟨⟨a0, a1, a2, a3⟩, ⟨b0, b1, b2, b3⟩, ⟨c0, c1, c2, c3⟩⟩ := hF.facts EP2.out E2.out EQ2.out))
          go_roundg k
          case measure => rw [HG.out]; omega
          case rel => exact ⟨k, 2 * A + 1, B - 2 ^ k, 2 * M, rfl, by omega, by rw [HI.out], HALL.out.1, HALL.out.2.1, HALL.out.2.2.1, HALL.out.2.2.2.1, HALL.out.2.2.2.2.1, HALL.out.2.2.2.2.2, hF.to HP.out HL.out HQ.out, sw⟩
        · have hXL := (long_step (A := A) (m := 1) hbp (.inr rfl)).2 (by omega)
          have hl : A % u + A % u + 1 + -u = (2 * A + 1) % u := by rw [hXL.1]; omega
          have hq : A / u + A / u + 1 = (2 * A + 1) / u := by rw [hXL.2]; omega
          have hp : pv (B * M + B * M) = pv ((B - 2 ^ k) * (2 * M)) := pv_mod (by rw [Int.sub_mul, Int.mul_left_comm B 2 M, ← Int.mul_assoc (2 ^ k) 2 M, hKM]; omega)
          have hall : P = (2 * A + 1) * 2 ^ k + (B - 2 ^ k) ∧ 0 ≤ 2 * A + 1 ∧ 0 ≤ B - 2 ^ k ∧ B - 2 ^ k < 2 ^ k ∧ 2 ^ k * (2 * M) = 340282366920938463463374607431768211456 ∧ 0 < 2 * M := ⟨by rw [hA, hAK, Int.add_mul]; omega, by omega, by omega, by omega, by rw [← Int.mul_assoc, hKM], by omega⟩
          have h29L := twiceR_calm (A % u)
          have h29P := twiceR_calm (B * M)
          have h29Q := twiceR_calm (A / u)
          obtain ⟨r1l, r1h, -, -, -, e1, -⟩ := pv_split (A % u + A % u)
          obtain ⟨rpl, rph, -, -, -, ep2, -⟩ := pv_split (B * M + B * M)
          obtain ⟨rql, rqh, -, -, -, eq2, -⟩ := pv_split (A / u + A / u)
          have E1 := Lib.hid e1
          have EP2 := Lib.hid ep2
          have EQ2 := Lib.hid eq2
          rw [el, e1] at h29L
          rw [ex, ep2] at h29P
          rw [eq, eq2] at h29Q
          have h27L := addR_calm (A % u + A % u) 1
          obtain ⟨r2l, r2h, -, -, -, e2, -⟩ := pv_split (A % u + A % u + 1)
          have E2 := Lib.hid e2
          rw [e1, pv_one, e2] at h27L
          have h33 := ulessR_ok (A % u + A % u + 1) u
          rw [decide_eq_false (by omega), e2, EB.out] at h33
          have h28 := negR_calm u
          obtain ⟨nl, nh, -, -, -, en, -⟩ := pv_split (-u)
          have h27B := addR_calm (A % u + A % u + 1) (-u)
          obtain ⟨r3l, r3h, -, -, -, e3, -⟩ := pv_split (A % u + A % u + 1 + -u)
          have E3 := Lib.hid e3
          have h27Q := addR_calm (A / u + A / u) 1
          obtain ⟨r4l, r4h, -, -, -, e4, -⟩ := pv_split (A / u + A / u + 1)
          have E4 := Lib.hid e4
          rw [EB.out, en] at h28
          rw [e2, en, e3] at h27B
          rw [eq2, pv_one, e4] at h27Q
          have HL := Lib.hid hl
          have HQ := Lib.hid hq
          have HP := Lib.hid hp
          have HALL := Lib.hid hall
          clear hXL hl hq hp hall e1 ep2 eq2 ex el eq hA hA0 hB0 hB1 hM hM0 hKM hK hK0 hg hL0 hL1 hc hmb htop hAK e2 en e3 e4
          go_wp2_with (first
          | (go_at_call 73; refine (h29L _).mono ?_; rintro e w1 ⟨rfl, s1⟩; replace hF := hF.calm s1; replace sw := sw.trans s1; obtain ⟨⟨a0, a1, a2, a3⟩, ⟨b0, b1, b2, b3⟩, ⟨c0, c1, c2, c3⟩⟩ := hF.facts EX.out EL.out EQ.out)
          | (go_at_call 49; refine (h27L _).mono ?_; rintro e w2 ⟨rfl, s2⟩; replace hF := (hF.setL E1.out).calm s2; replace sw := (sw.set2 (b := w.heap.size + 1 + 1) (by omega) _ _).trans s2; obtain ⟨⟨a0, a1, a2, a3⟩, ⟨b0, b1, b2, b3⟩, ⟨c0, c1, c2, c3⟩⟩ := hF.facts EX.out E1.out EQ.out)
          | (go_at_call 73; refine (h29P _).mono ?_; rintro e w3 ⟨rfl, s3⟩; replace hF := (hF.setL E2.out).calm s3; replace sw := (sw.set2 (b := w.heap.size + 1 + 1) (by omega) _ _).trans s3; obtain ⟨⟨a0, a1, a2, a3⟩, ⟨b0, b1, b2, b3⟩, ⟨c0, c1, c2, c3⟩⟩ := hF.facts EX.out E2.out EQ.out)
          | (go_at_call 73; refine (h29Q _).mono ?_; rintro e w4 ⟨rfl, s4⟩; replace hF := (hF.setP EP2.out).calm s4; replace sw := (sw.set2 (b := w.heap.size) (by omega) _ _).trans s4; obtain ⟨⟨a0, a1, a2, a3⟩, ⟨b0, b1, b2, b3⟩, ⟨c0, c1, c2, c3⟩⟩ := hF.facts EP2.out E2.out EQ.out)
          | (go_at_call 74; refine (h33 _).mono ?_; rintro e w5 ⟨rfl, s5⟩; replace hF := (hF.setQ EQ2.out).calm s5; replace sw := (sw.set2 (b := w.heap.size + 1 + 1 + 1) (by omega) _ _).trans s5; obtain ⟨⟨a0, a1, a2, a3⟩, ⟨b0, b1, b2, b3⟩, ⟨c0, c1, c2, c3⟩⟩ := hF.facts EP2.out E2.out EQ2.out))
          have sd : Calm w5 w5.drew := (Calm.refl _).drew
          replace hF := hF.calm sd
          replace sw := sw.trans sd
          obtain ⟨⟨a0, a1, a2, a3⟩, ⟨b0, b1, b2, b3⟩, ⟨c0, c1, c2, c3⟩⟩ := hF.facts EP2.out E2.out EQ2.out
          go_region_with
          (first
          | (go_at_call 36; refine (h28 _).mono ?_; rintro e w6 ⟨rfl, s6⟩; replace hF := hF.calm s6; replace sw := sw.trans s6; obtain ⟨⟨a0, a1, a2, a3⟩, ⟨b0, b1, b2, b3⟩, ⟨c0, c1, c2, c3⟩⟩ := hF.facts EP2.out E2.out EQ2.out)
          | (go_at_call 49; refine (h27B _).mono ?_; rintro e w7 ⟨rfl, s7⟩; replace hF := hF.calm s7; replace sw := sw.trans s7; obtain ⟨⟨a0, a1, a2, a3⟩, ⟨b0, b1, b2, b3⟩, ⟨c0, c1, c2, c3⟩⟩ := hF.facts EP2.out E2.out EQ2.out))
          all_goals go_wp2_with (first
          | (go_at_call 49; refine (h27Q _).mono ?_; rintro e w8 ⟨rfl, s8⟩; replace hF := ((hF.setL E3.out).calm (Calm.refl _).drew).calm s8; replace sw := ((sw.set2 (b := w.heap.size + 1 + 1) (by omega) _ _).drew).trans s8; obtain ⟨⟨a0, a1, a2, a3⟩, ⟨b0, b1, b2, b3⟩, ⟨c0, c1, c2, c3⟩⟩ := hF.facts EP2.out E3.out EQ2.out)
          | (go_at_call 49; refine (h27Q _).mono ?_; rintro e w8 ⟨rfl, s8⟩; replace hF := (hF.setL E3.out).calm s8; replace sw := (sw.set2 (b := w.heap.size + 1 + 1) (by omega) _ _).trans s8; obtain ⟨⟨a0, a1, a2, a3⟩, ⟨b0, b1, b2, b3⟩, ⟨c0, c1, c2, c3⟩⟩ := hF.facts EP2.out E3.out EQ2.out))
          all_goals go_roundg k
          all_goals first | (rw [HG.out]; omega) | exact ⟨k, 2 * A + 1, B - 2 ^ k, 2 * M, rfl, by omega, by rw [HI.out], HALL.out.1, HALL.out.2.1, HALL.out.2.2.1, HALL.out.2.2.2.1, HALL.out.2.2.2.2.1, HALL.out.2.2.2.2.2, (hF.setQ E4.out).to HP.out HL.out HQ.out, sw.set2 (by omega) _ _⟩
end Go.Proofs.YtglchagfclafgaaDoor
