/- The functions of the pair layer: products. -/
import Derived.Test.YtfeeikhcdphcpaaPairB
import Derived.Lib.Mul64
namespace Go.Proofs.Ytfeeikhcdphcpaa
open Go Go.RowKit
set_option linter.unusedSimpArgs false
set_option linter.unusedVariables false

theorem nmask (a : Nat) (ha : a < 18446744073709551616) : bits .and .u64 (a : Int) 4294967295 = ((a % 4294967296 : Nat) : Int) := by
  have h := bits_and_u64_nat a 4294967295 ha (by omega)
  have e : a &&& 4294967295 = a % 4294967296 := Nat.and_two_pow_sub_one_eq_mod a 32
  rw [e] at h
  exact h
theorem ndiv (a : Nat) : (a : Int) / 4294967296 = ((a / 4294967296 : Nat) : Int) := by omega
theorem nmul (a b : Nat) : (a : Int) * (b : Int) = ((a * b : Nat) : Int) := (Int.natCast_mul a b).symm
theorem nadd (a b : Nat) : (a : Int) + (b : Int) = ((a + b : Nat) : Int) := (Int.natCast_add a b).symm
theorem nwrap (a : Nat) (ha : a < 18446744073709551616) : IntKind.u64.wrap (a : Int) = (a : Int) := by rw [IntKind.wrap_u64]; omega
theorem nwrapm (a : Nat) : IntKind.u64.wrap (a : Int) = ((a % 18446744073709551616 : Nat) : Int) := by rw [IntKind.wrap_u64]; omega

set_option maxHeartbeats 1000000 in
theorem mul64_ok (x y : Nat) (hx : x < 18446744073709551616) (hy : y < 18446744073709551616) (w : World) :
    Calls Try.prog 50 #[.int .u64 x, .int .u64 y] w fun e w' => e = .returned (.tuple #[.int .u64 ((x * y / 18446744073709551616 : Nat) : Int), .int .u64 ((x * y % 18446744073709551616 : Nat) : Int)]) ∧ w' = w := by
  obtain ⟨bd, bt, bw, hhi⟩ := Lib.mul64_hi x y hx hy
  have ba := Lib.half_mul_le (a := x / 4294967296) (b := y / 4294967296) (by omega) (by omega)
  have bb := Lib.half_mul_le (a := x / 4294967296) (b := y % 4294967296) (by omega) (by omega)
  have bc := Lib.half_mul_le (a := x % 4294967296) (b := y / 4294967296) (by omega) (by omega)
  have ba' : x / 4294967296 * (y / 4294967296) < 18446744073709551616 := by omega
  have bb' : x / 4294967296 * (y % 4294967296) < 18446744073709551616 := by omega
  have bc' : x % 4294967296 * (y / 4294967296) < 18446744073709551616 := by omega
  have bh1 : x / 4294967296 * (y / 4294967296) + (x / 4294967296 * (y % 4294967296) + x % 4294967296 * (y % 4294967296) / 4294967296) / 4294967296 < 18446744073709551616 := by omega
  have bh : x / 4294967296 * (y / 4294967296) + (x / 4294967296 * (y % 4294967296) + x % 4294967296 * (y % 4294967296) / 4294967296) / 4294967296 + ((x / 4294967296 * (y % 4294967296) + x % 4294967296 * (y % 4294967296) / 4294967296) % 4294967296 + x % 4294967296 * (y / 4294967296)) / 4294967296 < 18446744073709551616 := by omega
  have HH := Lib.hid hhi
  clear hhi
  go_enter Try.func50, Try.ntmps50
  go_wp2
  simp only [nmask x hx, nmask y hy, ndiv, nmul, nadd, nwrap _ bd, nwrap _ bb', nwrap _ bt, nmask _ bt, nwrap _ bc', nwrap _ bw, nwrap _ ba', nwrap _ bh1, nwrap _ bh, nwrapm (x * y)]
  rw [HH.out]
  go_ret2
  exact ⟨rfl, rfl⟩

theorem mul64_i (a b : Int) (w : World) :
    Calls Try.prog 50 #[.int .u64 (IntKind.u64.wrap a), .int .u64 (IntKind.u64.wrap b)] w fun e w' => e = .returned (.tuple #[.int .u64 ((a % 18446744073709551616) * (b % 18446744073709551616) / 18446744073709551616), .int .u64 ((a % 18446744073709551616) * (b % 18446744073709551616) % 18446744073709551616)]) ∧ w' = w := by
  rw [IntKind.wrap_u64, IntKind.wrap_u64]
  obtain ⟨x, hx⟩ := Int.eq_ofNat_of_zero_le (show 0 ≤ a % 18446744073709551616 by omega)
  obtain ⟨y, hy⟩ := Int.eq_ofNat_of_zero_le (show 0 ≤ b % 18446744073709551616 by omega)
  have := mul64_ok x y (by omega) (by omega) w
  rw [hx, hy]
  have e1 : ((x * y / 18446744073709551616 : Nat) : Int) = (x : Int) * y / 18446744073709551616 := by rw [← Int.natCast_mul]; omega
  have e2 : ((x * y % 18446744073709551616 : Nat) : Int) = (x : Int) * y % 18446744073709551616 := by rw [← Int.natCast_mul]; omega
  rw [← e1, ← e2]
  exact this

theorem umul_ok (a b : Int) (w : World) : Calls Try.prog 36 #[.int .i64 a, .int .i64 b] w fun e w' => e = .returned (pv ((a % 18446744073709551616) * (b % 18446744073709551616))) ∧ ∃ c1 c2, w' = (w.alloc (.cells c1 24)).alloc (.cells c2 24) := by
  have r : ∀ P : Int, pv P = .agg #[.int .i64 (wrap64 (P % 18446744073709551616)), .int .i64 (wrap64 (P / 18446744073709551616))] := fun P => pv_of (by unfold wrap64; omega) rfl
  rw [r]
  clear r
  go_enter Try.func36, Try.ntmps36
  go_wp2_with (first | (go_at_call 50; refine (mul64_i _ _ _).mono ?_; rintro e w1 ⟨rfl, rfl⟩) | (go_at_call 49; refine (made_ok _ _ _).mono ?_; rintro e w1 ⟨rfl, c, rfl⟩))
  simp [bodyPost, results, Try.results36, go_sem]
  exact ⟨_, _, rfl⟩

def sgm (a b : Int) : Int := if a < 0 then b else 0

theorem mul_hi {a b : Int} (ha : C64 a) (hb : C64 b) : ∃ k, a * b = (a % 18446744073709551616) * (b % 18446744073709551616) - 18446744073709551616 * (sgm a b + sgm b a) + k * 340282366920938463463374607431768211456 := by
  obtain ⟨a1, a2⟩ := ha
  obtain ⟨b1, b2⟩ := hb
  unfold sgm
  have ea : a % 18446744073709551616 = if a < 0 then a + 18446744073709551616 else a := by split <;> omega
  have eb : b % 18446744073709551616 = if b < 0 then b + 18446744073709551616 else b := by split <;> omega
  rw [ea, eb]
  by_cases h1 : a < 0 <;> by_cases h2 : b < 0 <;> simp only [h1, h2, if_true, if_false]
  · exact ⟨-1, by rw [Int.add_mul, Int.mul_add]; omega⟩
  · exact ⟨0, by rw [Int.add_mul]; omega⟩
  · exact ⟨0, by rw [Int.mul_add]; omega⟩
  · exact ⟨0, by omega⟩

/-! ### A pair that lies in a block -/
def PBlk (w : World) (b : Nat) (n : Int) : Prop := ∃ lo hi, pv n = .agg #[.int .i64 lo, .int .i64 hi] ∧ w.heap[b]? = some (.cells #[.int .i64 lo, .int .i64 hi] 24 (0, 0))

theorem PBlk.calm {w w' : World} {b : Nat} {n : Int} (h : PBlk w b n) (s : Calm w w') : PBlk w' b n := by
  obtain ⟨lo, hi, e, hb⟩ := h
  exact ⟨lo, hi, e, (s fun _ => 0).obj hb (by simp)⟩

theorem PBlk.lt {w : World} {b : Nat} {n : Int} (h : PBlk w b n) : b < w.heap.size := by
  obtain ⟨lo, hi, e, hb⟩ := h
  exact (Array.getElem?_eq_some_iff.1 hb).1

theorem PBlk.at {w : World} {b : Nat} {n lo hi : Int} (h : PBlk w b n) (e : pv n = .agg #[.int .i64 lo, .int .i64 hi]) : w.heap[b]? = some (.cells #[.int .i64 lo, .int .i64 hi] 24 (0, 0)) := by
  obtain ⟨lo', hi', e', hb⟩ := h
  rw [e] at e'
  simp only [Value.agg.injEq, Array.mk.injEq, List.cons.injEq, Value.int.injEq, true_and, and_true] at e'
  obtain ⟨rfl, rfl⟩ := e'
  exact hb

theorem PBlk.cells {w : World} {b : Nat} {n lo hi : Int} (h : PBlk w b n) (e : pv n = .agg #[.int .i64 lo, .int .i64 hi]) :
    w.cell? ⟨b, 0, none⟩ = some (.int .i64 lo) ∧ w.cell? ⟨b, 1, none⟩ = some (.int .i64 hi) ∧ w.frozen? ⟨b, 0, none⟩ = false ∧ w.frozen? ⟨b, 1, none⟩ = false := by
  have hb := h.at e
  simp [World.cell?, World.frozen?, hb]

theorem PBlk.set {w : World} {b : Nat} {n m lo hi : Int} (h : PBlk w b n) (e : pv m = .agg #[.int .i64 lo, .int .i64 hi]) : PBlk ((w.setCell ⟨b, 0, none⟩ (.int .i64 lo)).setCell ⟨b, 1, none⟩ (.int .i64 hi)) b m := by
  obtain ⟨lo', hi', e', hb⟩ := h
  refine ⟨lo, hi, e, ?_⟩
  rw [heap_setCell_same (heap_setCell_same hb _ _)]
  rfl

theorem PBlk.other {w : World} {b : Nat} {n : Int} (h : PBlk w b n) {c : Nat} (hc : b ≠ c) (k : Nat) (v : Value) : PBlk (w.setCell ⟨c, k, none⟩ v) b n := by
  obtain ⟨lo', hi', e', hb⟩ := h
  exact ⟨lo', hi', e', by rw [Below.heap_setCell _ _ _ _ hc]; exact hb⟩

theorem PBlk.other2 {w : World} {b : Nat} {n : Int} (h : PBlk w b n) {c : Nat} (hc : b ≠ c) (u v : Value) : PBlk ((w.setCell ⟨c, 0, none⟩ u).setCell ⟨c, 1, none⟩ v) b n := (h.other hc _ _).other hc _ _

theorem PBlk.new (w : World) {n lo hi : Int} (e : pv n = .agg #[.int .i64 lo, .int .i64 hi]) : PBlk (w.alloc (.cells #[.int .i64 lo, .int .i64 hi] 24)) w.heap.size n := ⟨lo, hi, e, heap_alloc_new _ _⟩

theorem Calm.set2 {w w' : World} (h : Calm w w') {b : Nat} (hb : w.heap.size ≤ b) (u v : Value) : Calm w ((w'.setCell ⟨b, 0, none⟩ u).setCell ⟨b, 1, none⟩ v) := (h.setCell (a := ⟨b, 0, none⟩) hb u).setCell (a := ⟨b, 1, none⟩) hb v
theorem pv_lo (b : Int) (hb : C64 b) : pv (b % 18446744073709551616) = .agg #[.int .i64 b, .int .i64 0] := by
  obtain ⟨h1, h2⟩ := hb
  exact pv_of (by unfold wrap64; omega) (by unfold wrap64; omega)

theorem addR_calm (a b : Int) (w : World) : Calls Try.prog 40 #[pv a, pv b] w fun e w' => e = .returned (pv (a + b)) ∧ Calm w w' := by
  refine (addR_ok a b w).mono ?_
  rintro e w' ⟨rfl, c1, c2, c3, rfl⟩
  exact ⟨rfl, (((Calm.refl _).alloc _).alloc _).alloc _⟩
theorem twiceR_calm (a : Int) (w : World) : Calls Try.prog 52 #[pv a] w fun e w' => e = .returned (pv (a + a)) ∧ Calm w w' := by
  refine (twiceR_ok a w).mono ?_
  rintro e w' ⟨rfl, c1, c2, c3, c4, c5, rfl⟩
  exact ⟨rfl, (((((Calm.refl _).alloc _).alloc _).alloc _).alloc _).alloc _⟩
theorem negR_calm (a : Int) (w : World) : Calls Try.prog 35 #[pv a] w fun e w' => e = .returned (pv (-a)) ∧ Calm w w' := by
  refine (negR_ok a w).mono ?_
  rintro e w' ⟨rfl, c1, c2, c3, c4, c5, rfl⟩
  exact ⟨rfl, (((((Calm.refl _).alloc _).alloc _).alloc _).alloc _).alloc _⟩

theorem bit_step (N : Int) (k : Nat) : N / 2 ^ k = 2 * (N / 2 ^ (k + 1)) + N / 2 ^ k % 2 := by
  rw [Int.pow_succ, ← Int.ediv_ediv_of_nonneg (Int.le_of_lt (Int.pow_pos (by decide)))]
  omega

set_option maxHeartbeats 4000000 in
theorem umulR_ok (a b : Int) (ha : C64 a) (hb : C64 b) (w : World) : Calls Try.prog 39 #[.int .i64 a, .int .i64 b] w fun e w' => e = .returned (pv ((a % 18446744073709551616) * (b % 18446744073709551616))) ∧ Calm w w' := by
  have eb := pv_lo b hb
  have ez : pv 0 = .agg #[.int .i64 0, .int .i64 0] := pv_of (by unfold wrap64; omega) (by unfold wrap64; omega)
  have hN1 : 0 ≤ IntKind.u64.wrap a := by rw [IntKind.wrap_u64]; omega
  have hN2 : IntKind.u64.wrap a < 18446744073709551616 := by rw [IntKind.wrap_u64]; omega
  rw [← IntKind.wrap_u64 a]
  generalize b % 18446744073709551616 = B at eb ⊢
  go_enter Try.func39, Try.ntmps39
  go_wp2_with fail
  generalize hNa : IntKind.u64.wrap a = N at *
  have HNa := Lib.hid hNa
  clear hNa
  have p0 : PBlk (w.alloc (.cells #[.int .i64 0, .int .i64 0] 24)) w.heap.size 0 := PBlk.new w ez
  have s0 : Calm (w.alloc (.cells #[.int .i64 0, .int .i64 0] 24)) ((w.alloc (.cells #[.int .i64 0, .int .i64 0] 24)).alloc (.cells #[.int .i64 0, .int .i64 0] 24)) := (Calm.refl _).alloc _
  have p1 : PBlk ((w.alloc (.cells #[.int .i64 0, .int .i64 0] 24)).alloc (.cells #[.int .i64 0, .int .i64 0] 24)) (w.heap.size + 1) 0 := by
    have := PBlk.new (w.alloc (.cells #[.int .i64 0, .int .i64 0] 24)) ez
    rwa [World.size_alloc] at this
  have q0 := p0.calm s0
  have sw : Calm w ((w.alloc (.cells #[.int .i64 0, .int .i64 0] 24)).alloc (.cells #[.int .i64 0, .int .i64 0] 24)) := ((Calm.refl _).alloc _).alloc _
  have EB := Lib.hid eb
  have EZ := Lib.hid ez
  clear eb ez p0 s0
  go_loopg [7] 64 (fun g v wr => ∃ n : Nat, g = n ∧ n ≤ 64 ∧ v = .int .i64 ((n : Int) - 1) ∧ PBlk wr (w.heap.size + 1) (N / 2 ^ n * B) ∧ PBlk wr w.heap.size 0 ∧ Calm w wr)
  case atStart =>
    refine ⟨64, rfl, by omega, rfl, ?_, q0, sw⟩
    rw [Int.ediv_eq_zero_of_lt hN1 (by simpa using hN2), Int.zero_mul]
    exact p1
  case round =>
    clear q0 sw p1
    obtain ⟨n, hg, hn, rfl, hp, hq, sw⟩ := hrel
    have HG := Lib.hid hg
    clear hg
    obtain ⟨lo, hi, eA, hbk⟩ := id hp
    obtain ⟨c0, c1, f0, f1⟩ := hp.cells eA
    obtain ⟨d0, d1, g0, g1⟩ := hq.cells EZ.out
    clear hbk
    rcases n with _ | k
    · have r : N / 2 ^ 0 * B = N * B := by simp
      rw [r] at eA
      have EA := Lib.hid eA
      clear eA r
      go_wp2
      refine bodyPost_ret (v := .agg #[.int .i64 lo, .int .i64 hi]) (by simp [results, Try.results39, go_sem, c0, c1, World.cell?_setCell_same' _ _ _ (show (wr.cell? ⟨w.heap.size, 0, none⟩).isSome = true by rw [d0]; rfl), d1]) rfl ⟨?_, sw.set2 (Nat.le_refl _) _ _⟩
      rw [HNa.out, EA.out]
    · rw [show ((k + 1 : Nat) : Int) - 1 = k by omega]
      have hk : (k : Int) < 64 := by omega
      have h29 := twiceR_calm (N / 2 ^ (k + 1) * B)
      obtain ⟨l2, h2, k2, _, _, e2, _⟩ := pv_split (N / 2 ^ (k + 1) * B + N / 2 ^ (k + 1) * B)
      rw [eA, e2] at h29
      have EA := Lib.hid eA
      have E2 := Lib.hid e2
      have hbs := bit_step N k
      rcases (show N / 2 ^ k % 2 = 0 ∨ N / 2 ^ k % 2 = 1 by omega) with hbit | hbit
      · have r : N / 2 ^ (k + 1) * B + N / 2 ^ (k + 1) * B = N / 2 ^ k * B := by
          rw [hbs, hbit, Int.add_zero, Int.mul_assoc]; omega
        have R := Lib.hid r
        have ht : (N / 2 ^ k).tmod 2 = 0 := by
          rw [Int.tmod_eq_emod_of_nonneg (Int.ediv_nonneg hN1 (Int.le_of_lt (Int.pow_pos (by decide))))]; exact hbit
        clear eA e2 r hbs hbit
        go_wp2_with (go_at_call 52; refine (h29 _).mono ?_; rintro e w1 ⟨rfl, s1⟩; have hp1 := hp.calm s1; have hq1 := hq.calm s1; obtain ⟨c0, c1, f0, f1⟩ := hp1.cells EA.out)
        go_roundg k
        case measure => rw [HG.out]; omega
        case rel => exact ⟨k, rfl, by omega, rfl, by rw [← R.out]; exact hp1.set E2.out, hq1.other2 (by omega) _ _, (sw.trans s1).set2 (by omega) _ _⟩
      · have r : N / 2 ^ (k + 1) * B + N / 2 ^ (k + 1) * B + B = N / 2 ^ k * B := by
          rw [hbs, hbit, Int.add_mul, Int.one_mul, Int.mul_assoc]; omega
        have h27 := addR_calm (N / 2 ^ (k + 1) * B + N / 2 ^ (k + 1) * B) B
        obtain ⟨l3, h3, k3, _, _, e3, _⟩ := pv_split (N / 2 ^ (k + 1) * B + N / 2 ^ (k + 1) * B + B)
        rw [e2, e3, EB.out] at h27
        have E3 := Lib.hid e3
        have R := Lib.hid r
        have ht : (N / 2 ^ k).tmod 2 = 1 := by
          rw [Int.tmod_eq_emod_of_nonneg (Int.ediv_nonneg hN1 (Int.le_of_lt (Int.pow_pos (by decide))))]; exact hbit
        clear eA e2 e3 r hbs hbit
        go_wp2_with (first
          | (go_at_call 52; refine (h29 _).mono ?_; rintro e w1 ⟨rfl, s1⟩; have hp1 := hp.calm s1; have hq1 := hq.calm s1; obtain ⟨c0, c1, f0, f1⟩ := hp1.cells EA.out)
          | (go_at_call 40; refine (h27 _).mono ?_; rintro e w2 ⟨rfl, s2⟩; have hp2 := (hp1.set E2.out).calm s2; have hq2 := (hq1.other2 (c := w.heap.size + 1) (by omega) _ _).calm s2; obtain ⟨c0, c1, f0, f1⟩ := hp2.cells E2.out))
        go_roundg k
        case measure => rw [HG.out]; omega
        case rel => exact ⟨k, rfl, by omega, rfl, by rw [← R.out]; exact hp2.set E3.out, hq2.other2 (by omega) _ _, (((sw.trans s1).set2 (by omega) _ _).trans s2).set2 (by omega) _ _⟩
end Go.Proofs.Ytfeeikhcdphcpaa
