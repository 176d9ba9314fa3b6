/- The functions of the pair layer: products. -/
import Derived.Test.YtglchagfclafgaaDoorPairB
import Derived.Lib.Mul64
namespace Go.Proofs.YtglchagfclafgaaDoor
open Go Go.RowKit
set_option linter.unusedSimpArgs false
set_option linter.unusedVariables false

theorem nmask (a : Nat) (ha : a < 18446744073709551616) : bits .and .u64 (a : Int) 4294967295 = ((a % 4294967296 : Nat) : Int) := by
  have h := bits_and_u64_nat a 4294967295 ha (by omega)
  have e : a &&& 4294967295 = a % 4294967296 := Nat.and_two_pow_sub_one_eq_mod a 32
  rw [e] at h
  exact h
theorem ndiv (a : Nat) : (a : Int) / 4294967296 = ((a / 4294967296 : Nat) : Int) := by omega
theorem nmul (a b : Nat) : (a : Int) * (b : Int) = ((a * b : Nat) : Int) := (Int.natCast_mul a b).symm
theorem nadd (a b : Nat) : (a : Int) + (b : Int) = ((a + b : Nat) : Int) := (Int.natCast_add a b).symm
theorem nwrap (a : Nat) (ha : a < 18446744073709551616) : IntKind.u64.wrap (a : Int) = (a : Int) := by rw [IntKind.wrap_u64]; omega
theorem nwrapm (a : Nat) : IntKind.u64.wrap (a : Int) = ((a % 18446744073709551616 : Nat) : Int) := by rw [IntKind.wrap_u64]; omega

set_option maxHeartbeats 1000000 in
theorem mul64_ok (x y : Nat) (hx : x < 18446744073709551616) (hy : y < 18446744073709551616) (w : World) :
    Calls Tryd.prog 38 #[.int .u64 x, .int .u64 y] w fun e w' => e = .returned (.tuple #[.int .u64 ((x * y / 18446744073709551616 : Nat) : Int), .int .u64 ((x * y % 18446744073709551616 : Nat) : Int)]) ∧ w' = w := by
  obtain ⟨bd, bt, bw, hhi⟩ := Lib.mul64_hi x y hx hy
  have ba := Lib.half_mul_le (a := x / 4294967296) (b := y / 4294967296) (by omega) (by omega)
  have bb := Lib.half_mul_le (a := x / 4294967296) (b := y % 4294967296) (by omega) (by omega)
  have bc := Lib.half_mul_le (a := x % 4294967296) (b := y / 4294967296) (by omega) (by omega)
  have ba' : x / 4294967296 * (y / 4294967296) < 18446744073709551616 := by omega
  have bb' : x / 4294967296 * (y % 4294967296) < 18446744073709551616 := by omega
  have bc' : x % 4294967296 * (y / 4294967296) < 18446744073709551616 := by omega
  have bh1 : x / 4294967296 * (y / 4294967296) + (x / 4294967296 * (y % 4294967296) + x % 4294967296 * (y % 4294967296) / 4294967296) / 4294967296 < 18446744073709551616 := by omega
  have bh : x / 4294967296 * (y / 4294967296) + (x / 4294967296 * (y % 4294967296) + x % 4294967296 * (y % 4294967296) / 4294967296) / 4294967296 + ((x / 4294967296 * (y % 4294967296) + x % 4294967296 * (y % 4294967296) / 4294967296) % 4294967296 + x % 4294967296 * (y / 4294967296)) / 4294967296 < 18446744073709551616 := by omega
  have HH := Lib.hid hhi
  clear hhi
  go_enter Tryd.func38, Tryd.ntmps38
  go_wp2
  simp only [nmask x hx, nmask y hy, ndiv, nmul, nadd, nwrap _ bd, nwrap _ bb', nwrap _ bt, nmask _ bt, nwrap _ bc', nwrap _ bw, nwrap _ ba', nwrap _ bh1, nwrap _ bh, nwrapm (x * y)]
  rw [HH.out]
  go_ret2
  exact ⟨rfl, rfl⟩

theorem mul64_i (a b : Int) (w : World) :
    Calls Tryd.prog 38 #[.int .u64 (IntKind.u64.wrap a), .int .u64 (IntKind.u64.wrap b)] w fun e w' => e = .returned (.tuple #[.int .u64 ((a % 18446744073709551616) * (b % 18446744073709551616) / 18446744073709551616), .int .u64 ((a % 18446744073709551616) * (b % 18446744073709551616) % 18446744073709551616)]) ∧ w' = w := by
  rw [IntKind.wrap_u64, IntKind.wrap_u64]
  obtain ⟨x, hx⟩ := Int.eq_ofNat_of_zero_le (show 0 ≤ a % 18446744073709551616 by omega)
  obtain ⟨y, hy⟩ := Int.eq_ofNat_of_zero_le (show 0 ≤ b % 18446744073709551616 by omega)
  have := mul64_ok x y (by omega) (by omega) w
  rw [hx, hy]
  have e1 : ((x * y / 18446744073709551616 : Nat) : Int) = (x : Int) * y / 18446744073709551616 := by rw [← Int.natCast_mul]; omega
  have e2 : ((x * y % 18446744073709551616 : Nat) : Int) = (x : Int) * y % 18446744073709551616 := by rw [← Int.natCast_mul]; omega
  rw [← e1, ← e2]
  exact this

def sgm (a b : Int) : Int := if a < 0 then b else 0

theorem mul_hi {a b : Int} (ha : C64 a) (hb : C64 b) : ∃ k, a * b = (a % 18446744073709551616) * (b % 18446744073709551616) - 18446744073709551616 * (sgm a b + sgm b a) + k * 340282366920938463463374607431768211456 := by
  obtain ⟨a1, a2⟩ := ha
  obtain ⟨b1, b2⟩ := hb
  unfold sgm
  have ea : a % 18446744073709551616 = if a < 0 then a + 18446744073709551616 else a := by split <;> omega
  have eb : b % 18446744073709551616 = if b < 0 then b + 18446744073709551616 else b := by split <;> omega
  rw [ea, eb]
  by_cases h1 : a < 0 <;> by_cases h2 : b < 0 <;> simp only [h1, h2, if_true, if_false]
  · exact ⟨-1, by rw [Int.add_mul, Int.mul_add]; omega⟩
  · exact ⟨0, by rw [Int.add_mul]; omega⟩
  · exact ⟨0, by rw [Int.mul_add]; omega⟩
  · exact ⟨0, by omega⟩

/-! ### A pair that lies in a block -/
def PBlk (w : World) (b : Nat) (n : Int) : Prop := ∃ lo hi, pv n = .agg #[.int .i64 lo, .int .i64 hi] ∧ w.heap[b]? = some (.cells #[.int .i64 lo, .int .i64 hi] 59 (0, 0))

theorem PBlk.calm {w w' : World} {b : Nat} {n : Int} (h : PBlk w b n) (s : Calm w w') : PBlk w' b n := by
  obtain ⟨lo, hi, e, hb⟩ := h
  exact ⟨lo, hi, e, (s fun _ => 0).obj hb (by simp)⟩

theorem PBlk.lt {w : World} {b : Nat} {n : Int} (h : PBlk w b n) : b < w.heap.size := by
  obtain ⟨lo, hi, e, hb⟩ := h
  exact (Array.getElem?_eq_some_iff.1 hb).1

theorem PBlk.at {w : World} {b : Nat} {n lo hi : Int} (h : PBlk w b n) (e : pv n = .agg #[.int .i64 lo, .int .i64 hi]) : w.heap[b]? = some (.cells #[.int .i64 lo, .int .i64 hi] 59 (0, 0)) := by
  obtain ⟨lo', hi', e', hb⟩ := h
  rw [e] at e'
  simp only [Value.agg.injEq, Array.mk.injEq, List.cons.injEq, Value.int.injEq, true_and, and_true] at e'
  obtain ⟨rfl, rfl⟩ := e'
  exact hb

theorem PBlk.cells {w : World} {b : Nat} {n lo hi : Int} (h : PBlk w b n) (e : pv n = .agg #[.int .i64 lo, .int .i64 hi]) :
    w.cell? ⟨b, 0, none⟩ = some (.int .i64 lo) ∧ w.cell? ⟨b, 1, none⟩ = some (.int .i64 hi) ∧ w.frozen? ⟨b, 0, none⟩ = false ∧ w.frozen? ⟨b, 1, none⟩ = false := by
  have hb := h.at e
  simp [World.cell?, World.frozen?, hb]

theorem PBlk.set {w : World} {b : Nat} {n m lo hi : Int} (h : PBlk w b n) (e : pv m = .agg #[.int .i64 lo, .int .i64 hi]) : PBlk ((w.setCell ⟨b, 0, none⟩ (.int .i64 lo)).setCell ⟨b, 1, none⟩ (.int .i64 hi)) b m := by
  obtain ⟨lo', hi', e', hb⟩ := h
  refine ⟨lo, hi, e, ?_⟩
  rw [heap_setCell_same (heap_setCell_same hb _ _)]
  rfl

theorem PBlk.other {w : World} {b : Nat} {n : Int} (h : PBlk w b n) {c : Nat} (hc : b ≠ c) (k : Nat) (v : Value) : PBlk (w.setCell ⟨c, k, none⟩ v) b n := by
  obtain ⟨lo', hi', e', hb⟩ := h
  exact ⟨lo', hi', e', by rw [Below.heap_setCell _ _ _ _ hc]; exact hb⟩

theorem PBlk.other2 {w : World} {b : Nat} {n : Int} (h : PBlk w b n) {c : Nat} (hc : b ≠ c) (u v : Value) : PBlk ((w.setCell ⟨c, 0, none⟩ u).setCell ⟨c, 1, none⟩ v) b n := (h.other hc _ _).other hc _ _

theorem PBlk.new (w : World) {n lo hi : Int} (e : pv n = .agg #[.int .i64 lo, .int .i64 hi]) : PBlk (w.alloc (.cells #[.int .i64 lo, .int .i64 hi] 59)) w.heap.size n := ⟨lo, hi, e, heap_alloc_new _ _⟩

theorem Calm.set2 {w w' : World} (h : Calm w w') {b : Nat} (hb : w.heap.size ≤ b) (u v : Value) : Calm w ((w'.setCell ⟨b, 0, none⟩ u).setCell ⟨b, 1, none⟩ v) := (h.setCell (a := ⟨b, 0, none⟩) hb u).setCell (a := ⟨b, 1, none⟩) hb v
theorem pv_lo (b : Int) (hb : C64 b) : pv (b % 18446744073709551616) = .agg #[.int .i64 b, .int .i64 0] := by
  obtain ⟨h1, h2⟩ := hb
  exact pv_of (by unfold wrap64; omega) (by unfold wrap64; omega)

theorem addR_calm (a b : Int) (w : World) : Calls Tryd.prog 49 #[pv a, pv b] w fun e w' => e = .returned (pv (a + b)) ∧ Calm w w' := by
  refine (addR_ok a b w).mono ?_
  rintro e w' ⟨rfl, c1, c2, c3, rfl⟩
  exact ⟨rfl, (((Calm.refl _).alloc _).alloc _).alloc _⟩
theorem twiceR_calm (a : Int) (w : World) : Calls Tryd.prog 73 #[pv a] w fun e w' => e = .returned (pv (a + a)) ∧ Calm w w' := by
  refine (twiceR_ok a w).mono ?_
  rintro e w' ⟨rfl, c1, c2, c3, c4, c5, rfl⟩
  exact ⟨rfl, (((((Calm.refl _).alloc _).alloc _).alloc _).alloc _).alloc _⟩
theorem negR_calm (a : Int) (w : World) : Calls Tryd.prog 36 #[pv a] w fun e w' => e = .returned (pv (-a)) ∧ Calm w w' := by
  refine (negR_ok a w).mono ?_
  rintro e w' ⟨rfl, c1, c2, c3, c4, c5, rfl⟩
  exact ⟨rfl, (((((Calm.refl _).alloc _).alloc _).alloc _).alloc _).alloc _⟩

theorem bit_step (N : Int) (k : Nat) : N / 2 ^ k = 2 * (N / 2 ^ (k + 1)) + N / 2 ^ k % 2 := by
  rw [Int.pow_succ, ← Int.ediv_ediv_of_nonneg (Int.le_of_lt (Int.pow_pos (by decide)))]
  omega

end Go.Proofs.YtglchagfclafgaaDoor
