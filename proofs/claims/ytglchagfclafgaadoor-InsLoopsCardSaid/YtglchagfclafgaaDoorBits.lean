/- Laws of single bits that the pair layer needs: sign bits, masks of all ones, halves that do not meet. -/
import Derived.Test.YtglchagfclafgaaDoorNum
import Derived.Laws.Bits64b
namespace Go.Proofs.YtglchagfclafgaaDoor
open Go Go.RowKit
set_option linter.unusedSimpArgs false
set_option linter.unusedVariables false

theorem ofInt_toNat (x : Int) : (BitVec.ofInt 64 x).toNat = (x % 18446744073709551616).toNat := by
  rw [BitVec.toNat_ofInt]
  rfl

theorem wrap_toNat (v : BitVec 64) : IntKind.i64.wrap (v.toNat : Int) = v.toInt := by
  rw [IntKind.wrap_i64, BitVec.toInt_eq_toNat_cond]
  have := v.isLt
  split <;> omega

theorem toInt_ofInt64 {x : Int} (h : C64 x) : (BitVec.ofInt 64 x).toInt = x := by
  obtain ⟨h1, h2⟩ := h
  rw [← wrap_toNat, ofInt_toNat, IntKind.wrap_i64]
  omega

theorem and_zero_i64 (b : Int) : bits .and .i64 0 b = 0 := by
  show IntKind.i64.wrap ((BitVec.ofInt 64 0 &&& BitVec.ofInt 64 b).toNat : Int) = 0
  rw [show BitVec.ofInt 64 0 = 0#64 from rfl, BitVec.zero_and]
  rfl

theorem and_ones_i64 {b : Int} (h : C64 b) : bits .and .i64 (-1) b = b := by
  show IntKind.i64.wrap ((BitVec.ofInt 64 (-1) &&& BitVec.ofInt 64 b).toNat : Int) = b
  rw [show BitVec.ofInt 64 (-1) = BitVec.allOnes 64 from rfl, BitVec.allOnes_and, wrap_toNat, toInt_ofInt64 h]

/-- a >> 63 & b. -/
theorem and_sign {a b : Int} (ha : C64 a) (hb : C64 b) : bits .and .i64 (a / 9223372036854775808) b = if a < 0 then b else 0 := by
  obtain ⟨h1, h2⟩ := ha
  by_cases h : a < 0
  · rw [if_pos h, show a / 9223372036854775808 = -1 by omega, and_ones_i64 hb]
  · rw [if_neg h, show a / 9223372036854775808 = 0 by omega, and_zero_i64]

theorem nat_xor_top {m : Nat} (h : m < 2 ^ 63) : m ^^^ 2 ^ 63 = m + 2 ^ 63 := by
  have e : 2 ^ 63 * 1 + m = 2 ^ 63 * 1 ||| m := Nat.two_pow_add_eq_or_of_lt h 1
  rw [Nat.mul_one] at e
  rw [Nat.add_comm m, e]
  apply Nat.eq_of_testBit_eq
  intro i
  rw [Nat.testBit_xor, Nat.testBit_or, Nat.testBit_two_pow]
  by_cases hi : 63 = i
  · subst hi
    rw [Nat.testBit_lt_two_pow h]
    simp
  · simp [hi]

/-- The sign bit turned. -/
theorem xor_top {a : Int} (h : C64 a) : bits .xor .i64 a (-9223372036854775808) = if a < 0 then a + 9223372036854775808 else a - 9223372036854775808 := by
  obtain ⟨h1, h2⟩ := h
  show IntKind.i64.wrap ((BitVec.ofInt 64 a ^^^ BitVec.ofInt 64 (-9223372036854775808)).toNat : Int) = _
  rw [BitVec.toNat_xor, show (BitVec.ofInt 64 (-9223372036854775808)).toNat = 2 ^ 63 from rfl, ofInt_toNat]
  by_cases hn : a < 0
  · rw [if_pos hn]
    have e : (a % 18446744073709551616).toNat = (a + 9223372036854775808).toNat ^^^ 2 ^ 63 := by
      rw [nat_xor_top (by omega)]; omega
    rw [e, Nat.xor_assoc, Nat.xor_self, Nat.xor_zero, IntKind.wrap_i64]
    omega
  · rw [if_neg hn, nat_xor_top (by omega), IntKind.wrap_i64]
    omega

/-- The sign of an exclusive or. -/
theorem xor_neg {a b : Int} (ha : C64 a) (hb : C64 b) : (bits .xor .i64 a b < 0) ↔ ((a < 0) ≠ (b < 0)) := by
  show (IntKind.i64.wrap ((BitVec.ofInt 64 a ^^^ BitVec.ofInt 64 b).toNat : Int) < 0) ↔ _
  rw [wrap_toNat]
  have h := BitVec.msb_xor (x := BitVec.ofInt 64 a) (y := BitVec.ofInt 64 b)
  rw [BitVec.msb_eq_toInt, BitVec.msb_eq_toInt, BitVec.msb_eq_toInt, toInt_ofInt64 ha, toInt_ofInt64 hb] at h
  by_cases h1 : a < 0 <;> by_cases h2 : b < 0 <;> simp [h1, h2] at h ⊢ <;> omega

theorem or_comm_bits (k : IntKind) (a b : Int) : bits .or k a b = bits .or k b a := by
  show k.wrap ((BitVec.ofInt k.bits a ||| BitVec.ofInt k.bits b).toNat : Int) = k.wrap ((BitVec.ofInt k.bits b ||| BitVec.ofInt k.bits a).toNat : Int)
  rw [BitVec.or_comm]

theorem or_join_u64 {x y : Int} (i : Nat) (hi : i ≤ 64) (hx0 : 0 ≤ x) (hx1 : x < 18446744073709551616) (hx : x % 2 ^ i = 0) (hy0 : 0 ≤ y) (hy : y < 2 ^ i) : bits .or .u64 x y = x + y := by
  refine bits_join .u64 64 (by decide) (fun n h1 h2 => ?_) i x y hx0 hx (by omega) hy0 hy ?_
  · rw [IntKind.wrap_u64]; omega
  · refine Int.lt_of_lt_of_le hy ?_
    have : (2 : Nat) ^ i ≤ 2 ^ 64 := Nat.pow_le_pow_right (by decide) hi
    exact_mod_cast this

theorem or_bit_i64 {x y : Int} (h : C64 x) (hx : x % 2 = 0) (hy : y = 0 ∨ y = 1) : bits .or .i64 x y = x + y := by
  obtain ⟨h1, h2⟩ := h
  show IntKind.i64.wrap ((BitVec.ofInt 64 x ||| BitVec.ofInt 64 y).toNat : Int) = _
  rw [BitVec.toNat_or, ofInt_toNat, ofInt_toNat]
  rcases hy with rfl | rfl
  · rw [show ((0 : Int) % 18446744073709551616).toNat = 0 from rfl, Nat.or_zero, IntKind.wrap_i64]
    omega
  · have e : (x % 18446744073709551616).toNat = 2 ^ 1 * ((x % 18446744073709551616).toNat / 2) := by omega
    rw [show ((1 : Int) % 18446744073709551616).toNat = 1 from rfl, e, ← Nat.two_pow_add_eq_or_of_lt (by decide : 1 < 2 ^ 1), IntKind.wrap_i64]
    omega
end Go.Proofs.YtglchagfclafgaaDoor
