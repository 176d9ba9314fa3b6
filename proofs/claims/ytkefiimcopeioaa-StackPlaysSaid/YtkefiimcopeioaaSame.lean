/- Same: are both rows of cells? -/
import Derived.Test.YtkefiimcopeioaaStkA
namespace Go.Proofs.Ytkefiimcopeioaa
open Go Go.RowKit
set_option linter.unusedSimpArgs false
set_option linter.unusedVariables false

def sameB (x y : List Int) : Bool := decide (x = y)

theorem Rd.cellInt {w : World} {o : Owner} {i n cap : Nat} {ao : Option Addr} {x : List Int} (h : Rd w o i 1 (.slice ao n cap) n (ints x)) (hn : 0 < n) : ∃ b off, ao = some ⟨b, off, none⟩ ∧ ∀ j (hj : j < x.length), w.cell? ⟨b, off + j, none⟩ = some (.int .i64 x[j]) := by
  obtain ⟨ao1, cap1, hv, h1, h2, h3, h4⟩ := h
  simp only [Value.slice.injEq, true_and] at hv
  obtain ⟨rfl, rfl⟩ := hv
  obtain ⟨b, off, ha, _, _, hc⟩ := h4 hn
  exact ⟨b, off, ha, fun j hj => hc j _ (by simp [ints, hj])⟩

theorem take_eq_succ {x y : List Int} {k : Nat} (h : x.take k = y.take k) (hx : k < x.length) (hy : k < y.length) (e : x[k] = y[k]) : x.take (k + 1) = y.take (k + 1) := by
  rw [List.take_add_one, List.take_add_one, h]
  simp [hx, hy, e]

theorem same_len {w : World} {o1 o2 : Owner} {i1 i2 : Nat} {v1 v2 : Value} {x y : List Int} (h1 : Rd w o1 i1 1 v1 x.length (ints x)) (h2 : Rd w o2 i2 1 v2 x.length (ints y)) (hl : x.length = y.length) :
    Calls Try.prog 15 #[v1, v2] w fun e w' => e = .returned (.bool (sameB x y)) ∧ ∃ n, w' = w.drewN n := by
  have l1 := h1.le
  unfold maxLen at l1
  obtain ⟨ao1, c1, rfl, p1, p2, p3, p4⟩ := id h1
  obtain ⟨ao2, c2, rfl, q1, q2, q3, q4⟩ := id h2
  have HL := Lib.hid hl
  clear hl p3 q3 p4 q4
  go_enter Try.func15, Try.ntmps15
  go_wp2
  go_loopw [5] (fun v wr => ∃ k : Nat, k ≤ x.length ∧ v = .int .i64 k ∧ x.take k = y.take k ∧ ∃ n, wr = w.drewN n) (fun v _ => x.length - (intOf v).toNat)
  case atStart => exact ⟨0, Nat.zero_le _, rfl, by simp, 0, rfl⟩
  case round =>
    obtain ⟨k, hk, rfl, ht, n, rfl⟩ := hrel
    have HT := Lib.hid ht
    clear ht
    by_cases hlt : k < x.length
    · obtain ⟨b, off, rfl, hc⟩ := h1.cellInt (by omega)
      obtain ⟨b', off', rfl, hc'⟩ := h2.cellInt (by omega)
      have e1 := hc k hlt
      have hlt' : k < y.length := by rw [← HL.out]; exact hlt
      have e2 := hc' k hlt'
      have hi : (k : Int) < x.length := by omega
      clear hc hc'
      by_cases he : x[k] = y[k]
      · have hb : (x[k] != y[k]) = false := by simp [he]
        have HT2 := Lib.hid (take_eq_succ HT.out hlt hlt' he)
        clear he
        go_wp2
        go_quiet (fail)
        go_wp2
        go_roundw
        case rel => exact ⟨k + 1, by omega, by go_num, HT2.out, _, rfl⟩
        case measure => simp [intOf]; omega
      · have hb : (x[k] != y[k]) = true := by simp [he]
        have hne : sameB x y = false := by
          rw [sameB, decide_eq_false_iff_not]
          rintro rfl
          exact he rfl
        have HN := Lib.hid hne
        clear he hne
        go_wp2
        go_quiet (fail)
        go_wp2
        go_ret
        exact ⟨by rw [HN.out]; rfl, _, World.drewN_drewN _ _ _⟩
    · have hs : sameB x y = true := by
        have := HT.out
        rw [List.take_of_length_le (by omega), List.take_of_length_le (by rw [← HL.out]; omega)] at this
        simp [sameB, this]
      have HN := Lib.hid hs
      clear hs
      go_wp2
      go_ret
      exact ⟨by rw [HN.out]; rfl, _, rfl⟩

theorem same_ok {w : World} {o1 o2 : Owner} {i1 i2 : Nat} {v1 v2 : Value} {x y : List Int} (h1 : Rd w o1 i1 1 v1 x.length (ints x)) (h2 : Rd w o2 i2 1 v2 y.length (ints y)) :
    Calls Try.prog 15 #[v1, v2] w fun e w' => e = .returned (.bool (sameB x y)) ∧ ∃ n, w' = w.drewN n := by
  by_cases hl : x.length = y.length
  · rw [← hl] at h2
    exact same_len h1 h2 hl
  · have hne : sameB x y = false := by
      rw [sameB, decide_eq_false_iff_not]
      rintro rfl
      exact hl rfl
    have hq : ((x.length : Int) != (y.length : Int)) = true := by rw [bne_iff_ne]; omega
    obtain ⟨ao1, c1, rfl, p1, p2, p3, p4⟩ := id h1
    obtain ⟨ao2, c2, rfl, q1, q2, q3, q4⟩ := id h2
    rw [hne]
    clear hl hne p4 q4
    go_enter Try.func15, Try.ntmps15
    go_wp2
    go_ret
    exact ⟨rfl, 0, rfl⟩

/-- The first m elements, as the laws take them. -/
theorem Rd.few {w : World} {o : Owner} {i n cap : Nat} {ao : Option Addr} {z : List Int} (h : Rd w o i 1 (.slice ao n cap) n (ints z)) (m : Nat) {M : Int} (hM : M = m) :
    ∃ x, x = z.take m ∧ min (n : Int) M = x.length ∧ x.length ≤ n ∧ x.length ≤ m ∧ (x.length : Int) ≤ cap ∧ Rd w o i 1 (.slice ao x.length cap) x.length (ints x) := by
  subst hM
  have h2 := h.len
  have hn : z.length = n := by simpa [ints] using h2
  obtain ⟨_, _, hv, hle, _⟩ := id h
  simp only [Value.slice.injEq, true_and] at hv
  obtain ⟨rfl, rfl⟩ := hv
  have h1 := h.slice (l := 0) (k := (z.take m).length) (Nat.zero_le _) (by simp; omega)
  refine ⟨z.take m, rfl, by simp; omega, by simp; omega, by simp; omega, by simp; omega, ?_⟩
  have e : (ints z).take ((z.take m).length * 1) = ints (z.take m) := by
    rw [ints, ints, List.map_take, Nat.mul_one, List.length_take]
    rcases Nat.le_total m z.length with hm | hm
    · rw [Nat.min_eq_left hm]
    · rw [Nat.min_eq_right hm, List.take_of_length_le (by simp), List.take_of_length_le (by simpa using hm)]
  rw [Nat.sub_zero, Nat.sub_zero, Nat.zero_mul, List.drop_zero, adr_zero, e] at h1
  exact h1

theorem Rd.pre {w : World} {o : Owner} {i cap : Nat} {ao : Option Addr} {x r : List Int} (h : Rd w o i 1 (.slice ao (x ++ r).length cap) (x ++ r).length (ints (x ++ r))) : Rd w o i 1 (.slice ao x.length cap) x.length (ints x) := by
  have h1 := h.slice (l := 0) (k := x.length) (Nat.zero_le _) (by simp)
  simpa [ints, List.map_append, List.take_append_of_le_length, List.take_of_length_le] using h1

theorem Rd.suf {w : World} {o : Owner} {i cap : Nat} {ao : Option Addr} {x r : List Int} (h : Rd w o i 1 (.slice ao (x ++ r).length cap) (x ++ r).length (ints (x ++ r))) : Rd w o i 1 (.slice (adr ao x.length cap 1) r.length (cap - x.length)) r.length (ints r) := by
  have h1 := h.slice (l := x.length) (k := (x ++ r).length) (by simp) (Nat.le_refl _)
  simpa [ints, List.map_append, List.take_of_length_le] using h1
end Go.Proofs.Ytkefiimcopeioaa
