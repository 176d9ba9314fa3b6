/- A minus cut off, a point cut off. -/
import Derived.Test.YtfeeikhcdphcpaaDigQ
import Derived.Lib.Strings
namespace Go.Proofs.Ytfeeikhcdphcpaa
open Go Go.RowKit
set_option linter.unusedSimpArgs false
set_option linter.unusedVariables false

def bl (l : List UInt8) : ByteArray := ⟨l.toArray⟩
theorem bl_lst (s : ByteArray) : bl (lst s) = s := Lib.mk_data s
theorem lst_bl (l : List UInt8) : lst (bl l) = l := rfl
theorem bl_size (l : List UInt8) : (bl l).size = l.length := by show (l.toArray).size = _; simp
theorem bl_ext (l : List UInt8) (a b : Nat) : (bl l).extract a b = bl ((l.drop a).take (b - a)) := by rw [Lib.extract_eq]; rfl
theorem bl_toList (l : List UInt8) : (bl l).toList = l := by rw [Lib.toList_data]; rfl

theorem pre_ok (c : UInt8) (l : List UInt8) (hl : l.length ≤ 9223372036854775807) (w : World) : Calls Try.prog 57 #[.string (bl l), .string ⟨#[c]⟩] w fun e w' => e = .returned (.bool (l.head? == some c)) ∧ w' = w := by
  obtain ⟨s, hs⟩ : ∃ s, bl l = s := ⟨_, rfl⟩
  have hsz : s.size = l.length := by rw [← hs, bl_size]
  have hx : (s.extract 0 1).toList = l.take 1 := by rw [← hs, bl_ext, bl_toList]; simp
  have h1 : (ByteArray.mk #[c]).size = 1 := rfl
  have h2 : (ByteArray.mk #[c]).toList = [c] := bl_toList [c]
  rw [hs]
  cases l with
  | nil =>
    have h0 : s.size = 0 := hsz
    clear hs hsz hx
    go_enter Try.func57, Try.ntmps57
    go_wp2
    go_ret
    exact ⟨rfl, rfl⟩
  | cons d r =>
    have h0 : (1 : Int) ≤ s.size := by rw [hsz, List.length_cons]; omega
    have hx2 : (s.extract 0 1).toList = [d] := by rw [hx]; rfl
    clear hs hsz hx
    go_enter Try.func57, Try.ntmps57
    go_wp2
    go_ret
    exact ⟨by simp, rfl⟩

theorem suf_ok (c : UInt8) (l : List UInt8) (hl : l.length ≤ 9223372036854775807) (w : World) : Calls Try.prog 58 #[.string (bl l), .string ⟨#[c]⟩] w fun e w' => e = .returned (.bool (l.getLast? == some c)) ∧ w' = w := by
  obtain ⟨s, hs⟩ : ∃ s, bl l = s := ⟨_, rfl⟩
  have hsz : s.size = l.length := by rw [← hs, bl_size]
  have hx : (s.extract (s.size - 1) s.size).toList = l.drop (l.length - 1) := by rw [hsz, ← hs, bl_ext, bl_toList, List.take_of_length_le]; simp
  have h1 : (ByteArray.mk #[c]).size = 1 := rfl
  have h2 : (ByteArray.mk #[c]).toList = [c] := bl_toList [c]
  rw [hs]
  rcases List.eq_nil_or_concat l with rfl | ⟨r, d, rfl⟩
  · have h0 : s.size = 0 := hsz
    clear hs hsz hx
    go_enter Try.func58, Try.ntmps58
    go_wp2
    go_ret
    exact ⟨rfl, rfl⟩
  · have h0 : (1 : Int) ≤ s.size := by rw [hsz]; simp; omega
    have hx2 : (s.extract (s.size - 1) s.size).toList = [d] := by rw [hx]; simp
    have hm : s.size ≤ 9223372036854775807 := by rw [hsz]; exact hl
    have hn : ((s.size : Int) - 1).toNat = s.size - 1 := by omega
    clear hs hsz hx
    go_enter Try.func58, Try.ntmps58
    go_wp2
    go_ret
    exact ⟨by simp, rfl⟩

theorem lcutpre_ok (c : UInt8) (l : List UInt8) (hl : l.length ≤ 9223372036854775807) (w : World) : Calls Try.prog 53 #[.string (bl l), .string ⟨#[c]⟩] w fun e w' => e = .returned (.tuple #[.string (bl (if l.head? == some c then l.tail else l)), .bool (l.head? == some c)]) ∧ w' = w := by
  have hp := pre_ok c l hl
  have h1 : (ByteArray.mk #[c]).size = 1 := rfl
  cases hB : (l.head? == some c) with
  | false =>
    rw [hB] at hp
    rw [if_neg Bool.false_ne_true]
    go_enter Try.func53, Try.ntmps53
    go_wp2_with (go_at_call 57; refine (hp _).mono ?_; rintro e w1 ⟨rfl, rfl⟩)
    go_ret2
    exact ⟨rfl, rfl⟩
  | true =>
    rw [hB] at hp
    rw [if_pos rfl]
    have hne : 1 ≤ l.length := by cases l with | nil => simp at hB | cons a b => simp
    have hx : (bl l).extract 1 (bl l).size = bl l.tail := by rw [bl_ext, bl_size, List.take_of_length_le (by simp)]; simp
    have h0 : (1 : Int) ≤ (bl l).size := by rw [bl_size]; omega
    generalize bl l.tail = t at *
    generalize bl l = s at *
    go_enter Try.func53, Try.ntmps53
    go_wp2_with (go_at_call 57; refine (hp _).mono ?_; rintro e w1 ⟨rfl, rfl⟩)
    go_ret2
    exact ⟨rfl, rfl⟩
theorem cutpre_ok (c : UInt8) (l : List UInt8) (hl : l.length ≤ 9223372036854775807) (w : World) : Calls Try.prog 42 #[.string (bl l), .string ⟨#[c]⟩] w fun e w' => e = .returned (.tuple #[.string (bl (if l.head? == some c then l.tail else l)), .bool (l.head? == some c)]) ∧ w' = w := by
  have hp := lcutpre_ok c l hl
  generalize bl (if l.head? == some c then l.tail else l) = T at *
  generalize (l.head? == some c) = B at *
  go_enter Try.func42, Try.ntmps42
  go_wp2_with (go_at_call 53; refine (hp _).mono ?_; rintro e w1 ⟨rfl, rfl⟩)
  go_ret2
  exact ⟨rfl, rfl⟩
theorem lcutsuf_ok (c : UInt8) (l : List UInt8) (hl : l.length ≤ 9223372036854775807) (w : World) : Calls Try.prog 54 #[.string (bl l), .string ⟨#[c]⟩] w fun e w' => e = .returned (.tuple #[.string (bl (if l.getLast? == some c then l.dropLast else l)), .bool (l.getLast? == some c)]) ∧ w' = w := by
  have hp := suf_ok c l hl
  have h1 : (ByteArray.mk #[c]).size = 1 := rfl
  cases hB : (l.getLast? == some c) with
  | false =>
    rw [hB] at hp
    rw [if_neg Bool.false_ne_true]
    go_enter Try.func54, Try.ntmps54
    go_wp2_with (go_at_call 58; refine (hp _).mono ?_; rintro e w1 ⟨rfl, rfl⟩)
    go_ret2
    exact ⟨rfl, rfl⟩
  | true =>
    rw [hB] at hp
    rw [if_pos rfl]
    have hne : 1 ≤ l.length := by cases l with | nil => simp at hB | cons a b => simp
    have hn : ((bl l).size : Int) - 1 = ((l.length - 1 : Nat) : Int) := by rw [bl_size]; omega
    have hx : (bl l).extract 0 (l.length - 1) = bl l.dropLast := by rw [bl_ext]; simp [List.dropLast_eq_take]
    have h0 : ((l.length - 1 : Nat) : Int) ≤ (bl l).size := by rw [bl_size]; omega
    have hm : (bl l).size ≤ 9223372036854775807 := by rw [bl_size]; exact hl
    have h9 : (1 : Int) ≤ (bl l).size := by rw [bl_size]; omega
    generalize bl l.dropLast = t at *
    generalize bl l = s at *
    generalize l.length - 1 = k at *
    have hk : ((s.size : Int) - 1).toNat = k := by omega
    go_enter Try.func54, Try.ntmps54
    go_wp2_with (go_at_call 58; refine (hp _).mono ?_; rintro e w1 ⟨rfl, rfl⟩)
    go_ret2
    exact ⟨rfl, rfl⟩
theorem cutsuf_ok (c : UInt8) (l : List UInt8) (hl : l.length ≤ 9223372036854775807) (w : World) : Calls Try.prog 43 #[.string (bl l), .string ⟨#[c]⟩] w fun e w' => e = .returned (.tuple #[.string (bl (if l.getLast? == some c then l.dropLast else l)), .bool (l.getLast? == some c)]) ∧ w' = w := by
  have hp := lcutsuf_ok c l hl
  generalize bl (if l.getLast? == some c then l.dropLast else l) = T at *
  generalize (l.getLast? == some c) = B at *
  go_enter Try.func43, Try.ntmps43
  go_wp2_with (go_at_call 54; refine (hp _).mono ?_; rintro e w1 ⟨rfl, rfl⟩)
  go_ret2
  exact ⟨rfl, rfl⟩
end Go.Proofs.Ytfeeikhcdphcpaa
