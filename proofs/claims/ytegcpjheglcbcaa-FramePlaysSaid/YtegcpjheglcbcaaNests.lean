/- FrameNests: the walk. -/
import Derived.Test.YtegcpjheglcbcaaLoops
namespace Go.Proofs.Ytegcpjheglcbcaa
open Go Go.RowKit Go.Shelf
set_option linter.unusedSimpArgs false
set_option linter.unusedVariables false

abbrev ints (l : List Int) : List Value := l.map (Value.int .i64)
def I64 (x : Int) : Prop := -9223372036854775808 ≤ x ∧ x ≤ 9223372036854775807

theorem Rd.cellInt {w : World} {o : Owner} {i n cap : Nat} {ao : Option Addr} {x : List Int} (h : Rd w o i 1 (.slice ao n cap) n (ints x)) (hn : 0 < n) : ∃ b off, ao = some ⟨b, off, none⟩ ∧ ∀ j (hj : j < x.length), w.cell? ⟨b, off + j, none⟩ = some (.int .i64 x[j]) := by
  obtain ⟨ao1, cap1, hv, h1, h2, h3, h4⟩ := h
  simp only [Value.slice.injEq, true_and] at hv
  obtain ⟨rfl, rfl⟩ := hv
  obtain ⟨b, off, ha, _, _, hc⟩ := h4 hn
  exact ⟨b, off, ha, fun j hj => hc j _ (by simp [ints, hj])⟩

/-- The first m elements, as the laws take them. -/
theorem Rd.few {w : World} {o : Owner} {i n cap : Nat} {ao : Option Addr} {z : List Int} (h : Rd w o i 1 (.slice ao n cap) n (ints z)) (m : Nat) {M : Int} (hM : M = m) :
    ∃ x, x = z.take m ∧ min (n : Int) M = x.length ∧ x.length ≤ n ∧ x.length ≤ m ∧ (x.length : Int) ≤ cap ∧ Rd w o i 1 (.slice ao x.length cap) x.length (ints x) := by
  subst hM
  have h2 := h.len
  have hn : z.length = n := by simpa [ints] using h2
  obtain ⟨_, _, hv, hle, _⟩ := id h
  simp only [Value.slice.injEq, true_and] at hv
  obtain ⟨rfl, rfl⟩ := hv
  have h1 := h.slice (l := 0) (k := (z.take m).length) (Nat.zero_le _) (by simp; omega)
  refine ⟨z.take m, rfl, by simp; omega, by simp; omega, by simp; omega, by simp; omega, ?_⟩
  have e : (ints z).take ((z.take m).length * 1) = ints (z.take m) := by
    rw [ints, ints, List.map_take, Nat.mul_one, List.length_take]
    rcases Nat.le_total m z.length with hm | hm
    · rw [Nat.min_eq_left hm]
    · rw [Nat.min_eq_right hm, List.take_of_length_le (by simp), List.take_of_length_le (by simpa using hm)]
  rw [Nat.sub_zero, Nat.sub_zero, Nat.zero_mul, List.drop_zero, adr_zero, e] at h1
  exact h1

/-- A loop within a loop .. -/
def nest (x : List Int) : List Fr := x.map fun c => L1 c c
theorem nest_len (x : List Int) : (nest x).length = x.length := by simp [nest]
theorem nest_snoc (y : List Int) (c : Int) : nest (y ++ [c]) = nest y ++ [L1 c c] := by simp [nest]
theorem nest_k (fs : List Fr) (h : ∀ f ∈ fs, f.k = 3) (j : Nat) (hj : j < fs.length) : kfs fs j = 3 := by
  simp only [kfs, List.getElem?_eq_getElem hj, Option.getD_some]
  exact h _ (List.getElem_mem hj)

theorem index_in {w : World} {o : Owner} {i b : Nat} {fs : List Fr} (hs : FStk w o i b fs) (hall : ∀ f ∈ fs, f.k = 3) (j : Nat) (hj : j < fs.length) :
    Calls Try.prog 14 #[.pointer (some ⟨b, 0, none⟩), .int .i64 j] w fun e w' => e = .returned (.tuple #[.int .i64 (fs[fs.length - 1 - j]'(by omega)).x, .int .i64 0]) ∧ Step [] w o w' o := by
  have h128 := hs.1
  refine (index_ok hs j ⟨by omega, by omega⟩).mono ?_
  rintro e w' ⟨⟨_, rfl⟩ | ⟨h, _⟩, s⟩
  · refine ⟨?_, s⟩
    have e1 : ((j : Int)).toNat = j := by omega
    rw [e1]
    simp only [xfs, List.getElem?_eq_getElem (show fs.length - 1 - j < fs.length by omega), Option.getD_some]
  · exact absurd ⟨by omega, by omega, fun i hi => nest_k fs hall _ (by omega)⟩ h

theorem index_out {w : World} {o : Owner} {i b : Nat} {fs : List Fr} (hs : FStk w o i b fs) (outer : Int) (ho : outer = -1 ∨ outer = fs.length) :
    Calls Try.prog 14 #[.pointer (some ⟨b, 0, none⟩), .int .i64 outer] w fun e w' => e = .returned (.tuple #[.int .i64 0, .int .i64 (-26)]) ∧ Step [] w o w' o := by
  have h128 := hs.1
  refine (index_ok hs outer ⟨by omega, by omega⟩).mono ?_
  rintro e w' ⟨⟨h, _⟩ | ⟨_, rfl⟩, s⟩
  · obtain ⟨h1, h2, _⟩ := h
    omega
  · exact ⟨rfl, s⟩

theorem nest_all (x : List Int) : ∀ f ∈ nest x, f.k = 3 := by
  intro f hf
  simp only [nest, List.mem_map] at hf
  obtain ⟨c, _, rfl⟩ := hf
  rfl

theorem nest_index {w : World} {o : Owner} {i b : Nat} {x : List Int} (hs : FStk w o i b (nest x)) (j k : Nat) (hk : k + j + 1 = x.length) :
    Calls Try.prog 14 #[.pointer (some ⟨b, 0, none⟩), .int .i64 j] w fun e w' => e = .returned (.tuple #[.int .i64 (x[k]'(by omega)), .int .i64 0]) ∧ Step [] w o w' o := by
  have h := index_in hs (nest_all x) j (by rw [nest_len]; omega)
  have e1 : (nest x).length - 1 - j = k := by rw [nest_len]; omega
  simp only [e1] at h
  have e2 : ((nest x)[k]'(by rw [nest_len]; omega)).x = x[k]'(by omega) := by simp [nest]
  rw [e2] at h
  exact h

theorem nest_end (c by_ : Int) (h : I64 by_) : endF c c by_ = decide (by_ < 0) := by
  obtain ⟨h1, h2⟩ := h
  have e0 : wrap64 (c - c) = 0 := by unfold wrap64; omega
  have e1 : wrap64 (0 + by_) = by_ := by unfold wrap64; omega
  unfold endF
  rw [e0, e1]
  by_cases hb : by_ < 0
  · simp [hb, show ¬ 0 ≤ by_ by omega]
  · simp [hb, show 0 ≤ by_ by omega]

theorem nest_step {w : World} {o : Owner} {i b : Nat} {y : List Int} {c : Int} (hs : FStk w o i b (nest (y ++ [c]))) (by_ : Int) (h : I64 by_) :
    Calls Try.prog 15 #[.pointer (some ⟨b, 0, none⟩), .int .i64 by_] w fun e w' => ∃ o', e = .returned (.tuple #[.bool (decide (by_ < 0)), .int .i64 0]) ∧ FStk w' o' i b (if by_ < 0 then nest y else nest y ++ [L1 (wrap64 (c + by_)) c]) ∧ Step [i, i + 1] w o w' o' := by
  have e : nest (y ++ [c]) = nest y ++ [L1 c c] := by simp [nest]
  rw [e] at hs
  refine (step_loop hs rfl by_).mono ?_
  rintro e w' ⟨o', rfl, h1, h2⟩
  rw [nest_end c by_ h] at *
  refine ⟨o', rfl, ?_, h2⟩
  rw [stepF, nest_end c by_ h] at h1
  by_cases hb : by_ < 0
  · simpa [hb] using h1
  · simpa [hb] using h1
end Go.Proofs.Ytegcpjheglcbcaa
