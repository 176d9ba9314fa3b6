/- What Do does to the uppermost cells: plain laws. -/
import Derived.Test.YtkefiimcopeioaaStkG
namespace Go.Proofs.Ytkefiimcopeioaa
open Go Go.RowKit
set_option linter.unusedSimpArgs false
set_option linter.unusedVariables false

theorem S_tab (l m : List Int) (j : Nat) (hj : j < 12) (h7 : j ≠ 7) (hm : m.length = shT j) (hl : l.length + (shP j).length ≤ 128) (op : Int) (hop : op = 28 + j) :
    doS (l ++ m) op = (0, l ++ (shP j).map fun p => m.getD p 0) := by
  subst hop
  have e : (28 + (j : Int) - 28).toNat = j := by omega
  rw [doS, if_neg (by omega), if_neg (by omega), if_pos (by omega), e, tabS, if_neg (by simp; omega), if_neg (by simp [h7]), if_neg (by simp; omega)]
  have e2 : (l ++ m).length - shT j = l.length := by simp; omega
  rw [e2, List.take_left' rfl, List.drop_left' rfl]

variable (l : List Int) (a b c d : Int) (h : l.length ≤ 120)
include h
theorem S_dup : doS (l ++ [a]) 28 = (0, l ++ [a, a]) := S_tab l [a] 0 (by decide) (by decide) rfl (by have : (shP 0).length = 2 := rfl; omega) 28 rfl
theorem S_drop : doS (l ++ [a]) 29 = (0, l) := by
  have := S_tab l [a] 1 (by decide) (by decide) rfl (by have : (shP 1).length = 0 := rfl; omega) 29 rfl
  rw [this, show shP 1 = [] from rfl]; simp
theorem S_swap : doS (l ++ [a, b]) 30 = (0, l ++ [b, a]) := S_tab l [a, b] 2 (by decide) (by decide) rfl (by have : (shP 2).length = 2 := rfl; omega) 30 rfl
theorem S_over : doS (l ++ [a, b]) 31 = (0, l ++ [a, b, a]) := S_tab l [a, b] 3 (by decide) (by decide) rfl (by have : (shP 3).length = 3 := rfl; omega) 31 rfl
theorem S_rot : doS (l ++ [a, b, c]) 32 = (0, l ++ [b, c, a]) := S_tab l [a, b, c] 4 (by decide) (by decide) rfl (by have : (shP 4).length = 3 := rfl; omega) 32 rfl
theorem S_nip : doS (l ++ [a, b]) 33 = (0, l ++ [b]) := S_tab l [a, b] 5 (by decide) (by decide) rfl (by have : (shP 5).length = 1 := rfl; omega) 33 rfl
theorem S_tuck : doS (l ++ [a, b]) 34 = (0, l ++ [b, a, b]) := S_tab l [a, b] 6 (by decide) (by decide) rfl (by have : (shP 6).length = 3 := rfl; omega) 34 rfl
theorem S_dup2 : doS (l ++ [a, b]) 36 = (0, l ++ [a, b, a, b]) := S_tab l [a, b] 8 (by decide) (by decide) rfl (by have : (shP 8).length = 4 := rfl; omega) 36 rfl
theorem S_drop2 : doS (l ++ [a, b]) 37 = (0, l) := by
  have := S_tab l [a, b] 9 (by decide) (by decide) rfl (by have : (shP 9).length = 0 := rfl; omega) 37 rfl
  rw [this, show shP 9 = [] from rfl]; simp
theorem S_swap2 : doS (l ++ [a, b, c, d]) 38 = (0, l ++ [c, d, a, b]) := S_tab l [a, b, c, d] 10 (by decide) (by decide) rfl (by have : (shP 10).length = 4 := rfl; omega) 38 rfl
theorem S_over2 : doS (l ++ [a, b, c, d]) 39 = (0, l ++ [a, b, c, d, a, b]) := S_tab l [a, b, c, d] 11 (by decide) (by decide) rfl (by have : (shP 11).length = 6 := rfl; omega) 39 rfl
theorem S_depth : doS l 42 = (0, l ++ [(l.length : Int)]) := by
  rw [doS, if_neg (by omega), if_pos rfl, putE, putL, if_pos (by simp; omega), if_pos (by simp; omega)]
omit h
theorem farS_cc (m : List Int) (k op : Int) : farS (m ++ [k]) op = farM m k op := by simp [farS, List.getLastD_eq_getLast?]
theorem S_pick (m : List Int) (x : Int) : doS (l ++ x :: (m ++ [(m.length : Int)])) 40 = (0, l ++ x :: (m ++ [x])) := by
  have e : l ++ x :: (m ++ [(m.length : Int)]) = (l ++ x :: m) ++ [(m.length : Int)] := by simp
  have e1 : (l ++ x :: m).length - 1 - (m.length : Int).toNat = l.length := by simp
  have e2 : ¬ ((m.length : Int) < 0 ∨ ((l ++ x :: m).length : Int) ≤ m.length) := by simp; omega
  rw [doS, if_pos (by omega), e, farS_cc, farM, if_neg e2, if_pos rfl, e1]
  simp [List.getD]
theorem S_roll (m : List Int) (x : Int) : doS (l ++ x :: (m ++ [(m.length : Int)])) 41 = (0, l ++ (m ++ [x])) := by
  have e : l ++ x :: (m ++ [(m.length : Int)]) = (l ++ x :: m) ++ [(m.length : Int)] := by simp
  have e1 : (l ++ x :: m).length - 1 - (m.length : Int).toNat = l.length := by simp
  have e2 : ¬ ((m.length : Int) < 0 ∨ ((l ++ x :: m).length : Int) ≤ m.length) := by simp; omega
  rw [doS, if_pos (by omega), e, farS_cc, farM, if_neg e2, if_neg (by omega), e1]
  simp [List.getD, List.eraseIdx_append_of_length_le]

/-- Elements stay numbers of a cell. -/
theorem farM_mem (m : List Int) (k op : Int) : ∀ u ∈ (farM m k op).2, u ∈ m ++ [k] ∨ u = 0 := by
  intro u hu
  unfold farM at hu
  have hg : ∀ i, m.getD i 0 ∈ m ∨ m.getD i 0 = 0 := by
    intro i
    rw [List.getD_eq_getElem?_getD]
    cases h : m[i]? with
    | none => exact .inr rfl
    | some z => exact .inl (List.mem_of_getElem? h)
  split at hu
  · exact .inl hu
  · split at hu
    · rcases List.mem_append.1 hu with hu | hu
      · exact .inl (List.mem_append.2 (.inl hu))
      · rw [List.mem_singleton] at hu
        rcases hg (m.length - 1 - k.toNat) with h | h
        · exact .inl (List.mem_append.2 (.inl (hu ▸ h)))
        · exact .inr (hu.trans h)
    · rcases List.mem_append.1 hu with hu | hu
      · exact .inl (List.mem_append.2 (.inl (List.mem_of_mem_eraseIdx hu)))
      · rw [List.mem_singleton] at hu
        rcases hg (m.length - 1 - k.toNat) with h | h
        · exact .inl (List.mem_append.2 (.inl (hu ▸ h)))
        · exact .inr (hu.trans h)

theorem doS_wf (l : List Int) (hl : l.length ≤ 128) (hw : ∀ u ∈ l, I64 u) (op : Int) : ∀ u ∈ (doS l op).2, I64 u := by
  have z : I64 0 := by constructor <;> omega
  intro u hu
  unfold doS at hu
  split at hu
  · rcases List.eq_nil_or_concat l with rfl | ⟨m, k, rfl⟩
    · exact hw u hu
    · rw [List.concat_eq_append] at *
      rw [farS_cc] at hu
      rcases farM_mem _ _ _ u hu with h | rfl
      · exact hw u h
      · exact z
  · split at hu
    · simp only [putL] at hu
      split at hu
      · rcases List.mem_append.1 hu with hu | hu
        · exact hw u hu
        · rw [List.mem_singleton] at hu; subst hu; constructor <;> omega
      · exact hw u hu
    · split at hu
      · unfold tabS at hu
        split at hu
        · exact hw u hu
        · split at hu
          · exact hw u hu
          · split at hu
            · exact hw u hu
            · rcases List.mem_append.1 hu with hu | hu
              · exact hw u (List.mem_of_mem_take hu)
              · obtain ⟨p, _, rfl⟩ := List.mem_map.1 hu
                rw [List.getD_eq_getElem?_getD]
                cases h : (l.drop (l.length - shT (op - 28).toNat))[p]? with
                | none => exact z
                | some y => exact hw y (List.mem_of_mem_drop (List.mem_of_getElem? h))
      · exact hw u hu

theorem doS_len (l : List Int) (hl : l.length ≤ 128) (op : Int) : (doS l op).2.length ≤ 128 := by
  unfold doS
  split
  · rcases List.eq_nil_or_concat l with rfl | ⟨m, k, rfl⟩
    · exact hl
    · rw [List.concat_eq_append] at *
      rw [farS_cc, farM]
      simp only [List.length_append, List.length_singleton] at hl
      split
      · simpa using hl
      · split
        · simpa using hl
        · have := List.length_eraseIdx_le m (m.length - 1 - k.toNat)
          simp; omega
  · split
    · simp only [putL]
      split
      · simp only [List.length_append]; assumption
      · exact hl
    · split
      · unfold tabS
        split
        · exact hl
        · split
          · exact hl
          · split
            · exact hl
            · simp; omega
      · exact hl
end Go.Proofs.Ytkefiimcopeioaa
