/- StackPairs: plain laws. -/
import Derived.Test.YtkefiimcopeioaaTurnsLaw
namespace Go.Proofs.Ytkefiimcopeioaa
open Go Go.RowKit
set_option linter.unusedSimpArgs false
set_option linter.unusedVariables false

/-- Numbers below zero are pushed (as -n - 1), the others are done, each without an error. -/
def runP : List Int → List Int → Option (List Int)
  | l, [] => some l
  | l, op :: r => if op < 0 then (if l.length < 128 then runP (l ++ [-op - 1]) r else none) else if (doS l op).1 = 0 then runP (doS l op).2 r else none

theorem runP_neg {l r l' : List Int} {op : Int} (hop : op < 0) (h : runP l (op :: r) = some l') : l.length < 128 ∧ runP (l ++ [-op - 1]) r = some l' := by
  rw [runP, if_pos hop] at h
  split at h
  · exact ⟨by assumption, h⟩
  · cases h
theorem runP_pos {l r l' : List Int} {op : Int} (hop : ¬ op < 0) (h : runP l (op :: r) = some l') : (doS l op).1 = 0 ∧ runP (doS l op).2 r = some l' := by
  rw [runP, if_neg hop] at h
  split at h
  · exact ⟨by assumption, h⟩
  · cases h

/-- One that is done to x, and the row of others, do the same. -/
def PairOf (x : List Int) (a : Int) (ops : List Int) : Prop := ∃ m, doS x a = (0, m) ∧ runP x ops = some m

section
variable (x : List Int) (h4 : 4 ≤ x.length) (h60 : x.length ≤ 60)
include h4 h60

theorem Q_dup2 : PairOf x 36 [31, 31] := by
  obtain ⟨l, a, b, c, d, rfl⟩ := four x h4
  simp only [List.length_append, List.length_cons, List.length_nil] at h60
  have s0 : doS (l ++ [a, b, c, d]) 36 = (0, l ++ [a, b, c, d, c, d]) := S_lift (fun l h => S_dup2 l c d h) l [a, b] (by simp; omega)
  have s1 : doS (l ++ [a, b, c, d]) 31 = (0, l ++ [a, b, c, d, c]) := S_lift (fun l h => S_over l c d h) l [a, b] (by simp; omega)
  have s2 : doS (l ++ [a, b, c, d, c]) 31 = (0, l ++ [a, b, c, d, c, d]) := S_lift (fun l h => S_over l d c h) l [a, b, c] (by simp; omega)
  exact ⟨_, s0, by simp [runP, s1, s2]⟩
theorem Q_drop2 : PairOf x 37 [29, 29] := by
  obtain ⟨l, a, b, c, d, rfl⟩ := four x h4
  simp only [List.length_append, List.length_cons, List.length_nil] at h60
  have s0 : doS (l ++ [a, b, c, d]) 37 = (0, l ++ [a, b]) := by
    have := S_drop2 (l ++ [a, b]) c d (by simp; omega)
    simpa using this
  have s1 : doS (l ++ [a, b, c, d]) 29 = (0, l ++ [a, b, c]) := by
    have := S_drop (l ++ [a, b, c]) d (by simp; omega)
    simpa using this
  have s2 : doS (l ++ [a, b, c]) 29 = (0, l ++ [a, b]) := by
    have := S_drop (l ++ [a, b]) c (by simp; omega)
    simpa using this
  exact ⟨_, s0, by simp [runP, s1, s2]⟩
theorem Q_swap2 : PairOf x 38 [-4, 41, -4, 41] := by
  obtain ⟨l, a, b, c, d, rfl⟩ := four x h4
  simp only [List.length_append, List.length_cons, List.length_nil] at h60
  have s0 : doS (l ++ [a, b, c, d]) 38 = (0, l ++ [c, d, a, b]) := S_swap2 l a b c d (by omega)
  have s1 : doS (l ++ [a, b, c, d, 3]) 41 = (0, l ++ [b, c, d, a]) := S_roll l [b, c, d] a
  have s2 : doS (l ++ [b, c, d, a, 3]) 41 = (0, l ++ [c, d, a, b]) := S_roll l [c, d, a] b
  exact ⟨_, s0, by simp [runP, s1, s2]; omega⟩
theorem Q_over2 : PairOf x 39 [-4, 40, -4, 40] := by
  obtain ⟨l, a, b, c, d, rfl⟩ := four x h4
  simp only [List.length_append, List.length_cons, List.length_nil] at h60
  have s0 : doS (l ++ [a, b, c, d]) 39 = (0, l ++ [a, b, c, d, a, b]) := S_over2 l a b c d (by omega)
  have s1 : doS (l ++ [a, b, c, d, 3]) 40 = (0, l ++ [a, b, c, d, a]) := S_pick l [b, c, d] a
  have s2 : doS (l ++ [a, b, c, d, a, 3]) 40 = (0, l ++ [a, b, c, d, a, b]) := by
    have := S_pick (l ++ [a]) [c, d, a] b
    simpa using this
  exact ⟨_, s0, by simp [runP, s1, s2]; omega⟩
theorem Q_nip : PairOf x 33 [30, 29] := by
  obtain ⟨l, a, b, c, d, rfl⟩ := four x h4
  simp only [List.length_append, List.length_cons, List.length_nil] at h60
  have s0 : doS (l ++ [a, b, c, d]) 33 = (0, l ++ [a, b, d]) := S_lift (fun l h => S_nip l c d h) l [a, b] (by simp; omega)
  have s1 : doS (l ++ [a, b, c, d]) 30 = (0, l ++ [a, b, d, c]) := S_lift (fun l h => S_swap l c d h) l [a, b] (by simp; omega)
  have s2 : doS (l ++ [a, b, d, c]) 29 = (0, l ++ [a, b, d]) := by
    have := S_drop (l ++ [a, b, d]) c (by simp; omega)
    simpa using this
  exact ⟨_, s0, by simp [runP, s1, s2]⟩
theorem Q_tuck : PairOf x 34 [30, 31] := by
  obtain ⟨l, a, b, c, d, rfl⟩ := four x h4
  simp only [List.length_append, List.length_cons, List.length_nil] at h60
  have s0 : doS (l ++ [a, b, c, d]) 34 = (0, l ++ [a, b, d, c, d]) := S_lift (fun l h => S_tuck l c d h) l [a, b] (by simp; omega)
  have s1 : doS (l ++ [a, b, c, d]) 30 = (0, l ++ [a, b, d, c]) := S_lift (fun l h => S_swap l c d h) l [a, b] (by simp; omega)
  have s2 : doS (l ++ [a, b, d, c]) 31 = (0, l ++ [a, b, d, c, d]) := S_lift (fun l h => S_over l d c h) l [a, b] (by simp; omega)
  exact ⟨_, s0, by simp [runP, s1, s2]⟩
theorem Q_rot : PairOf x 32 [-3, 41] := by
  obtain ⟨l, a, b, c, d, rfl⟩ := four x h4
  simp only [List.length_append, List.length_cons, List.length_nil] at h60
  have s0 : doS (l ++ [a, b, c, d]) 32 = (0, l ++ [a, c, d, b]) := S_lift (fun l h => S_rot l b c d h) l [a] (by simp; omega)
  have s1 : doS (l ++ [a, b, c, d, 2]) 41 = (0, l ++ [a, c, d, b]) := by
    have := S_roll (l ++ [a]) [c, d] b
    simpa using this
  exact ⟨_, s0, by simp [runP, s1]; omega⟩
theorem Q_swap : PairOf x 30 [-2, 41] := by
  obtain ⟨l, a, b, c, d, rfl⟩ := four x h4
  simp only [List.length_append, List.length_cons, List.length_nil] at h60
  have s0 : doS (l ++ [a, b, c, d]) 30 = (0, l ++ [a, b, d, c]) := S_lift (fun l h => S_swap l c d h) l [a, b] (by simp; omega)
  have s1 : doS (l ++ [a, b, c, d, 1]) 41 = (0, l ++ [a, b, d, c]) := by
    have := S_roll (l ++ [a, b]) [d] c
    simpa using this
  exact ⟨_, s0, by simp [runP, s1]; omega⟩
theorem Q_over : PairOf x 31 [-2, 40] := by
  obtain ⟨l, a, b, c, d, rfl⟩ := four x h4
  simp only [List.length_append, List.length_cons, List.length_nil] at h60
  have s0 : doS (l ++ [a, b, c, d]) 31 = (0, l ++ [a, b, c, d, c]) := S_lift (fun l h => S_over l c d h) l [a, b] (by simp; omega)
  have s1 : doS (l ++ [a, b, c, d, 1]) 40 = (0, l ++ [a, b, c, d, c]) := by
    have := S_pick (l ++ [a, b]) [d] c
    simpa using this
  exact ⟨_, s0, by simp [runP, s1]; omega⟩
theorem Q_dup : PairOf x 28 [-1, 40] := by
  obtain ⟨l, a, b, c, d, rfl⟩ := four x h4
  simp only [List.length_append, List.length_cons, List.length_nil] at h60
  have s0 : doS (l ++ [a, b, c, d]) 28 = (0, l ++ [a, b, c, d, d]) := S_lift (fun l h => S_dup l d h) l [a, b, c] (by simp; omega)
  have s1 : doS (l ++ [a, b, c, d, 0]) 40 = (0, l ++ [a, b, c, d, d]) := by
    have := S_pick (l ++ [a, b, c]) [] d
    simpa using this
  exact ⟨_, s0, by simp [runP, s1]; omega⟩
end
end Go.Proofs.Ytkefiimcopeioaa
