/- StackTurns: plain laws. -/
import Derived.Test.YtkefiimcopeioaaTurns
namespace Go.Proofs.Ytkefiimcopeioaa
open Go Go.RowKit
set_option linter.unusedSimpArgs false
set_option linter.unusedVariables false

theorem turns_roll (x : List Int) (i : Nat) (hi : i < x.length) : doS ((x.drop i ++ x.take i) ++ [(x.length : Int) - 1]) 41 = (0, x.drop (i + 1) ++ x.take (i + 1)) := by
  have e : x.drop i = x[i] :: x.drop (i + 1) := List.drop_eq_getElem_cons hi
  have hm : (x.length : Int) - 1 = ((x.drop (i + 1) ++ x.take i).length : Int) := by simp; omega
  have := S_roll [] (x.drop (i + 1) ++ x.take i) x[i]
  rw [e, hm]
  simp only [List.nil_append, List.cons_append, List.append_assoc] at this ⊢
  rw [this, List.take_add_one]
  simp [hi]

theorem S_lift {m m' : List Int} {op : Int} (hS : ∀ l : List Int, l.length ≤ 120 → doS (l ++ m) op = (0, l ++ m')) (l T : List Int) (h : (l ++ T).length ≤ 120) : doS (l ++ (T ++ m)) op = (0, l ++ (T ++ m')) := by
  rw [← List.append_assoc, ← List.append_assoc]
  exact hS _ h

theorem four (x : List Int) (h : 4 ≤ x.length) : ∃ l a b c d, x = l ++ [a, b, c, d] := by
  refine ⟨x.take (x.length - 4), x[x.length - 4], x[x.length - 3], x[x.length - 2], x[x.length - 1], ?_⟩
  conv => lhs; rw [← List.take_append_drop (x.length - 4) x]
  congr 1
  rw [List.drop_eq_getElem_cons (by omega), List.drop_eq_getElem_cons (by omega), List.drop_eq_getElem_cons (by omega), List.drop_eq_getElem_cons (by omega), List.drop_eq_nil_of_le (by omega)]
  simp only [List.cons.injEq, true_and, and_true]
  exact ⟨by congr 1; omega, by congr 1; omega, by congr 1; omega⟩

section
variable (x : List Int) (h4 : 4 ≤ x.length) (h60 : x.length ≤ 60)
include h4 h60

theorem T_swap : runO x (List.replicate 2 [30]).flatten = some x := by
  obtain ⟨l, a, b, c, d, rfl⟩ := four x h4
  simp only [List.length_append, List.length_cons, List.length_nil] at h60
  have s1 : doS (l ++ [a, b, c, d]) 30 = (0, l ++ [a, b, d, c]) := S_lift (fun l h => S_swap l c d h) l [a, b] (by simp; omega)
  have s2 : doS (l ++ [a, b, d, c]) 30 = (0, l ++ [a, b, c, d]) := S_lift (fun l h => S_swap l d c h) l [a, b] (by simp; omega)
  simp [List.replicate, runO, s1, s2]
theorem T_rot : runO x (List.replicate 3 [32]).flatten = some x := by
  obtain ⟨l, a, b, c, d, rfl⟩ := four x h4
  simp only [List.length_append, List.length_cons, List.length_nil] at h60
  have s1 : doS (l ++ [a, b, c, d]) 32 = (0, l ++ [a, c, d, b]) := S_lift (fun l h => S_rot l b c d h) l [a] (by simp; omega)
  have s2 : doS (l ++ [a, c, d, b]) 32 = (0, l ++ [a, d, b, c]) := S_lift (fun l h => S_rot l c d b h) l [a] (by simp; omega)
  have s3 : doS (l ++ [a, d, b, c]) 32 = (0, l ++ [a, b, c, d]) := S_lift (fun l h => S_rot l d b c h) l [a] (by simp; omega)
  simp [List.replicate, runO, s1, s2, s3]
theorem T_swap2 : runO x (List.replicate 2 [38]).flatten = some x := by
  obtain ⟨l, a, b, c, d, rfl⟩ := four x h4
  simp only [List.length_append, List.length_cons, List.length_nil] at h60
  have s1 : doS (l ++ [a, b, c, d]) 38 = (0, l ++ [c, d, a, b]) := S_swap2 l a b c d (by omega)
  have s2 : doS (l ++ [c, d, a, b]) 38 = (0, l ++ [a, b, c, d]) := S_swap2 l c d a b (by omega)
  simp [List.replicate, runO, s1, s2]
theorem T_dup : runO x (List.replicate 1 [28, 29]).flatten = some x := by
  obtain ⟨l, a, b, c, d, rfl⟩ := four x h4
  simp only [List.length_append, List.length_cons, List.length_nil] at h60
  have s1 : doS (l ++ [a, b, c, d]) 28 = (0, l ++ [a, b, c, d, d]) := S_lift (fun l h => S_dup l d h) l [a, b, c] (by simp; omega)
  have s2 : doS (l ++ [a, b, c, d, d]) 29 = (0, l ++ [a, b, c, d]) := by
    have := S_drop (l ++ [a, b, c, d]) d (by simp; omega)
    simpa using this
  simp [List.replicate, runO, s1, s2]
theorem T_over : runO x (List.replicate 1 [31, 29]).flatten = some x := by
  obtain ⟨l, a, b, c, d, rfl⟩ := four x h4
  simp only [List.length_append, List.length_cons, List.length_nil] at h60
  have s1 : doS (l ++ [a, b, c, d]) 31 = (0, l ++ [a, b, c, d, c]) := S_lift (fun l h => S_over l c d h) l [a, b] (by simp; omega)
  have s2 : doS (l ++ [a, b, c, d, c]) 29 = (0, l ++ [a, b, c, d]) := by
    have := S_drop (l ++ [a, b, c, d]) c (by simp; omega)
    simpa using this
  simp [List.replicate, runO, s1, s2]
theorem T_dup2 : runO x (List.replicate 1 [36, 37]).flatten = some x := by
  obtain ⟨l, a, b, c, d, rfl⟩ := four x h4
  simp only [List.length_append, List.length_cons, List.length_nil] at h60
  have s1 : doS (l ++ [a, b, c, d]) 36 = (0, l ++ [a, b, c, d, c, d]) := S_lift (fun l h => S_dup2 l c d h) l [a, b] (by simp; omega)
  have s2 : doS (l ++ [a, b, c, d, c, d]) 37 = (0, l ++ [a, b, c, d]) := by
    have := S_drop2 (l ++ [a, b, c, d]) c d (by simp; omega)
    simpa using this
  simp [List.replicate, runO, s1, s2]
theorem T_over2 : runO x (List.replicate 1 [39, 37]).flatten = some x := by
  obtain ⟨l, a, b, c, d, rfl⟩ := four x h4
  simp only [List.length_append, List.length_cons, List.length_nil] at h60
  have s1 : doS (l ++ [a, b, c, d]) 39 = (0, l ++ [a, b, c, d, a, b]) := S_over2 l a b c d (by omega)
  have s2 : doS (l ++ [a, b, c, d, a, b]) 37 = (0, l ++ [a, b, c, d]) := by
    have := S_drop2 (l ++ [a, b, c, d]) a b (by simp; omega)
    simpa using this
  simp [List.replicate, runO, s1, s2]
theorem T_tuck : runO x (List.replicate 1 [34, 29, 30]).flatten = some x := by
  obtain ⟨l, a, b, c, d, rfl⟩ := four x h4
  simp only [List.length_append, List.length_cons, List.length_nil] at h60
  have s1 : doS (l ++ [a, b, c, d]) 34 = (0, l ++ [a, b, d, c, d]) := S_lift (fun l h => S_tuck l c d h) l [a, b] (by simp; omega)
  have s2 : doS (l ++ [a, b, d, c, d]) 29 = (0, l ++ [a, b, d, c]) := by
    have := S_drop (l ++ [a, b, d, c]) d (by simp; omega)
    simpa using this
  have s3 : doS (l ++ [a, b, d, c]) 30 = (0, l ++ [a, b, c, d]) := S_lift (fun l h => S_swap l d c h) l [a, b] (by simp; omega)
  simp [List.replicate, runO, s1, s2, s3]
theorem T_nip : runO x (List.replicate 1 [28, 33]).flatten = some x := by
  obtain ⟨l, a, b, c, d, rfl⟩ := four x h4
  simp only [List.length_append, List.length_cons, List.length_nil] at h60
  have s1 : doS (l ++ [a, b, c, d]) 28 = (0, l ++ [a, b, c, d, d]) := S_lift (fun l h => S_dup l d h) l [a, b, c] (by simp; omega)
  have s2 : doS (l ++ [a, b, c, d, d]) 33 = (0, l ++ [a, b, c, d]) := S_lift (fun l h => S_nip l d d h) l [a, b, c] (by simp; omega)
  simp [List.replicate, runO, s1, s2]
theorem T_depth : runO x (List.replicate 1 [42, 29]).flatten = some x := by
  have s1 := S_depth x (by omega)
  have s2 := S_drop x (x.length : Int) (by omega)
  simp [List.replicate, runO, s1, s2]
omit h4 h60
theorem T_small (h : x.length < 4) : doS x 38 = (-4, x) := by
  rw [doS, if_neg (by omega), if_neg (by omega), if_pos (by omega), tabS, if_pos (by exact h)]
end
end Go.Proofs.Ytkefiimcopeioaa
