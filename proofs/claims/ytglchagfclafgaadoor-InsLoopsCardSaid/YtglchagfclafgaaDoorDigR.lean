/- A row of bytes, reversed in place. -/
import Derived.Test.YtglchagfclafgaaDoorPairK
import Derived.Test.YtglchagfclafgaaDoorRowx
import Derived.Test.YtglchagfclafgaaDoorTextW
import Derived.Great.Walk
namespace Go.Proofs.YtglchagfclafgaaDoor
open Go Go.RowKit
set_option linter.unusedSimpArgs false
set_option linter.unusedVariables false

/-- A list whose first k and last k letters are changed for one another. -/
def RevAt (l m : List UInt8) (k : Nat) : Prop := m.length = l.length ∧ ∀ t, t < l.length → m[t]? = if t < k ∨ l.length ≤ t + k then l[l.length - 1 - t]? else l[t]?
theorem RevAt.step {l m : List UInt8} {k j : Nat} {x y : UInt8} (h : RevAt l m k) (hkj : k < j) (hj : j + 1 + k = l.length) (hx : m[k]? = some x) (hy : m[j]? = some y) : RevAt l ((m.set k y).set j x) (k + 1) := by
  obtain ⟨h1, h2⟩ := h
  have e1 := h2 k (by omega)
  have e2 := h2 j (by omega)
  rw [if_neg (by omega), hx] at e1
  rw [if_neg (by omega), hy] at e2
  refine ⟨by simpa using h1, fun t ht => ?_⟩
  rw [List.getElem?_set]
  by_cases c1 : j = t
  · subst c1
    rw [if_pos rfl, if_pos (by simp; omega), if_pos (by omega), show l.length - 1 - j = k by omega]
    exact e1
  · rw [if_neg c1, List.getElem?_set]
    by_cases c2 : k = t
    · subst c2
      rw [if_pos rfl, if_pos (by omega), if_pos (by omega), show l.length - 1 - k = j by omega]
      exact e2
    · rw [if_neg c2, h2 t ht]
      by_cases c3 : t < k ∨ l.length ≤ t + k
      · rw [if_pos c3, if_pos (by omega)]
      · rw [if_neg c3, if_neg (by omega)]
theorem RevAt.fin {l m : List UInt8} {k : Nat} (h : RevAt l m k) (hk : l.length ≤ k + k + 1) : m = l.reverse := by
  obtain ⟨h1, h2⟩ := h
  apply List.ext_getElem?
  intro t
  by_cases ht : t < l.length
  · rw [h2 t ht, List.getElem?_reverse ht]
    by_cases c : t < k ∨ l.length ≤ t + k
    · rw [if_pos c]
    · rw [if_neg c, show l.length - 1 - t = t by omega]
  · rw [List.getElem?_eq_none (by omega), List.getElem?_eq_none (by simp; omega)]

theorem u8s_len (l : List UInt8) : (u8s l).length = l.length := by simp [u8s]
theorem u8s_at {l : List UInt8} {j : Nat} {x : UInt8} (h : l[j]? = some x) : (u8s l)[j]? = some (.int .u8 (x.toNat : Nat)) := by simp [u8s, h]
theorem u8s_set (l : List UInt8) (j : Nat) (x : UInt8) : (u8s l).set j (.int .u8 (x.toNat : Nat)) = u8s (l.set j x) := by simp [u8s, List.map_set]

end Go.Proofs.YtglchagfclafgaaDoor
