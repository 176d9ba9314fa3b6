/- Loops one within the other: plain laws. -/
import Derived.Test.YtglchagfclafgaaDoorInsK
namespace Go.Proofs.YtglchagfclafgaaDoor
open Go Go.RowKit
set_option linter.unusedSimpArgs false
set_option linter.unusedVariables false

/-- The instruction at i: n loops are opened, something is done, they are closed. -/
def bodyI (n : Nat) (asks : Bool) (i : Nat) : In := if i < n then (if asks then ⟨6, (3 * n - i : Nat), 0⟩ else ⟨5, 0, 0⟩) else if i < 2 * n then ⟨11, 0, 0⟩ else ⟨7, (3 * n - i : Nat), 0⟩
def preL (n : Nat) (asks : Bool) (r : Nat) : List In := (List.range r).map (bodyI n asks)
theorem preL_len (n : Nat) (asks : Bool) (r : Nat) : (preL n asks r).length = r := by simp [preL]
theorem preL_succ (n : Nat) (asks : Bool) (r : Nat) : preL n asks (r + 1) = preL n asks r ++ [bodyI n asks r] := by simp [preL, List.range_succ]
theorem preL_at {n : Nat} {asks : Bool} {r i : Nat} (h : i < r) (s : List In) : (preL n asks r ++ s)[i]? = some (bodyI n asks i) := by
  rw [List.getElem?_append_left (by rw [preL_len]; exact h)]
  simp [preL, h]
theorem preL_take {n : Nat} {asks : Bool} {r k : Nat} (h : k ≤ r) (s : List In) : (preL n asks r ++ s).take k = preL n asks k := by
  rw [List.take_append_of_le_length (by rw [preL_len]; exact h)]
  unfold preL
  rw [← List.map_take, List.take_range, Nat.min_eq_left h]
/-- How many loops are open ahead of i. -/
def labI (n i : Nat) : Nat := if i ≤ n then i else if i ≤ 2 * n then n else 3 * n - i
theorem body_ok (n : Nat) (hn : n ≤ 20) (asks : Bool) (i : Nat) : (bodyI n asks i).ok := by
  have ok1 : ∀ op a w : Int, (0 ≤ op ∧ op ≤ 255) → (-100 ≤ a ∧ a ≤ 100) → (-10 ≤ w ∧ w ≤ 10) → (⟨op, a, w⟩ : In).ok := fun op a w h1 h2 h3 => ⟨h1, ⟨by dsimp only; omega, by dsimp only; omega⟩, ⟨by dsimp only; omega, by dsimp only; omega⟩⟩
  unfold bodyI
  repeat' split
  all_goals exact ok1 _ _ _ (by decide) (by omega) (by decide)
theorem preL_ok (n : Nat) (hn : n ≤ 20) (asks : Bool) (r : Nat) (s : List In) (hs : ∀ x ∈ s, x.ok) : ∀ x ∈ preL n asks r ++ s, x.ok := by
  intro x hx
  rcases List.mem_append.1 hx with hx | hx
  · obtain ⟨i, _, rfl⟩ := List.mem_map.1 hx
    exact body_ok n hn asks i
  · exact hs x hx
theorem body_steps {n : Nat} {asks : Bool} {i : Nat} (hi : i < 3 * n) : ∀ q ∈ stepsA (bodyI n asks i) i (labI n i), ∃ j : Nat, j ≤ 3 * n ∧ q = ((j : Int), (labI n j : Int)) := by
  intro q hq
  unfold bodyI at hq
  split at hq
  · next h =>
    have e0 : labI n i = i := by unfold labI; rw [if_pos (by omega)]
    have e1 : labI n (i + 1) = i + 1 := by unfold labI; rw [if_pos (by omega)]
    rw [e0] at hq
    cases asks
    · have : q = ((i : Int) + 1, (i : Int) + 1) := by simpa [stepsA] using hq
      exact ⟨i + 1, by omega, by rw [this, e1]; simp⟩
    · have : q = ((i : Int) + 1, (i : Int) + 1) ∨ q = (((3 * n - i : Nat) : Int), (i : Int)) := by simpa [stepsA] using hq
      rcases this with h1 | h1
      · exact ⟨i + 1, by omega, by rw [h1, e1]; simp⟩
      · have e2 : labI n (3 * n - i) = i := by unfold labI; rw [if_neg (by omega), if_neg (by omega)]; omega
        exact ⟨3 * n - i, by omega, by rw [h1, e2]⟩
  · next h =>
    split at hq
    · next h2 =>
      have e0 : labI n i = n := by unfold labI; split; omega; rw [if_pos (by omega)]
      have e1 : labI n (i + 1) = n := by unfold labI; split; omega; rw [if_pos (by omega)]
      rw [e0] at hq
      have : q = ((i : Int) + 1, (n : Int)) := by simpa [stepsA] using hq
      exact ⟨i + 1, by omega, by rw [this, e1]; simp⟩
    · next h2 =>
      have e0 : labI n i = 3 * n - i := by unfold labI; split; omega; split; omega; rfl
      have e1 : labI n (i + 1) = 3 * n - (i + 1) := by unfold labI; rw [if_neg (by omega), if_neg (by omega)]
      rw [e0] at hq
      have : q = ((i : Int) + 1, ((3 * n - i : Nat) : Int) - 1) ∨ q = (((3 * n - i : Nat) : Int), ((3 * n - i : Nat) : Int)) := by simpa [stepsA] using hq
      rcases this with h1 | h1
      · refine ⟨i + 1, by omega, ?_⟩
        rw [h1, e1]
        congr 1
        omega
      · have e2 : labI n (3 * n - i) = 3 * n - i := by unfold labI; rw [if_pos (by omega)]
        exact ⟨3 * n - i, by omega, by rw [h1, e2]⟩
theorem body_next {n : Nat} {asks : Bool} {i : Nat} (hi : i < 3 * n) : ((i : Int) + 1, (labI n (i + 1) : Int)) ∈ stepsA (bodyI n asks i) i (labI n i) := by
  unfold bodyI
  split
  · next h =>
    have e0 : labI n i = i := by unfold labI; rw [if_pos (by omega)]
    have e1 : labI n (i + 1) = i + 1 := by unfold labI; rw [if_pos (by omega)]
    rw [e0, e1]
    cases asks <;> simp [stepsA]
  · next h =>
    split
    · next h2 =>
      have e0 : labI n i = n := by unfold labI; split; omega; rw [if_pos (by omega)]
      have e1 : labI n (i + 1) = n := by unfold labI; split; omega; rw [if_pos (by omega)]
      rw [e0, e1]
      simp [stepsA]
    · next h2 =>
      have e0 : labI n i = 3 * n - i := by unfold labI; split; omega; split; omega; rfl
      have e1 : labI n (i + 1) = 3 * n - (i + 1) := by unfold labI; rw [if_neg (by omega), if_neg (by omega)]
      rw [e0, e1]
      have e2 : ((3 * n - (i + 1) : Nat) : Int) = ((3 * n - i : Nat) : Int) - 1 := by omega
      rw [e2]
      simp [stepsA]
theorem pre_rch {n : Nat} {asks : Bool} {r : Nat} (hr : r ≤ 3 * n) (s : List In) : ∀ i : Nat, i ≤ r → Rch (preL n asks r ++ s) i (labI n i) := by
  intro i
  induction i with
  | zero => intro _; exact .start
  | succ i ih =>
    intro hi
    have := Rch.step (ih (by omega)) (preL_at (by omega) s) (body_next (n := n) (asks := asks) (i := i) (by omega))
    rw [Int.natCast_add]
    exact this

def nestL (n : Nat) (asks : Bool) : List In := preL n asks (3 * n) ++ [⟨15, 0, 0⟩]
theorem nestL_len (n : Nat) (asks : Bool) : (nestL n asks).length = 3 * n + 1 := by simp [nestL, preL_len]
theorem nest_inv {n : Nat} {asks : Bool} {i m : Int} (h : Rch (nestL n asks) i m) : ∃ j : Nat, j ≤ 3 * n ∧ i = (j : Int) ∧ m = (labI n j : Int) := by
  refine rch_inv (l := nestL n asks) (fun i m => ∃ j : Nat, j ≤ 3 * n ∧ i = (j : Int) ∧ m = (labI n j : Int)) ⟨0, by omega, rfl, rfl⟩ ?_ h
  rintro i m x ⟨j, hj, hij, rfl⟩ hx q hq
  obtain rfl : i = j := by omega
  rcases Nat.lt_or_ge i (3 * n) with h1 | h1
  · unfold nestL at hx
    rw [preL_at h1] at hx
    obtain rfl := Option.some.inj hx
    obtain ⟨j, hj, rfl⟩ := body_steps h1 q hq
    exact ⟨j, hj, rfl, rfl⟩
  · unfold nestL at hx
    rw [List.getElem?_append_right (by rw [preL_len]; exact h1), preL_len] at hx
    have e : i - 3 * n = 0 := by omega
    rw [e] at hx
    obtain rfl := Option.some.inj hx
    simp [stepsA] at hq
theorem nest_good (n : Nat) (asks : Bool) : Good (nestL n asks) := fun i m h => by
  obtain ⟨j, hj, rfl, rfl⟩ := nest_inv h
  rw [nestL_len]
  refine ⟨by omega, by omega, by omega, fun m' h' => ?_⟩
  obtain ⟨j', hj', h1, rfl⟩ := nest_inv h'
  obtain rfl : j = j' := by omega
  rfl
theorem nest_labs {n : Nat} {asks : Bool} {i : Nat} (hi : i ≤ 3 * n) : (labs (nestL n asks))[i]? = some (labI n i : Int) :=
  labs_rch (nest_good n asks) (pre_rch (Nat.le_refl _) _ i hi)
theorem nest_may (n : Nat) (hn : 1 ≤ n ∧ n ≤ 20) (asks : Bool) : mayP (nestL n asks) 0 := by
  refine ⟨nest_good n asks, by rw [nestL_len]; omega, ⟨⟨15, 0, 0⟩, ?_, .inl rfl⟩, fun q x hx => ?_⟩
  · rw [nestL_len, Nat.add_sub_cancel]
    unfold nestL
    rw [List.getElem?_append_right (by rw [preL_len]; omega), preL_len, Nat.sub_self]
    rfl
  · have hq := (List.getElem?_eq_some_iff.1 hx).1
    rw [nestL_len] at hq
    rw [nestL_len, nest_labs (by omega), Option.getD_some]
    rcases Nat.lt_or_ge q (3 * n) with h1 | h1
    · unfold nestL at hx
      rw [preL_at h1] at hx
      obtain rfl := Option.some.inj hx
      unfold bodyI
      split
      · cases asks
        · exact (insPo (by decide) (by decide) (by decide) (by decide) (by decide) (by decide) (by decide) (by decide)).2 ⟨.inr rfl, rfl⟩
        · exact (insPg (op := 6) (by decide)).2 ⟨rfl, by omega, by omega⟩
      · split
        · exact (insPo (by decide) (by decide) (by decide) (by decide) (by decide) (by decide) (by decide) (by decide)).2 ⟨.inr rfl, rfl⟩
        · exact (insPg (op := 7) (by decide)).2 ⟨rfl, by omega, by omega⟩
    · obtain rfl : q = 3 * n := by omega
      unfold nestL at hx
      rw [List.getElem?_append_right (by rw [preL_len]; exact h1), preL_len, Nat.sub_self] at hx
      obtain rfl := Option.some.inj hx
      refine insP15.2 ⟨rfl, rfl, fun h => ?_⟩
      have e : labI n (3 * n) = 0 := by unfold labI; rw [if_neg (by omega), if_neg (by omega)]; omega
      rw [e] at h
      omega
/-- One loop is not closed. -/
theorem open_not {n : Nat} (hn : 1 ≤ n) (asks : Bool) : ¬ mayP (preL n asks (3 * n - 1) ++ [⟨15, 0, 0⟩]) 0 := fun h => by
  have hr := pre_rch (n := n) (asks := asks) (r := 3 * n - 1) (by omega) [⟨15, 0, 0⟩] (3 * n - 1) (Nat.le_refl _)
  have e : labI n (3 * n - 1) = 1 := by
    unfold labI
    split
    · omega
    · split <;> omega
  rw [e] at hr
  have hx : (preL n asks (3 * n - 1) ++ [(⟨15, 0, 0⟩ : In)])[3 * n - 1]? = some ⟨15, 0, 0⟩ := by
    rw [List.getElem?_append_right (by rw [preL_len]; omega), preL_len, Nat.sub_self]
    rfl
  have h1 := h.2.2.2 _ _ hx
  rw [labs_rch h.1 hr, List.length_append, preL_len, List.length_singleton] at h1
  have h2 := (insP15.1 h1).2.2
  exact h2 ⟨by omega, by show (0 : Int) < ((1 : Nat) : Int); decide⟩
/-- One loop is closed twice. -/
theorem twice_not (n : Nat) (asks : Bool) : ¬ Good (preL n asks (3 * n) ++ [⟨7, 0, 0⟩, ⟨15, 0, 0⟩]) := by
  have hr := pre_rch (n := n) (asks := asks) (r := 3 * n) (Nat.le_refl _) [⟨7, 0, 0⟩, ⟨15, 0, 0⟩] (3 * n) (Nat.le_refl _)
  have e : labI n (3 * n) = 0 := by
    unfold labI
    split
    · omega
    · split <;> omega
  rw [e] at hr
  have hx : (preL n asks (3 * n) ++ [(⟨7, 0, 0⟩ : In), ⟨15, 0, 0⟩])[3 * n]? = some ⟨7, 0, 0⟩ := by
    rw [List.getElem?_append_right (by rw [preL_len]; omega), preL_len, Nat.sub_self]
    rfl
  have h1 := Rch.step hr hx (q := (((3 * n : Nat) : Int) + 1, -1)) (by simp [stepsA])
  exact bad_out h1 (.inr (.inr (by show (-1 : Int) < 0; decide)))
end Go.Proofs.YtglchagfclafgaaDoor
