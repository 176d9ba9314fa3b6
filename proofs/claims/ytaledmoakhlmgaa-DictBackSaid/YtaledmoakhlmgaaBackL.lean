/- DictBack: the plain law. -/
import Derived.Test.YtaledmoakhlmgaaHidesL
import Derived.Test.YtaledmoakhlmgaaListsL
namespace Go.Proofs.Ytaledmoakhlmgaa
open Go Go.RowKit
set_option linter.unusedSimpArgs false
set_option linter.unusedVariables false

/-- A dictionary to which lists were added, and words behind those that were there. -/
structure Grown (ws : List Wd) (k : Nat) (s : Dst) : Prop where
  ws : ∃ ex, s.ws = ex ++ ws ∧ ex.length ≤ k
  order : ∃ r, s.order = 1 :: r ∧ ∀ k ∈ r, 2 ≤ k
  lists : 1 ≤ s.lists
  known : ∀ k ∈ s.order, 1 ≤ k ∧ k ≤ s.lists
theorem Grown.start (ws : List Wd) : Grown ws 0 (sH ws) := ⟨⟨[], rfl, Nat.le_refl _⟩, ⟨[], rfl, by simp⟩, Int.le_refl _, by intro k hk; simp [sH] at hk; subst hk; exact ⟨Int.le_refl _, Int.le_refl _⟩⟩
theorem Grown.mono {ws : List Wd} {k k' : Nat} {s : Dst} (h : Grown ws k s) (hk : k ≤ k') : Grown ws k' s := by
  obtain ⟨⟨ex, h1, h2⟩, h3, h4, h5⟩ := h
  exact ⟨⟨ex, h1, by omega⟩, h3, h4, h5⟩
theorem Grown.add {ws : List Wd} {k : Nat} {s : Dst} (h : Grown ws k s) (nm : ByteArray) (xt : Int) : Grown ws (k + 1) (addS s nm xt) := by
  unfold addS
  split
  · obtain ⟨⟨ex, h1, h2⟩, h3, h4, h5⟩ := h
    exact ⟨⟨⟨nm, xt, false, s.cur⟩ :: ex, by show _ :: s.ws = _; rw [h1]; rfl, by rw [List.length_cons]; omega⟩, h3, h4, h5⟩
  · exact h.mono (by omega)
/-- What a new list, that becomes the current one, and the last one of the order, leaves. -/
def newS (s : Dst) : Dst := ⟨s.ws, s.lists + 1, s.order.take 7 ++ [s.lists + 1], s.lists + 1⟩
theorem Grown.new {ws : List Wd} {k : Nat} {s : Dst} (h : Grown ws k s) : Grown ws k (newS s) := by
  obtain ⟨h1, ⟨r, h2, h3⟩, h4, h5⟩ := h
  refine ⟨h1, ⟨r.take 6 ++ [s.lists + 1], ?_, ?_⟩, ?_, ?_⟩
  · show s.order.take 7 ++ [s.lists + 1] = _
    rw [h2]
    rfl
  · intro j hj
    rcases List.mem_append.1 hj with hj | hj
    · exact h3 j (List.mem_of_mem_take hj)
    · simp at hj; omega
  · show 1 ≤ s.lists + 1; omega
  · intro j hj
    show 1 ≤ j ∧ j ≤ s.lists + 1
    rcases List.mem_append.1 hj with hj | hj
    · have := h5 j (List.mem_of_mem_take hj); omega
    · simp at hj; omega
theorem new_cur {s : Dst} (h1 : 1 ≤ s.lists) (h : s.lists < 8) : listK s = s.lists + 1 ∧ listE s = 0 ∧ curE (listS s) (s.lists + 1) = 0 ∧ curS (listS s) (s.lists + 1) = ⟨s.ws, s.lists + 1, s.order, s.lists + 1⟩ := by
  have hk : knownB (listS s) (s.lists + 1) = true := by
    unfold knownB listS
    rw [if_neg (by omega)]
    exact decide_eq_true ⟨by omega, by show s.lists + 1 ≤ s.lists + 1; omega⟩
  unfold listK listE curE curS
  rw [if_neg (by omega), if_neg (by omega), hk, if_pos rfl, if_pos rfl]
  refine ⟨rfl, rfl, rfl, ?_⟩
  unfold listS
  rw [if_neg (by omega)]
theorem new_order {s : Dst} (hk : ∀ k ∈ s.order, 1 ≤ k ∧ k ≤ s.lists) (h1 : 1 ≤ s.lists) :
    ordE ⟨s.ws, s.lists + 1, s.order, s.lists + 1⟩ (s.order.take 7 ++ [s.lists + 1]) = 0 ∧ ordS ⟨s.ws, s.lists + 1, s.order, s.lists + 1⟩ (s.order.take 7 ++ [s.lists + 1]) = newS s := by
  have h8 : ¬ 8 < (s.order.take 7 ++ [s.lists + 1]).length := by rw [List.length_append, List.length_take]; simp; omega
  have hany : (s.order.take 7 ++ [s.lists + 1]).any (fun k => !knownB ⟨s.ws, s.lists + 1, s.order, s.lists + 1⟩ k) = false := by
    cases h : (s.order.take 7 ++ [s.lists + 1]).any (fun k => !knownB ⟨s.ws, s.lists + 1, s.order, s.lists + 1⟩ k) with
    | false => rfl
    | true =>
      obtain ⟨k, h2, h3⟩ := List.any_eq_true.1 h
      have hk1 : 1 ≤ k ∧ k ≤ s.lists + 1 := by
        rcases List.mem_append.1 h2 with hj | hj
        · have := hk k (List.mem_of_mem_take hj); omega
        · simp at hj; omega
      rw [show knownB ⟨s.ws, s.lists + 1, s.order, s.lists + 1⟩ k = true from decide_eq_true hk1] at h3
      cases h3
  unfold ordE ordS
  rw [if_neg h8, if_neg h8, hany]
  exact ⟨rfl, rfl⟩
theorem new_full {s : Dst} (h : 8 ≤ s.lists) : listK s = 0 ∧ listE s = -49 ∧ listS s = s := by
  unfold listK listE listS
  rw [if_pos h, if_pos h, if_pos h]
  exact ⟨rfl, rfl, rfl⟩
theorem Grown.back {ws : List Wd} {k : Nat} {s : Dst} (h : Grown ws k s) (hl : ∀ x ∈ ws, x.li ≤ 1) : backE s ws.length 1 = 0 ∧ backS s ws.length 1 = sH ws := by
  obtain ⟨⟨ex, h1, -⟩, ⟨r, h2, h3⟩, h4, -⟩ := h
  have hk : kept s ws.length = ws := by
    unfold kept
    rw [h1, Int.toNat_natCast, List.length_append, show ex.length + ws.length - ws.length = ex.length by omega, List.drop_left]
  have hE : backE s ws.length 1 = 0 := by
    unfold backE
    rw [if_neg (by omega), if_neg (by rw [h1, List.length_append]; omega), if_neg (by decide), if_neg (by omega), hk, if_neg]
    rw [List.any_eq_true]
    rintro ⟨x, h5, h6⟩
    have := hl x h5
    simp at h6
    omega
  refine ⟨hE, ?_⟩
  unfold backS
  rw [if_pos hE, hk, h2]
  have hf : (1 :: r).filter (inL 1) = [1] := by
    rw [List.filter_cons_of_pos (by rfl)]
    congr 1
    apply List.filter_eq_nil_iff.2
    intro j hj
    have := h3 j hj
    simp [inL]
    omega
  have hc : curB s.cur 1 = 1 := by unfold curB; split <;> omega
  rw [hf, hc]
  rfl
theorem back_list (ws : List Wd) : listK (sH ws) = 2 ∧ listE (sH ws) = 0 ∧ listS (sH ws) = ⟨ws, 2, [1], 1⟩ := ⟨rfl, rfl, rfl⟩
theorem back_more (ws : List Wd) : backE ⟨ws, 2, [1], 1⟩ ((ws.length : Int) + 1) 1 = 1 ∧ backS ⟨ws, 2, [1], 1⟩ ((ws.length : Int) + 1) 1 = ⟨ws, 2, [1], 1⟩ := by
  have hE : backE ⟨ws, 2, [1], 1⟩ ((ws.length : Int) + 1) 1 = 1 := by
    unfold backE
    rw [if_neg (by omega), if_pos (by show (ws.length : Int) < _; omega)]
  refine ⟨hE, ?_⟩
  unfold backS
  rw [hE, if_neg (by decide)]
theorem back_none (ws : List Wd) : backE ⟨ws, 2, [1], 1⟩ 0 0 = 1 ∧ backS ⟨ws, 2, [1], 1⟩ 0 0 = ⟨ws, 2, [1], 1⟩ := by
  have hE : backE ⟨ws, 2, [1], 1⟩ 0 0 = 1 := by
    unfold backE
    rw [if_neg (by decide), if_neg (by show ¬ (ws.length : Int) < 0; omega), if_pos (by decide)]
  refine ⟨hE, ?_⟩
  unfold backS
  rw [hE, if_neg (by decide)]
theorem sH_names2 (ws : List Wd) : namesD (sH ws) 2 = [] := rfl
theorem bnames_len (k : Int) : ∀ l : List Wd, (names k l).length ≤ l.length
  | [] => Nat.le_refl _
  | x :: r => by
    have := bnames_len k r
    rw [names_cons]
    split <;> simp <;> omega
theorem bnamesD_len (s : Dst) (k : Int) : (namesD s k).length ≤ s.ws.length := by
  unfold namesD
  split
  · exact bnames_len _ _
  · simp
end Go.Proofs.Ytaledmoakhlmgaa
