/- A definition of places alone: plain laws. -/
import Derived.Test.YtglchagfclafgaaDoorInsK
namespace Go.Proofs.YtglchagfclafgaaDoor
open Go Go.RowKit
set_option linter.unusedSimpArgs false
set_option linter.unusedVariables false

def jumI (p : Bool × Int) : In := ⟨if p.1 then 4 else 3, p.2, 0⟩
def jl (ps : List (Bool × Int)) : List In := ps.map jumI ++ [⟨15, 0, 0⟩]
def okJ (ps : List (Bool × Int)) : Prop := ∀ p ∈ ps, 0 ≤ p.2 ∧ p.2 < (ps.length : Int) + 1
theorem jl_len (ps : List (Bool × Int)) : (jl ps).length = ps.length + 1 := by simp [jl]
theorem jl_at {ps : List (Bool × Int)} {q : Nat} {x : In} (h : (jl ps)[q]? = some x) : (∃ p, ps[q]? = some p ∧ x = jumI p) ∨ (q = ps.length ∧ x = ⟨15, 0, 0⟩) := by
  have hq := (List.getElem?_eq_some_iff.1 h).1
  rw [jl_len] at hq
  unfold jl at h
  rcases Nat.lt_or_ge q ps.length with h1 | h1
  · rw [List.getElem?_append_left (by rw [List.length_map]; exact h1), List.getElem?_map] at h
    obtain ⟨p, hp, rfl⟩ := Option.map_eq_some_iff.1 h
    exact .inl ⟨p, hp, rfl⟩
  · rw [List.getElem?_append_right (by rw [List.length_map]; exact h1), List.length_map] at h
    have e : q - ps.length = 0 := by omega
    rw [e] at h
    simp at h
    exact .inr ⟨by omega, h.symm⟩
theorem jl_loc (ps : List (Bool × Int)) : locA (jl ps) = 0 := by
  rcases h : jl ps with _ | ⟨a, b⟩
  · rfl
  · have h0 : (jl ps)[0]? = some a := by rw [h]; rfl
    refine if_neg ?_
    rcases jl_at h0 with ⟨p, _, rfl⟩ | ⟨_, rfl⟩
    · obtain ⟨b, v⟩ := p
      cases b <;> show ¬ (_ : Int) = 12 <;> simp [jumI]
    · decide
section
variable {ps : List (Bool × Int)} (hp : okJ ps)
include hp
theorem jl_steps {i : Nat} {x : In} (hx : (jl ps)[i]? = some x) : ∀ q ∈ stepsA x i 0, q.2 = 0 ∧ 0 ≤ q.1 ∧ q.1 < ((jl ps).length : Int) := by
  have hi := (List.getElem?_eq_some_iff.1 hx).1
  rw [jl_len] at hi ⊢
  intro q hq
  rcases jl_at hx with ⟨p, hp', rfl⟩ | ⟨_, rfl⟩
  · have h1 := hp p (List.mem_of_getElem? hp')
    have h2 := (List.getElem?_eq_some_iff.1 hp').1
    obtain ⟨b, v⟩ := p
    cases b
    · have : q = (v, 0) := by simpa [stepsA, jumI] using hq
      subst this
      dsimp only at h1 ⊢
      omega
    · have : q = ((i : Int) + 1, 0) ∨ q = (v, 0) := by simpa [stepsA, jumI] using hq
      rcases this with rfl | rfl
      · dsimp only
        omega
      · dsimp only at h1 ⊢
        omega
  · simp [stepsA] at hq
theorem jl_good : Good (jl ps) := by
  refine good_inv (fun i m => m = 0 ∧ 0 ≤ i ∧ i < ((jl ps).length : Int)) ⟨rfl, by omega, by rw [jl_len]; omega⟩ ?_ ?_
  · rintro i m x ⟨rfl, h0, h1⟩ hx q hq
    exact jl_steps hp hx q hq
  · rintro i m ⟨rfl, h0, h1⟩
    exact ⟨h0, h1, by omega, fun m' h => h.1⟩
theorem jl_rch {i m : Int} (h : Rch (jl ps) i m) : m = 0 := by
  have := rch_inv (l := jl ps) (fun i m => m = 0) rfl (fun i m x hm hx q hq => by subst hm; exact (jl_steps hp hx q hq).1) h
  exact this
theorem jl_labs {i : Nat} {u : Int} (h : (labs (jl ps))[i]? = some u) : u = 0 ∨ u = -1 := by
  rcases labs_get h with ⟨h1, _⟩ | h1
  · exact .inr h1
  · exact .inl (jl_rch hp h1)
theorem jl_first : (labs (jl ps))[0]? = some 0 := labs_rch (jl_good hp) .start
theorem jl_may (hn : ps.length ≤ 100) : mayP (jl ps) 0 := by
  refine ⟨jl_good hp, by rw [jl_len]; omega, ⟨⟨15, 0, 0⟩, ?_, .inl rfl⟩, fun q x hx => ?_⟩
  · rw [jl_len, Nat.add_sub_cancel]
    unfold jl
    rw [List.getElem?_append_right (by rw [List.length_map]; omega), List.length_map, Nat.sub_self]
    rfl
  · rw [jl_loc, jl_len]
    have hq : q < (labs (jl ps)).length := by rw [labs_len]; exact (List.getElem?_eq_some_iff.1 hx).1
    have hl := jl_labs hp (List.getElem?_eq_getElem hq)
    rcases jl_at hx with ⟨p, hp', rfl⟩ | ⟨_, rfl⟩
    · have h1 := hp p (List.mem_of_getElem? hp')
      obtain ⟨b, v⟩ := p
      dsimp only at h1
      cases b
      · exact (insPg (op := 3) (by decide)).2 ⟨rfl, h1.1, by omega⟩
      · exact (insPg (op := 4) (by decide)).2 ⟨rfl, h1.1, by omega⟩
    · refine insP15.2 ⟨rfl, rfl, fun h => ?_⟩
      rw [List.getElem?_eq_getElem hq, Option.getD_some] at h
      omega
end
theorem jl_not {ps : List (Bool × Int)} (hp : ¬ okJ ps) : ¬ mayP (jl ps) 0 := fun h => hp fun p hm => by
  obtain ⟨q, hq⟩ := List.mem_iff_getElem?.1 hm
  have hx : (jl ps)[q]? = some (jumI p) := by
    unfold jl
    rw [List.getElem?_append_left (by rw [List.length_map]; exact (List.getElem?_eq_some_iff.1 hq).1), List.getElem?_map, hq]
    rfl
  have h1 := h.2.2.2 q _ hx
  rw [jl_len] at h1
  obtain ⟨b, v⟩ := p
  cases b
  · have := (insPg (op := 3) (by decide)).1 h1
    dsimp only
    omega
  · have := (insPg (op := 4) (by decide)).1 h1
    dsimp only
    omega
theorem drop_not (l : List In) (words : Int) : ¬ mayP (l ++ [⟨11, 0, 0⟩]) words := fun h => by
  obtain ⟨x, hx, h1⟩ := h.2.2.1
  rw [List.length_append, List.length_singleton, Nat.add_sub_cancel, List.getElem?_append_right (Nat.le_refl _), Nat.sub_self] at hx
  obtain rfl := Option.some.inj hx
  rcases h1 with h1 | h1 <;> exact absurd h1 (by decide)

/-- What is made of the places and of what asks. -/
def itemsJ (xs : List Int) (bs : List Bool) (n : Nat) : List (Bool × Int) := (List.range n).map fun i => (bs.getD i false, (xs.getD i 0).tmod 41)
theorem itemsJ_len (xs : List Int) (bs : List Bool) (n : Nat) : (itemsJ xs bs n).length = n := by simp [itemsJ]
theorem itemsJ_succ (xs : List Int) (bs : List Bool) (n : Nat) : itemsJ xs bs (n + 1) = itemsJ xs bs n ++ [(bs.getD n false, (xs.getD n 0).tmod 41)] := by simp [itemsJ, List.range_succ]
theorem tmod41 (x : Int) : -40 ≤ x.tmod 41 ∧ x.tmod 41 ≤ 40 := by
  rcases Int.lt_or_le x 0 with h | h
  · have e : x = -(-x) := by omega
    rw [e, Int.neg_tmod, Int.tmod_eq_emod_of_nonneg (by omega)]
    omega
  · rw [Int.tmod_eq_emod_of_nonneg h]
    omega
theorem jl_ok (xs : List Int) (bs : List Bool) (n : Nat) : ∀ x ∈ jl (itemsJ xs bs n), x.ok := by
  intro x hx
  obtain ⟨q, hq⟩ := List.mem_iff_getElem?.1 hx
  rcases jl_at hq with ⟨p, hp, rfl⟩ | ⟨_, rfl⟩
  · obtain ⟨i, _, rfl⟩ := List.mem_map.1 (List.mem_of_getElem? hp)
    have := tmod41 (xs.getD i 0)
    refine ⟨?_, ⟨by show _ ≤ (xs.getD i 0).tmod 41; omega, by show (xs.getD i 0).tmod 41 ≤ _; omega⟩, ⟨by show _ ≤ (0 : Int); decide, by show (0 : Int) ≤ _; decide⟩⟩
    show 0 ≤ (if bs.getD i false then (4 : Int) else 3) ∧ (if bs.getD i false then (4 : Int) else 3) ≤ 255
    split <;> decide
  · exact ⟨⟨by decide, by decide⟩, ⟨by decide, by decide⟩, ⟨by decide, by decide⟩⟩
theorem okJ_iff (ps : List (Bool × Int)) : okJ ps ↔ ∀ x ∈ jl ps, 0 ≤ x.a ∧ x.a < (ps.length : Int) + 1 := by
  constructor
  · intro h x hx
    obtain ⟨q, hq⟩ := List.mem_iff_getElem?.1 hx
    rcases jl_at hq with ⟨p, hp, rfl⟩ | ⟨_, rfl⟩
    · exact h p (List.mem_of_getElem? hp)
    · exact ⟨by show (0 : Int) ≤ 0; decide, by show (0 : Int) < _; omega⟩
  · intro h p hp
    exact h (jumI p) (List.mem_append_left _ (List.mem_map_of_mem hp))
end Go.Proofs.YtglchagfclafgaaDoor
