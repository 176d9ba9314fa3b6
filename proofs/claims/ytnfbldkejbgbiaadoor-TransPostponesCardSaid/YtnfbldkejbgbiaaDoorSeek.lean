/- Where a name stands in the table; the row of the table as it is read. -/
import Derived.Test.YtnfbldkejbgbiaaDoorAllR
namespace Go.Proofs.YtnfbldkejbgbiaaDoor
open Go Go.RowKit
set_option linter.unusedSimpArgs false
set_option linter.unusedVariables false

/-- The first place of a name, or -1. -/
def seekI (t : ByteArray) : Int := match built.findIdx? fun b => lst b.name == lst t with | some j => j | none => -1

theorem seek_hit {t : ByteArray} {j : Nat} (hj : j < built.length) (h : built[j].name = t) (hf : ∀ i (hi : i < j), built[i].name ≠ t) : seekI t = j := by
  have : built.findIdx? (fun b => lst b.name == lst t) = some j := by
    rw [List.findIdx?_eq_some_iff_getElem]
    refine ⟨hj, by rw [h]; exact beq_self_eq_true _, fun i hi => ?_⟩
    intro e
    exact hf i hi (lst_inj (eq_of_beq e))
  unfold seekI
  rw [this]

theorem seek_miss {t : ByteArray} (h : ∀ i (hi : i < built.length), built[i].name ≠ t) : seekI t = -1 := by
  have : built.findIdx? (fun b => lst b.name == lst t) = none := by
    rw [List.findIdx?_eq_none_iff]
    intro b hb
    obtain ⟨i, hi, rfl⟩ := List.mem_iff_getElem.1 hb
    exact beq_eq_false_iff_ne.2 fun e => h i hi (lst_inj e)
  unfold seekI
  rw [this]

theorem seek_cases (t : ByteArray) : (∃ j, ∃ hj : j < built.length, seekI t = (j : Nat) ∧ built[j].name = t) ∨ (seekI t = -1 ∧ ∀ i (hi : i < built.length), built[i].name ≠ t) := by
  unfold seekI
  cases h : built.findIdx? fun b => lst b.name == lst t with
  | none =>
    refine .inr ⟨rfl, fun i hi e => ?_⟩
    have := List.findIdx?_eq_none_iff.1 h built[i] (List.getElem_mem hi)
    rw [e] at this
    simp at this
  | some j =>
    obtain ⟨hj, h1, _⟩ := List.findIdx?_eq_some_iff_getElem.1 h
    exact .inl ⟨j, hj, rfl, lst_inj (eq_of_beq h1)⟩

/-- What Find tells. -/
def findV (t : ByteArray) : Value := match built.find? fun b => lst b.name == lst t with | some b => .tuple #[b.val, .bool true] | none => .tuple #[ZB, .bool false]

theorem findV_hit {t : ByteArray} {j : Nat} (hj : j < built.length) (h : built[j].name = t) (hf : ∀ i (hi : i < j), built[i].name ≠ t) : findV t = .tuple #[built[j].val, .bool true] := by
  have : built.find? (fun b => lst b.name == lst t) = some built[j] := by
    rw [List.find?_eq_some_iff_getElem]
    refine ⟨by rw [h]; exact beq_self_eq_true _, j, hj, rfl, fun i hi => ?_⟩
    rw [Bool.not_eq_true', beq_eq_false_iff_ne]
    exact fun e => hf i hi (lst_inj e)
  unfold findV
  rw [this]

theorem findV_miss {t : ByteArray} (h : ∀ i (hi : i < built.length), built[i].name ≠ t) : findV t = .tuple #[ZB, .bool false] := by
  have : built.find? (fun b => lst b.name == lst t) = none := by
    rw [List.find?_eq_none]
    intro b hb
    obtain ⟨i, hi, rfl⟩ := List.mem_iff_getElem.1 hb
    intro e
    exact h i hi (lst_inj (eq_of_beq e))
  unfold findV
  rw [this]

/-- The table's names are all unlike. -/
def allUnlike : List B → Bool
  | [] => true
  | b :: l => l.all (fun c => !(lst c.name == lst b.name)) && allUnlike l
theorem unlike_of : ∀ {l : List B}, allUnlike l = true → ∀ {i j : Nat} (hi : i < l.length) (hj : j < l.length), l[i].name = l[j].name → i = j
  | [], _, i, _, hi, _, _ => absurd hi (by simp)
  | b :: l, h, i, j, hi, hj, e => by
    rw [allUnlike, Bool.and_eq_true, List.all_eq_true] at h
    obtain ⟨h1, h2⟩ := h
    match i, j, hi, hj, e with
    | 0, 0, _, _, _ => rfl
    | 0, j + 1, _, hj, e =>
      have hj' : j < l.length := by simpa using hj
      have := h1 l[j] (List.getElem_mem hj')
      rw [Bool.not_eq_true', beq_eq_false_iff_ne] at this
      exact absurd (congrArg lst e.symm) this
    | i + 1, 0, hi, _, e =>
      have hi' : i < l.length := by simpa using hi
      have := h1 l[i] (List.getElem_mem hi')
      rw [Bool.not_eq_true', beq_eq_false_iff_ne] at this
      exact absurd (congrArg lst e) this
    | i + 1, j + 1, hi, hj, e => rw [unlike_of h2 (by simpa using hi) (by simpa using hj) e]
theorem built_unlike : allUnlike built = true := by kernel_rfl
theorem name_inj {i j : Nat} (hi : i < built.length) (hj : j < built.length) (h : built[i].name = built[j].name) : i = j := unlike_of built_unlike hi hj h

theorem seek_at {t : ByteArray} {j : Nat} (hj : j < built.length) (h : built[j].name = t) : seekI t = j :=
  seek_hit hj h fun i hi e => Nat.ne_of_lt hi (name_inj (by omega) hj (e.trans h.symm))
theorem findV_at {t : ByteArray} {j : Nat} (hj : j < built.length) (h : built[j].name = t) : findV t = .tuple #[built[j].val, .bool true] :=
  findV_hit hj h fun i hi e => Nat.ne_of_lt hi (name_inj (by omega) hj (e.trans h.symm))

/-- The cells of a word of the table. -/
theorem word_at {w : World} {o : Owner} {i g cap : Nat} (h : Rowx w o i 49 5 g 180 cap (bcells built)) {j : Nat} (hj : j < built.length) :
    w.cell? ⟨g, j * 5, none⟩ = some (.string built[j].name) ∧ w.cell? ⟨g, j * 5 + 1, none⟩ = some (.int .i64 (built[j].k : Nat)) ∧ w.cell? ⟨g, j * 5 + 2, none⟩ = some (.int .i64 (built[j].n : Nat)) ∧
      w.cell? ⟨g, j * 5 + 3, none⟩ = some (.bool built[j].now) ∧ w.cell? ⟨g, j * 5 + 4, none⟩ = some (.bool built[j].only) :=
  ⟨h.cell (bcells_get built j 0 hj (by decide)), h.cell (bcells_get built j 1 hj (by decide)), h.cell (bcells_get built j 2 hj (by decide)), h.cell (bcells_get built j 3 hj (by decide)), h.cell (bcells_get built j 4 hj (by decide))⟩
theorem word_atb {w : World} {o : Owner} {i g cap : Nat} (h : Rowx w o i 49 5 g 180 cap (bcells built)) {j : Nat} {b : B} (hb : built[j]? = some b) :
    w.cell? ⟨g, j * 5, none⟩ = some (.string b.name) ∧ w.cell? ⟨g, j * 5 + 1, none⟩ = some (.int .i64 (b.k : Nat)) ∧ w.cell? ⟨g, j * 5 + 2, none⟩ = some (.int .i64 (b.n : Nat)) ∧
      w.cell? ⟨g, j * 5 + 3, none⟩ = some (.bool b.now) ∧ w.cell? ⟨g, j * 5 + 4, none⟩ = some (.bool b.only) := by
  obtain ⟨hj, rfl⟩ := List.getElem?_eq_some_iff.1 hb
  exact word_at h hj

theorem seek_casesb (t : ByteArray) :
    (∃ j b, built[j]? = some b ∧ j < 180 ∧ seekI t = (j : Nat) ∧ b.name = t ∧ findV t = .tuple #[b.val, .bool true]) ∨ (seekI t = -1 ∧ findV t = .tuple #[ZB, .bool false] ∧ ∀ i (hi : i < built.length), built[i].name ≠ t) := by
  rcases seek_cases t with ⟨j, hj, h1, h2⟩ | ⟨h1, h2⟩
  · exact .inl ⟨j, built[j], List.getElem?_eq_getElem hj, by rw [built_length] at hj; exact hj, h1, h2, findV_at hj h2⟩
  · exact .inr ⟨h1, findV_miss h2, h2⟩
end Go.Proofs.YtnfbldkejbgbiaaDoor
