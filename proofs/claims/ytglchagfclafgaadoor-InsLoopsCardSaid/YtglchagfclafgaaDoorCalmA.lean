/- The contracts once more: nothing that was there has changed. -/
import Derived.Test.YtglchagfclafgaaDoorArgsD
import Derived.Test.YtglchagfclafgaaDoorDigT
namespace Go.Proofs.YtglchagfclafgaaDoor
open Go Go.RowKit
set_option linter.unusedSimpArgs false
set_option linter.unusedVariables false

abbrev Z0 : Owner := fun _ => 0
theorem Rd.zero {w : World} {o : Owner} {i size : Nat} {v : Value} {n : Nat} {xs : List Value} (h : Rd w o i size v n xs) : Rd w Z0 0 size v n xs := by
  obtain ⟨ao, cap, hv, h1, h2, h3, h4⟩ := h
  refine ⟨ao, cap, hv, h1, h2, h3, fun hn => ?_⟩
  obtain ⟨b, off, ha, hb, _, hc⟩ := h4 hn
  exact ⟨b, off, ha, hb, rfl, hc⟩
theorem Rd.calm {w w' : World} {size : Nat} {v : Value} {n : Nat} {xs : List Value} (h : Rd w Z0 0 size v n xs) (s : Calm w w') : Rd w' Z0 0 size v n xs := h.frame (s Z0) (by simp)
theorem WL.calm {w w' : World} (h : WL w Z0) (s : Calm w w') : WL w' Z0 := h.frame (s Z0) (by simp)
open Classical in
noncomputable def mayB (l : List In) (words : Int) : Bool := decide (mayP l words)
theorem mayB_true {l : List In} {words : Int} : mayB l words = true ↔ mayP l words := by simp [mayB]
theorem mayB_false {l : List In} {words : Int} : mayB l words = false ↔ ¬ mayP l words := by simp [mayB]

section
variable {w : World} {v : Value} {l : List In} (hl : Rd w Z0 0 3 v l.length (icells l)) (hok : ∀ x ∈ l, x.ok) (hn : l.length ≤ 1000)
include hl hok hn
theorem text_calm (hwl : WL w Z0) : Calls Tryd.prog 15 #[.agg #[v]] w fun e w' => e = .returned (.string (textB l)) ∧ Calm w w' :=
  (text_ok hl hok hn (by decide) hwl).mono fun e w' ⟨o', he, s⟩ => ⟨he, s.calm (by decide)⟩
theorem may_calm {words : Int} (hw : I64 words) : Calls Tryd.prog 13 #[.agg #[v], .int .i64 words] w fun e w' => e = .returned (.bool (mayB l words)) ∧ Calm w w' :=
  (may_ok hl hok hn (by decide) hw).mono fun e w' ⟨b, o', he, hb, s⟩ => ⟨by
    subst he
    have e : b = mayB l words := by
      cases b with
      | true => exact (mayB_true.2 (hb.1 rfl)).symm
      | false => exact (mayB_false.2 (fun h => by have := hb.2 h; cases this)).symm
    rw [e], s.calm (by decide)⟩
theorem loops_calm : Calls Tryd.prog 11 #[.agg #[v]] w fun e w' => ((Good l ∧ ∃ v', e = .returned (.tuple #[v', .bool true]) ∧ Rd w' Z0 0 1 v' l.length (ints (labs l))) ∨ (¬ Good l ∧ e = .returned (.tuple #[.slice none 0 0, .bool false]))) ∧ Calm w w' :=
  (loops_ok hl hok hn 93 (by decide) (by decide)).mono fun e w' h => by
    rcases h with ⟨h1, v', o', he, hr, s⟩ | ⟨h1, o', he, s⟩
    · exact ⟨.inl ⟨h1, v', he, hr.rd.zero⟩, s.calm (by decide)⟩
    · exact ⟨.inr ⟨h1, he⟩, s.calm (by decide)⟩
end
theorem few_calm {w : World} {v : Value} {l : List In} (hl : Rd w Z0 0 3 v l.length (icells l)) : Calls Tryd.prog 10 #[.agg #[v]] w fun e w' => ∃ v', e = .returned (.agg #[v']) ∧ Rd w' Z0 0 3 v' (l.take 60).length (icells (l.take 60)) ∧ Calm w w' :=
  (few_ok hl).mono fun e w' ⟨v', o', he, hr, s⟩ => ⟨v', he, hr.zero, s.calm (by decide)⟩
theorem shown_calm {w : World} (hwl : WL w Z0) : Calls Tryd.prog 9 #[] w fun e w' => e = .returned (.bool true) ∧ Calm w w' :=
  (shown_ok hwl).mono fun e w' ⟨o', he, s⟩ => ⟨he, s.calm (by decide)⟩
theorem ok_take {l : List In} (h : ∀ x ∈ l, x.ok) (k : Nat) : ∀ x ∈ l.take k, x.ok := fun x hx => h x (List.mem_of_mem_take hx)
theorem Rd.form {w : World} {o : Owner} {i size n : Nat} {v : Value} {xs : List Value} (h : Rd w o i size v n xs) : ∃ a c, v = .slice a n c ∧ n ≤ c ∧ c ≤ 9223372036854775807 := by
  obtain ⟨a, c, rfl, h1, h2, -⟩ := h
  exact ⟨a, c, rfl, h1, h2⟩
end Go.Proofs.YtglchagfclafgaaDoor
