/- The document's stack: contracts of Put, Push, Pop. -/
import Derived.Test.YtkefiimcopeioaaStkB
namespace Go.Proofs.Ytkefiimcopeioaa
open Go Go.RowKit
set_option linter.unusedSimpArgs false
set_option linter.unusedVariables false

theorem rput_ok {w : World} {o : Owner} {i b : Nat} {l : List Int} (hs : Stk 46 w o i b l) {k : Nat} {x : Value} {y : List Int} (hx : Rd w o k 1 x y.length (ints y)) :
    Calls Try.prog 31 #[.pointer (some ⟨b, 0, none⟩), x] w fun e w' => ∃ o', e = .returned (.int .i64 (putE l y)) ∧ Stk 46 w' o' i b (putL l y) ∧ Step [i, i + 1] w o w' o' := by
  have hs0 := hs
  obtain ⟨h0, v, hb, hr⟩ := hs
  obtain ⟨ao, cap, rfl, h1, h2⟩ := hr.slice
  have hc := hb.cell0
  have hx0 := hx
  obtain ⟨xo, xc, rfl, x1, x2, _⟩ := hx
  unfold maxLen at x2
  by_cases hfit : l.length + y.length ≤ 128
  · rw [putE, putL, if_pos hfit, if_pos hfit]
    have s1 := (Step.refl [] w o).alloc (.cells #[] 35)
    have hrd1 := hr.rd.frame s1 (by simp)
    have hx1 := hx0.frame s1 (by simp)
    have hc1 := (hb.frame s1 (by simp)).cell0
    have hi1 : ¬ ((128 : Int) - l.length < y.length) := by omega
    clear hx0 hs0
    go_enter Try.func31, Try.ntmps31
    go_wp2_with (at_builtin; refine wpList_app0 rfl (.tmp 15) (.tmp 19) 22 rfl o (i + 1) Try.underlying22 info35 rfl rfl rfl hrd1 (by omega) (by omega) ?_)
    intro v' w' o' hrow hst
    obtain ⟨a7, c7, rfl, -, -⟩ := hrow.slice
    have hx2 := hx1.frame hst (by simp)
    have hb2 := (hb.frame s1 (by simp)).frame hst (by simp)
    go_wp2_with (at_builtin; refine wpList_app rfl (.tmp 20) (.tmp 21) 22 rfl Try.underlying22 info35 rfl rfl hrow rfl hx2 (ints_one _ _) (by omega) (by omega) ?_)
    intro v3 w3 o3 hrow3 hst3
    have hb3 := hb2.frame hst3 (by simp)
    have hc3 := hb3.cell0
    have hf3 := hb3.frozen 0
    have hrow' : Row w3 o3 (i + 1) 35 1 v3 (l ++ y).length (ints (l ++ y)) := by simpa [ints] using hrow3
    obtain ⟨ao', cap', rfl, _, _⟩ := hrow3.slice
    have hS := (s1.trans hst).nil.trans hst3
    obtain ⟨g1, g2⟩ := Stk.put (by decide) hb hrow' hS (by simpa using hfit)
    clear hrow hrow3 hrow' hst hst3 hb hr hb2 hb3 hx1 hx2
    go_wp2
    go_ret
    exact ⟨o3, rfl, g1, g2⟩
  · rw [putE, putL, if_neg hfit, if_neg hfit]
    have hi1 : (128 : Int) - l.length < y.length := by omega
    clear hb hr hx0
    go_enter Try.func31, Try.ntmps31
    go_wp2
    go_ret
    exact ⟨o, rfl, hs0, Step.refl _ _ _⟩

theorem rpush_ok {w : World} {o : Owner} {i b : Nat} {l : List Int} (hs : Stk 46 w o i b l) (x : Int) :
    Calls Try.prog 28 #[.pointer (some ⟨b, 0, none⟩), .int .i64 x] w fun e w' => ∃ o', e = .returned (.int .i64 (putE l [x])) ∧ Stk 46 w' o' i b (putL l [x]) ∧ Step [i, i + 1] w o w' o' := by
  have hs0 := hs
  obtain ⟨h0, v, hb, hr⟩ := hs
  obtain ⟨ao, cap, rfl, h1, h2⟩ := hr.slice
  have hc := hb.cell0
  by_cases hfit : l.length + [x].length ≤ 128
  · rw [putE, putL, if_pos hfit, if_pos hfit]
    have hl1 : l.length + 1 ≤ 128 := by simpa using hfit
    have s1 := (Step.refl [] w o).alloc (.cells #[] 35)
    have hrd1 := hr.rd.frame s1 (by simp)
    have hc1 := (hb.frame s1 (by simp)).cell0
    have hi1 : ¬ ((128 : Int) ≤ l.length) := by omega
    clear hs0
    go_enter Try.func28, Try.ntmps28
    go_wp2_with (at_builtin; refine wpList_app0 rfl (.tmp 12) (.tmp 16) 22 rfl o (i + 1) Try.underlying22 info35 rfl rfl rfl hrd1 (by omega) (by omega) ?_)
    intro v' w' o' hrow hst
    obtain ⟨a7, c7, rfl, -, -⟩ := hrow.slice
    have hb2 := (hb.frame s1 (by simp)).frame hst (by simp)
    have hxB := fun cs => hrow.frame ((Step.refl [] w' o').alloc (.cells cs 35)) (by simp)
    go_wp2_with (at_builtin; refine wpList_app rfl (.tmp 17) (.tmp 19) 22 rfl Try.underlying22 info35 rfl rfl (hxB _) rfl (Rd.fresh w' o' 1 35 #[.int .i64 x] 1 (by decide) rfl) (by simp [Value.oneCell']) (by omega) (by omega) ?_)
    intro v3 w3 o3 hrow3 hst3
    have s3 := ((Step.refl [] w' o').alloc (.cells #[.int .i64 x] 35))
    have hb3 := (hb2.frame s3 (by simp)).frame hst3 (by simp)
    have hc3 := hb3.cell0
    have hf3 := hb3.frozen 0
    have hrow' : Row w3 o3 (i + 1) 35 1 v3 (l ++ [x]).length (ints (l ++ [x])) := by simpa [ints] using hrow3
    obtain ⟨ao', cap', rfl, _, _⟩ := hrow3.slice
    have hS := ((s1.trans hst).trans s3).nil.trans hst3
    obtain ⟨g1, g2⟩ := Stk.put (by decide) hb hrow' hS (by simpa using hfit)
    clear hrow hrow3 hrow' hst hst3 hb hr hb2 hb3 hxB
    go_wp2
    go_ret
    exact ⟨o3, rfl, g1, g2⟩
  · rw [putE, putL, if_neg hfit, if_neg hfit]
    have hi1 : (128 : Int) ≤ l.length := by simp at hfit; omega
    clear hb hr
    go_enter Try.func28, Try.ntmps28
    go_wp2
    go_ret
    exact ⟨o, rfl, hs0, Step.refl _ _ _⟩
end Go.Proofs.Ytkefiimcopeioaa
