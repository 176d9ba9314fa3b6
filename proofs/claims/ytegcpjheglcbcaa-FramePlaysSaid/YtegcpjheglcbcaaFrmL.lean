/- Frames with locals: their copies; Push. -/
import Derived.Test.YtegcpjheglcbcaaFrmH
namespace Go.Proofs.Ytegcpjheglcbcaa
open Go Go.RowKit Go.Shelf
set_option linter.unusedSimpArgs false
set_option linter.unusedVariables false

abbrev cellsOf (l : List Int) : List Value := l.map (Value.int .i64)
theorem info22 : (Try.prog.info? 22).map (fun i => (i.zero, i.size, i.bytes)) = some (some (.int .i64 0), 1, 8) := by kernel_rfl

theorem clone_ok {w : World} {o1 : Owner} {k n : Nat} {v : Value} {xs : List Value} (hr : Rd w o1 k 1 v n xs) (hn : n ≤ 1000000) (o : Owner) (j : Nat) :
    Calls Try.prog 40 #[v] w fun e w' => ∃ v' o', e = .returned v' ∧ Row w' o' j 22 1 v' n xs ∧ Step [] w o w' o' := by
  have hr0 := hr
  obtain ⟨ao, cap, rfl, h1, h2, h3, h4⟩ := hr
  cases ao with
  | none =>
    have hn0 : n = 0 := by
      rcases Nat.eq_zero_or_pos n with h | h
      · exact h
      · obtain ⟨b, off, hb, _⟩ := h4 h; cases hb
    subst hn0
    obtain rfl : xs = [] := List.eq_nil_of_length_eq_zero (by simpa using h3)
    clear h4 hr0
    go_enter Try.func40, Try.ntmps40
    go_wp2
    go_ret
    exact ⟨_, o, rfl, Row.nil _ _ _ _ _ _, Step.refl _ _ _⟩
  | some a =>
    clear h4
    have hw := hr0.frame ((Step.refl [] w o1).alloc (.cells #[] 22)) (by simp)
    go_enter Try.func40, Try.ntmps40
    go_wp2_with (at_builtin; refine wpList_app0 rfl (.tmp 5) (.tmp 6) 28 rfl o j Try.underlying28 info22 rfl rfl rfl hw (by omega) (by omega) ?_)
    intro v' w' o' hrow hst
    go_wp2
    go_ret
    exact ⟨_, o', rfl, hrow, ((Step.refl [] w o).alloc _).trans hst⟩

theorem own_ok {w : World} {o1 : Owner} {k2 : Nat} {l : List Int} {lv : Value} (hr : Rd w o1 k2 1 lv l.length (cellsOf l)) (hl : l.length ≤ 1000000) (o : Owner) (j : Nat) (k a b x y : Int) :
    Calls Try.prog 28 #[.agg #[.int .i64 k, .int .i64 a, .int .i64 b, .int .i64 x, .int .i64 y, lv]] w fun e w' => ∃ lv' o', e = .returned (.agg #[.int .i64 k, .int .i64 a, .int .i64 b, .int .i64 x, .int .i64 y, lv']) ∧ Row w' o' j 22 1 lv' l.length (cellsOf l) ∧ Step [] w o w' o' := by
  have sA : Step [] w o1 ((w.alloc (.cells #[.int .i64 k, .int .i64 a, .int .i64 b, .int .i64 x, .int .i64 y, lv] 30)).alloc (.cells #[.int .i64 0, .int .i64 0, .int .i64 0, .int .i64 0, .int .i64 0, .slice none 0 0] 30)) o1 := ((Step.refl _ _ _).alloc _).alloc _
  have hrA := hr.frame sA (by simp)
  obtain ⟨ao, cap, rfl, h1, h2, h3, h4⟩ := id hr
  have hcl := clone_ok hrA hl (o.cap w.heap.size (j + 1)) j
  clear h3 h4 hr hrA sA
  have sB : Step [] w (o.cap w.heap.size (j + 1)) ((w.alloc (.cells #[.int .i64 k, .int .i64 a, .int .i64 b, .int .i64 x, .int .i64 y, .slice ao l.length cap] 30)).alloc (.cells #[.int .i64 0, .int .i64 0, .int .i64 0, .int .i64 0, .int .i64 0, .slice none 0 0] 30)) (o.cap w.heap.size (j + 1)) := ((Step.refl _ _ _).alloc _).alloc _
  have fX : FB ((w.alloc (.cells #[.int .i64 k, .int .i64 a, .int .i64 b, .int .i64 x, .int .i64 y, .slice ao l.length cap] 30)).alloc (.cells #[.int .i64 0, .int .i64 0, .int .i64 0, .int .i64 0, .int .i64 0, .slice none 0 0] 30)) w.heap.size k a b x y (.slice ao l.length cap) :=
    (FB.new w k a b x y (.slice ao l.length cap)).below ((Below.refl (w.heap.size + 1) _).alloc (by simp) _) (by omega)
  have fZ := FB.new (w.alloc (.cells #[.int .i64 k, .int .i64 a, .int .i64 b, .int .i64 x, .int .i64 y, .slice ao l.length cap] 30)) 0 0 0 0 0 (.slice none 0 0)
  rw [World.size_alloc] at fZ
  go_enter Try.func28, Try.ntmps28
  go_wp2_with (go_at_call 40; refine hcl.mono ?_; rintro e w1 ⟨lv', o', rfl, hrow, s1⟩; obtain ⟨ao', cap', rfl, _, _⟩ := hrow.slice; have fX1 := fX.step s1 (by simp); have fZ1 := fZ.step s1 (by simp); obtain ⟨⟨x0, x1, x2, x3, x4, x5⟩, y0, y1, y2, y3, y4, y5⟩ := fX1.facts; obtain ⟨⟨z0, z1, z2, z3, z4, z5⟩, u0, u1, u2, u3, u4, u5⟩ := fZ1.facts)
  have hOA : ∀ q, q < w.heap.size + 1 + 1 → w.heap.size ≤ q → o' q ∈ [j + 1] := fun q hq1 hq2 => by
    rw [s1.own q (by simp; omega), Owner.cap_hi o _ hq2]; simp
  have hj : w.heap.size < w.heap.size + 1 + 1 := by omega
  have sE : Step [j + 1] w1 o' (set6 (w1.setCell ⟨w.heap.size, 5, none⟩ (.slice ao' l.length cap')) (w.heap.size + 1) k a b x y (.slice ao' l.length cap')) o' :=
    step_set6 ((Step.refl _ _ _).setCell (fun _ => hOA _ (by show w.heap.size < w.heap.size + 1 + 1; omega) (Nat.le_refl _)) _) (fun _ => hOA _ (by omega) (by omega)) k a b x y _
  have sF : Step [] w (o.cap w.heap.size (j + 1)) (set6 (w1.setCell ⟨w.heap.size, 5, none⟩ (.slice ao' l.length cap')) (w.heap.size + 1) k a b x y (.slice ao' l.length cap')) o' :=
    step_set6 ((sB.trans s1).setCell (fun h => absurd h (Nat.lt_irrefl _)) _) (fun h => absurd h (by omega)) k a b x y _
  have hrF := hrow.frame sE (by simp)
  obtain ⟨⟨r0, r1, r2, r3, r4, r5⟩, _⟩ := ((fZ1.other (q := ⟨w.heap.size, 5, none⟩) (by show w.heap.size + 1 ≠ w.heap.size; omega) (.slice ao' l.length cap')).set6 k a b x y (.slice ao' l.length cap')).facts
  refine bodyPost_ret (v := .agg #[.int .i64 k, .int .i64 a, .int .i64 b, .int .i64 x, .int .i64 y, .slice ao' l.length cap']) (by simp [results, Try.results28, go_sem, r0, r1, r2, r3, r4, r5]) rfl ?_
  exact ⟨_, o', rfl, hrF, sF.uncap⟩
end Go.Proofs.Ytegcpjheglcbcaa
