/- StackPairs: the walk. -/
import Derived.Test.YtkefiimcopeioaaPairs
namespace Go.Proofs.Ytkefiimcopeioaa
open Go Go.RowKit
set_option linter.unusedSimpArgs false
set_option linter.unusedVariables false

set_option maxHeartbeats 8000000 in
theorem pairs_walk {w : World} {v0 : Value} {z0 : List Int} (h0 : Rd w (fun _ => 0) 0 1 v0 z0.length (ints z0)) (hz0 : ∀ x ∈ z0, I64 x) :
    Calls Try.prog 6 #[v0] w fun e w' => e = .returned (.bool true) ∧ Below w.heap.size w w' := by
  have hB := Base.start w
  obtain ⟨a0, c0, rfl, p1, p2, _, _⟩ := id h0
  unfold maxLen at p2
  obtain ⟨x, hxz, hN, hN1, hN2, hN3, h0⟩ := h0.few 60 (M := 60) rfl
  have hxw : ∀ u ∈ x, I64 u := fun u hu => hz0 _ (List.mem_of_mem_take (hxz ▸ hu))
  have XW := Lib.hid hxw
  clear hxz hxw hz0
  go_enter Try.func6, Try.ntmps6
  go_wp2_with fail
  refine (shown_ok w (fun _ => 0)).mono ?_
  rintro e w1 ⟨rfl, s1⟩
  replace hB := hB.step s1 (by decide)
  replace h0 := h0.frame s1 (by decide)
  clear s1
  have e0 : Owner.set (fun _ => 0) w1.heap.size 0 = (fun _ => 0) := by funext b; simp [Owner.set]
  have hbx := Blk.new w1 (fun _ => 0) 0 22 #[.slice a0 x.length c0]
  rw [e0] at hbx
  have s1 : Step [] w1 (fun _ => 0) (w1.alloc (.cells #[.slice a0 x.length c0] 22)) (Owner.set (fun _ => 0) w1.heap.size 0) := ((Step.refl _ _ _).alloc _).give (Nat.le_refl _) _
  rw [e0] at s1
  replace hB := hB.step s1 (by decide)
  replace h0 := h0.frame s1 (by decide)
  have hcx := hbx.cell0
  clear s1 e0
  by_cases h4 : x.length < 4
  · have h4i : (x.length : Int) < 4 := by omega
    go_wp2_with fail
    go_ret
    exact ⟨rfl, hB.below⟩
  · have h4i : ¬ (x.length : Int) < 4 := by omega
    replace h4 : 4 ≤ x.length := by omega
    go_wp2_with fail
    refine (pair_lit hbx h0 hN2 XW.out [31, 31] (by decide) (by decide) 36 (Q_dup2 x h4 hN2) (by simp)).mono ?_
    rintro e v0 ⟨rfl, s1⟩
    replace hB := hB.step s1 (by decide)
    replace h0 := h0.frame s1 (by decide)
    replace hbx := hbx.frame s1 (by decide)
    clear s1
    go_wp2_with fail
    refine (pair_lit hbx h0 hN2 XW.out [29, 29] (by decide) (by decide) 37 (Q_drop2 x h4 hN2) (by simp)).mono ?_
    rintro e v1 ⟨rfl, s1⟩
    replace hB := hB.step s1 (by decide)
    replace h0 := h0.frame s1 (by decide)
    replace hbx := hbx.frame s1 (by decide)
    clear s1
    go_wp2_with fail
    refine (pair_lit hbx h0 hN2 XW.out [-4, 41, -4, 41] (by decide) (by decide) 38 (Q_swap2 x h4 hN2) (by simp)).mono ?_
    rintro e v2 ⟨rfl, s1⟩
    replace hB := hB.step s1 (by decide)
    replace h0 := h0.frame s1 (by decide)
    replace hbx := hbx.frame s1 (by decide)
    clear s1
    go_wp2_with fail
    refine (pair_lit hbx h0 hN2 XW.out [-4, 40, -4, 40] (by decide) (by decide) 39 (Q_over2 x h4 hN2) (by simp)).mono ?_
    rintro e v3 ⟨rfl, s1⟩
    replace hB := hB.step s1 (by decide)
    replace h0 := h0.frame s1 (by decide)
    replace hbx := hbx.frame s1 (by decide)
    clear s1
    go_wp2_with fail
    refine (pair_lit hbx h0 hN2 XW.out [30, 29] (by decide) (by decide) 33 (Q_nip x h4 hN2) (by simp)).mono ?_
    rintro e v4 ⟨rfl, s1⟩
    replace hB := hB.step s1 (by decide)
    replace h0 := h0.frame s1 (by decide)
    replace hbx := hbx.frame s1 (by decide)
    clear s1
    go_wp2_with fail
    refine (pair_lit hbx h0 hN2 XW.out [30, 31] (by decide) (by decide) 34 (Q_tuck x h4 hN2) (by simp)).mono ?_
    rintro e v5 ⟨rfl, s1⟩
    replace hB := hB.step s1 (by decide)
    replace h0 := h0.frame s1 (by decide)
    replace hbx := hbx.frame s1 (by decide)
    clear s1
    go_wp2_with fail
    refine (pair_lit hbx h0 hN2 XW.out [-3, 41] (by decide) (by decide) 32 (Q_rot x h4 hN2) (by simp)).mono ?_
    rintro e v6 ⟨rfl, s1⟩
    replace hB := hB.step s1 (by decide)
    replace h0 := h0.frame s1 (by decide)
    replace hbx := hbx.frame s1 (by decide)
    clear s1
    go_wp2_with fail
    refine (pair_lit hbx h0 hN2 XW.out [-2, 41] (by decide) (by decide) 30 (Q_swap x h4 hN2) (by simp)).mono ?_
    rintro e v7 ⟨rfl, s1⟩
    replace hB := hB.step s1 (by decide)
    replace h0 := h0.frame s1 (by decide)
    replace hbx := hbx.frame s1 (by decide)
    clear s1
    go_wp2_with fail
    refine (pair_lit hbx h0 hN2 XW.out [-2, 40] (by decide) (by decide) 31 (Q_over x h4 hN2) (by simp)).mono ?_
    rintro e v8 ⟨rfl, s1⟩
    replace hB := hB.step s1 (by decide)
    replace h0 := h0.frame s1 (by decide)
    replace hbx := hbx.frame s1 (by decide)
    clear s1
    go_wp2_with fail
    refine (pair_lit hbx h0 hN2 XW.out [-1, 40] (by decide) (by decide) 28 (Q_dup x h4 hN2) (by simp)).mono ?_
    rintro e v9 ⟨rfl, s1⟩
    replace hB := hB.step s1 (by decide)
    replace h0 := h0.frame s1 (by decide)
    replace hbx := hbx.frame s1 (by decide)
    clear s1
    go_wp2_with fail
    go_ret
    exact ⟨rfl, hB.below⟩
end Go.Proofs.Ytkefiimcopeioaa
