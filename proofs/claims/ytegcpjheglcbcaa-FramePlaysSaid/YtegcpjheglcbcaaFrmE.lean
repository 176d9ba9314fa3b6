/- Frames of the program: Index as a law of stacks of frames; the document's examples. -/
import Derived.Test.YtegcpjheglcbcaaFrmD
namespace Go.Proofs.Ytegcpjheglcbcaa
open Go Go.RowKit Go.Shelf
set_option linter.unusedSimpArgs false
set_option linter.unusedVariables false

def Fr.zero : Fr := ⟨0, 0, 0, 0, 0, undef⟩
abbrev kfs (fs : List Fr) (x : Nat) : Int := (fs[x]?.getD Fr.zero).k
abbrev xfs (fs : List Fr) (x : Nat) : Int := (fs[x]?.getD Fr.zero).x

theorem index_ok {w : World} {o : Owner} {i b : Nat} {fs : List Fr} (hs : FStk w o i b fs) (outer : Int) (ho : -9223372036854775808 ≤ outer ∧ outer ≤ 9223372036854775807) :
    Calls Try.prog 14 #[.pointer (some ⟨b, 0, none⟩), .int .i64 outer] w fun e w' => ((idxOk (kfs fs) fs.length outer ∧ e = .returned (.tuple #[.int .i64 (xfs fs (fs.length - 1 - outer.toNat)), .int .i64 0])) ∨ (¬ idxOk (kfs fs) fs.length outer ∧ e = .returned (.tuple #[.int .i64 0, .int .i64 (-26)]))) ∧ Step [] w o w' o := by
  obtain ⟨h0, v, hb, hr⟩ := hs
  have hc := hb.cell0
  have key : ∃ ao cap g, v = .slice ao fs.length cap ∧ (0 < fs.length → ao = some ⟨g, 0, none⟩) ∧ (∀ x, x < fs.length → w.cell? ⟨g, x * 6, none⟩ = some (.int .i64 (kfs fs x))) ∧ (∀ x, x < fs.length → w.cell? ⟨g, x * 6 + 3, none⟩ = some (.int .i64 (xfs fs x))) := by
    by_cases hz : 0 < fs.length
    · obtain ⟨g, cap, rfl, hx⟩ := hr.rowx hz
      refine ⟨_, cap, g, rfl, fun _ => rfl, fun x h => ?_, fun x h => ?_⟩
      · have := frs_get fs x 0 h (by omega)
        rw [Nat.add_zero] at this
        rw [hx.cell this]
        simp [Fr.cells, kfs, h]
      · rw [hx.cell (frs_get fs x 3 h (by omega))]
        simp [Fr.cells, xfs, h]
    · obtain ⟨ao, cap, rfl, _, _⟩ := hr.slice
      exact ⟨ao, cap, 0, rfl, fun h => absurd h hz, fun x h => by omega, fun x h => by omega⟩
  obtain ⟨ao, cap, g, rfl, hg, hk, hx⟩ := key
  refine (index_raw (by omega) hg outer ho _ _ hc hk hx).mono ?_
  rintro e w' ⟨h, hB⟩
  exact ⟨h, Step.ofBelow hB o⟩

/-- A lone loop. -/
abbrev L1 (x y : Int) : Fr := ⟨3, 0, 0, x, y, .slice none 0 0⟩

theorem index_one {w : World} {o : Owner} {i b : Nat} {x y : Int} (hs : FStk w o i b [L1 x y]) :
    Calls Try.prog 14 #[.pointer (some ⟨b, 0, none⟩), .int .i64 0] w fun e w' => e = .returned (.tuple #[.int .i64 x, .int .i64 0]) ∧ Step [] w o w' o := by
  refine (index_ok hs 0 ⟨by omega, by omega⟩).mono ?_
  rintro e w' ⟨⟨_, rfl⟩ | ⟨h, _⟩, s⟩
  · exact ⟨rfl, s⟩
  · exfalso
    refine h ⟨by omega, by simp, fun j hj => ?_⟩
    have : j = 0 := by omega
    subst this
    rfl

theorem step_one {w : World} {o : Owner} {i b : Nat} {x y : Int} (hs : FStk w o i b [L1 x y]) (by_ : Int) :
    Calls Try.prog 15 #[.pointer (some ⟨b, 0, none⟩), .int .i64 by_] w fun e w' => ∃ o', e = .returned (.tuple #[.bool (endF x y by_), .int .i64 0]) ∧ FStk w' o' i b (if endF x y by_ = true then [] else [L1 (wrap64 (x + by_)) y]) ∧ Step [i, i + 1] w o w' o' :=
  step_loop (fs := []) (f := L1 x y) hs rfl by_

theorem shown_ok (w : World) (o : Owner) : Calls Try.prog 10 #[] w fun e w' => e = .returned (.bool true) ∧ Step [] w o w' o := by
  go_enter Try.func10, Try.ntmps10
  go_wp2_with fail
  refine (new_ok w (fun _ => 0) 10).mono ?_
  rintro e w1 ⟨b, o1, rfl, hs, s1⟩
  replace s1 : Step [10, 11] w (fun _ => 0) w1 o1 := s1.nil
  go_wp2_with fail
  refine (push_bare hs 3 0 0 0 2).mono ?_
  rintro e w2 ⟨o2, rfl, hs, s2⟩
  replace s1 := s1.trans s2
  replace hs : FStk w2 o2 10 b [L1 0 2] := hs
  have e1 : endF 0 2 1 = false := by simp [endF, wrap64]
  have e2 : endF 1 2 1 = true := by simp [endF, wrap64]
  have hst := step_one hs 1
  rw [e1, if_neg (by decide), show wrap64 (0 + 1) = 1 by simp [wrap64]] at hst
  go_wp2_with fail
  refine hst.mono ?_
  rintro e w3 ⟨o3, rfl, hs, s2⟩
  replace s1 := s1.trans s2
  clear hst
  have hst := step_one hs 1
  rw [e2, if_pos rfl] at hst
  go_wp2_with fail
  refine hst.mono ?_
  rintro e w4 ⟨o4, rfl, hs, s2⟩
  replace s1 := s1.trans s2
  have hd := depth_ok hs
  go_wp2_with (go_at_call 17; refine hd.mono ?_; rintro e w5 ⟨rfl, rfl⟩)
  go_ret
  exact ⟨rfl, ⟨s1.os, s1.tape, s1.output, s1.size, fun _ _ => rfl, fun b hb _ => s1.blk b hb (by simp)⟩⟩
end Go.Proofs.Ytegcpjheglcbcaa
