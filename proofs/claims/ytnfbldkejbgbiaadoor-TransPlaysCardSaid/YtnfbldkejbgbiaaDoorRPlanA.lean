/- The reference's Plan: its parts. -/
import Derived.Test.YtnfbldkejbgbiaaDoorSame17
namespace Go.Proofs.YtnfbldkejbgbiaaDoor
open Go Go.RowKit Go.Shelf
set_option linter.unusedSimpArgs false
set_option linter.unusedVariables false

/-- A row that is written out. -/
theorem row_lit (w : World) (o : Owner) (i : Nat) (cs : Array Value) (l : List Td) (n : Nat) (hn : l.length = n) (h0 : 0 < n) (hm : n ≤ maxLen) (hcs : cs.toList = tcells l) :
    ∃ o', Row (w.alloc (.cells cs 42)) o' i 42 5 (.slice (some ⟨w.heap.size, 0, none⟩) n n) n (tcells l) ∧ Step [] w o (w.alloc (.cells cs 42)) o' := by
  have hb := Blk.new w o i 42 cs
  have hl : cs.size = n * 5 := by rw [← Array.length_toList, hcs, tcells_length, hn]
  refine ⟨o.set w.heap.size i, ⟨by rw [tcells_length, hn], .inr ⟨w.heap.size, n, cs, rfl, hb.own, hb.heap, Nat.le_refl _, hm, hl, ?_⟩⟩, ((Step.refl _ _ _).alloc _).give (Nat.le_refl _) _⟩
  rw [hcs, List.take_of_length_le (by rw [tcells_length, hn]; exact Nat.le_refl _)]

theorem rlay_ok (op a x : Int) (w : World) (o : Owner) : Calls Tryd.prog 26 #[.int .u8 op, .int .i64 a, .int .i64 x] w fun e w' => e = .returned (.agg #[.int .i64 3, .int .i64 0, .int .u8 op, .int .i64 a, .int .i64 x]) ∧ Step [] w o w' o := by
  go_enter Tryd.func26, Tryd.ntmps26
  go_wp2_with fail
  simp [bodyPost, results, Tryd.results26, go_sem]
  exact (Step.refl _ _ _).alloc _

set_option maxHeartbeats 4000000 in
theorem rcell_ok (x mode : Int) (hmo : 1 ≤ mode ∧ mode ≤ 3) (w : World) (o : Owner) (i : Nat) : Calls Tryd.prog 25 #[.int .i64 x, .int .i64 mode] w fun e w' => ∃ v o', e = .returned v ∧ Row w' o' i 42 5 v (cellF x mode).length (tcells (cellF x mode)) ∧ Step [] w o w' o' := by
  rcases (show mode = 1 ∨ mode = 2 ∨ mode = 3 by omega) with rfl | rfl | rfl
  · go_enter Tryd.func25, Tryd.ntmps25
    go_wp2_with fail
    go_ret
    obtain ⟨o', h1, h2⟩ := row_lit w o i #[.int .i64 1, .int .i64 x, .int .u8 0, .int .i64 0, .int .i64 0] [tPush x] 1 rfl (by decide) (by decide) rfl
    first | exact ⟨_, rfl, o', h1, h2⟩ | exact ⟨_, o', rfl, h1, h2⟩
  · go_enter Tryd.func25, Tryd.ntmps25
    go_wp2_with fail
    refine (rlay_ok 1 0 x w o).mono ?_
    rintro e w1 ⟨rfl, s1⟩
    go_wp2_with fail
    go_ret
    obtain ⟨o', h1, h2⟩ := row_lit w1 o i #[.int .i64 3, .int .i64 0, .int .u8 1, .int .i64 0, .int .i64 x] [tLit x] 1 rfl (by decide) (by decide) rfl
    first | exact ⟨_, rfl, o', h1, s1.trans h2⟩ | exact ⟨_, o', rfl, h1, s1.trans h2⟩
  · have hx := fun (w : World) (o : Owner) => rxt_ok ⟨#[108, 105, 116, 101, 114, 97, 108]⟩ (by decide) w o
    rw [show seekI (low ⟨#[108, 105, 116, 101, 114, 97, 108]⟩) + 1 = xtLit from rfl] at hx
    go_enter Tryd.func25, Tryd.ntmps25
    go_wp2_with fail
    refine (rlay_ok 1 0 x w o).mono ?_
    rintro e w1 ⟨rfl, s1⟩
    go_wp2_with fail
    refine (hx w1 o).mono ?_
    rintro e w2 ⟨rfl, o2, s2⟩
    go_wp2_with fail
    refine (rlay_ok 2 xtLit 0 w2 o2).mono ?_
    rintro e w3 ⟨rfl, s3⟩
    go_wp2_with fail
    go_ret
    obtain ⟨o', h1, h2⟩ := row_lit w3 o2 i #[.int .i64 3, .int .i64 0, .int .u8 1, .int .i64 0, .int .i64 x, .int .i64 3, .int .i64 0, .int .u8 2, .int .i64 xtLit, .int .i64 0] [tLit x, tCall xtLit] 2 rfl (by decide) (by decide) rfl
    first | exact ⟨_, rfl, o', h1, ((s1.trans s2).trans s3).trans h2⟩ | exact ⟨_, o', rfl, h1, ((s1.trans s2).trans s3).trans h2⟩

/-- A row that lies in a block that stands. -/
theorem row_of {w : World} {o : Owner} {i j b : Nat} {v0 v1 v2 v3 v4 : Value} (t : Td) (h : Blk w o j b 42 #[v0, v1, v2, v3, v4]) (hlow : ∀ g, g = b → True) (ht : tcells [t] = [v0, v1, v2, v3, v4]) (hj : j = i) :
    Row w o i 42 5 (.slice (some ⟨b, 0, none⟩) 1 1) 1 (tcells [t]) := by
  subst hj
  exact ⟨by rw [ht]; rfl, .inr ⟨b, 1, _, rfl, h.own, h.heap, Nat.le_refl _, by decide, rfl, by rw [ht]; rfl⟩⟩
end Go.Proofs.YtnfbldkejbgbiaaDoor
