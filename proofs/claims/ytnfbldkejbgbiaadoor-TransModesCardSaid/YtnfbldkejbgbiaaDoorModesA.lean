/- The two closures of TransModes; rows held against rows that are written out. -/
import Derived.Test.YtnfbldkejbgbiaaDoorSame17
namespace Go.Proofs.YtnfbldkejbgbiaaDoor
open Go Go.RowKit Go.Shelf
set_option linter.unusedSimpArgs false
set_option linter.unusedVariables false

theorem same_lit {w : World} {o : Owner} {i n c : Nat} {a : Option Addr} {l : List Td} (hr : Rd w o i 5 (.slice a n c) n (tcells l)) (cs : Array Value) (hcs : cs.toList = tcells l) :
    Calls Tryd.prog 12 #[.slice a n c, .slice (some ⟨w.heap.size, 0, none⟩) n n] (w.alloc (.cells cs 42)) fun e w' => e = .returned (.bool true) ∧ Step [] w o w' o := by
  have hn := hr.le
  have hl := hr.len
  have h2 := Rd.fresh w o 5 42 cs n hn (by rw [← Array.length_toList, hcs]; exact hl)
  rw [hcs] at h2
  refine (same_ok (hr.frame ((Step.refl [] w o).alloc _) (by simp)) h2).mono ?_
  rintro e w' ⟨rfl, st⟩
  exact ⟨rfl, ((Step.refl [] w o).alloc _).trans st⟩

set_option maxHeartbeats 4000000 in
theorem planv_ok {w : World} {o : Owner} (hm : ML w o) (i : Nat) (k xt : Int) (now : Bool) (a b mode : Int) :
    Calls Tryd.prog 18 #[.agg #[.int .i64 k, .int .i64 xt, .bool now, .int .i64 a, .int .i64 b], .int .i64 mode] w fun e w' => ∃ v o', e = .returned v ∧
      Row w' o' i 42 5 v (planF k xt now a b mode).1.length (tcells (planF k xt now a b mode).1) ∧ Step [] w o w' o' := by
  have s1 : Step [] w o (w.alloc (.cells #[.int .i64 k, .int .i64 xt, .bool now, .int .i64 a, .int .i64 b] 24)) o := (Step.refl _ _ _).alloc _
  have h := plan_ok (hm.frame s1 (by simp)) i k xt now a b mode
  obtain ⟨F, hF⟩ : ∃ F, planF k xt now a b mode = F := ⟨_, rfl⟩
  rw [hF] at h ⊢
  clear hF
  go_enter Tryd.func18, Tryd.ntmps18
  go_wp2_with fail
  refine h.mono ?_
  rintro e w2 ⟨v, o2, rfl, hr, s2⟩
  go_wp2_with fail
  go_ret
  first | exact ⟨_, rfl, o2, hr, s1.trans s2⟩ | exact ⟨_, o2, rfl, hr, s1.trans s2⟩

theorem litv_ok (x : Int) (w : World) (o : Owner) : Calls Tryd.prog 19 #[.int .i64 x] w fun e w' => e = .returned (.agg #[.int .i64 3, .int .i64 0, .int .u8 1, .int .i64 0, .int .i64 x]) ∧ Step [] w o w' o := by
  go_enter Tryd.func19, Tryd.ntmps19
  go_wp2_with fail
  simp [bodyPost, results, Tryd.results19, go_sem]
  exact (Step.refl _ _ _).alloc _
end Go.Proofs.YtnfbldkejbgbiaaDoor
