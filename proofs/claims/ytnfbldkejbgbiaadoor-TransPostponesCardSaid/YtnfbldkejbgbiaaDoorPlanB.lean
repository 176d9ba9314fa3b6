/- The program's Plan. -/
import Derived.Test.YtnfbldkejbgbiaaDoorPlanA
import Derived.BigQuiet
namespace Go.Proofs.YtnfbldkejbgbiaaDoor
open Go Go.RowKit Go.Shelf
set_option linter.unusedSimpArgs false
set_option linter.unusedVariables false

set_option maxRecDepth 100000 in
set_option maxHeartbeats 16000000 in
theorem plan_ok {w : World} {o : Owner} (hm0 : ML w o) (i : Nat) (k xt : Int) (now : Bool) (a b mode : Int) :
    Calls Tryd.prog 10 #[.agg #[.int .i64 k, .int .i64 xt, .bool now, .int .i64 a, .int .i64 b], .int .i64 mode] w fun e w' => ∃ v o', e = .returned (.tuple #[v, .int .i64 (planF k xt now a b mode).2]) ∧
      Row w' o' i 42 5 v (planF k xt now a b mode).1.length (tcells (planF k xt now a b mode).1) ∧ Step [] w o w' o' := by
  by_cases hmo : 1 ≤ mode ∧ mode ≤ 3
  · have m1 : ¬ mode < 1 := by omega
    have m2 : ¬ 3 < mode := by omega
    obtain ⟨w2, hw2⟩ : ∃ w2, w2 = (w.alloc (.cells #[.int .i64 k, .int .i64 xt, .bool now, .int .i64 a, .int .i64 b] 24)).alloc (.cells #[.slice none 0 0, .int .i64 0] 54) := ⟨_, rfl⟩
    obtain ⟨o2, ho2⟩ : ∃ o2, o2 = Owner.set (fun _ => 0) (w.heap.size + 1) 10 := ⟨_, rfl⟩
    have hsz : (w.alloc (.cells #[.int .i64 k, .int .i64 xt, .bool now, .int .i64 a, .int .i64 b] 24)).heap.size = w.heap.size + 1 := by simp
    have S2 : Step [] w (fun _ => 0) w2 o2 := by rw [hw2, ho2]; exact (((Step.refl _ _ _).alloc _).alloc _).give (by omega) _
    have hp2 : Pl w2 o2 10 (w.heap.size + 1) [] 0 := ⟨.slice none 0 0, by rw [hw2, ho2, ← hsz]; exact Blk.new _ _ 10 _ _, Row.nil _ _ _ _ _ none⟩
    have hm2 := (show ML w (fun _ => 0) from ⟨hm0.cell, rfl⟩).frame S2 (by simp)
    have hs2 : w2.heap.size = w.heap.size + 1 + 1 := by rw [hw2]; simp
    clear ho2 hsz hm0
    by_cases k1 : k = 1
    · subst k1
      have HF := Lib.hid (show planF 1 xt now a b mode = nameF xt now mode by unfold planF; rw [if_neg (by omega), if_pos rfl])
      have hc := pname_ok hp2 hm2 (by decide) 1 xt now a b mode hmo
      rw [hw2] at hc
      go_enter Tryd.func10, Tryd.ntmps10
      go_wp2_with fail
      refine hc.mono ?_
      rintro e w9 ⟨rfl, o9, q1, q2⟩
      rw [← hw2] at q2
      obtain ⟨v9, hb9, hr9⟩ := q1.ex
      obtain ⟨a9, c9, rfl⟩ := hr9.slice'
      obtain ⟨c0, c1, f0, f1⟩ := pl_cells hb9
      have hlt9 := hb9.lt
      have S9 := (S2.nil (S := [10, 11])).trans q2
      have Q1 := Lib.hid hr9
      clear hb9 q1 q2
      go_wp2_with fail
      go_quiet (fail)
      go_wp2_with fail
      refine bodyPost_ret (results_tmp2 rfl _ _ _) rfl ?_
      obtain ⟨o', hrow, st'⟩ := (Q1.out.frame ((Step.refl [] _ _).drewN nq) (by simp)).calm (S9.drewN nq) (by decide) (by decide) o i
      rw [HF.out]
      first | exact ⟨_, rfl, o', hrow, st'⟩ | exact ⟨_, o', rfl, hrow, st'⟩
    by_cases k2 : k = 2
    · subst k2
      have HF := Lib.hid (show planF 2 xt now a b mode = (cellF a mode, 0) by unfold planF; rw [if_neg (by omega), if_neg (by decide), if_pos rfl])
      obtain ⟨w3, hw3⟩ : ∃ w3, w3 = w2.alloc (.cells #[.int .i64 a] 22) := ⟨_, rfl⟩
      obtain ⟨o3, ho3⟩ : ∃ o3, o3 = o2.set w2.heap.size 13 := ⟨_, rfl⟩
      have s3 : Step [] w2 o2 w3 o3 := by rw [hw3, ho3]; exact ((Step.refl _ _ _).alloc _).give (Nat.le_refl _) _
      have hrd : Rd w3 o3 13 1 (.slice (some ⟨w2.heap.size, 0, none⟩) 1 1) 1 ([a].map (Value.int .i64)) := by
        have := Rd.fresh w2 o3 1 22 #[.int .i64 a] 1 (by decide) rfl
        rw [show o3 w2.heap.size = 13 by rw [ho3]; exact Owner.set_self _ _ _] at this
        rw [hw3]
        exact this
      have hp3 := hp2.frame s3 (by simp) (by simp)
      have hm3 := hm2.frame s3 (by simp)
      have S3 := S2.trans s3
      have hcc : cellsF [a] mode = cellF a mode := List.append_nil _
      rw [hs2] at hrd
      clear ho3 s3
      have hc := pcells_ok hp3 hm3 (by decide) mode hmo (by decide) (by decide) hrd (by decide)
      rw [hcc, hw3, hw2] at hc
      go_enter Tryd.func10, Tryd.ntmps10
      go_wp2_with fail
      refine hc.mono ?_
      rintro e w9 ⟨rfl, o9, q1, q2⟩
      rw [← hw2, ← hw3] at q2
      obtain ⟨v9, hb9, hr9⟩ := q1.ex
      obtain ⟨a9, c9, rfl⟩ := hr9.slice'
      obtain ⟨c0, c1, f0, f1⟩ := pl_cells hb9
      have hlt9 := hb9.lt
      have S9 := (S3.nil (S := [10, 11])).trans q2
      have Q1 := Lib.hid hr9
      clear hb9 q1 q2
      go_wp2_with fail
      go_quiet (fail)
      go_wp2_with fail
      refine bodyPost_ret (results_tmp2 rfl _ _ _) rfl ?_
      obtain ⟨o', hrow, st'⟩ := (Q1.out.frame ((Step.refl [] _ _).drewN nq) (by simp)).calm (S9.drewN nq) (by decide) (by decide) o i
      rw [HF.out]
      first | exact ⟨_, rfl, o', hrow, st'⟩ | exact ⟨_, o', rfl, hrow, st'⟩
    by_cases k3 : k = 3
    · subst k3
      have HF := Lib.hid (show planF 3 xt now a b mode = (cellF a mode ++ cellF b mode, 0) by unfold planF; rw [if_neg (by omega), if_neg (by decide), if_neg (by decide), if_pos rfl])
      obtain ⟨w3, hw3⟩ : ∃ w3, w3 = w2.alloc (.cells #[.int .i64 a, .int .i64 b] 22) := ⟨_, rfl⟩
      obtain ⟨o3, ho3⟩ : ∃ o3, o3 = o2.set w2.heap.size 13 := ⟨_, rfl⟩
      have s3 : Step [] w2 o2 w3 o3 := by rw [hw3, ho3]; exact ((Step.refl _ _ _).alloc _).give (Nat.le_refl _) _
      have hrd : Rd w3 o3 13 1 (.slice (some ⟨w2.heap.size, 0, none⟩) 2 2) 2 ([a, b].map (Value.int .i64)) := by
        have := Rd.fresh w2 o3 1 22 #[.int .i64 a, .int .i64 b] 2 (by decide) rfl
        rw [show o3 w2.heap.size = 13 by rw [ho3]; exact Owner.set_self _ _ _] at this
        rw [hw3]
        exact this
      have hp3 := hp2.frame s3 (by simp) (by simp)
      have hm3 := hm2.frame s3 (by simp)
      have S3 := S2.trans s3
      have hcc : cellsF [a, b] mode = cellF a mode ++ cellF b mode := congrArg (fun l => cellF a mode ++ l) (List.append_nil _)
      obtain ⟨T, hT⟩ : ∃ T, cellF a mode ++ cellF b mode = T := ⟨_, rfl⟩
      rw [hT] at hcc HF
      clear hT
      rw [hs2] at hrd
      clear ho3 s3
      have hc := pcells_ok hp3 hm3 (by decide) mode hmo (by decide) (by decide) hrd (by decide)
      rw [hcc, hw3, hw2] at hc
      go_enter Tryd.func10, Tryd.ntmps10
      go_wp2_with fail
      refine hc.mono ?_
      rintro e w9 ⟨rfl, o9, q1, q2⟩
      rw [← hw2, ← hw3] at q2
      obtain ⟨v9, hb9, hr9⟩ := q1.ex
      obtain ⟨a9, c9, rfl⟩ := hr9.slice'
      obtain ⟨c0, c1, f0, f1⟩ := pl_cells hb9
      have hlt9 := hb9.lt
      have S9 := (S3.nil (S := [10, 11])).trans q2
      have Q1 := Lib.hid hr9
      clear hb9 q1 q2
      go_wp2_with fail
      go_quiet (fail)
      go_wp2_with fail
      refine bodyPost_ret (results_tmp2 rfl _ _ _) rfl ?_
      obtain ⟨o', hrow, st'⟩ := (Q1.out.frame ((Step.refl [] _ _).drewN nq) (by simp)).calm (S9.drewN nq) (by decide) (by decide) o i
      rw [HF.out]
      first | exact ⟨_, rfl, o', hrow, st'⟩ | exact ⟨_, o', rfl, hrow, st'⟩
    by_cases k4 : k = 4
    · subst k4
      have HF := Lib.hid (show planF 4 xt now a b mode = (if mode = 1 then ([], -14) else if mode = 3 then ([], -48) else ([tLocal a], 0)) by unfold planF; rw [if_neg (by omega), if_neg (by decide), if_neg (by decide), if_neg (by decide), if_pos rfl])
      obtain ⟨r, hr⟩ : ∃ r : List Td × Int, (if mode = 1 then ([], -14) else if mode = 3 then ([], -48) else ([tLocal a], 0) : List Td × Int) = r := ⟨_, rfl⟩
      have hc := local_ok hp2 a mode hmo
      rw [hr, hw2] at hc
      rw [hr] at HF
      clear hr
      go_enter Tryd.func10, Tryd.ntmps10
      go_wp2_with fail
      refine hc.mono ?_
      rintro e w9 ⟨rfl, o9, q1, q2⟩
      rw [← hw2] at q2
      obtain ⟨v9, hb9, hr9⟩ := q1.ex
      obtain ⟨a9, c9, rfl⟩ := hr9.slice'
      obtain ⟨c0, c1, f0, f1⟩ := pl_cells hb9
      have hlt9 := hb9.lt
      have S9 := (S2.nil (S := [10, 11])).trans q2
      have Q1 := Lib.hid hr9
      clear hb9 q1 q2
      go_wp2_with fail
      go_quiet (fail)
      go_wp2_with fail
      refine bodyPost_ret (results_tmp2 rfl _ _ _) rfl ?_
      obtain ⟨o', hrow, st'⟩ := (Q1.out.frame ((Step.refl [] _ _).drewN nq) (by simp)).calm (S9.drewN nq) (by decide) (by decide) o i
      rw [HF.out]
      first | exact ⟨_, rfl, o', hrow, st'⟩ | exact ⟨_, o', rfl, hrow, st'⟩
    have HF := Lib.hid (show planF k xt now a b mode = ([], -13) by unfold planF; rw [if_neg (by omega), if_neg k1, if_neg k2, if_neg k3, if_neg k4])
    have e1 : (k == 1) = false := by simp; exact k1
    have e2 : (k == 2) = false := by simp; exact k2
    have e3 : (k == 3) = false := by simp; exact k3
    have e4 : (k == 4) = false := by simp; exact k4
    clear k1 k2 k3 k4 hp2 hm2
    go_enter Tryd.func10, Tryd.ntmps10
    go_wp2_with fail
    go_quiet (fail)
    go_wp2_with fail
    refine bodyPost_ret (results_tmp2 rfl _ _ _) rfl ?_
    obtain ⟨o', hrow, st'⟩ := (Row.nil ((((w.alloc (.cells #[.int .i64 k, .int .i64 xt, .bool now, .int .i64 a, .int .i64 b] 24)).alloc (.cells #[.slice none 0 0, .int .i64 (-13)] 54))).drewN nq) (fun _ => 0) 11 42 5 none).calm ((((Step.refl [] w (fun _ => 0)).alloc _).alloc _).drewN nq) (by decide) (by decide) o i
    rw [HF.out]
    first | exact ⟨_, rfl, o', hrow, st'⟩ | exact ⟨_, o', rfl, hrow, st'⟩
  · have HF := Lib.hid (show planF k xt now a b mode = ([], 1) by unfold planF; rw [if_pos (by omega)])
    by_cases m1 : mode < 1
    · go_enter Tryd.func10, Tryd.ntmps10
      go_wp2_with fail
      refine bodyPost_ret (results_tmp2 rfl _ _ _) rfl ?_
      rw [HF.out]
      obtain ⟨o', hrow, st'⟩ := (Row.nil (w.alloc (.cells #[.int .i64 k, .int .i64 xt, .bool now, .int .i64 a, .int .i64 b] 24)) (fun _ => 0) 11 42 5 none).calm ((Step.refl [] w (fun _ => 0)).alloc _) (by decide) (by decide) o i
      first | exact ⟨_, rfl, o', hrow, st'⟩ | exact ⟨_, o', rfl, hrow, st'⟩
    · have m2 : 3 < mode := by omega
      clear hmo
      go_enter Tryd.func10, Tryd.ntmps10
      go_wp2_with fail
      refine bodyPost_ret (results_tmp2 rfl _ _ _) rfl ?_
      rw [HF.out]
      obtain ⟨o', hrow, st'⟩ := (Row.nil (w.alloc (.cells #[.int .i64 k, .int .i64 xt, .bool now, .int .i64 a, .int .i64 b] 24)) (fun _ => 0) 11 42 5 none).calm ((Step.refl [] w (fun _ => 0)).alloc _) (by decide) (by decide) o i
      first | exact ⟨_, rfl, o', hrow, st'⟩ | exact ⟨_, o', rfl, hrow, st'⟩
end Go.Proofs.YtnfbldkejbgbiaaDoor
