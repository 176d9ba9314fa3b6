/- The reference's plan of a word; the reference's Plan. -/
import Derived.Test.YtnfbldkejbgbiaaDoorRPlanA
import Derived.Deep.CutRange
import Derived.Deep.RegionLaw
namespace Go.Proofs.YtnfbldkejbgbiaaDoor
open Go Go.RowKit Go.Shelf
set_option linter.unusedSimpArgs false
set_option linter.unusedVariables false

set_option maxRecDepth 100000 in
set_option maxHeartbeats 8000000 in
theorem rname_ok (w : World) (o : Owner) (i : Nat) (k xt : Int) (now : Bool) (x y mode : Int) (hmo : 1 ≤ mode ∧ mode ≤ 3) :
    Calls Tryd.prog 24 #[.agg #[.int .i64 k, .int .i64 xt, .bool now, .int .i64 x, .int .i64 y], .int .i64 mode] w fun e w' => ∃ v o', e = .returned (.tuple #[v, .int .i64 (nameF xt now mode).2]) ∧
      Row w' o' i 42 5 v (nameF xt now mode).1.length (tcells (nameF xt now mode).1) ∧ Step [] w o w' o' := by
  obtain ⟨w1, o1, hw1, s1, hK⟩ := boxed (w := w) o 60 24 (.int .i64 k) (.int .i64 xt) (.bool now) (.int .i64 x) (.int .i64 y)
  obtain ⟨w2, o2, hw2, s2, hE⟩ := boxed (w := w1) o1 i 42 (.int .i64 2) (.int .i64 xt) (.int .u8 0) (.int .i64 0) (.int .i64 0)
  obtain ⟨p, hp⟩ : ∃ p, w.heap.size = p := ⟨_, rfl⟩
  have hz : w1.heap.size = p + 1 := by rw [hw1, ← hp]; simp
  rw [hp] at hK
  rw [hz] at hE
  rw [hw1] at hw2
  replace hK := hK.frame s2 (by simp)
  have S := s1.trans s2
  have hc := rlay_ok 2 xt 0 w2 o2
  rw [hw2] at hc
  have HW2 := Lib.hid hw2
  have HP := Lib.hid hp
  clear hw1 hw2 hp hz s1 s2
  rcases (show mode = 1 ∨ mode = 2 ∨ mode = 3 by omega) with rfl | rfl | rfl
  · have ho := fun (w : World) (o : Owner) => ronlyx_ok xt w o
    obtain ⟨q, hq⟩ : ∃ q, onlyAt xt = q := ⟨_, rfl⟩
    simp only [hq] at ho
    go_enter Tryd.func24, Tryd.ntmps24
    go_wp2_with fail
    rw [HP.out]
    refine hc.mono ?_
    clear hc
    rintro e w3 ⟨rfl, s3⟩
    rw [← HW2.out] at s3
    replace hK := hK.frame s3 (by simp)
    replace hE := hE.frame s3 (by simp)
    replace S := S.trans s3
    clear s3
    obtain ⟨w4, o4, hw4, s4, hC⟩ := boxed (w := w3) o2 i 42 (.int .i64 3) (.int .i64 0) (.int .u8 2) (.int .i64 xt) (.int .i64 0)
    obtain ⟨⟨x0, x1, x2, x3, x4⟩, _⟩ := cells5 hK
    have hpl := hK.lt
    have hpn : p ≠ w3.heap.size := by omega
    replace hE := hE.frame s4 (by simp)
    replace S := S.trans s4
    have ho4 := ho w4 o4
    rw [hw4] at ho4
    have HW4 := Lib.hid hw4
    have HQ := Lib.hid hq
    clear ho hw4 s4 hC hq
    go_wp2_with fail
    refine ho4.mono ?_
    clear ho4
    rintro e w5 ⟨rfl, o5, s5⟩
    rw [← HW4.out] at s5
    replace hE := hE.frame s5 (by simp)
    replace S := S.trans s5
    cases q
    · have HF := Lib.hid (show nameF xt now 1 = ([tExec xt], 0) by unfold nameF; rw [if_pos rfl, HQ.out]; rfl)
      go_wp2_with fail
      refine bodyPost_ret (results_tmp2 rfl _ _ _) rfl ?_
      rw [HF.out]
      first | exact ⟨_, rfl, _, row_of (tExec xt) hE (fun _ _ => trivial) rfl rfl, S⟩ | exact ⟨_, _, rfl, row_of (tExec xt) hE (fun _ _ => trivial) rfl rfl, S⟩
    · have HF := Lib.hid (show nameF xt now 1 = ([], -14) by unfold nameF; rw [if_pos rfl, HQ.out]; rfl)
      go_wp2_with fail
      refine bodyPost_ret (results_tmp2 rfl _ _ _) rfl ?_
      rw [HF.out]
      first | exact ⟨_, rfl, _, Row.nil _ _ _ _ _ _, S⟩ | exact ⟨_, _, rfl, Row.nil _ _ _ _ _ _, S⟩
  · cases now
    · have HF := Lib.hid (show nameF xt false 2 = ([tCall xt], 0) from rfl)
      go_enter Tryd.func24, Tryd.ntmps24
      go_wp2_with fail
      rw [HP.out]
      refine hc.mono ?_
      clear hc
      rintro e w3 ⟨rfl, s3⟩
      rw [← HW2.out] at s3
      replace hK := hK.frame s3 (by simp)
      replace hE := hE.frame s3 (by simp)
      replace S := S.trans s3
      clear s3
      obtain ⟨w4, o4, hw4, s4, hC⟩ := boxed (w := w3) o2 i 42 (.int .i64 3) (.int .i64 0) (.int .u8 2) (.int .i64 xt) (.int .i64 0)
      obtain ⟨⟨x0, x1, x2, x3, x4⟩, _⟩ := cells5 hK
      have hpl := hK.lt
      have hpn : p ≠ w3.heap.size := by omega
      replace hE := hE.frame s4 (by simp)
      replace S := S.trans s4
      rw [hw4] at *
      clear hE x0 x1 x3 x4
      go_wp2_with fail
      refine bodyPost_ret (results_tmp2 rfl _ _ _) rfl ?_
      rw [HF.out]
      first | exact ⟨_, rfl, _, row_of (tCall xt) hC (fun _ _ => trivial) rfl rfl, S⟩ | exact ⟨_, _, rfl, row_of (tCall xt) hC (fun _ _ => trivial) rfl rfl, S⟩
    · have HF := Lib.hid (show nameF xt true 2 = ([tExec xt], 0) from rfl)
      go_enter Tryd.func24, Tryd.ntmps24
      go_wp2_with fail
      rw [HP.out]
      refine hc.mono ?_
      clear hc
      rintro e w3 ⟨rfl, s3⟩
      rw [← HW2.out] at s3
      replace hK := hK.frame s3 (by simp)
      replace hE := hE.frame s3 (by simp)
      replace S := S.trans s3
      clear s3
      obtain ⟨w4, o4, hw4, s4, hC⟩ := boxed (w := w3) o2 i 42 (.int .i64 3) (.int .i64 0) (.int .u8 2) (.int .i64 xt) (.int .i64 0)
      obtain ⟨⟨x0, x1, x2, x3, x4⟩, _⟩ := cells5 hK
      have hpl := hK.lt
      have hpn : p ≠ w3.heap.size := by omega
      replace hE := hE.frame s4 (by simp)
      replace S := S.trans s4
      rw [hw4] at *
      clear hC x0 x1 x3 x4
      go_wp2_with fail
      refine bodyPost_ret (results_tmp2 rfl _ _ _) rfl ?_
      rw [HF.out]
      first | exact ⟨_, rfl, _, row_of (tExec xt) hE (fun _ _ => trivial) rfl rfl, S⟩ | exact ⟨_, _, rfl, row_of (tExec xt) hE (fun _ _ => trivial) rfl rfl, S⟩
  · cases now
    · have HF := Lib.hid (show nameF xt false 3 = ([tLit xt, tCall xtComp], 0) from rfl)
      have hx := fun (w : World) (o : Owner) => rxt_ok ⟨#[99, 111, 109, 112, 105, 108, 101, 44]⟩ (by decide) w o
      rw [show seekI (low ⟨#[99, 111, 109, 112, 105, 108, 101, 44]⟩) + 1 = xtComp from rfl] at hx
      go_enter Tryd.func24, Tryd.ntmps24
      go_wp2_with fail
      rw [HP.out]
      refine hc.mono ?_
      clear hc
      rintro e w3 ⟨rfl, s3⟩
      rw [← HW2.out] at s3
      replace hK := hK.frame s3 (by simp)
      replace hE := hE.frame s3 (by simp)
      replace S := S.trans s3
      clear s3
      obtain ⟨w4, o4, hw4, s4, hC⟩ := boxed (w := w3) o2 i 42 (.int .i64 3) (.int .i64 0) (.int .u8 2) (.int .i64 xt) (.int .i64 0)
      obtain ⟨⟨x0, x1, x2, x3, x4⟩, _⟩ := cells5 hK
      have hpl := hK.lt
      have hpn : p ≠ w3.heap.size := by omega
      replace hE := hE.frame s4 (by simp)
      replace S := S.trans s4
      have hl := rlay_ok 1 0 xt w4 o4
      rw [hw4] at hl
      have HW4 := Lib.hid hw4
      clear hC hE x0 x3 x4 hw4 s4
      go_wp2_with fail
      refine hl.mono ?_
      clear hl
      rintro e w5 ⟨rfl, s5⟩
      rw [← HW4.out] at s5
      replace S := S.trans s5
      go_wp2_with fail
      refine (hx w5 o4).mono ?_
      rintro e w6 ⟨rfl, o6, s6⟩
      replace S := S.trans s6
      go_wp2_with fail
      refine (rlay_ok 2 xtComp 0 w6 o6).mono ?_
      rintro e w7 ⟨rfl, s7⟩
      replace S := S.trans s7
      go_wp2_with fail
      obtain ⟨o', h1, h2⟩ := row_lit w7 o6 i #[.int .i64 3, .int .i64 0, .int .u8 1, .int .i64 0, .int .i64 xt, .int .i64 3, .int .i64 0, .int .u8 2, .int .i64 xtComp, .int .i64 0] [tLit xt, tCall xtComp] 2 rfl (by decide) (by decide) rfl
      refine bodyPost_ret (results_tmp2 rfl _ _ _) rfl ?_
      rw [HF.out]
      first | exact ⟨_, rfl, _, h1, S.trans h2⟩ | exact ⟨_, _, rfl, h1, S.trans h2⟩
    · have HF := Lib.hid (show nameF xt true 3 = ([tCall xt], 0) from rfl)
      go_enter Tryd.func24, Tryd.ntmps24
      go_wp2_with fail
      rw [HP.out]
      refine hc.mono ?_
      clear hc
      rintro e w3 ⟨rfl, s3⟩
      rw [← HW2.out] at s3
      replace hK := hK.frame s3 (by simp)
      replace hE := hE.frame s3 (by simp)
      replace S := S.trans s3
      clear s3
      obtain ⟨w4, o4, hw4, s4, hC⟩ := boxed (w := w3) o2 i 42 (.int .i64 3) (.int .i64 0) (.int .u8 2) (.int .i64 xt) (.int .i64 0)
      obtain ⟨⟨x0, x1, x2, x3, x4⟩, _⟩ := cells5 hK
      have hpl := hK.lt
      have hpn : p ≠ w3.heap.size := by omega
      replace hE := hE.frame s4 (by simp)
      replace S := S.trans s4
      rw [hw4] at *
      clear hE x0 x1 x3 x4
      go_wp2_with fail
      refine bodyPost_ret (results_tmp2 rfl _ _ _) rfl ?_
      rw [HF.out]
      first | exact ⟨_, rfl, _, row_of (tCall xt) hC (fun _ _ => trivial) rfl rfl, S⟩ | exact ⟨_, _, rfl, row_of (tCall xt) hC (fun _ _ => trivial) rfl rfl, S⟩

theorem step_call {P : Program} {ops : Array Oper} {op : Oper} {a : Act} {w : World} {K : Act → World → Prop} {Q : Exit → Act → World → Prop} {Z : Prop} {f : FuncId} {args : Array Value} {R : Value → World → Prop}
    (hw : Region.wanted op (yielded ops a.tmps) = true) (hrun : (execOp a.eval op).run P w = .ok (.enter f args) w) (hc : Calls P f args w fun e w' => ∃ v, e = .returned v ∧ R v w') (hK : ∀ v w', R v w' → K (a.put op.dst v) w') :
    if Region.wanted op (yielded ops a.tmps) = true then Oper.wp P op a w K Q else Z := by
  rw [if_pos hw]
  unfold Oper.wp
  rw [hrun]
  exact hc.mono fun e w' ⟨v, he, hr⟩ => by subst he; exact hK v w' hr

set_option maxRecDepth 100000 in
set_option maxHeartbeats 8000000 in
theorem rplan_pair (w : World) (o : Owner) (i : Nat) (xt : Int) (now : Bool) (a b mode : Int) (hmo : 1 ≤ mode ∧ mode ≤ 3) :
    Calls Tryd.prog 11 #[.agg #[.int .i64 3, .int .i64 xt, .bool now, .int .i64 a, .int .i64 b], .int .i64 mode] w fun e w' => ∃ v o', e = .returned (.tuple #[v, .int .i64 0]) ∧
      Row w' o' i 42 5 v (cellF a mode ++ cellF b mode).length (tcells (cellF a mode ++ cellF b mode)) ∧ Step [] w o w' o' := by
  have m1 : ¬ mode < 1 := by omega
  have m2 : ¬ 3 < mode := by omega
  obtain ⟨w1, o1, hw1, s1, hK⟩ := boxed (w := w) (fun _ => 0) 60 24 (.int .i64 3) (.int .i64 xt) (.bool now) (.int .i64 a) (.int .i64 b)
  have sD : Step [] w (fun _ => 0) w1.drew o1 := s1.drew
  have hKD := hK.frame (S := []) (o' := o1) (w' := w1.drew) (Step.refl _ _ _).drew (by simp)
  have hcA : Calls Tryd.prog 25 #[.int .i64 a, .int .i64 mode] w1.drew (fun e w' => ∃ v, e = .returned v ∧ (∃ o', Row w' o' 70 42 5 v (cellF a mode).length (tcells (cellF a mode)) ∧ Step [] w1.drew o1 w' o')) := (rcell_ok a mode hmo w1.drew o1 70).mono fun e w' ⟨v, o', h, r, s⟩ => ⟨v, h, o', r, s⟩
  have hcB := fun (W : World) (O : Owner) => (rcell_ok b mode hmo W O 71).mono fun e w' ⟨v, o', h, r, s⟩ => (⟨v, h, o', r, s⟩ : ∃ v, e = Ending.returned v ∧ (∃ o', Row w' o' 71 42 5 v (cellF b mode).length (tcells (cellF b mode)) ∧ Step [] W O w' o'))
  have la := cellF_length a mode
  have lb := cellF_length b mode
  obtain ⟨A, hA⟩ : ∃ A, cellF a mode = A := ⟨_, rfl⟩
  obtain ⟨B, hB⟩ : ∃ B, cellF b mode = B := ⟨_, rfl⟩
  rw [hA] at hcA la ⊢
  simp only [hB] at hcB lb ⊢
  have HA := Lib.hid hA
  have HB := Lib.hid hB
  have HKD := Lib.hid hKD
  rw [hw1] at hcA
  have HW1 := Lib.hid hw1
  clear hA hB hw1 s1 hK hKD
  go_enter Tryd.func11, Tryd.ntmps11
  go_wp2_with fail
  go_region_law (first
    | (refine step_app (.tmp 32) (.tmp 36) 26 rfl Tryd.underlying26 infoT rfl (by kernel_rfl) (by rfl) hrA3 (by rfl) hrB3.rd (tcells_onecell _) (by omega) (by omega) ?_; intro v4 w4 o4 hr4 s4)
    | (refine step_call (by kernel_rfl) ?_ hcA ?_; (focus go_simp); rintro v1 w2 ⟨o2, hrA2, s2⟩; rw [← HW1.out] at s2; obtain ⟨aA, cA, rfl⟩ := hrA2.slice'; obtain ⟨⟨z0, z1, z2, z3, z4⟩, _⟩ := cells5 (HKD.out.frame s2 (by simp)); have hcB2 := hcB w2 o2)
    | (refine step_call (by kernel_rfl) ?_ hcB2 ?_; (focus go_simp); rintro v2 w3 ⟨o3, hrB3, s3⟩; obtain ⟨aB, cB, rfl⟩ := hrB3.slice'; have hrA3 := hrA2.frame s3 (by simp)))
  all_goals
    go_wp2_with fail
    refine bodyPost_ret (results_tmp2 rfl _ _ _) rfl ?_
    have S4 := (((sD.trans s2).trans s3).nil (S := [70])).trans s4
    rw [← tcells_app] at hr4
    obtain ⟨o', hrow, st'⟩ := hr4.calm S4 (by decide) (by decide) o i
    rw [List.length_append]
    first | exact ⟨_, rfl, o', hrow, st'⟩ | exact ⟨_, o', rfl, hrow, st'⟩

set_option maxRecDepth 100000 in
set_option maxHeartbeats 8000000 in
theorem rplan_ok (w : World) (o : Owner) (i : Nat) (k xt : Int) (now : Bool) (a b mode : Int) :
    Calls Tryd.prog 11 #[.agg #[.int .i64 k, .int .i64 xt, .bool now, .int .i64 a, .int .i64 b], .int .i64 mode] w fun e w' => ∃ v o', e = .returned (.tuple #[v, .int .i64 (planF k xt now a b mode).2]) ∧
      Row w' o' i 42 5 v (planF k xt now a b mode).1.length (tcells (planF k xt now a b mode).1) ∧ Step [] w o w' o' := by
  by_cases hmo : 1 ≤ mode ∧ mode ≤ 3
  · have m1 : ¬ mode < 1 := by omega
    have m2 : ¬ 3 < mode := by omega
    by_cases k3 : k = 3
    · subst k3
      rw [show planF 3 xt now a b mode = (cellF a mode ++ cellF b mode, 0) by unfold planF; rw [if_neg (by omega), if_neg (by decide), if_neg (by decide), if_pos rfl]]
      exact rplan_pair w o i xt now a b mode hmo
    obtain ⟨w1, o1, hw1, s1, hK⟩ := boxed (w := w) o 60 24 (.int .i64 k) (.int .i64 xt) (.bool now) (.int .i64 a) (.int .i64 b)
    have HW1 := Lib.hid hw1
    by_cases k1 : k = 1
    · subst k1
      rw [show planF 1 xt now a b mode = nameF xt now mode by unfold planF; rw [if_neg (by omega), if_pos rfl]]
      have hc := rname_ok w1 o1 i 1 xt now a b mode hmo
      obtain ⟨F, hF⟩ : ∃ F, nameF xt now mode = F := ⟨_, rfl⟩
      rw [hF] at hc ⊢
      rw [hw1] at hc
      clear hF hw1 hK
      go_enter Tryd.func11, Tryd.ntmps11
      go_wp2_with fail
      refine hc.mono ?_
      rintro e w2 ⟨v, o2, rfl, hr, s2⟩
      rw [← HW1.out] at s2
      go_wp2_with fail
      refine bodyPost_ret (results_tmp2 rfl _ _ _) rfl ?_
      first | exact ⟨_, rfl, o2, hr, s1.trans s2⟩ | exact ⟨_, o2, rfl, hr, s1.trans s2⟩
    by_cases k2 : k = 2
    · subst k2
      rw [show planF 2 xt now a b mode = (cellF a mode, 0) by unfold planF; rw [if_neg (by omega), if_neg (by decide), if_pos rfl]]
      have hc := rcell_ok a mode hmo w1 o1 i
      rw [hw1] at hc
      clear hw1 hK
      go_enter Tryd.func11, Tryd.ntmps11
      go_wp2_with fail
      refine hc.mono ?_
      rintro e w2 ⟨v, o2, rfl, hr, s2⟩
      rw [← HW1.out] at s2
      go_wp2_with fail
      refine bodyPost_ret (results_tmp2 rfl _ _ _) rfl ?_
      first | exact ⟨_, rfl, o2, hr, s1.trans s2⟩ | exact ⟨_, o2, rfl, hr, s1.trans s2⟩
    by_cases k4 : k = 4
    · subst k4
      rw [show planF 4 xt now a b mode = (if mode = 1 then ([], -14) else if mode = 3 then ([], -48) else ([tLocal a], 0)) by unfold planF; rw [if_neg (by omega), if_neg (by decide), if_neg (by decide), if_neg (by decide), if_pos rfl]]
      have hnil : Row w1 o1 i 42 5 (.slice none 0 0) 0 (tcells []) := Row.nil _ _ _ _ _ none
      have hl := rlay_ok 13 a 0 w1 o1
      rw [hw1] at hl hnil
      have S1 := s1
      rw [hw1] at S1
      clear hw1 hK
      rcases (show mode = 1 ∨ mode = 2 ∨ mode = 3 by omega) with rfl | rfl | rfl
      · go_enter Tryd.func11, Tryd.ntmps11
        go_wp2_with fail
        refine bodyPost_ret (results_tmp2 rfl _ _ _) rfl ?_
        first | exact ⟨_, rfl, o1, hnil, S1⟩ | exact ⟨_, o1, rfl, hnil, S1⟩
      · go_enter Tryd.func11, Tryd.ntmps11
        go_wp2_with fail
        refine hl.mono ?_
        rintro e w2 ⟨rfl, s2⟩
        rw [← HW1.out] at s2
        go_wp2_with fail
        refine bodyPost_ret (results_tmp2 rfl _ _ _) rfl ?_
        obtain ⟨o', h1, h2⟩ := row_lit w2 o1 i #[.int .i64 3, .int .i64 0, .int .u8 13, .int .i64 a, .int .i64 0] [tLocal a] 1 rfl (by decide) (by decide) rfl
        first | exact ⟨_, rfl, o', h1, (s1.trans s2).trans h2⟩ | exact ⟨_, o', rfl, h1, (s1.trans s2).trans h2⟩
      · go_enter Tryd.func11, Tryd.ntmps11
        go_wp2_with fail
        refine bodyPost_ret (results_tmp2 rfl _ _ _) rfl ?_
        first | exact ⟨_, rfl, o1, hnil, S1⟩ | exact ⟨_, o1, rfl, hnil, S1⟩
    rw [show planF k xt now a b mode = ([], -13) by unfold planF; rw [if_neg (by omega), if_neg k1, if_neg k2, if_neg k3, if_neg k4]]
    have e1 : (k == 1) = false := by simp; exact k1
    have e2 : (k == 2) = false := by simp; exact k2
    have e3 : (k == 3) = false := by simp; exact k3
    have e4 : (k == 4) = false := by simp; exact k4
    have hnil : Row w1 o1 i 42 5 (.slice none 0 0) 0 (tcells []) := Row.nil _ _ _ _ _ none
    have S1 := s1
    rw [hw1] at hnil S1
    clear hw1 hK k1 k2 k3 k4
    go_enter Tryd.func11, Tryd.ntmps11
    go_wp2_with fail
    refine bodyPost_ret (results_tmp2 rfl _ _ _) rfl ?_
    first | exact ⟨_, rfl, o1, hnil, S1⟩ | exact ⟨_, o1, rfl, hnil, S1⟩
  · rw [show planF k xt now a b mode = ([], 1) by unfold planF; rw [if_pos (by omega)]]
    have hnil : ∀ W : World, Row W o i 42 5 (.slice none 0 0) 0 (tcells []) := fun W => Row.nil _ _ _ _ _ none
    by_cases m1 : mode < 1
    · go_enter Tryd.func11, Tryd.ntmps11
      go_wp2_with fail
      refine bodyPost_ret (results_tmp2 rfl _ _ _) rfl ?_
      first | exact ⟨_, rfl, o, hnil _, (Step.refl _ _ _).alloc _⟩ | exact ⟨_, o, rfl, hnil _, (Step.refl _ _ _).alloc _⟩
    · have m2 : 3 < mode := by omega
      clear hmo
      go_enter Tryd.func11, Tryd.ntmps11
      go_wp2_with fail
      refine bodyPost_ret (results_tmp2 rfl _ _ _) rfl ?_
      first | exact ⟨_, rfl, o, hnil _, (Step.refl _ _ _).alloc _⟩ | exact ⟨_, o, rfl, hnil _, (Step.refl _ _ _).alloc _⟩
end Go.Proofs.YtnfbldkejbgbiaaDoor
