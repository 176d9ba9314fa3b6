/- TransModes: the walk. -/
import Derived.Test.YtnfbldkejbgbiaaDoorModesA
namespace Go.Proofs.YtnfbldkejbgbiaaDoor
open Go Go.RowKit Go.Shelf
set_option linter.unusedSimpArgs false
set_option linter.unusedVariables false

/-- A word, and the rows in which it is executed, or called, in three new blocks. -/
theorem three_new {w w11 w14 : World} {o11 : Owner} {a0 : Int} {now : Bool} {p1 : Nat} (S : Step [] w (fun _ => 0) w11 o11) (hm : ML w11 o11) (hp1 : w11.heap.size = p1)
    (hw14 : w14 = ((w11.alloc (.cells #[.int .i64 1, .int .i64 a0, .bool now, .int .i64 0, .int .i64 0] 24)).alloc (.cells #[.int .i64 2, .int .i64 a0, .int .u8 0, .int .i64 0, .int .i64 0] 42)).alloc (.cells #[.int .i64 3, .int .i64 0, .int .u8 2, .int .i64 a0, .int .i64 0] 42)) :
    ∃ o14, Step [] w (fun _ => 0) w14 o14 ∧ ML w14 o14 ∧ Blk w14 o14 42 p1 24 #[.int .i64 1, .int .i64 a0, .bool now, .int .i64 0, .int .i64 0] ∧
      Rd w14 o14 43 5 (.slice (some ⟨p1 + 1, 0, none⟩) 1 1) 1 (tcells [tExec a0]) ∧ Rd w14 o14 44 5 (.slice (some ⟨p1 + 1 + 1, 0, none⟩) 1 1) 1 (tcells [tCall a0]) := by
  subst hw14
  obtain ⟨W1, O1, hW1, s1, b1⟩ := boxed (w := w11) o11 42 24 (.int .i64 1) (.int .i64 a0) (.bool now) (.int .i64 0) (.int .i64 0)
  obtain ⟨W2, O2, hW2, s2, b2⟩ := boxed (w := W1) O1 43 42 (.int .i64 2) (.int .i64 a0) (.int .u8 0) (.int .i64 0) (.int .i64 0)
  obtain ⟨W3, O3, hW3, s3, b3⟩ := boxed (w := W2) O2 44 42 (.int .i64 3) (.int .i64 0) (.int .u8 2) (.int .i64 a0) (.int .i64 0)
  have z1 : W1.heap.size = p1 + 1 := by rw [hW1, ← hp1]; simp
  have z2 : W2.heap.size = p1 + 1 + 1 := by rw [hW2, World.size_alloc, z1]
  rw [hp1] at b1
  rw [z1] at b2
  rw [z2] at b3
  rw [← hW1, ← hW2, ← hW3]
  have st := (s1.trans s2).trans s3
  have rd : ∀ {i b : Nat} {t : Td} {v0 v1 v2 v3 v4 : Value}, Blk W3 O3 i b 42 #[v0, v1, v2, v3, v4] → tcells [t] = [v0, v1, v2, v3, v4] → Rd W3 O3 i 5 (.slice (some ⟨b, 0, none⟩) 1 1) 1 (tcells [t]) := fun h e =>
    ⟨_, 1, rfl, Nat.le_refl _, by decide, by rw [e]; rfl, fun _ => ⟨_, 0, rfl, h.lt, h.own, fun j u hj => by rw [Nat.zero_add, h.cell]; rw [e] at hj; simpa using hj⟩⟩
  exact ⟨O3, S.trans st, hm.frame st (by simp), (b1.frame s2 (by simp)).frame s3 (by simp), rd (b2.frame s3 (by simp)) rfl, rd b3 rfl⟩

set_option maxRecDepth 100000 in
set_option maxHeartbeats 16000000 in
theorem modes17_walk (a0 : Int) (a1 : Bool) (a2 a3 : Int) (h0 : 0 ≤ a0 ∧ a0 ≤ 65535) {w : World} (hm0 : ∃ m, w.cell? ⟨0, 0, none⟩ = some (.int .i64 m)) :
    Calls Tryd.prog 5 #[.int .u16 a0, .bool a1, .int .i64 a2, .int .i64 a3] w fun e w' => e = .returned (.bool true) ∧ Below w.heap.size w w' := by
  have hm : ML w (fun _ => 0) := ⟨hm0, rfl⟩
  have eg8 : ∀ args w, (callFunc 18 args).run Tryd.prog w = .ok (.enter 18 args) w := enters_of Tryd.func18 (by kernel_rfl) rfl
  have eg9 : ∀ args w, (callFunc 19 args).run Tryd.prog w = .ok (.enter 19 args) w := enters_of Tryd.func19 (by kernel_rfl) rfl
  have hsh := shown17_ok hm
  clear hm0
  go_enter Tryd.func5, Tryd.ntmps5
  go_wp2_with fail
  refine hsh.mono ?_
  rintro e w1 ⟨rfl, o1, S⟩
  replace hm := hm.frame S (by simp)
  clear hsh
  obtain ⟨w2, o2, hw2, sw2, hX⟩ := boxed (w := w1) _ 40 24 (.int .i64 3) (.int .i64 0) (.bool false) (.int .i64 a2) (.int .i64 a3)
  replace hm := hm.frame sw2 (by simp)
  replace S := S.trans sw2
  obtain ⟨p, hp⟩ : ∃ p, w1.heap.size = p := ⟨_, rfl⟩
  rw [hp] at hX
  have Hw2 := Lib.hid hw2
  have Hp := Lib.hid hp
  clear hw2 hp sw2
  have hc := planv_ok hm 41 3 0 false a2 a3 1
  rw [show planF 3 0 false a2 a3 1 = ([tPush a2, tPush a3], 0) from rfl] at hc
  rw [Hw2.out] at hc
  go_wp2_with fail
  rw [Hp.out]
  refine hc.mono ?_
  clear hc
  rintro e w3 ⟨v, o', rfl, r3, s3⟩
  rw [← Hw2.out] at s3
  obtain ⟨ar3, cr3, rfl⟩ := r3.slice'
  replace hm := hm.frame s3 (by simp)
  replace hX := hX.frame s3 (by simp)
  replace S := S.trans s3
  clear s3
  have hc := same_lit r3.rd #[.int .i64 1, .int .i64 a2, .int .u8 0, .int .i64 0, .int .i64 0, .int .i64 1, .int .i64 a3, .int .u8 0, .int .i64 0, .int .i64 0] rfl
  go_wp2_with fail
  refine hc.mono ?_
  clear hc r3
  rintro e w4 ⟨rfl, s4⟩
  replace hm := hm.frame s4 (by simp)
  replace hX := hX.frame s4 (by simp)
  replace S := S.trans s4
  clear s4
  obtain ⟨⟨x0, x1, x2, x3, x4⟩, _⟩ := cells5 hX
  have hc := planv_ok hm 41 3 0 false a2 a3 2
  rw [show planF 3 0 false a2 a3 2 = ([tLit a2, tLit a3], 0) from rfl] at hc
  go_wp2_with fail
  refine hc.mono ?_
  clear hc
  rintro e w5 ⟨v, o', rfl, r5, s5⟩
  obtain ⟨ar5, cr5, rfl⟩ := r5.slice'
  replace hm := hm.frame s5 (by simp)
  replace hX := hX.frame s5 (by simp)
  replace S := S.trans s5
  clear s5
  go_wp2_with fail
  refine (litv_ok a2 w5 o').mono ?_
  rintro e w6 ⟨rfl, s6⟩
  replace hm := hm.frame s6 (by simp)
  replace hX := hX.frame s6 (by simp)
  replace r5 := r5.frame s6 (by simp)
  replace S := S.trans s6
  clear s6
  go_wp2_with fail
  refine (litv_ok a3 w6 o').mono ?_
  rintro e w7 ⟨rfl, s7⟩
  replace hm := hm.frame s7 (by simp)
  replace hX := hX.frame s7 (by simp)
  replace r5 := r5.frame s7 (by simp)
  replace S := S.trans s7
  clear s7
  have hc := same_lit r5.rd #[.int .i64 3, .int .i64 0, .int .u8 1, .int .i64 0, .int .i64 a2, .int .i64 3, .int .i64 0, .int .u8 1, .int .i64 0, .int .i64 a3] rfl
  go_wp2_with fail
  refine hc.mono ?_
  clear hc r5
  rintro e w8 ⟨rfl, s8⟩
  replace hm := hm.frame s8 (by simp)
  replace S := S.trans s8
  clear s8 hX x0 x1 x2 x3 x4
  have hc := planv_ok hm 41 2 0 false a2 0 2
  rw [show planF 2 0 false a2 0 2 = ([tLit a2], 0) from rfl] at hc
  go_wp2_with fail
  refine hc.mono ?_
  clear hc
  rintro e w9 ⟨v, o', rfl, r9, s9⟩
  obtain ⟨ar9, cr9, rfl⟩ := r9.slice'
  replace hm := hm.frame s9 (by simp)
  replace S := S.trans s9
  clear s9
  go_wp2_with fail
  refine (litv_ok a2 w9 o').mono ?_
  rintro e w10 ⟨rfl, s10⟩
  replace hm := hm.frame s10 (by simp)
  replace r9 := r9.frame s10 (by simp)
  replace S := S.trans s10
  clear s10
  have hc := same_lit r9.rd #[.int .i64 3, .int .i64 0, .int .u8 1, .int .i64 0, .int .i64 a2] rfl
  go_wp2_with fail
  refine hc.mono ?_
  clear hc r9
  rintro e w11 ⟨rfl, s11⟩
  replace hm := hm.frame s11 (by simp)
  replace S := S.trans s11
  clear s11
  cases a1
  · obtain ⟨w14, hw14⟩ : ∃ w14, w14 = ((w11.alloc (.cells #[.int .i64 1, .int .i64 a0, .bool false, .int .i64 0, .int .i64 0] 24)).alloc (.cells #[.int .i64 2, .int .i64 a0, .int .u8 0, .int .i64 0, .int .i64 0] 42)).alloc (.cells #[.int .i64 3, .int .i64 0, .int .u8 2, .int .i64 a0, .int .i64 0] 42) := ⟨_, rfl⟩
    obtain ⟨p1, hp1⟩ : ∃ p, w11.heap.size = p := ⟨_, rfl⟩
    obtain ⟨o14, S14, hm14, hY, hE, hC⟩ : ∃ o14, Step [] w (fun _ => 0) w14 o14 ∧ ML w14 o14 ∧ Blk w14 o14 42 p1 24 #[.int .i64 1, .int .i64 a0, .bool false, .int .i64 0, .int .i64 0] ∧
        Rd w14 o14 43 5 (.slice (some ⟨p1 + 1, 0, none⟩) 1 1) 1 (tcells [tExec a0]) ∧ Rd w14 o14 44 5 (.slice (some ⟨p1 + 1 + 1, 0, none⟩) 1 1) 1 (tcells [tCall a0]) :=
      three_new S hm hp1 hw14
    clear S hm
    have S := S14
    have hm := hm14
    clear S14 hm14
    have Hw14 := Lib.hid hw14
    have Hp1 := Lib.hid hp1
    clear hw14 hp1
    have hc := planv_ok hm 41 1 a0 false 0 0 2
    rw [show planF 1 a0 false 0 0 2 = ([tCall a0], 0) from rfl] at hc
    rw [Hw14.out] at hc
    go_wp2_with fail
    rw [Hp1.out]
    refine hc.mono ?_
    clear hc
    rintro e w15 ⟨v, o15, rfl, r15, s15⟩
    rw [← Hw14.out] at s15
    obtain ⟨ar15, cr15, rfl⟩ := r15.slice'
    replace hm := hm.frame s15 (by simp)
    replace hY := hY.frame s15 (by simp)
    replace hE := hE.frame s15 (by simp)
    replace hC := hC.frame s15 (by simp)
    replace S := S.trans s15
    clear s15
    have hc := same_ok r15.rd hC
    go_wp2_with fail
    refine hc.mono ?_
    clear hc r15
    rintro e w16 ⟨rfl, s16⟩
    replace hm := hm.frame s16 (by simp)
    replace hY := hY.frame s16 (by simp)
    replace hE := hE.frame s16 (by simp)
    replace hC := hC.frame s16 (by simp)
    replace S := S.trans s16
    clear s16
    have hc := only_ok a0 hm
    obtain ⟨q, hq⟩ : ∃ q, onlyAt a0 = q := ⟨_, rfl⟩
    rw [hq] at hc
    go_wp2_with fail
    refine hc.mono ?_
    clear hc
    rintro e w17 ⟨rfl, o17, s17⟩
    replace hm := hm.frame s17 (by simp)
    replace hY := hY.frame s17 (by simp)
    replace hE := hE.frame s17 (by simp)
    replace S := S.trans s17
    clear s17 hC
    obtain ⟨⟨x0, x1, x2, x3, x4⟩, _⟩ := cells5 hY
    cases q
    · have hc := planv_ok hm 41 1 a0 false 0 0 1
      rw [show planF 1 a0 false 0 0 1 = ([tExec a0], 0) by unfold planF nameF; rw [hq]; rfl] at hc
      have HQ := Lib.hid hq
      clear hq
      go_wp2_with fail
      refine hc.mono ?_
      clear hc
      rintro e w18 ⟨v, o18, rfl, r18, s18⟩
      obtain ⟨ar18, cr18, rfl⟩ := r18.slice'
      replace hm := hm.frame s18 (by simp)
      replace hE := hE.frame s18 (by simp)
      replace S := S.trans s18
      clear s18 hY
      have hc := same_ok r18.rd hE
      go_wp2_with fail
      refine hc.mono ?_
      clear hc r18
      rintro e w19 ⟨rfl, s19⟩
      replace hm := hm.frame s19 (by simp)
      replace S := S.trans s19
      clear s19 hE x0 x1 x2 x3 x4
      obtain ⟨wz, oz, hwz, sz, hZ⟩ := boxed (w := w19) _ 45 24 (.int .i64 4) (.int .i64 0) (.bool false) (.int .i64 3) (.int .i64 0)
      replace hm := hm.frame sz (by simp)
      replace S := S.trans sz
      obtain ⟨pz, hpz⟩ : ∃ p, w19.heap.size = p := ⟨_, rfl⟩
      rw [hpz] at hZ
      have Hwz := Lib.hid hwz
      have Hpz := Lib.hid hpz
      clear hwz hpz sz
      have hc := plan_ok hm 41 4 0 false 3 0 1
      rw [show planF 4 0 false 3 0 1 = ([], -14) from rfl, Hwz.out] at hc
      go_wp2_with fail
      rw [Hpz.out]
      refine hc.mono ?_
      clear hc
      rintro e w21 ⟨v21, o21, rfl, r21, s21⟩
      rw [← Hwz.out] at s21
      replace hm := hm.frame s21 (by simp)
      replace hZ := hZ.frame s21 (by simp)
      replace S := S.trans s21
      clear s21 r21
      obtain ⟨⟨x0, x1, x2, x3, x4⟩, _⟩ := cells5 hZ
      have hc := plan_ok hm 41 4 0 false 3 0 3
      rw [show planF 4 0 false 3 0 3 = ([], -48) from rfl] at hc
      go_wp2_with fail
      refine hc.mono ?_
      clear hc x0 x1 x2 x3 x4
      rintro e w22 ⟨v22, o22, rfl, r22, s22⟩
      replace hm := hm.frame s22 (by simp)
      replace hZ := hZ.frame s22 (by simp)
      replace S := S.trans s22
      clear s22 r22
      have hc := plan_ok hm 41 0 0 false 0 0 2
      rw [show planF 0 0 false 0 0 2 = ([], -13) from rfl] at hc
      go_wp2_with fail
      refine hc.mono ?_
      clear hc
      rintro e w23 ⟨v23, o23, rfl, r23, s23⟩
      replace hm := hm.frame s23 (by simp)
      replace hZ := hZ.frame s23 (by simp)
      replace S := S.trans s23
      clear s23 r23
      obtain ⟨⟨x0, x1, x2, x3, x4⟩, _⟩ := cells5 hZ
      have hc := planv_ok hm 41 4 0 false 3 0 2
      rw [show planF 4 0 false 3 0 2 = ([tLocal 3], 0) from rfl] at hc
      go_wp2_with fail
      refine hc.mono ?_
      clear hc
      rintro e w24 ⟨v24, o24, rfl, r24, s24⟩
      obtain ⟨ar24, cr24, rfl⟩ := r24.slice'
      replace S := S.trans s24
      clear s24 hZ x0 x1 x2 x3 x4 hm
      have hc := same_lit r24.rd #[.int .i64 3, .int .i64 0, .int .u8 13, .int .i64 3, .int .i64 0] rfl
      go_wp2_with fail
      refine hc.mono ?_
      clear hc r24
      rintro e w25 ⟨rfl, s25⟩
      go_wp2_with fail
      go_ret
      exact ⟨rfl, ((Base.start w).step (S.trans s25) (by decide)).below⟩
    · have hc := plan_ok hm 41 1 a0 false 0 0 1
      rw [show planF 1 a0 false 0 0 1 = ([], -14) by unfold planF nameF; rw [hq]; rfl] at hc
      have HQ := Lib.hid hq
      clear hq
      go_wp2_with fail
      refine hc.mono ?_
      clear hc
      rintro e w19 ⟨v, o18, rfl, r18, s18⟩
      replace hm := hm.frame s18 (by simp)
      replace S := S.trans s18
      clear s18 hY hE r18 x0 x1 x2 x3 x4
      obtain ⟨wz, oz, hwz, sz, hZ⟩ := boxed (w := w19) _ 45 24 (.int .i64 4) (.int .i64 0) (.bool false) (.int .i64 3) (.int .i64 0)
      replace hm := hm.frame sz (by simp)
      replace S := S.trans sz
      obtain ⟨pz, hpz⟩ : ∃ p, w19.heap.size = p := ⟨_, rfl⟩
      rw [hpz] at hZ
      have Hwz := Lib.hid hwz
      have Hpz := Lib.hid hpz
      clear hwz hpz sz
      have hc := plan_ok hm 41 4 0 false 3 0 1
      rw [show planF 4 0 false 3 0 1 = ([], -14) from rfl, Hwz.out] at hc
      go_wp2_with fail
      rw [Hpz.out]
      refine hc.mono ?_
      clear hc
      rintro e w21 ⟨v21, o21, rfl, r21, s21⟩
      rw [← Hwz.out] at s21
      replace hm := hm.frame s21 (by simp)
      replace hZ := hZ.frame s21 (by simp)
      replace S := S.trans s21
      clear s21 r21
      obtain ⟨⟨x0, x1, x2, x3, x4⟩, _⟩ := cells5 hZ
      have hc := plan_ok hm 41 4 0 false 3 0 3
      rw [show planF 4 0 false 3 0 3 = ([], -48) from rfl] at hc
      go_wp2_with fail
      refine hc.mono ?_
      clear hc x0 x1 x2 x3 x4
      rintro e w22 ⟨v22, o22, rfl, r22, s22⟩
      replace hm := hm.frame s22 (by simp)
      replace hZ := hZ.frame s22 (by simp)
      replace S := S.trans s22
      clear s22 r22
      have hc := plan_ok hm 41 0 0 false 0 0 2
      rw [show planF 0 0 false 0 0 2 = ([], -13) from rfl] at hc
      go_wp2_with fail
      refine hc.mono ?_
      clear hc
      rintro e w23 ⟨v23, o23, rfl, r23, s23⟩
      replace hm := hm.frame s23 (by simp)
      replace hZ := hZ.frame s23 (by simp)
      replace S := S.trans s23
      clear s23 r23
      obtain ⟨⟨x0, x1, x2, x3, x4⟩, _⟩ := cells5 hZ
      have hc := planv_ok hm 41 4 0 false 3 0 2
      rw [show planF 4 0 false 3 0 2 = ([tLocal 3], 0) from rfl] at hc
      go_wp2_with fail
      refine hc.mono ?_
      clear hc
      rintro e w24 ⟨v24, o24, rfl, r24, s24⟩
      obtain ⟨ar24, cr24, rfl⟩ := r24.slice'
      replace S := S.trans s24
      clear s24 hZ x0 x1 x2 x3 x4 hm
      have hc := same_lit r24.rd #[.int .i64 3, .int .i64 0, .int .u8 13, .int .i64 3, .int .i64 0] rfl
      go_wp2_with fail
      refine hc.mono ?_
      clear hc r24
      rintro e w25 ⟨rfl, s25⟩
      go_wp2_with fail
      go_ret
      exact ⟨rfl, ((Base.start w).step (S.trans s25) (by decide)).below⟩
  · obtain ⟨w14, hw14⟩ : ∃ w14, w14 = ((w11.alloc (.cells #[.int .i64 1, .int .i64 a0, .bool true, .int .i64 0, .int .i64 0] 24)).alloc (.cells #[.int .i64 2, .int .i64 a0, .int .u8 0, .int .i64 0, .int .i64 0] 42)).alloc (.cells #[.int .i64 3, .int .i64 0, .int .u8 2, .int .i64 a0, .int .i64 0] 42) := ⟨_, rfl⟩
    obtain ⟨p1, hp1⟩ : ∃ p, w11.heap.size = p := ⟨_, rfl⟩
    obtain ⟨o14, S14, hm14, hY, hE, hC⟩ : ∃ o14, Step [] w (fun _ => 0) w14 o14 ∧ ML w14 o14 ∧ Blk w14 o14 42 p1 24 #[.int .i64 1, .int .i64 a0, .bool true, .int .i64 0, .int .i64 0] ∧
        Rd w14 o14 43 5 (.slice (some ⟨p1 + 1, 0, none⟩) 1 1) 1 (tcells [tExec a0]) ∧ Rd w14 o14 44 5 (.slice (some ⟨p1 + 1 + 1, 0, none⟩) 1 1) 1 (tcells [tCall a0]) :=
      three_new S hm hp1 hw14
    clear S hm
    have S := S14
    have hm := hm14
    clear S14 hm14
    have Hw14 := Lib.hid hw14
    have Hp1 := Lib.hid hp1
    clear hw14 hp1
    have hc := planv_ok hm 41 1 a0 true 0 0 2
    rw [show planF 1 a0 true 0 0 2 = ([tExec a0], 0) from rfl] at hc
    rw [Hw14.out] at hc
    go_wp2_with fail
    rw [Hp1.out]
    refine hc.mono ?_
    clear hc
    rintro e w15 ⟨v, o15, rfl, r15, s15⟩
    rw [← Hw14.out] at s15
    obtain ⟨ar15, cr15, rfl⟩ := r15.slice'
    replace hm := hm.frame s15 (by simp)
    replace hY := hY.frame s15 (by simp)
    replace hE := hE.frame s15 (by simp)
    replace hC := hC.frame s15 (by simp)
    replace S := S.trans s15
    clear s15
    have hc := same_ok r15.rd hE
    go_wp2_with fail
    refine hc.mono ?_
    clear hc r15
    rintro e w16 ⟨rfl, s16⟩
    replace hm := hm.frame s16 (by simp)
    replace hY := hY.frame s16 (by simp)
    replace hE := hE.frame s16 (by simp)
    replace hC := hC.frame s16 (by simp)
    replace S := S.trans s16
    clear s16
    have hc := only_ok a0 hm
    obtain ⟨q, hq⟩ : ∃ q, onlyAt a0 = q := ⟨_, rfl⟩
    rw [hq] at hc
    go_wp2_with fail
    refine hc.mono ?_
    clear hc
    rintro e w17 ⟨rfl, o17, s17⟩
    replace hm := hm.frame s17 (by simp)
    replace hY := hY.frame s17 (by simp)
    replace hE := hE.frame s17 (by simp)
    replace S := S.trans s17
    clear s17 hC
    obtain ⟨⟨x0, x1, x2, x3, x4⟩, _⟩ := cells5 hY
    cases q
    · have hc := planv_ok hm 41 1 a0 true 0 0 1
      rw [show planF 1 a0 true 0 0 1 = ([tExec a0], 0) by unfold planF nameF; rw [hq]; rfl] at hc
      have HQ := Lib.hid hq
      clear hq
      go_wp2_with fail
      refine hc.mono ?_
      clear hc
      rintro e w18 ⟨v, o18, rfl, r18, s18⟩
      obtain ⟨ar18, cr18, rfl⟩ := r18.slice'
      replace hm := hm.frame s18 (by simp)
      replace hE := hE.frame s18 (by simp)
      replace S := S.trans s18
      clear s18 hY
      have hc := same_ok r18.rd hE
      go_wp2_with fail
      refine hc.mono ?_
      clear hc r18
      rintro e w19 ⟨rfl, s19⟩
      replace hm := hm.frame s19 (by simp)
      replace S := S.trans s19
      clear s19 hE x0 x1 x2 x3 x4
      obtain ⟨wz, oz, hwz, sz, hZ⟩ := boxed (w := w19) _ 45 24 (.int .i64 4) (.int .i64 0) (.bool false) (.int .i64 3) (.int .i64 0)
      replace hm := hm.frame sz (by simp)
      replace S := S.trans sz
      obtain ⟨pz, hpz⟩ : ∃ p, w19.heap.size = p := ⟨_, rfl⟩
      rw [hpz] at hZ
      have Hwz := Lib.hid hwz
      have Hpz := Lib.hid hpz
      clear hwz hpz sz
      have hc := plan_ok hm 41 4 0 false 3 0 1
      rw [show planF 4 0 false 3 0 1 = ([], -14) from rfl, Hwz.out] at hc
      go_wp2_with fail
      rw [Hpz.out]
      refine hc.mono ?_
      clear hc
      rintro e w21 ⟨v21, o21, rfl, r21, s21⟩
      rw [← Hwz.out] at s21
      replace hm := hm.frame s21 (by simp)
      replace hZ := hZ.frame s21 (by simp)
      replace S := S.trans s21
      clear s21 r21
      obtain ⟨⟨x0, x1, x2, x3, x4⟩, _⟩ := cells5 hZ
      have hc := plan_ok hm 41 4 0 false 3 0 3
      rw [show planF 4 0 false 3 0 3 = ([], -48) from rfl] at hc
      go_wp2_with fail
      refine hc.mono ?_
      clear hc x0 x1 x2 x3 x4
      rintro e w22 ⟨v22, o22, rfl, r22, s22⟩
      replace hm := hm.frame s22 (by simp)
      replace hZ := hZ.frame s22 (by simp)
      replace S := S.trans s22
      clear s22 r22
      have hc := plan_ok hm 41 0 0 false 0 0 2
      rw [show planF 0 0 false 0 0 2 = ([], -13) from rfl] at hc
      go_wp2_with fail
      refine hc.mono ?_
      clear hc
      rintro e w23 ⟨v23, o23, rfl, r23, s23⟩
      replace hm := hm.frame s23 (by simp)
      replace hZ := hZ.frame s23 (by simp)
      replace S := S.trans s23
      clear s23 r23
      obtain ⟨⟨x0, x1, x2, x3, x4⟩, _⟩ := cells5 hZ
      have hc := planv_ok hm 41 4 0 false 3 0 2
      rw [show planF 4 0 false 3 0 2 = ([tLocal 3], 0) from rfl] at hc
      go_wp2_with fail
      refine hc.mono ?_
      clear hc
      rintro e w24 ⟨v24, o24, rfl, r24, s24⟩
      obtain ⟨ar24, cr24, rfl⟩ := r24.slice'
      replace S := S.trans s24
      clear s24 hZ x0 x1 x2 x3 x4 hm
      have hc := same_lit r24.rd #[.int .i64 3, .int .i64 0, .int .u8 13, .int .i64 3, .int .i64 0] rfl
      go_wp2_with fail
      refine hc.mono ?_
      clear hc r24
      rintro e w25 ⟨rfl, s25⟩
      go_wp2_with fail
      go_ret
      exact ⟨rfl, ((Base.start w).step (S.trans s25) (by decide)).below⟩
    · have hc := plan_ok hm 41 1 a0 true 0 0 1
      rw [show planF 1 a0 true 0 0 1 = ([], -14) by unfold planF nameF; rw [hq]; rfl] at hc
      have HQ := Lib.hid hq
      clear hq
      go_wp2_with fail
      refine hc.mono ?_
      clear hc
      rintro e w19 ⟨v, o18, rfl, r18, s18⟩
      replace hm := hm.frame s18 (by simp)
      replace S := S.trans s18
      clear s18 hY hE r18 x0 x1 x2 x3 x4
      obtain ⟨wz, oz, hwz, sz, hZ⟩ := boxed (w := w19) _ 45 24 (.int .i64 4) (.int .i64 0) (.bool false) (.int .i64 3) (.int .i64 0)
      replace hm := hm.frame sz (by simp)
      replace S := S.trans sz
      obtain ⟨pz, hpz⟩ : ∃ p, w19.heap.size = p := ⟨_, rfl⟩
      rw [hpz] at hZ
      have Hwz := Lib.hid hwz
      have Hpz := Lib.hid hpz
      clear hwz hpz sz
      have hc := plan_ok hm 41 4 0 false 3 0 1
      rw [show planF 4 0 false 3 0 1 = ([], -14) from rfl, Hwz.out] at hc
      go_wp2_with fail
      rw [Hpz.out]
      refine hc.mono ?_
      clear hc
      rintro e w21 ⟨v21, o21, rfl, r21, s21⟩
      rw [← Hwz.out] at s21
      replace hm := hm.frame s21 (by simp)
      replace hZ := hZ.frame s21 (by simp)
      replace S := S.trans s21
      clear s21 r21
      obtain ⟨⟨x0, x1, x2, x3, x4⟩, _⟩ := cells5 hZ
      have hc := plan_ok hm 41 4 0 false 3 0 3
      rw [show planF 4 0 false 3 0 3 = ([], -48) from rfl] at hc
      go_wp2_with fail
      refine hc.mono ?_
      clear hc x0 x1 x2 x3 x4
      rintro e w22 ⟨v22, o22, rfl, r22, s22⟩
      replace hm := hm.frame s22 (by simp)
      replace hZ := hZ.frame s22 (by simp)
      replace S := S.trans s22
      clear s22 r22
      have hc := plan_ok hm 41 0 0 false 0 0 2
      rw [show planF 0 0 false 0 0 2 = ([], -13) from rfl] at hc
      go_wp2_with fail
      refine hc.mono ?_
      clear hc
      rintro e w23 ⟨v23, o23, rfl, r23, s23⟩
      replace hm := hm.frame s23 (by simp)
      replace hZ := hZ.frame s23 (by simp)
      replace S := S.trans s23
      clear s23 r23
      obtain ⟨⟨x0, x1, x2, x3, x4⟩, _⟩ := cells5 hZ
      have hc := planv_ok hm 41 4 0 false 3 0 2
      rw [show planF 4 0 false 3 0 2 = ([tLocal 3], 0) from rfl] at hc
      go_wp2_with fail
      refine hc.mono ?_
      clear hc
      rintro e w24 ⟨v24, o24, rfl, r24, s24⟩
      obtain ⟨ar24, cr24, rfl⟩ := r24.slice'
      replace S := S.trans s24
      clear s24 hZ x0 x1 x2 x3 x4 hm
      have hc := same_lit r24.rd #[.int .i64 3, .int .i64 0, .int .u8 13, .int .i64 3, .int .i64 0] rfl
      go_wp2_with fail
      refine hc.mono ?_
      clear hc r24
      rintro e w25 ⟨rfl, s25⟩
      go_wp2_with fail
      go_ret
      exact ⟨rfl, ((Base.start w).step (S.trans s25) (by decide)).below⟩
end Go.Proofs.YtnfbldkejbgbiaaDoor
