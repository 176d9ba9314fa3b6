/- What is to do, done when it is laid in a definition that is executed. -/
import Derived.Test.YtnfbldkejbgbiaaDoorSame17
namespace Go.Proofs.YtnfbldkejbgbiaaDoor
open Go Go.RowKit Go.Shelf
set_option linter.unusedSimpArgs false
set_option linter.unusedVariables false

/-- What is to do leaves r as what is laid down and executed. -/
inductive RunD (r : List Td) : List Td → List Int → List Td → Prop
  | fin : RunD r [] [] r
  | lit (y : Int) (xs : List Td) (s : List Int) (t : List Td) : RunD r xs (s ++ [y]) t → RunD r (tLit y :: xs) s t
  | lays (y : Int) (xs : List Td) (s : List Int) (t : List Td) : RunD r xs s (t ++ [tLit y]) → RunD r (tCall xtLit :: xs) (s ++ [y]) t
  | comp (y : Int) (xs : List Td) (s : List Int) (t : List Td) : RunD r xs s (t ++ [tCall y]) → RunD r (tCall xtComp :: xs) (s ++ [y]) t
  | exec (a : Int) (h1 : a ≠ xtLit) (h2 : a ≠ xtComp) (xs : List Td) (s : List Int) (t : List Td) : RunD r xs s (t ++ [tExec a]) → RunD r (tCall a :: xs) s t

theorem infoC : (Tryd.prog.info? 22).map (fun i => (i.zero, i.size, i.bytes)) = some (some (.int .i64 0), 1, 8) := by kernel_rfl
theorem xt_apart : (xtComp == xtLit) = false := by kernel_rfl

abbrev ints (l : List Int) : List Value := l.map (Value.int .i64)

/-- The uppermost cell, and what is left. -/
theorem pop_at {w : World} {o : Owner} {i c n : Nat} {a : Option Addr} {s : List Int} {y : Int} (h : Row w o i 22 1 (.slice a n c) n (ints (s ++ [y]))) :
    ∃ b off m, a = some ⟨b, off, none⟩ ∧ n = m + 1 ∧ m = s.length ∧ m + 1 ≤ c ∧ c ≤ 9223372036854775807 ∧ w.cell? ⟨b, off + m, none⟩ = some (.int .i64 y) ∧ Row w o i 22 1 (.slice a m c) s.length (ints s) := by
  have hn : n = s.length + 1 := by have := h.len; simp [ints] at this; omega
  have hc := h.cut (k := s.length) (by omega)
  rw [show (ints (s ++ [y])).take (s.length * 1) = ints s by simp [ints]] at hc
  obtain ⟨ao, cap, hv, h1, h2, h3, h4⟩ := h.rd
  simp only [Value.slice.injEq, true_and] at hv
  obtain ⟨rfl, rfl⟩ := hv
  obtain ⟨b, off, rfl, hb, ho, hcell⟩ := h4 (by omega)
  exact ⟨b, off, s.length, rfl, hn, rfl, by omega, by simpa [maxLen] using h2, hcell s.length _ (by simp [ints]), hc⟩

theorem ins_cells {w : World} {o : Owner} {i b : Nat} {T : TypeId} {v0 v1 v2 : Value} (h : Blk w o i b T #[v0, v1, v2]) :
    w.cell? ⟨b, 0, none⟩ = some v0 ∧ w.cell? ⟨b, 1, none⟩ = some v1 ∧ w.cell? ⟨b, 2, none⟩ = some v2 ∧ w.frozen? ⟨b, 0, none⟩ = false ∧ w.frozen? ⟨b, 1, none⟩ = false ∧ w.frozen? ⟨b, 2, none⟩ = false :=
  ⟨h.cell 0, h.cell 1, h.cell 2, h.frozen 0, h.frozen 1, h.frozen 2⟩

set_option maxRecDepth 100000 in
set_option maxHeartbeats 16000000 in
theorem done_ok {w : World} {o : Owner} (hm : ML w o) {q : Nat} (q1 : q ≠ 30) (q2 : q ≠ 31) {a : Option Addr} {n c : Nat} {l out : List Td} (hl : Rd w o q 5 (.slice a n c) n (tcells l)) (hn : n ≤ 1000) (hR : RunD out l [] []) :
    Calls Tryd.prog 17 #[.slice a n c] w fun e w' => ∃ v o', e = .returned (.tuple #[v, .bool true]) ∧ Row w' o' 31 42 5 v out.length (tcells out) ∧ Step [30, 31] w o w' o' := by
  have hxl : seekI (low ⟨#[108, 105, 116, 101, 114, 97, 108]⟩) + 1 = xtLit := rfl
  have hxc : seekI (low ⟨#[99, 111, 109, 112, 105, 108, 101, 44]⟩) + 1 = xtComp := rfl
  have hap := xt_apart
  have HLEN := Lib.hid (tlen hl)
  go_enter Tryd.func17, Tryd.ntmps17
  go_wp2_with fail
  go_loopg [4, 5, 12] n (fun g v4 v5 v wr => ∃ (j : Nat) (o' : Owner) (s : List Int) (t : List Td), g = n - j ∧ j ≤ n ∧ v = .int .i64 j ∧ Row wr o' 30 22 1 v4 s.length (ints s) ∧ Row wr o' 31 42 5 v5 t.length (tcells t) ∧ Step [30, 31] w o wr o' ∧ s.length ≤ j ∧ t.length ≤ j ∧ RunD out (l.drop j) s t)
  case atStart => exact ⟨0, o, [], [], rfl, Nat.zero_le _, rfl, Row.nil _ _ _ _ _ _, Row.nil _ _ _ _ _ _, Step.refl _ _ _, Nat.le_refl _, Nat.le_refl _, hR⟩
  case round =>
    obtain ⟨j, o3, s, t, hg, hj, rfl, hS, hT, st, hs, ht, hR3⟩ := hrel
    have HG := Lib.hid hg
    clear hg hR
    obtain ⟨a4, c4, rfl⟩ := hS.slice'
    obtain ⟨a5, c5, rfl⟩ := hT.slice'
    by_cases hlt : j < n
    · have hji : (j : Int) < n := by omega
      have hl3 := hl.frame st (by simp; omega)
      have hm3 := hm.frame st (by simp)
      have hjl : j < l.length := by rw [HLEN.out]; exact hlt
      obtain ⟨x, hxj⟩ : ∃ x, l[j] = x := ⟨_, rfl⟩
      rw [List.drop_eq_getElem_cons hjl, hxj] at hR3
      have hx := hl3.todo (j := j) (t := x) (by rw [List.getElem?_eq_getElem hjl, hxj])
      obtain ⟨D, hD⟩ : ∃ D, l.drop (j + 1) = D := ⟨_, rfl⟩
      rw [hD] at hR3
      have HD := Lib.hid hD
      clear hxj hjl hl3 hD
      cases hR3 with
      | lit y _ _ _ hR4 =>
        obtain ⟨b, off, rfl, hb, y0, y1, y2, y3, y4⟩ := hx
        simp only [tLit] at y0 y1 y2 y3 y4
        have HR4 := Lib.hid hR4
        obtain ⟨S, hSl⟩ : ∃ S, s.length = S := ⟨_, rfl⟩
        rw [hSl] at hS hs ⊢
        have HSL := Lib.hid hSl
        clear hSl hR4
        have sA : Step [] wr o3 ((wr.alloc (.cells #[.int .i64 3, .int .i64 0, .int .u8 1, .int .i64 0, .int .i64 y] 42)).alloc (.cells #[.int .i64 y] 22)) o3 := ((Step.refl _ _ _).alloc _).alloc _
        have hSA := hS.frame sA (by simp)
        have hTA := hT.frame sA (by simp)
        go_wp2_with (at_builtin; refine wpList_app rfl (.tmp 31) (.tmp 35) 63 rfl Tryd.underlying63 infoC rfl rfl hSA rfl (Rd.fresh2 wr o3 1 22 _ #[.int .i64 y] 1 (by decide) rfl) (by simp [Value.oneCell']) (by omega) (by omega) ?_)
        intro v5 w5 o5 hr5 s5
        have hT5 := hTA.frame s5 (by simp)
        have S5 := st.trans ((sA.nil).trans (s5.weaken (by simp)))
        obtain ⟨a6, c6, rfl⟩ := hr5.slice'
        go_wp2_with fail
        go_roundg (n - (j + 1))
        case measure => rw [HG.out]; omega
        case rel =>
          refine ⟨j + 1, o5, s ++ [y], t, rfl, by omega, by go_num, ?_, hT5, S5, by simp [HSL.out]; omega, by omega, by rw [HD.out]; exact HR4.out⟩
          rw [List.length_append, HSL.out, show ints (s ++ [y]) = ints s ++ [.int .i64 y] by simp [ints]]
          exact hr5
      | lays y _ _ _ hR4 =>
        rename_i s
        obtain ⟨b, off, rfl, hb, y0, y1, y2, y3, y4⟩ := hx
        simp only [tCall] at y0 y1 y2 y3 y4
        have HR4 := Lib.hid hR4
        obtain ⟨L, hL⟩ : ∃ L, xtLit = L := ⟨_, rfl⟩
        obtain ⟨C, hC⟩ : ∃ C, xtComp = C := ⟨_, rfl⟩
        rw [hL] at hap hxl y3
        rw [hC] at hap hxc
        have hap2 : (L == C) = false := by rw [beq_eq_false_iff_ne] at hap ⊢; exact fun e => hap e.symm
        have HXL := Lib.hid hxl
        have HXC := Lib.hid hxc
        obtain ⟨w1, o1, hw1, s1, hX⟩ := boxed (w := wr) o3 40 42 (.int .i64 3) (.int .i64 0) (.int .u8 2) (.int .i64 L) (.int .i64 0)
        obtain ⟨p, hp⟩ : ∃ p, wr.heap.size = p := ⟨_, rfl⟩
        rw [hp] at hX
        have HW1 := Lib.hid hw1
        have HP := Lib.hid hp
        obtain ⟨T, hTl⟩ : ∃ T, t.length = T := ⟨_, rfl⟩
        rw [hTl] at hT ht ⊢
        have HTL := Lib.hid hTl
        obtain ⟨N, hNl⟩ : ∃ N, (s ++ [y]).length = N := ⟨_, rfl⟩
        rw [hNl] at hS hs ⊢
        have hm1 := hm3.frame s1 (by simp)
        clear hL hC hxl hxc hw1 hp hTl hR4 hm hm3 hNl
        go_wp2_with fail
        rw [← HW1.out, HP.out]
        refine q_start (fun W => ∃ o', Step [] w1 o1 W o') (by kernel_rfl) ⟨_, (Step.refl _ _ _).drew⟩ ?_
        repeat (first
          | (refine q_off (by rfl) ?_; simp only [Act.put, List.setIfInBounds_toArray, List.set_cons_zero, List.set_cons_succ])
          | (refine q_on (by rfl) ?_; apply Exists.intro; refine ⟨fun W hW => ?_, ?_⟩; (obtain ⟨oW, sW⟩ := hW; obtain ⟨⟨x0, x1, x2, x3, x4⟩, _⟩ := cells5 (hX.frame sW (by simp)); go_simp; first | done | with_reducible rfl | (go_at_call_of 13 (#[Value.string ⟨#[108, 105, 116, 101, 114, 97, 108]⟩]); exact (xt_ok _ (by decide) (hm1.frame sW (by simp))).mono fun e w' k => ⟨k.1.trans (by rw [HXL.out]), k.2.elim fun o2 st => ⟨o2, sW.trans st⟩⟩) | (go_at_call 13; exact (xt_ok _ (by decide) (hm1.frame sW (by simp))).mono fun e w' k => ⟨k.1.trans (by rw [HXC.out]), k.2.elim fun o2 st => ⟨o2, sW.trans st⟩⟩)); simp only [Act.put, List.setIfInBounds_toArray, List.set_cons_zero, List.set_cons_succ])
          | fail)
        refine q_end ?_
        rintro w4 ⟨o4, s4⟩
        replace hX := hX.frame s4 (by simp)
        have s14 := s1.trans s4
        have hS4 := hS.frame s14 (by simp)
        have hT4 := hT.frame s14 (by simp)
        replace hm1 := hm1.frame s4 (by simp)
        obtain ⟨b4, f4, m, rfl, hNm, hml, hmc, hcm, yc, hS5⟩ := pop_at hS4
        have n0 : ((N : Int) == 0) = false := by rw [beq_eq_false_iff_ne]; omega
        have nw : IntKind.i64.wrap ((N : Int) - 1) = (m : Int) := by rw [IntKind.wrap_i64]; omega
        have nw2 : wrap64 ((N : Int) - 1) = (m : Int) := by unfold wrap64; omega
        have n1 : (m : Int) < N := by omega
        have n2 : (m : Int) ≤ c4 := by omega
        have HML := Lib.hid hml
        have HNM := Lib.hid hNm
        obtain ⟨w5, hw5⟩ : ∃ w5, w5 = w4.alloc (.cells #[.int .u8 1, .int .i64 0, .int .i64 y] 40) := ⟨_, rfl⟩
        obtain ⟨o5, ho5⟩ : ∃ o5, o5 = o4.set w4.heap.size 41 := ⟨_, rfl⟩
        obtain ⟨p2, hp2⟩ : ∃ p2, w4.heap.size = p2 := ⟨_, rfl⟩
        have s5 : Step [] w4 o4 w5 o5 := by rw [hw5, ho5]; exact ((Step.refl _ _ _).alloc _).give (Nat.le_refl _) _
        have hB : Blk w5 o5 41 p2 40 #[.int .u8 1, .int .i64 0, .int .i64 y] := by rw [hw5, ho5, ← hp2]; exact Blk.new _ _ _ _ _
        obtain ⟨⟨x0, x1, x2, x3, x4⟩, _⟩ := cells5 hX
        have HW5 := Lib.hid hw5
        have HP2 := Lib.hid hp2
        clear hml hNm hw5 hp2 ho5 hS4
        go_wp2_with fail
        rw [← HW5.out, HP2.out]
        clear x0 x1 x2 x3 x4
        replace hX := hX.frame s5 (by simp)
        replace hm1 := hm1.frame s5 (by simp)
        refine q_start (fun W => ∃ o', Step [] w5 o5 W o') (by kernel_rfl) ⟨_, (Step.refl _ _ _).drew⟩ ?_
        repeat (first
          | (refine q_off (by rfl) ?_; simp only [Act.put, List.setIfInBounds_toArray, List.set_cons_zero, List.set_cons_succ])
          | (refine q_on (by rfl) ?_; apply Exists.intro; refine ⟨fun W hW => ?_, ?_⟩; (obtain ⟨oW, sW⟩ := hW; obtain ⟨⟨x0, x1, x2, x3, x4⟩, _⟩ := cells5 (hX.frame sW (by simp)); go_simp; first | done | with_reducible rfl | (go_at_call_of 13 (#[Value.string ⟨#[108, 105, 116, 101, 114, 97, 108]⟩]); exact (xt_ok _ (by decide) (hm1.frame sW (by simp))).mono fun e w' k => ⟨k.1.trans (by rw [HXL.out]), k.2.elim fun o2 st => ⟨o2, sW.trans st⟩⟩) | (go_at_call 13; exact (xt_ok _ (by decide) (hm1.frame sW (by simp))).mono fun e w' k => ⟨k.1.trans (by rw [HXC.out]), k.2.elim fun o2 st => ⟨o2, sW.trans st⟩⟩)); simp only [Act.put, List.setIfInBounds_toArray, List.set_cons_zero, List.set_cons_succ])
          | fail)
        refine q_end ?_
        rintro w6 ⟨o6, s6⟩
        have s46 := s5.trans s6
        have hS6 := hS5.frame s46 (by simp)
        have hT6 := hT4.frame s46 (by simp)
        have hB6 := hB.frame s6 (by simp)
        have S6 := st.trans ((s14.nil).trans s46.nil)
        obtain ⟨z0, z1, z2, g0, g1, g2⟩ := ins_cells hB6
        have hTA := hT6.frame ((Step.refl [] w6 o6).alloc (.cells #[.int .i64 3, .int .i64 0, .int .u8 1, .int .i64 0, .int .i64 y] 42)) (by simp)
        go_wp2_with (at_builtin; refine wpList_app rfl (.tmp 78) (.tmp 81) 26 rfl Tryd.underlying26 infoT rfl rfl hTA rfl (Rd.fresh w6 o6 5 42 #[.int .i64 3, .int .i64 0, .int .u8 1, .int .i64 0, .int .i64 y] 1 (by decide) rfl) (by simp [Value.oneCell']) (by omega) (by omega) ?_)
        intro v7 w7 o7 hr7 s7
        have hS7 := (hS6.frame ((Step.refl [] w6 o6).alloc _) (by simp)).frame s7 (by simp)
        have S7 := S6.trans ((((Step.refl [] w6 o6).alloc _).nil).trans (s7.weaken (by simp)))
        obtain ⟨a7, c7, rfl⟩ := hr7.slice'
        go_wp2_with fail
        go_roundg (n - (j + 1))
        case measure => rw [HG.out]; omega
        case rel =>
          refine ⟨j + 1, o7, s, t ++ [tLit y], rfl, by omega, by go_num, by rw [← HML.out] at hS7 ⊢; exact hS7, ?_, S7, by have := HML.out; have := HNM.out; omega, by simp [HTL.out]; omega, by rw [HD.out]; exact HR4.out⟩
          rw [List.length_append, HTL.out, tcells_app]
          exact hr7
      | comp y _ _ _ hR4 =>
        rename_i s
        obtain ⟨b, off, rfl, hb, y0, y1, y2, y3, y4⟩ := hx
        simp only [tCall] at y0 y1 y2 y3 y4
        have HR4 := Lib.hid hR4
        obtain ⟨L, hL⟩ : ∃ L, xtLit = L := ⟨_, rfl⟩
        obtain ⟨C, hC⟩ : ∃ C, xtComp = C := ⟨_, rfl⟩
        rw [hL] at hap hxl
        rw [hC] at hap hxc y3
        have hap2 : (L == C) = false := by rw [beq_eq_false_iff_ne] at hap ⊢; exact fun e => hap e.symm
        have HXL := Lib.hid hxl
        have HXC := Lib.hid hxc
        obtain ⟨w1, o1, hw1, s1, hX⟩ := boxed (w := wr) o3 40 42 (.int .i64 3) (.int .i64 0) (.int .u8 2) (.int .i64 C) (.int .i64 0)
        obtain ⟨p, hp⟩ : ∃ p, wr.heap.size = p := ⟨_, rfl⟩
        rw [hp] at hX
        have HW1 := Lib.hid hw1
        have HP := Lib.hid hp
        obtain ⟨T, hTl⟩ : ∃ T, t.length = T := ⟨_, rfl⟩
        rw [hTl] at hT ht ⊢
        have HTL := Lib.hid hTl
        obtain ⟨N, hNl⟩ : ∃ N, (s ++ [y]).length = N := ⟨_, rfl⟩
        rw [hNl] at hS hs ⊢
        have hm1 := hm3.frame s1 (by simp)
        clear hL hC hxl hxc hw1 hp hTl hR4 hm hm3 hNl
        go_wp2_with fail
        rw [← HW1.out, HP.out]
        refine q_start (fun W => ∃ o', Step [] w1 o1 W o') (by kernel_rfl) ⟨_, (Step.refl _ _ _).drew⟩ ?_
        repeat (first
          | (refine q_off (by rfl) ?_; simp only [Act.put, List.setIfInBounds_toArray, List.set_cons_zero, List.set_cons_succ])
          | (refine q_on (by rfl) ?_; apply Exists.intro; refine ⟨fun W hW => ?_, ?_⟩; (obtain ⟨oW, sW⟩ := hW; obtain ⟨⟨x0, x1, x2, x3, x4⟩, _⟩ := cells5 (hX.frame sW (by simp)); go_simp; first | done | with_reducible rfl | (go_at_call_of 13 (#[Value.string ⟨#[108, 105, 116, 101, 114, 97, 108]⟩]); exact (xt_ok _ (by decide) (hm1.frame sW (by simp))).mono fun e w' k => ⟨k.1.trans (by rw [HXL.out]), k.2.elim fun o2 st => ⟨o2, sW.trans st⟩⟩) | (go_at_call 13; exact (xt_ok _ (by decide) (hm1.frame sW (by simp))).mono fun e w' k => ⟨k.1.trans (by rw [HXC.out]), k.2.elim fun o2 st => ⟨o2, sW.trans st⟩⟩)); simp only [Act.put, List.setIfInBounds_toArray, List.set_cons_zero, List.set_cons_succ])
          | fail)
        refine q_end ?_
        rintro w4 ⟨o4, s4⟩
        replace hX := hX.frame s4 (by simp)
        have s14 := s1.trans s4
        have hS4 := hS.frame s14 (by simp)
        have hT4 := hT.frame s14 (by simp)
        replace hm1 := hm1.frame s4 (by simp)
        obtain ⟨b4, f4, m, rfl, hNm, hml, hmc, hcm, yc, hS5⟩ := pop_at hS4
        have n0 : ((N : Int) == 0) = false := by rw [beq_eq_false_iff_ne]; omega
        have nw : IntKind.i64.wrap ((N : Int) - 1) = (m : Int) := by rw [IntKind.wrap_i64]; omega
        have nw2 : wrap64 ((N : Int) - 1) = (m : Int) := by unfold wrap64; omega
        have n1 : (m : Int) < N := by omega
        have n2 : (m : Int) ≤ c4 := by omega
        have HML := Lib.hid hml
        have HNM := Lib.hid hNm
        obtain ⟨w5, hw5⟩ : ∃ w5, w5 = w4.alloc (.cells #[.int .u8 1, .int .i64 0, .int .i64 y] 40) := ⟨_, rfl⟩
        obtain ⟨o5, ho5⟩ : ∃ o5, o5 = o4.set w4.heap.size 41 := ⟨_, rfl⟩
        obtain ⟨p2, hp2⟩ : ∃ p2, w4.heap.size = p2 := ⟨_, rfl⟩
        have s5 : Step [] w4 o4 w5 o5 := by rw [hw5, ho5]; exact ((Step.refl _ _ _).alloc _).give (Nat.le_refl _) _
        have hB : Blk w5 o5 41 p2 40 #[.int .u8 1, .int .i64 0, .int .i64 y] := by rw [hw5, ho5, ← hp2]; exact Blk.new _ _ _ _ _
        obtain ⟨⟨x0, x1, x2, x3, x4⟩, _⟩ := cells5 hX
        have HW5 := Lib.hid hw5
        have HP2 := Lib.hid hp2
        clear hml hNm hw5 hp2 ho5 hS4
        go_wp2_with fail
        rw [← HW5.out, HP2.out]
        clear x0 x1 x2 x3 x4
        replace hX := hX.frame s5 (by simp)
        replace hm1 := hm1.frame s5 (by simp)
        refine q_start (fun W => ∃ o', Step [] w5 o5 W o') (by kernel_rfl) ⟨_, (Step.refl _ _ _).drew⟩ ?_
        repeat (first
          | (refine q_off (by rfl) ?_; simp only [Act.put, List.setIfInBounds_toArray, List.set_cons_zero, List.set_cons_succ])
          | (refine q_on (by rfl) ?_; apply Exists.intro; refine ⟨fun W hW => ?_, ?_⟩; (obtain ⟨oW, sW⟩ := hW; obtain ⟨⟨x0, x1, x2, x3, x4⟩, _⟩ := cells5 (hX.frame sW (by simp)); go_simp; first | done | with_reducible rfl | (go_at_call_of 13 (#[Value.string ⟨#[108, 105, 116, 101, 114, 97, 108]⟩]); exact (xt_ok _ (by decide) (hm1.frame sW (by simp))).mono fun e w' k => ⟨k.1.trans (by rw [HXL.out]), k.2.elim fun o2 st => ⟨o2, sW.trans st⟩⟩) | (go_at_call 13; exact (xt_ok _ (by decide) (hm1.frame sW (by simp))).mono fun e w' k => ⟨k.1.trans (by rw [HXC.out]), k.2.elim fun o2 st => ⟨o2, sW.trans st⟩⟩)); simp only [Act.put, List.setIfInBounds_toArray, List.set_cons_zero, List.set_cons_succ])
          | fail)
        refine q_end ?_
        rintro w6 ⟨o6, s6⟩
        have s46 := s5.trans s6
        have hS6 := hS5.frame s46 (by simp)
        have hT6 := hT4.frame s46 (by simp)
        have hB6 := hB.frame s6 (by simp)
        have S6 := st.trans ((s14.nil).trans s46.nil)
        obtain ⟨z0, z1, z2, g0, g1, g2⟩ := ins_cells hB6
        have hsz : w.heap.size ≤ p2 := by rw [← HP2.out]; exact Nat.le_trans st.size s14.size
        have S8 : Step [30, 31] w o (((w6.setCell ⟨p2, 0, none⟩ (.int .u8 2)).setCell ⟨p2, 1, none⟩ (.int .i64 y)).setCell ⟨p2, 2, none⟩ (.int .i64 0)) o6 := ((S6.setCell (a := ⟨p2, 0, none⟩) (fun h => absurd h (by show ¬ p2 < w.heap.size; omega)) _).setCell (a := ⟨p2, 1, none⟩) (fun h => absurd h (by show ¬ p2 < w.heap.size; omega)) _).setCell (a := ⟨p2, 2, none⟩) (fun h => absurd h (by show ¬ p2 < w.heap.size; omega)) _
        have hS8 : Row (((w6.setCell ⟨p2, 0, none⟩ (.int .u8 2)).setCell ⟨p2, 1, none⟩ (.int .i64 y)).setCell ⟨p2, 2, none⟩ (.int .i64 0)) o6 30 22 1 (.slice (some ⟨b4, f4, none⟩) m c4) s.length (ints s) := ((hS6.setOther hB6 (by decide) 0 _).setOther (hB6.set 0 _) (by decide) 1 _).setOther ((hB6.set 0 _).set 1 _) (by decide) 2 _
        have hT8 : Row (((w6.setCell ⟨p2, 0, none⟩ (.int .u8 2)).setCell ⟨p2, 1, none⟩ (.int .i64 y)).setCell ⟨p2, 2, none⟩ (.int .i64 0)) o6 31 42 5 (.slice a5 T c5) T (tcells t) := ((hT6.setOther hB6 (by decide) 0 _).setOther (hB6.set 0 _) (by decide) 1 _).setOther ((hB6.set 0 _).set 1 _) (by decide) 2 _
        have hTA := hT8.frame ((Step.refl [] (((w6.setCell ⟨p2, 0, none⟩ (.int .u8 2)).setCell ⟨p2, 1, none⟩ (.int .i64 y)).setCell ⟨p2, 2, none⟩ (.int .i64 0)) o6).alloc (.cells #[.int .i64 3, .int .i64 0, .int .u8 2, .int .i64 y, .int .i64 0] 42)) (by simp)
        have hRA := Rd.fresh (((w6.setCell ⟨p2, 0, none⟩ (.int .u8 2)).setCell ⟨p2, 1, none⟩ (.int .i64 y)).setCell ⟨p2, 2, none⟩ (.int .i64 0)) o6 5 42 #[.int .i64 3, .int .i64 0, .int .u8 2, .int .i64 y, .int .i64 0] 1 (by decide) rfl
        rw [show ((((w6.setCell ⟨p2, 0, none⟩ (.int .u8 2)).setCell ⟨p2, 1, none⟩ (.int .i64 y)).setCell ⟨p2, 2, none⟩ (.int .i64 0))).heap.size = w6.heap.size by simp] at hRA
        go_wp2_with (at_builtin; refine wpList_app rfl (.tmp 78) (.tmp 81) 26 rfl Tryd.underlying26 infoT rfl rfl hTA rfl hRA (by simp [Value.oneCell']) (by omega) (by omega) ?_)
        intro v7 w7 o7 hr7 s7
        have hS7 := (hS8.frame ((Step.refl [] (((w6.setCell ⟨p2, 0, none⟩ (.int .u8 2)).setCell ⟨p2, 1, none⟩ (.int .i64 y)).setCell ⟨p2, 2, none⟩ (.int .i64 0)) o6).alloc _) (by simp)).frame s7 (by simp)
        have S7 := S8.trans ((((Step.refl [] (((w6.setCell ⟨p2, 0, none⟩ (.int .u8 2)).setCell ⟨p2, 1, none⟩ (.int .i64 y)).setCell ⟨p2, 2, none⟩ (.int .i64 0)) o6).alloc _).nil).trans (s7.weaken (by simp)))
        obtain ⟨a7, c7, rfl⟩ := hr7.slice'
        go_wp2_with fail
        go_roundg (n - (j + 1))
        case measure => rw [HG.out]; omega
        case rel =>
          refine ⟨j + 1, o7, s, t ++ [tCall y], rfl, by omega, by go_num, by rw [← HML.out] at hS7 ⊢; exact hS7, ?_, S7, by have := HML.out; have := HNM.out; omega, by simp [HTL.out]; omega, by rw [HD.out]; exact HR4.out⟩
          rw [List.length_append, HTL.out, tcells_app]
          exact hr7
      | exec A h1 h2 _ _ _ hR4 =>
        obtain ⟨b, off, rfl, hb, y0, y1, y2, y3, y4⟩ := hx
        simp only [tCall] at y0 y1 y2 y3 y4
        have HR4 := Lib.hid hR4
        obtain ⟨L, hL⟩ : ∃ L, xtLit = L := ⟨_, rfl⟩
        obtain ⟨C, hC⟩ : ∃ C, xtComp = C := ⟨_, rfl⟩
        rw [hL] at h1 hxl
        rw [hC] at h2 hxc
        have e1 : (A == L) = false := by rw [beq_eq_false_iff_ne]; exact h1
        have e2 : (A == C) = false := by rw [beq_eq_false_iff_ne]; exact h2
        have HXL := Lib.hid hxl
        have HXC := Lib.hid hxc
        obtain ⟨w1, o1, hw1, s1, hX⟩ := boxed (w := wr) o3 40 42 (.int .i64 3) (.int .i64 0) (.int .u8 2) (.int .i64 A) (.int .i64 0)
        obtain ⟨p, hp⟩ : ∃ p, wr.heap.size = p := ⟨_, rfl⟩
        rw [hp] at hX
        have HW1 := Lib.hid hw1
        have HP := Lib.hid hp
        obtain ⟨T, hTl⟩ : ∃ T, t.length = T := ⟨_, rfl⟩
        rw [hTl] at hT ht ⊢
        have HTL := Lib.hid hTl
        have hm1 := hm3.frame s1 (by simp)
        clear hL hC h1 h2 hxl hxc hw1 hp hTl hR4 hap hm hm3
        go_wp2_with fail
        rw [← HW1.out, HP.out]
        refine q_start (fun W => ∃ o', Step [] w1 o1 W o') (by kernel_rfl) ⟨_, (Step.refl _ _ _).drew⟩ ?_
        repeat (first
          | (refine q_off (by rfl) ?_; simp only [Act.put, List.setIfInBounds_toArray, List.set_cons_zero, List.set_cons_succ])
          | (refine q_on (by rfl) ?_; apply Exists.intro; refine ⟨fun W hW => ?_, ?_⟩; (obtain ⟨oW, sW⟩ := hW; obtain ⟨⟨x0, x1, x2, x3, x4⟩, _⟩ := cells5 (hX.frame sW (by simp)); go_simp; first | done | with_reducible rfl | (go_at_call_of 13 (#[Value.string ⟨#[108, 105, 116, 101, 114, 97, 108]⟩]); exact (xt_ok _ (by decide) (hm1.frame sW (by simp))).mono fun e w' k => ⟨k.1.trans (by rw [HXL.out]), k.2.elim fun o2 st => ⟨o2, sW.trans st⟩⟩) | (go_at_call 13; exact (xt_ok _ (by decide) (hm1.frame sW (by simp))).mono fun e w' k => ⟨k.1.trans (by rw [HXC.out]), k.2.elim fun o2 st => ⟨o2, sW.trans st⟩⟩)); simp only [Act.put, List.setIfInBounds_toArray, List.set_cons_zero, List.set_cons_succ])
          | fail)
        refine q_end ?_
        rintro w4 ⟨o4, s4⟩
        obtain ⟨⟨x0, x1, x2, x3, x4⟩, _⟩ := cells5 (hX.frame s4 (by simp))
        have s14 := s1.trans s4
        have hS4 := hS.frame s14 (by simp)
        have hT4 := hT.frame (s14.trans ((Step.refl [] w4 o4).alloc (.cells #[.int .i64 2, .int .i64 A, .int .u8 0, .int .i64 0, .int .i64 0] 42))) (by simp)
        go_wp2_with (at_builtin; refine wpList_app rfl (.tmp 19) (.tmp 24) 26 rfl Tryd.underlying26 infoT rfl rfl hT4 rfl (Rd.fresh w4 o4 5 42 #[.int .i64 2, .int .i64 A, .int .u8 0, .int .i64 0, .int .i64 0] 1 (by decide) rfl) (by simp [Value.oneCell']) (by omega) (by omega) ?_)
        intro v5 w5 o5 hr5 s5
        have hS5 := (hS4.frame ((Step.refl [] w4 o4).alloc _) (by simp)).frame s5 (by simp)
        have S5 := st.trans ((s14.nil).trans ((((Step.refl [] w4 o4).alloc _).nil).trans (s5.weaken (by simp))))
        obtain ⟨a6, c6, rfl⟩ := hr5.slice'
        go_wp2_with fail
        go_roundg (n - (j + 1))
        case measure => rw [HG.out]; omega
        case rel =>
          refine ⟨j + 1, o5, s, t ++ [tExec A], rfl, by omega, by go_num, hS5, ?_, S5, by omega, by simp [HTL.out]; omega, by rw [HD.out]; exact HR4.out⟩
          rw [List.length_append, HTL.out, tcells_app]
          exact hr5
    · obtain rfl : j = n := by omega
      have hji : ¬ (j : Int) < j := by omega
      rw [List.drop_of_length_le (by rw [HLEN.out]; exact Nat.le_refl _)] at hR3
      cases hR3
      go_wp2_with fail
      refine bodyPost_ret (results_tmp2 rfl _ _ _) rfl ?_
      exact ⟨_, rfl, o3, hT, st⟩
end Go.Proofs.YtnfbldkejbgbiaaDoor
