/- TransPostpones: the walk. -/
import Derived.Test.YtnfbldkejbgbiaaDoorDone17
namespace Go.Proofs.YtnfbldkejbgbiaaDoor
open Go Go.RowKit Go.Shelf
set_option linter.unusedSimpArgs false
set_option linter.unusedVariables false

theorem postF (k xt : Int) (now : Bool) (a b : Int) (hk : k = 1 ∨ k = 2 ∨ k = 3) (h : k = 1 → xt ≠ xtLit ∧ xt ≠ xtComp) :
    ∃ l out, planF k xt now a b 3 = (l, 0) ∧ planF k xt now a b 2 = (out, 0) ∧ RunD out l [] [] ∧ 0 < out.length ∧ l.length ≤ 4 := by
  rcases hk with rfl | rfl | rfl
  · obtain ⟨h1, h2⟩ := h rfl
    cases now
    · exact ⟨[tLit xt, tCall xtComp], [tCall xt], rfl, rfl, .lit _ _ _ _ (.comp xt _ [] [] .fin), by simp, by simp⟩
    · exact ⟨[tCall xt], [tExec xt], rfl, rfl, .exec _ h1 h2 _ _ _ .fin, by simp, by simp⟩
  · exact ⟨[tLit a, tCall xtLit], [tLit a], rfl, rfl, .lit _ _ _ _ (.lays a _ [] [] .fin), by simp, by simp⟩
  · exact ⟨[tLit a, tCall xtLit, tLit b, tCall xtLit], [tLit a, tLit b], rfl, rfl, .lit _ _ _ _ (.lays a _ [] [] (.lit _ _ _ _ (.lays b _ [] [_] .fin))), by simp, by simp⟩

set_option maxRecDepth 100000 in
set_option maxHeartbeats 16000000 in
theorem postp17_walk (a0 xt : Int) (now : Bool) (a b : Int) (h0 : 0 ≤ a0 ∧ a0 ≤ 255) (h1 : 0 ≤ xt ∧ xt ≤ 65535) {w : World} (hm0 : ∃ m, w.cell? ⟨0, 0, none⟩ = some (.int .i64 m)) :
    Calls Tryd.prog 4 #[.int .u8 a0, .int .u16 xt, .bool now, .int .i64 a, .int .i64 b] w fun e w' => e = .returned (.bool true) ∧ Below w.heap.size w w' := by
  have hm := (show ML w (fun _ => 0) from ⟨hm0, rfl⟩)
  have hsh := shown17_ok hm
  obtain ⟨M, hM⟩ : ∃ M : Int, a0 % 3 = M := ⟨_, rfl⟩
  have hrem : a0.tmod 3 = M := by rw [Int.tmod_eq_emod_of_nonneg h0.1]; exact hM
  have hxl : seekI (low ⟨#[108, 105, 116, 101, 114, 97, 108]⟩) + 1 = xtLit := rfl
  have hxc : seekI (low ⟨#[99, 111, 109, 112, 105, 108, 101, 44]⟩) + 1 = xtComp := rfl
  have hMr : 0 ≤ M ∧ M ≤ 2 := by omega
  obtain ⟨K, hK⟩ : ∃ K : Int, M + 1 = K := ⟨_, rfl⟩
  have hKr : K = 1 ∨ K = 2 ∨ K = 3 := by omega
  have hap := xt_apart
  have hpf := postF K xt now a b hKr
  obtain ⟨L, hL⟩ : ∃ L, xtLit = L := ⟨_, rfl⟩
  obtain ⟨C, hC⟩ : ∃ C, xtComp = C := ⟨_, rfl⟩
  rw [hL] at hap hxl hpf
  rw [hC] at hap hxc hpf
  have hap2 : (L == C) = false := by rw [beq_eq_false_iff_ne] at hap ⊢; exact fun e => hap e.symm
  have HXL := Lib.hid hxl
  have HXC := Lib.hid hxc
  have HK := Lib.hid hK
  have HPF0 := Lib.hid hpf
  have HKR := Lib.hid hKr
  clear hL hC hxl hxc hM hK hpf hKr
  go_enter Tryd.func4, Tryd.ntmps4
  go_wp2_with fail
  refine hsh.mono ?_
  clear hsh
  rintro e w2 ⟨rfl, o2, s2⟩
  replace hm := hm.frame s2 (by simp)
  obtain ⟨w3, o3, hw3, s3, hX⟩ := boxed (w := w2) o2 40 24 (.int .i64 K) (.int .i64 xt) (.bool now) (.int .i64 a) (.int .i64 b)
  replace hm := hm.frame s3 (by simp)
  have S := s2.trans s3
  obtain ⟨p, hp⟩ : ∃ p, w2.heap.size = p := ⟨_, rfl⟩
  rw [hp] at hX
  have HW3 := Lib.hid hw3
  have HP := Lib.hid hp
  clear hw3 hp s2 s3 hm0
  go_wp2_with fail
  rw [HK.out, ← HW3.out, HP.out]
  clear hrem
  by_cases k1 : K = 1
  · subst k1
    by_cases x1 : xt = L
    · subst x1
      refine q_start (fun W => ∃ o', Step [] w3 o3 W o') (by kernel_rfl) ⟨_, (Step.refl _ _ _).drew⟩ ?_
      repeat (first
        | (refine q_off (by rfl) ?_; simp only [Act.put, List.setIfInBounds_toArray, List.set_cons_zero, List.set_cons_succ])
        | (refine q_on (by rfl) ?_; apply Exists.intro; refine ⟨fun W hW => ?_, ?_⟩; (obtain ⟨oW, sW⟩ := hW; obtain ⟨⟨x0, x1, x2, x3, x4⟩, _⟩ := cells5 (hX.frame sW (by simp)); go_simp; first | done | with_reducible rfl | (go_at_call_of 13 (#[Value.string ⟨#[108, 105, 116, 101, 114, 97, 108]⟩]); exact (xt_ok _ (by decide) (hm.frame sW (by simp))).mono fun e w' k => ⟨k.1.trans (by rw [HXL.out]), k.2.elim fun o2 st => ⟨o2, sW.trans st⟩⟩) | (go_at_call 13; exact (xt_ok _ (by decide) (hm.frame sW (by simp))).mono fun e w' k => ⟨k.1.trans (by rw [HXC.out]), k.2.elim fun o2 st => ⟨o2, sW.trans st⟩⟩)); simp only [Act.put, List.setIfInBounds_toArray, List.set_cons_zero, List.set_cons_succ])
        | fail)
      refine q_end ?_
      rintro w4 ⟨o4, s4⟩
      replace S := S.trans s4
      replace hm := hm.frame s4 (by simp)
      replace hX := hX.frame s4 (by simp)
      obtain ⟨⟨x0, x1, x2, x3, x4⟩, _⟩ := cells5 hX
      clear s4
      go_wp2_with fail
      go_ret
      exact ⟨rfl, ((Base.start w).step S (by decide)).below⟩
    by_cases x2 : xt = C
    · subst x2
      refine q_start (fun W => ∃ o', Step [] w3 o3 W o') (by kernel_rfl) ⟨_, (Step.refl _ _ _).drew⟩ ?_
      repeat (first
        | (refine q_off (by rfl) ?_; simp only [Act.put, List.setIfInBounds_toArray, List.set_cons_zero, List.set_cons_succ])
        | (refine q_on (by rfl) ?_; apply Exists.intro; refine ⟨fun W hW => ?_, ?_⟩; (obtain ⟨oW, sW⟩ := hW; obtain ⟨⟨x0, x1, x2, x3, x4⟩, _⟩ := cells5 (hX.frame sW (by simp)); go_simp; first | done | with_reducible rfl | (go_at_call_of 13 (#[Value.string ⟨#[108, 105, 116, 101, 114, 97, 108]⟩]); exact (xt_ok _ (by decide) (hm.frame sW (by simp))).mono fun e w' k => ⟨k.1.trans (by rw [HXL.out]), k.2.elim fun o2 st => ⟨o2, sW.trans st⟩⟩) | (go_at_call 13; exact (xt_ok _ (by decide) (hm.frame sW (by simp))).mono fun e w' k => ⟨k.1.trans (by rw [HXC.out]), k.2.elim fun o2 st => ⟨o2, sW.trans st⟩⟩)); simp only [Act.put, List.setIfInBounds_toArray, List.set_cons_zero, List.set_cons_succ])
        | fail)
      refine q_end ?_
      rintro w4 ⟨o4, s4⟩
      replace S := S.trans s4
      replace hm := hm.frame s4 (by simp)
      replace hX := hX.frame s4 (by simp)
      obtain ⟨⟨x0, x1, x2, x3, x4⟩, _⟩ := cells5 hX
      clear s4
      go_wp2_with fail
      go_ret
      exact ⟨rfl, ((Base.start w).step S (by decide)).below⟩
    have HPF := Lib.hid (HPF0.out (fun _ => ⟨x1, x2⟩))
    have e1 : (xt == L) = false := by rw [beq_eq_false_iff_ne]; exact x1
    have e2 : (xt == C) = false := by rw [beq_eq_false_iff_ne]; exact x2
    clear x1 x2
    refine q_start (fun W => ∃ o', Step [] w3 o3 W o') (by kernel_rfl) ⟨_, (Step.refl _ _ _).drew⟩ ?_
    repeat (first
      | (refine q_off (by rfl) ?_; simp only [Act.put, List.setIfInBounds_toArray, List.set_cons_zero, List.set_cons_succ])
      | (refine q_on (by rfl) ?_; apply Exists.intro; refine ⟨fun W hW => ?_, ?_⟩; (obtain ⟨oW, sW⟩ := hW; obtain ⟨⟨x0, x1, x2, x3, x4⟩, _⟩ := cells5 (hX.frame sW (by simp)); go_simp; first | done | with_reducible rfl | (go_at_call_of 13 (#[Value.string ⟨#[108, 105, 116, 101, 114, 97, 108]⟩]); exact (xt_ok _ (by decide) (hm.frame sW (by simp))).mono fun e w' k => ⟨k.1.trans (by rw [HXL.out]), k.2.elim fun o2 st => ⟨o2, sW.trans st⟩⟩) | (go_at_call 13; exact (xt_ok _ (by decide) (hm.frame sW (by simp))).mono fun e w' k => ⟨k.1.trans (by rw [HXC.out]), k.2.elim fun o2 st => ⟨o2, sW.trans st⟩⟩)); simp only [Act.put, List.setIfInBounds_toArray, List.set_cons_zero, List.set_cons_succ])
      | fail)
    refine q_end ?_
    rintro w4 ⟨o4, s4⟩
    replace S := S.trans s4
    replace hm := hm.frame s4 (by simp)
    replace hX := hX.frame s4 (by simp)
    obtain ⟨⟨x0, x1, x2, x3, x4⟩, _⟩ := cells5 hX
    clear s4
    have hc := plan_ok hm 20 1 xt now a b 3
    have hc2 := fun (W : World) (O : Owner) (h : ML W O) => plan_ok h 21 1 xt now a b 2
    obtain ⟨l, out, f1, f2, hR, hpos, hlen⟩ := HPF.out
    rw [f1] at hc
    simp only [f2] at hc2
    dsimp only at hc hc2
    obtain ⟨N, hN⟩ : ∃ N, out.length = N := ⟨_, rfl⟩
    obtain ⟨R, hRl⟩ : ∃ R, l.length = R := ⟨_, rfl⟩
    rw [hN] at hpos
    rw [hRl] at hlen hc
    simp only [hN] at hc2
    have HN := Lib.hid hN
    have HRL := Lib.hid hRl
    have HR := Lib.hid hR
    have hpi : (0 : Int) < N := by omega
    clear f1 f2 hN hRl hR
    go_wp2_with fail
    refine hc.mono ?_
    clear hc x0 x1 x2 x3 x4
    rintro e w5 ⟨v5, o5, rfl, r5, s5⟩
    obtain ⟨a5, c5, rfl⟩ := r5.slice'
    replace hm := hm.frame s5 (by simp)
    replace hX := hX.frame s5 (by simp)
    replace S := S.trans s5
    clear s5
    obtain ⟨⟨x0, x1, x2, x3, x4⟩, _⟩ := cells5 hX
    go_wp2_with fail
    refine (hc2 w5 o5 hm).mono ?_
    clear hc2 x0 x1 x2 x3 x4
    rintro e w6 ⟨v6, o6, rfl, r6, s6⟩
    obtain ⟨a6, c6, rfl⟩ := r6.slice'
    replace hm := hm.frame s6 (by simp)
    replace r5 := r5.frame s6 (by simp)
    replace S := S.trans s6
    clear s6 hX
    have hd := done_ok hm (q := 20) (by decide) (by decide) r5.rd (by omega) HR.out
    rw [HN.out] at hd
    go_wp2_with fail
    refine hd.mono ?_
    clear hd r5 hm
    rintro e w7 ⟨v7, o7, rfl, r7, s7⟩
    obtain ⟨a7, c7, rfl⟩ := r7.slice'
    replace r6 := r6.frame s7 (by simp)
    have S7 := (S.nil (S := [30, 31])).trans s7
    have hsm := same_ok r7.rd r6.rd
    clear S s7 r6 r7
    go_wp2_with fail
    refine hsm.mono ?_
    clear hsm
    rintro e w8 ⟨rfl, s8⟩
    have S8 := S7.trans s8.nil
    go_wp2_with fail
    go_ret
    exact ⟨rfl, ((Base.start w).step S8 (by decide)).below⟩
  · have HPF := Lib.hid (HPF0.out (fun h => absurd h k1))
    have e0 : (K == 1) = false := by rw [beq_eq_false_iff_ne]; exact k1
    clear k1
    refine q_start (fun W => ∃ o', Step [] w3 o3 W o') (by kernel_rfl) ⟨_, (Step.refl _ _ _).drew⟩ ?_
    repeat (first
      | (refine q_off (by rfl) ?_; simp only [Act.put, List.setIfInBounds_toArray, List.set_cons_zero, List.set_cons_succ])
      | (refine q_on (by rfl) ?_; apply Exists.intro; refine ⟨fun W hW => ?_, ?_⟩; (obtain ⟨oW, sW⟩ := hW; obtain ⟨⟨x0, x1, x2, x3, x4⟩, _⟩ := cells5 (hX.frame sW (by simp)); go_simp; first | done | with_reducible rfl | (go_at_call_of 13 (#[Value.string ⟨#[108, 105, 116, 101, 114, 97, 108]⟩]); exact (xt_ok _ (by decide) (hm.frame sW (by simp))).mono fun e w' k => ⟨k.1.trans (by rw [HXL.out]), k.2.elim fun o2 st => ⟨o2, sW.trans st⟩⟩) | (go_at_call 13; exact (xt_ok _ (by decide) (hm.frame sW (by simp))).mono fun e w' k => ⟨k.1.trans (by rw [HXC.out]), k.2.elim fun o2 st => ⟨o2, sW.trans st⟩⟩)); simp only [Act.put, List.setIfInBounds_toArray, List.set_cons_zero, List.set_cons_succ])
      | fail)
    refine q_end ?_
    rintro w4 ⟨o4, s4⟩
    replace S := S.trans s4
    replace hm := hm.frame s4 (by simp)
    replace hX := hX.frame s4 (by simp)
    obtain ⟨⟨x0, x1, x2, x3, x4⟩, _⟩ := cells5 hX
    clear s4
    have hc := plan_ok hm 20 K xt now a b 3
    have hc2 := fun (W : World) (O : Owner) (h : ML W O) => plan_ok h 21 K xt now a b 2
    obtain ⟨l, out, f1, f2, hR, hpos, hlen⟩ := HPF.out
    rw [f1] at hc
    simp only [f2] at hc2
    dsimp only at hc hc2
    obtain ⟨N, hN⟩ : ∃ N, out.length = N := ⟨_, rfl⟩
    obtain ⟨R, hRl⟩ : ∃ R, l.length = R := ⟨_, rfl⟩
    rw [hN] at hpos
    rw [hRl] at hlen hc
    simp only [hN] at hc2
    have HN := Lib.hid hN
    have HRL := Lib.hid hRl
    have HR := Lib.hid hR
    have hpi : (0 : Int) < N := by omega
    clear f1 f2 hN hRl hR
    go_wp2_with fail
    refine hc.mono ?_
    clear hc x0 x1 x2 x3 x4
    rintro e w5 ⟨v5, o5, rfl, r5, s5⟩
    obtain ⟨a5, c5, rfl⟩ := r5.slice'
    replace hm := hm.frame s5 (by simp)
    replace hX := hX.frame s5 (by simp)
    replace S := S.trans s5
    clear s5
    obtain ⟨⟨x0, x1, x2, x3, x4⟩, _⟩ := cells5 hX
    go_wp2_with fail
    refine (hc2 w5 o5 hm).mono ?_
    clear hc2 x0 x1 x2 x3 x4
    rintro e w6 ⟨v6, o6, rfl, r6, s6⟩
    obtain ⟨a6, c6, rfl⟩ := r6.slice'
    replace hm := hm.frame s6 (by simp)
    replace r5 := r5.frame s6 (by simp)
    replace S := S.trans s6
    clear s6 hX
    have hd := done_ok hm (q := 20) (by decide) (by decide) r5.rd (by omega) HR.out
    rw [HN.out] at hd
    go_wp2_with fail
    refine hd.mono ?_
    clear hd r5 hm
    rintro e w7 ⟨v7, o7, rfl, r7, s7⟩
    obtain ⟨a7, c7, rfl⟩ := r7.slice'
    replace r6 := r6.frame s7 (by simp)
    have S7 := (S.nil (S := [30, 31])).trans s7
    have hsm := same_ok r7.rd r6.rd
    clear S s7 r6 r7
    go_wp2_with fail
    refine hsm.mono ?_
    clear hsm
    rintro e w8 ⟨rfl, s8⟩
    have S8 := S7.trans s8.nil
    go_wp2_with fail
    go_ret
    exact ⟨rfl, ((Base.start w).step S8 (by decide)).below⟩
end Go.Proofs.YtnfbldkejbgbiaaDoor
