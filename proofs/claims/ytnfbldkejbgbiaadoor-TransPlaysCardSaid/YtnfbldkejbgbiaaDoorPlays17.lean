/- TransPlays: the walk. -/
import Derived.Test.YtnfbldkejbgbiaaDoorRPlanB
namespace Go.Proofs.YtnfbldkejbgbiaaDoor
open Go Go.RowKit Go.Shelf
set_option linter.unusedSimpArgs false
set_option linter.unusedVariables false

set_option maxRecDepth 100000 in
set_option maxHeartbeats 16000000 in
theorem plays17_walk (k xt : Int) (now : Bool) (a b a1 : Int) (a2 : ByteArray) (h0 : 0 ≤ a1 ∧ a1 ≤ 255) {w : World} (hm0 : ∃ m, w.cell? ⟨0, 0, none⟩ = some (.int .i64 m)) :
    Calls Tryd.prog 3 #[.agg #[.int .i64 k, .int .i64 xt, .bool now, .int .i64 a, .int .i64 b], .int .u8 a1, .string a2] w fun e w' => e = .returned (.bool true) ∧ Below w.heap.size w w' := by
  obtain ⟨w1, o1, hw1, S, hX⟩ := boxed (w := w) (fun _ => 0) 40 24 (.int .i64 k) (.int .i64 xt) (.bool now) (.int .i64 a) (.int .i64 b)
  have hm := (show ML w (fun _ => 0) from ⟨hm0, rfl⟩).frame S (by simp)
  have hsh := shown17_ok hm
  obtain ⟨M, hM⟩ : ∃ M : Int, a1 % 8 = M := ⟨_, rfl⟩
  have hrem : a1.tmod 8 = M := by rw [Int.tmod_eq_emod_of_nonneg h0.1]; exact hM
  obtain ⟨p, hp⟩ : ∃ p, w.heap.size = p := ⟨_, rfl⟩
  have hpw : w.heap.size ≤ p := by omega
  rw [hp] at hX
  rw [hw1] at hsh
  have HW1 := Lib.hid hw1
  have HP := Lib.hid hp
  clear hm0 hw1 hp
  go_enter Tryd.func3, Tryd.ntmps3
  go_wp2_with fail
  rw [HP.out]
  refine hsh.mono ?_
  clear hsh
  rintro e w2 ⟨rfl, o2, s2⟩
  rw [← HW1.out] at s2
  replace hm := hm.frame s2 (by simp)
  replace hX := hX.frame s2 (by simp)
  replace S := S.trans s2
  clear s2
  obtain ⟨⟨x0, x1, x2, x3, x4⟩, _⟩ := cells5 hX
  have hc := plan_ok hm 20 k xt now a b M
  have hc2 := fun (W : World) (O : Owner) => rplan_ok W O 21 k xt now a b M
  obtain ⟨F, hF⟩ : ∃ F, planF k xt now a b M = F := ⟨_, rfl⟩
  rw [hF] at hc
  simp only [hF] at hc2
  obtain ⟨l, e0⟩ := F
  dsimp only at hc hc2
  obtain ⟨N, hN⟩ : ∃ N, l.length = N := ⟨_, rfl⟩
  rw [hN] at hc
  simp only [hN] at hc2
  clear hF
  go_wp2_with fail
  refine hc.mono ?_
  clear hc x0 x1 x2 x3 x4
  rintro e w3 ⟨v3, o3, rfl, r3, s3⟩
  obtain ⟨a3, c3, rfl⟩ := r3.slice'
  replace hm := hm.frame s3 (by simp)
  replace hX := hX.frame s3 (by simp)
  replace S := S.trans s3
  clear s3
  obtain ⟨⟨x0, x1, x2, x3, x4⟩, _⟩ := cells5 hX
  go_wp2_with fail
  refine (hc2 w3 o3).mono ?_
  clear hc2 x0 x1 x2 x3 x4
  rintro e w4 ⟨v4, o4, rfl, r4, s4⟩
  obtain ⟨a4, c4, rfl⟩ := r4.slice'
  replace hm := hm.frame s4 (by simp)
  replace hX := hX.frame s4 (by simp)
  replace r3 := r3.frame s4 (by simp)
  replace S := S.trans s4
  clear s4
  have h3 := r3.rd
  have h4 := r4.rd
  clear r3 r4
  obtain ⟨t, ht⟩ : ∃ t, a2.extract 0 (min (a2.size : Int) 40).toNat = t := ⟨_, rfl⟩
  have hts : t.size ≤ 1000000 := by rw [← ht, ByteArray.size_extract]; omega
  obtain ⟨X, hX2⟩ : ∃ X, seekI (low t) + 1 = X := ⟨_, rfl⟩
  obtain ⟨q, hq⟩ : ∃ q, onlyAt xt = q := ⟨_, rfl⟩
  have HT := Lib.hid hts
  have E1 := Lib.hid hX2
  have E2 := Lib.hid hq
  clear hts hX2 hq
  go_wp2_with fail
  refine q_start (fun W => ∃ o', Step [] w4 o4 W o') (by kernel_rfl) ⟨_, (Step.refl _ _ _).drew⟩ ?_
  repeat (first
    | (refine q_off (by rfl) ?_; simp only [Act.put, List.setIfInBounds_toArray, List.set_cons_zero, List.set_cons_succ])
    | (refine q_on (by rfl) ?_; apply Exists.intro; refine ⟨fun W hW => ?_, ?_⟩; (obtain ⟨oW, sW⟩ := hW; obtain ⟨⟨x0, x1, x2, x3, x4⟩, _⟩ := cells5 (hX.frame sW (by simp)); go_simp; first | done | with_reducible rfl | (go_at_call 12; exact (same_ok (h3.frame sW (by simp)) (h4.frame sW (by simp))).mono fun e w' k => ⟨k.1, _, sW.trans k.2⟩) | (go_at_call 13; exact (xt_ok _ HT.out (hm.frame sW (by simp))).mono fun e w' k => ⟨k.1.trans (by rw [E1.out]), k.2.elim fun o2 st => ⟨o2, sW.trans st⟩⟩) | (go_at_call 14; exact (rxt_ok _ HT.out W oW).mono fun e w' k => ⟨k.1.trans (by rw [E1.out]), k.2.elim fun o2 st => ⟨o2, sW.trans st⟩⟩) | (go_at_call 15; exact (only_ok _ (hm.frame sW (by simp))).mono fun e w' k => ⟨k.1.trans (by rw [E2.out]), k.2.elim fun o2 st => ⟨o2, sW.trans st⟩⟩) | (go_at_call 16; exact (ronlyx_ok _ W oW).mono fun e w' k => ⟨k.1.trans (by rw [E2.out]), k.2.elim fun o2 st => ⟨o2, sW.trans st⟩⟩)); simp only [Act.put, List.setIfInBounds_toArray, List.set_cons_zero, List.set_cons_succ])
    | fail)
  refine q_end ?_
  rintro w9 ⟨o9, s9⟩
  go_wp2_with fail
  go_ret
  exact ⟨rfl, ((Base.start w).step (S.trans s9) (by decide)).below⟩
end Go.Proofs.YtnfbldkejbgbiaaDoor
