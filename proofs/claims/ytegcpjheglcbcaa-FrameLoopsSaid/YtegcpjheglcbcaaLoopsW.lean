/- FrameLoops: the walk. -/
import Derived.Test.YtegcpjheglcbcaaLoops
namespace Go.Proofs.Ytegcpjheglcbcaa
open Go Go.RowKit Go.Shelf
set_option linter.unusedSimpArgs false
set_option linter.unusedVariables false

theorem endL_iff (l b : Int) : endL l b = true ↔ ((l < 0 ↔ 0 ≤ b) ∧ ¬ (l < 0 ↔ l + b < 0)) := by
  unfold endL
  by_cases h1 : l < 0 <;> by_cases h2 : 0 ≤ b <;> by_cases h3 : l + b < 0 <;> simp [h1, h2, h3]
theorem endL_no {l b : Int} (h : ¬ ((l < 0 ↔ 0 ≤ b) ∧ ¬ (l < 0 ↔ l + b < 0))) : endL l b = false := by
  rw [← Bool.not_eq_true, endL_iff]; exact h

theorem c64w (x : Int) : -9223372036854775808 ≤ wrap64 x ∧ wrap64 x ≤ 9223372036854775807 := by unfold wrap64; omega

section
variable (a n : Int) (ha : -9223372036854775808 ≤ a ∧ a ≤ 9223372036854775807) (hn : 1 ≤ n ∧ n ≤ 200) (w : World)
include ha hn
theorem lp1 : Calls Try.prog 11 #[.int .i64 a, .int .i64 (wrap64 (a + n)), .int .i64 1] w fun e w' => e = .returned (.int .i64 n) ∧ Calm w w' := by
  refine loops_ok a (wrap64 (a + n)) 1 (-n) ha (fun i hi => ⟨by unfold wrap64; omega, by omega, by omega⟩) (by omega) (n.toNat - 1) (by omega) (fun j hj => endL_no (by omega)) (fun _ => (endL_iff _ _).2 (by omega)) ?_ w
  rw [if_pos (by omega)]; omega
omit ha in
theorem lp2 : Calls Try.prog 11 #[.int .i64 (wrap64 (a + n)), .int .i64 a, .int .i64 (-1)] w fun e w' => e = .returned (.int .i64 (n + 1)) ∧ Calm w w' := by
  refine loops_ok (wrap64 (a + n)) a (-1) n (c64w _) (fun i hi => ⟨by unfold wrap64; omega, by omega, by omega⟩) (by omega) n.toNat (by omega) (fun j hj => endL_no (by omega)) (fun _ => (endL_iff _ _).2 (by omega)) ?_ w
  rw [if_pos (by omega)]; omega
theorem lp5 : Calls Try.prog 11 #[.int .i64 a, .int .i64 (wrap64 (a + n)), .int .i64 0] w fun e w' => e = .returned (.int .i64 0) ∧ Calm w w' := by
  refine loops_ok a (wrap64 (a + n)) 0 (-n) ha (fun i hi => ⟨by unfold wrap64; omega, by omega, by omega⟩) (by omega) 300 (by omega) (fun j hj => endL_no (by omega)) (fun h => by omega) ?_ w
  rw [if_neg (by omega)]
theorem lp3 (k : Int) (hk : 1 ≤ k ∧ k ≤ 9) : Calls Try.prog 11 #[.int .i64 a, .int .i64 (wrap64 (a + n)), .int .i64 k] w fun e w' => e = .returned (.int .i64 ((n + k - 1) / k)) ∧ Calm w w' := by
  have hk9 : k = 1 ∨ k = 2 ∨ k = 3 ∨ k = 4 ∨ k = 5 ∨ k = 6 ∨ k = 7 ∨ k = 8 ∨ k = 9 := by omega
  refine loops_ok a (wrap64 (a + n)) k (-n) ha (fun i hi => ?_) (by omega) (((n + k - 1) / k).toNat - 1) ?_ (fun j hj => endL_no ?_) (fun _ => (endL_iff _ _).2 ?_) ?_ w
  · unfold wrap64
    rcases hk9 with rfl | rfl | rfl | rfl | rfl | rfl | rfl | rfl | rfl <;> omega
  · rcases hk9 with rfl | rfl | rfl | rfl | rfl | rfl | rfl | rfl | rfl <;> omega
  · rcases hk9 with rfl | rfl | rfl | rfl | rfl | rfl | rfl | rfl | rfl <;> omega
  · rcases hk9 with rfl | rfl | rfl | rfl | rfl | rfl | rfl | rfl | rfl <;> omega
  · rcases hk9 with rfl | rfl | rfl | rfl | rfl | rfl | rfl | rfl | rfl <;> (rw [if_pos (by omega)]; omega)
omit ha in
theorem lp4 (k : Int) (hk : 1 ≤ k ∧ k ≤ 9) : Calls Try.prog 11 #[.int .i64 (wrap64 (a + n)), .int .i64 a, .int .i64 (-k)] w fun e w' => e = .returned (.int .i64 (n / k + 1)) ∧ Calm w w' := by
  have hk9 : k = 1 ∨ k = 2 ∨ k = 3 ∨ k = 4 ∨ k = 5 ∨ k = 6 ∨ k = 7 ∨ k = 8 ∨ k = 9 := by omega
  refine loops_ok (wrap64 (a + n)) a (-k) n (c64w _) (fun i hi => ?_) (by omega) (n / k).toNat ?_ (fun j hj => endL_no ?_) (fun _ => (endL_iff _ _).2 ?_) ?_ w
  · unfold wrap64
    rcases hk9 with rfl | rfl | rfl | rfl | rfl | rfl | rfl | rfl | rfl <;> omega
  · rcases hk9 with rfl | rfl | rfl | rfl | rfl | rfl | rfl | rfl | rfl <;> omega
  · rcases hk9 with rfl | rfl | rfl | rfl | rfl | rfl | rfl | rfl | rfl <;> omega
  · rcases hk9 with rfl | rfl | rfl | rfl | rfl | rfl | rfl | rfl | rfl <;> omega
  · rcases hk9 with rfl | rfl | rfl | rfl | rfl | rfl | rfl | rfl | rfl <;> (rw [if_pos (by omega)]; omega)
end

set_option maxRecDepth 100000 in
set_option maxHeartbeats 8000000 in
theorem loops_walk (a far by_ : Int) (ha : -9223372036854775808 ≤ a ∧ a ≤ 9223372036854775807) (hf : 0 ≤ far ∧ far ≤ 255) (hb : 0 ≤ by_ ∧ by_ ≤ 255) (w : World) :
    Calls Try.prog 3 #[.int .i64 a, .int .u8 far, .int .u8 by_] w fun e w' => e = .returned (.bool true) ∧ Calm w w' := by
  obtain ⟨n0, hn0⟩ : ∃ n0, far.tmod 200 = n0 := ⟨_, rfl⟩
  obtain ⟨k0, hk0⟩ : ∃ k0, by_.tmod 9 = k0 := ⟨_, rfl⟩
  have hn1 : 0 ≤ n0 ∧ n0 ≤ 199 := by rw [← hn0, Int.tmod_eq_emod_of_nonneg hf.1]; omega
  have hk1 : 0 ≤ k0 ∧ k0 ≤ 8 := by rw [← hk0, Int.tmod_eq_emod_of_nonneg hb.1]; omega
  obtain ⟨n1, n2⟩ := hn1
  obtain ⟨k1, k2⟩ := hk1
  obtain ⟨n, hn⟩ : ∃ n, n0 + 1 = n := ⟨_, rfl⟩
  obtain ⟨k, hk⟩ : ∃ k, k0 + 1 = k := ⟨_, rfl⟩
  have n3 : 1 ≤ n := by omega
  have n4 : n ≤ 200 := by omega
  have k3 : 1 ≤ k := by omega
  have k4 : k ≤ 9 := by omega
  have c1 := lp1 a n ha ⟨n3, n4⟩
  have c2 := lp2 a n ⟨n3, n4⟩
  have c3 := fun w => lp3 a n ha ⟨n3, n4⟩ w k ⟨k3, k4⟩
  have c4 := fun w => lp4 a n ⟨n3, n4⟩ w k ⟨k3, k4⟩
  have c5 := lp5 a n ha ⟨n3, n4⟩
  obtain ⟨f1, f2⟩ := hf
  obtain ⟨b1, b2⟩ := hb
  have HA := Lib.hid ha
  clear ha
  obtain ⟨Y, hY⟩ : ∃ Y, wrap64 (a + n) = Y := ⟨_, rfl⟩
  obtain ⟨K, hK⟩ : ∃ K, -k = K := ⟨_, rfl⟩
  obtain ⟨q3, hq3⟩ : ∃ q, (n + k - 1) / k = q := ⟨_, rfl⟩
  obtain ⟨q4, hq4⟩ : ∃ q, n / k = q := ⟨_, rfl⟩
  rw [hY] at c1 c2 c3 c4 c5
  rw [hK] at c4
  rw [hq3] at c3
  rw [hq4] at c4
  have q1 : 0 ≤ q3 ∧ q3 ≤ 300 := by
    have hk9 : k = 1 ∨ k = 2 ∨ k = 3 ∨ k = 4 ∨ k = 5 ∨ k = 6 ∨ k = 7 ∨ k = 8 ∨ k = 9 := by omega
    rw [← hq3]
    rcases hk9 with h | h | h | h | h | h | h | h | h <;> rw [h] <;> omega
  have q2 : 0 ≤ q4 ∧ q4 ≤ 300 := by
    have hk9 : k = 1 ∨ k = 2 ∨ k = 3 ∨ k = 4 ∨ k = 5 ∨ k = 6 ∨ k = 7 ∨ k = 8 ∨ k = 9 := by omega
    rw [← hq4]
    rcases hk9 with h | h | h | h | h | h | h | h | h <;> rw [h] <;> omega
  have w0 : IntKind.i64.wrap (a + n) = Y := by rw [IntKind.wrap_i64, ← hY]; unfold wrap64; omega
  have w1 : IntKind.i64.wrap (-k) = K := by rw [IntKind.wrap_i64, ← hK]; omega
  have w2 : IntKind.i64.wrap (n + 1) = n + 1 := by rw [IntKind.wrap_i64]; omega
  have w3 : IntKind.i64.wrap (n + k) = n + k := by rw [IntKind.wrap_i64]; omega
  have w4 : IntKind.i64.wrap (n + k - 1) = n + k - 1 := by rw [IntKind.wrap_i64]; omega
  have w5 : (n + k - 1).tdiv k = q3 := by rw [← hq3, Int.tdiv_eq_ediv_of_nonneg (by omega)]
  have w6 : n.tdiv k = q4 := by rw [← hq4, Int.tdiv_eq_ediv_of_nonneg (by omega)]
  have w7 : IntKind.i64.wrap q3 = q3 := by rw [IntKind.wrap_i64]; omega
  have w8 : IntKind.i64.wrap q4 = q4 := by rw [IntKind.wrap_i64]; omega
  have w9 : IntKind.i64.wrap (q4 + 1) = q4 + 1 := by rw [IntKind.wrap_i64]; omega
  have w10 : (k == 0) = false := by rw [beq_eq_false_iff_ne]; omega
  have w11 : ¬ k = 0 := by omega
  clear hY hK hq3 hq4 q1 q2
  go_enter Try.func3, Try.ntmps3
  go_wp2_with (go_at_call 10; refine (shown_ok _ (fun _ => 0)).mono ?_; rintro e w1 ⟨rfl, s1⟩)
  have sw : Calm w w1 := Calm.of s1 (by simp)
  refine q_start (fun W => Calm w1 W) (by kernel_rfl) (Calm.refl _).drew ?_
  repeat (first
    | (refine q_off (by rfl) ?_; simp only [Act.put, List.setIfInBounds_toArray, List.set_cons_zero, List.set_cons_succ])
    | (refine q_on (by rfl) ?_; apply Exists.intro; refine ⟨fun W hW => ?_, ?_⟩; (go_simp; first | done | with_reducible rfl | (go_at_call_of 11 (#[Value.int IntKind.i64 a, Value.int IntKind.i64 Y, Value.int IntKind.i64 1]); exact (c1 _).mono fun e w' k => ⟨k.1, hW.trans k.2⟩) | (go_at_call_of 11 (#[Value.int IntKind.i64 a, Value.int IntKind.i64 Y, Value.int IntKind.i64 k]); exact (c3 _).mono fun e w' k => ⟨k.1, hW.trans k.2⟩) | (go_at_call_of 11 (#[Value.int IntKind.i64 Y, Value.int IntKind.i64 a, Value.int IntKind.i64 K]); exact (c4 _).mono fun e w' k => ⟨k.1, hW.trans k.2⟩) | (go_at_call_of 11 (#[Value.int IntKind.i64 a, Value.int IntKind.i64 Y, Value.int IntKind.i64 0]); exact (c5 _).mono fun e w' k => ⟨k.1, hW.trans k.2⟩) | (go_at_call 11; exact (c2 _).mono fun e w' k => ⟨k.1, hW.trans k.2⟩)); simp only [Act.put, List.setIfInBounds_toArray, List.set_cons_zero, List.set_cons_succ])
    | fail)
  refine q_end ?_
  intro w2 s2
  go_wp2
  go_ret
  exact ⟨rfl, sw.trans s2⟩
end Go.Proofs.Ytegcpjheglcbcaa
