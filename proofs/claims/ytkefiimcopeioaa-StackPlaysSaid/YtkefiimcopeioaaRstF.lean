/- The document's stack: Do. -/
import Derived.Test.YtkefiimcopeioaaRstE
namespace Go.Proofs.Ytkefiimcopeioaa
open Go Go.RowKit
set_option linter.unusedSimpArgs false
set_option linter.unusedVariables false

theorem rfar_ok {w : World} {o : Owner} {i b : Nat} {l : List Int} (hs : Stk 46 w o i b l) (op : Int) (h : op = 40 ∨ op = 41) :
    Calls Try.prog 35 #[.pointer (some ⟨b, 0, none⟩), .int .i64 op] w fun e w' => ∃ o', e = .returned (.int .i64 (farS l op).1) ∧ Stk 46 w' o' i b (farS l op).2 ∧ Step [i, i + 1] w o w' o' := by
  rcases List.eq_nil_or_concat l with rfl | ⟨m, k, rfl⟩
  · refine (rfar_under hs (.inl rfl)).mono ?_
    rintro e w' ⟨rfl, rfl⟩
    exact ⟨o, rfl, hs, Step.refl _ _ _⟩
  · rw [List.concat_eq_append] at *
    have e1 : farS (m ++ [k]) op = farM m k op := by simp [farS, List.getLastD_eq_getLast?]
    rw [e1, farM]
    by_cases hc : k < 0 ∨ m.length ≤ k
    · rw [if_pos hc]
      refine (rfar_under hs (.inr ⟨m, k, rfl, hc⟩)).mono ?_
      rintro e w' ⟨rfl, rfl⟩
      exact ⟨o, rfl, hs, Step.refl _ _ _⟩
    · rw [if_neg hc]
      obtain ⟨n, rfl⟩ := Int.eq_ofNat_of_zero_le (show 0 ≤ k by omega)
      obtain ⟨a, x, r, rfl, hr, ha⟩ := split_at m n (by omega)
      have e2 : (a ++ x :: r).length - 1 - (n : Int).toNat = a.length := by simp; omega
      have e3 : (a ++ x :: r).getD a.length 0 = x := by simp [List.getD]
      rw [e2, e3]
      subst hr
      rw [List.append_assoc] at hs
      rcases h with rfl | rfl
      · rw [if_pos rfl]
        refine (rfar_pick hs).mono ?_
        rintro e w' ⟨o', rfl, h1, h2⟩
        exact ⟨o', rfl, by simpa using h1, h2⟩
      · rw [if_neg (by omega)]
        refine (rfar_roll hs).mono ?_
        rintro e w' ⟨o', rfl, h1, h2⟩
        exact ⟨o', rfl, by simpa [List.eraseIdx_append_of_length_le] using h1, h2⟩

theorem rdo_far {w : World} {o : Owner} {i b : Nat} {l : List Int} (hs : Stk 46 w o i b l) (op : Int) (h : op = 40 ∨ op = 41) :
    Calls Try.prog 33 #[.pointer (some ⟨b, 0, none⟩), .int .i64 op] w fun e w' => ∃ o', e = .returned (.int .i64 (farS l op).1) ∧ Stk 46 w' o' i b (farS l op).2 ∧ Step [i, i + 1] w o w' o' := by
  have hf := rfar_ok hs op h
  rcases h with rfl | rfl
  all_goals
    go_enter Try.func33, Try.ntmps33
    go_wp2_with (go_at_call 35; refine hf.mono ?_; rintro e w' ⟨o', rfl, h1, h2⟩)
    go_ret
    exact ⟨o', rfl, h1, h2⟩

theorem rdo_depth {w : World} {o : Owner} {i b : Nat} {l : List Int} (hs : Stk 46 w o i b l) :
    Calls Try.prog 33 #[.pointer (some ⟨b, 0, none⟩), .int .i64 42] w fun e w' => ∃ o', e = .returned (.int .i64 (putE l [(l.length : Int)])) ∧ Stk 46 w' o' i b (putL l [(l.length : Int)]) ∧ Step [i, i + 1] w o w' o' := by
  have hp := rpush_ok hs l.length
  obtain ⟨h0, v, hb, hr⟩ := id hs
  obtain ⟨ao, cap, rfl, _, _⟩ := hr.slice
  have hc := hb.cell0
  go_enter Try.func33, Try.ntmps33
  go_wp2_with (go_at_call 28; refine hp.mono ?_; rintro e w' ⟨o', rfl, h1, h2⟩)
  go_ret
  exact ⟨o', rfl, h1, h2⟩

theorem rsh_none {op : Int} (h : op < 28 ∨ 40 ≤ op) : rsh op = (-1, []) := by
  unfold rsh
  rw [if_neg (by omega), if_neg (by omega), if_neg (by omega), if_neg (by omega), if_neg (by omega), if_neg (by omega), if_neg (by omega), if_neg (by omega), if_neg (by omega), if_neg (by omega), if_neg (by omega)]

theorem rdo_none {w : World} {o : Owner} {i b : Nat} {l : List Int} (hs : Stk 46 w o i b l) (op : Int) (h : op < 28 ∨ 43 ≤ op) :
    Calls Try.prog 33 #[.pointer (some ⟨b, 0, none⟩), .int .i64 op] w fun e w' => ∃ o', e = .returned (.int .i64 1) ∧ Stk 46 w' o' i b l ∧ Step [i, i + 1] w o w' o' := by
  have hsh := rshape_ok w o (i + 5) op
  rw [rsh_none (by omega)] at hsh
  have q40 : (op == 40) = false := by rw [beq_eq_false_iff_ne]; omega
  have q41 : (op == 41) = false := by rw [beq_eq_false_iff_ne]; omega
  have q42 : (op == 42) = false := by rw [beq_eq_false_iff_ne]; omega
  have q35 : (op == 35) = false := by rw [beq_eq_false_iff_ne]; omega
  clear h
  go_enter Try.func33, Try.ntmps33
  go_wp2_with fail
  refine hsh.mono ?_
  rintro e w' ⟨v, o', rfl, hr, st⟩
  go_wp2_with fail
  go_ret
  exact ⟨o', rfl, hs.frame st (by simp) (by simp), st.nil⟩

theorem rdo_under {w : World} {o : Owner} {i b : Nat} {l : List Int} (hs : Stk 46 w o i b l) (op : Int) (h28 : 28 ≤ op ∧ op < 40) (h35 : op ≠ 35) (k : Nat) (ps : List Int) (hsh : rsh op = ((k : Int), ps)) (h : l.length < k) :
    Calls Try.prog 33 #[.pointer (some ⟨b, 0, none⟩), .int .i64 op] w fun e w' => ∃ o', e = .returned (.int .i64 (-4)) ∧ Stk 46 w' o' i b l ∧ Step [i, i + 1] w o w' o' := by
  have hs' := rshape_ok w o (i + 5) op
  rw [hsh] at hs'
  have q40 : (op == 40) = false := by rw [beq_eq_false_iff_ne]; omega
  have q41 : (op == 41) = false := by rw [beq_eq_false_iff_ne]; omega
  have q42 : (op == 42) = false := by rw [beq_eq_false_iff_ne]; omega
  have q35 : (op == 35) = false := by rw [beq_eq_false_iff_ne]; omega
  obtain ⟨h0, v0, hb, hr0⟩ := id hs
  obtain ⟨ao, cap, rfl, _, _⟩ := hr0.slice
  clear h28 h35 hsh
  have hki : (l.length : Int) < k := by omega
  have hk0 : ¬ (k : Int) < 0 := by omega
  go_enter Try.func33, Try.ntmps33
  go_wp2_with fail
  refine hs'.mono ?_
  rintro e w' ⟨v, o', rfl, hr, st⟩
  have hb' := hb.frame st (by simp)
  have hc := hb'.cell0
  go_wp2_with fail
  go_ret
  exact ⟨o', rfl, hs.frame st (by simp) (by simp), st.nil⟩

theorem rdo_over {w : World} {o : Owner} {i b : Nat} {l m : List Int} (hs : Stk 46 w o i b (l ++ m)) (op : Int) (h28 : 28 ≤ op ∧ op < 40) (h35 : op ≠ 35) (ps : List Int) (hsh : rsh op = ((m.length : Int), ps)) (hps : ps.length ≤ 6) (h : 128 < l.length + ps.length) :
    Calls Try.prog 33 #[.pointer (some ⟨b, 0, none⟩), .int .i64 op] w fun e w' => ∃ o', e = .returned (.int .i64 (-3)) ∧ Stk 46 w' o' i b (l ++ m) ∧ Step [i, i + 1] w o w' o' := by
  have hs' := rshape_ok w o (i + 5) op
  rw [hsh] at hs'
  have q40 : (op == 40) = false := by rw [beq_eq_false_iff_ne]; omega
  have q41 : (op == 41) = false := by rw [beq_eq_false_iff_ne]; omega
  have q42 : (op == 42) = false := by rw [beq_eq_false_iff_ne]; omega
  have q35 : (op == 35) = false := by rw [beq_eq_false_iff_ne]; omega
  obtain ⟨h0, v0, hb, hr0⟩ := id hs
  obtain ⟨ao, cap, rfl, _, _⟩ := hr0.slice
  rw [List.length_append] at hb h0
  obtain ⟨A, hA⟩ : ∃ A, l.length = A := ⟨_, rfl⟩
  obtain ⟨M, hM⟩ : ∃ M, m.length = M := ⟨_, rfl⟩
  obtain ⟨N, hN⟩ : ∃ N, A + M = N := ⟨_, rfl⟩
  obtain ⟨K, hK⟩ : ∃ K, ps.length = K := ⟨_, rfl⟩
  obtain ⟨L, hL⟩ : ∃ L : Nat, A + K = L := ⟨_, rfl⟩
  rw [hA, hM, hN] at hb h0
  rw [hM] at hs'
  rw [hA] at h
  rw [hK] at h hs' hps
  have q1 : ¬ (N : Int) < M := by omega
  have q2 : (N : Int) - M = A := by omega
  have q3 : (A : Int) + K = L := by omega
  have q4 : (128 : Int) < L := by omega
  have hk0 : ¬ (M : Int) < 0 := by omega
  clear h28 h35 hsh hA hM hN hK hL
  go_enter Try.func33, Try.ntmps33
  go_wp2_with fail
  refine hs'.mono ?_
  rintro e w' ⟨v, o', rfl, hr, st⟩
  obtain ⟨av, cv, rfl, _, _⟩ := hr.slice
  have hb' := hb.frame st (by simp)
  have hc := hb'.cell0
  go_wp2_with fail
  go_ret
  exact ⟨o', rfl, hs.frame st (by simp) (by simp), st.nil⟩
end Go.Proofs.Ytkefiimcopeioaa
