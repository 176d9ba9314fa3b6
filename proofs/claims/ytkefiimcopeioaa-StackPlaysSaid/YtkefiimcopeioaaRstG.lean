/- The document's stack: Do, whole. -/
import Derived.Test.YtkefiimcopeioaaRstF
namespace Go.Proofs.Ytkefiimcopeioaa
open Go Go.RowKit
set_option linter.unusedSimpArgs false
set_option linter.unusedVariables false

set_option maxHeartbeats 4000000 in
theorem rdo_puts {w : World} {o : Owner} {i b : Nat} {l m : List Int} (hs : Stk 46 w o i b (l ++ m)) (op : Int) (h28 : 28 ≤ op ∧ op < 40) (h35 : op ≠ 35) (ps : List Nat) (hsh : rsh op = ((m.length : Int), ps.map Int.ofNat)) (hps : ps.length ≤ 6) (hm : 0 < m.length) (hp : ∀ k ∈ ps, k < m.length)
    (h : l.length + ps.length ≤ 128) :
    Calls Try.prog 33 #[.pointer (some ⟨b, 0, none⟩), .int .i64 op] w fun e w' => ∃ o', e = .returned (.int .i64 0) ∧ Stk 46 w' o' i b (l ++ ps.map fun p => m.getD p 0) ∧ Step [i, i + 1] w o w' o' := by
  have hs' := rshape_ok w o (i + 5) op
  rw [hsh] at hs'
  simp only [List.length_map] at hs'
  have q40 : (op == 40) = false := by rw [beq_eq_false_iff_ne]; omega
  have q41 : (op == 41) = false := by rw [beq_eq_false_iff_ne]; omega
  have q42 : (op == 42) = false := by rw [beq_eq_false_iff_ne]; omega
  have q35 : (op == 35) = false := by rw [beq_eq_false_iff_ne]; omega
  obtain ⟨h0, v0, hb, hr0⟩ := id hs
  obtain ⟨ao, cap, rfl, _, _⟩ := hr0.slice
  rw [List.length_append] at hb h0
  have hT := fun (W : World) (oW : Owner) (st : Step [] w o W oW) => rtake_split (hs.frame st (by simp) (by simp)) (i + 7)
  obtain ⟨A, hA⟩ : ∃ A, l.length = A := ⟨_, rfl⟩
  obtain ⟨M, hM⟩ : ∃ M, m.length = M := ⟨_, rfl⟩
  obtain ⟨N, hN⟩ : ∃ N, A + M = N := ⟨_, rfl⟩
  obtain ⟨K, hK⟩ : ∃ K, ps.length = K := ⟨_, rfl⟩
  obtain ⟨L, hL⟩ : ∃ L : Nat, A + K = L := ⟨_, rfl⟩
  rw [hA, hM, hN] at hb h0
  rw [hM] at hs' hm hp
  rw [hA] at h
  rw [hK] at h hs' hps
  simp only [hM] at hT
  have q1 : ¬ (N : Int) < M := by omega
  have q2 : (N : Int) - M = A := by omega
  have q3 : (A : Int) + K = L := by omega
  have q4 : ¬ (128 : Int) < L := by omega
  have hk0 : ¬ (M : Int) < 0 := by omega
  have HA := Lib.hid hA
  have HM := Lib.hid hM
  have HK := Lib.hid hK
  have HP := Lib.hid hp
  clear h28 h35 hsh hA hM hN hK hL hp
  go_enter Try.func33, Try.ntmps33
  go_wp2_with fail
  refine hs'.mono ?_
  rintro e w' ⟨v, o', rfl, hr, st⟩
  obtain ⟨av, cv, rfl, _, _⟩ := hr.slice
  have hb' := hb.frame st (by simp)
  have hc := hb'.cell0
  go_wp2_with fail
  refine (hT _ _ st).mono ?_
  rintro e w2 ⟨v2, o2, rfl, hrow, hs2, st2⟩
  have hr2 := hr.frame st2 (by simp)
  have st3 := st.nil.trans st2
  obtain ⟨g2, cap2, rfl, hx2⟩ := hrow.rowx hm
  have hle2 := hx2.le
  have hcap2 := hx2.capl
  unfold maxLen at hcap2
  clear hs' hT hr hrow hs hb hr0 hb' hc st st2
  go_wp2_with fail
  go_loopg [10] K (fun g a wr => ∃ o' p, g = K - p ∧ p ≤ K ∧ a = .int .i64 p ∧ Stk 46 wr o' i b (l ++ (ps.take p).map fun p => m.getD p 0) ∧ Step [i, i + 1] w o wr o' ∧ Rowx wr o' (i + 7) 35 1 g2 M cap2 (ints m) ∧ Row wr o' (i + 5) 3 1 (.slice av K cv) K (ints (ps.map Int.ofNat)))
  case atStart => exact ⟨_, 0, rfl, Nat.zero_le _, rfl, by simpa using hs2, st3, hx2, hr2⟩
  case round =>
    obtain ⟨o', p, hg, hpK, rfl, hs3, st4, hx3, hr3⟩ := hrel
    have HG := Lib.hid hg
    have hwl := hs3.1
    simp only [List.length_append, List.length_map, List.length_take] at hwl
    clear hg hs2 hx2 st3 hr2
    by_cases hlt : p < K
    · obtain ⟨g3, cap3, hv3, hx4⟩ := hr3.rowx (by omega)
      simp only [Value.slice.injEq, true_and] at hv3
      obtain ⟨rfl, rfl⟩ := hv3
      obtain ⟨q, hq⟩ : ∃ q, ps[p]? = some q := ⟨_, List.getElem?_eq_getElem (by rw [HK.out]; exact hlt)⟩
      have hqm := HP.out q (List.mem_of_getElem? hq)
      obtain ⟨x, hx⟩ : ∃ x, m[q]? = some x := ⟨m[q]'(by rw [HM.out]; exact hqm), by simp [HM.out, hqm]⟩
      have c1 : wr.cell? ⟨g3, p, none⟩ = some (.int .i64 q) := hx4.cell (ints_get (by simp [hq]))
      have c2 : wr.cell? ⟨g2, q, none⟩ = some (.int .i64 x) := hx3.cell (ints_get hx)
      have hput : putL (l ++ (ps.take p).map fun p => m.getD p 0) [x] = l ++ (ps.take (p + 1)).map fun p => m.getD p 0 := by
        rw [putL, if_pos (by simp [HA.out]; omega), List.take_add_one, hq]
        simp [List.getD, hx]
      have HPu := Lib.hid hput
      have hqi : (q : Int) < M := by omega
      have hpi : (p : Int) < K := by omega
      clear hput hq hx hwl
      go_wp2_with fail
      refine (rpush_ok hs3 x).mono ?_
      rintro e w4 ⟨o4, rfl, hs6, st7⟩
      rw [HPu.out] at hs6
      have hx6 := hx3.frame st7 (by simp)
      have hr6 := hr3.frame st7 (by simp)
      have st8 := st4.trans st7
      clear hs3 st7 hx3 hr3 c1 c2 hx4
      go_wp2_with fail
      go_roundg (K - (p + 1))
      case measure => rw [HG.out]; omega
      case rel => exact ⟨o4, p + 1, rfl, by omega, by go_num, hs6, st8, hx6, hr6⟩
    · have hps2 : ps.take p = ps := List.take_of_length_le (by have := HK.out; omega)
      rw [hps2] at hs3
      have hpi : ¬ (p : Int) < K := by omega
      clear hps2
      go_wp2_with fail
      go_ret
      first
        | exact ⟨o', rfl, hs3, st4⟩
        | exact ⟨rfl, o', hs3, st4⟩

theorem rsh_tab (j : Nat) (hj : j < 12) (h7 : j ≠ 7) : rsh (28 + (j : Int)) = ((shT j : Int), (shP j).map Int.ofNat) := by
  have h12 : j = 0 ∨ j = 1 ∨ j = 2 ∨ j = 3 ∨ j = 4 ∨ j = 5 ∨ j = 6 ∨ j = 8 ∨ j = 9 ∨ j = 10 ∨ j = 11 := by omega
  rcases h12 with rfl | rfl | rfl | rfl | rfl | rfl | rfl | rfl | rfl | rfl | rfl <;> rfl

theorem rtab_ok {w : World} {o : Owner} {i b : Nat} {l : List Int} (hs : Stk 46 w o i b l) (j : Nat) (hj : j < 12) (h7 : j ≠ 7) (op : Int) (hop : op = 28 + j) :
    Calls Try.prog 33 #[.pointer (some ⟨b, 0, none⟩), .int .i64 op] w fun e w' => ∃ o', e = .returned (.int .i64 (tabS l j).1) ∧ Stk 46 w' o' i b (tabS l j).2 ∧ Step [i, i + 1] w o w' o' := by
  have hsh := rsh_tab j hj h7
  rw [← hop] at hsh
  obtain ⟨hp6, _, hpk, _, hT0⟩ := shP_le j hj
  rw [tabS]
  by_cases hc : l.length < shT j
  · rw [if_pos hc]
    exact rdo_under hs op (by omega) (by omega) _ _ hsh hc
  · rw [if_neg hc, if_neg (by rintro ⟨h, _⟩; exact h7 h)]
    have hl := List.take_append_drop (l.length - shT j) l
    have hm : shT j = (l.drop (l.length - shT j)).length := by simp; omega
    have hlen : (l.take (l.length - shT j)).length = l.length - shT j := by simp
    rw [← hl] at hs
    by_cases hov : 128 < l.length - shT j + (shP j).length
    · rw [if_pos hov]
      have := rdo_over hs op (by omega) (by omega) ((shP j).map Int.ofNat) (by rw [← hm]; exact hsh) (by simpa using hp6) (by rw [hlen]; simpa using hov)
      rwa [hl] at this
    · rw [if_neg hov]
      exact rdo_puts hs op (by omega) (by omega) (shP j) (by rw [← hm]; exact hsh) hp6 (by rw [← hm]; exact hT0) (by rw [← hm]; exact hpk) (by rw [hlen]; omega)

theorem tab_dup (l : List Int) (h : ¬ l.length < 1) (h0 : l.getLastD 0 ≠ 0) : tabS l 7 = tabS l 0 := by
  have e1 : shT 7 = 1 := rfl
  have e2 : shT 0 = 1 := rfl
  have e3 : shP 7 = [0, 0] := rfl
  have e4 : shP 0 = [0, 0] := rfl
  rw [tabS, tabS, e1, e2, e3, e4, if_neg h, if_neg h, if_neg (show ¬ (7 = 7 ∧ l.getLastD 0 = 0) by rintro ⟨_, h⟩; exact h0 h), if_neg (show ¬ (0 = 7 ∧ l.getLastD 0 = 0) by rintro ⟨h, _⟩; cases h)]

theorem rqdup_ok {w : World} {o : Owner} {i b : Nat} {l : List Int} (hs : Stk 46 w o i b l) :
    Calls Try.prog 33 #[.pointer (some ⟨b, 0, none⟩), .int .i64 35] w fun e w' => ∃ o', e = .returned (.int .i64 (tabS l 7).1) ∧ Stk 46 w' o' i b (tabS l 7).2 ∧ Step [i, i + 1] w o w' o' := by
  have hd := rtab_ok hs 0 (by decide) (by decide) 28 rfl
  rcases List.eq_nil_or_concat l with rfl | ⟨m, k, rfl⟩
  · have e : tabS [] 7 = tabS [] 0 := rfl
    rw [e]
    obtain ⟨h0, v0, hb, hr0⟩ := id hs
    obtain ⟨ao, cap, rfl, _, _⟩ := hr0.slice
    have hc := hb.cell0
    clear hb hr0
    go_enter Try.func33, Try.ntmps33
    go_wp2_with (go_at_call 33; refine hd.mono ?_; rintro e w' ⟨o', rfl, h1, h2⟩)
    go_ret
    exact ⟨o', rfl, h1, h2⟩
  · rw [List.concat_eq_append] at *
    obtain ⟨h0, v, hb, hr⟩ := id hs
    obtain ⟨g, cap, rfl, hx⟩ := hr.rowx (by simp)
    have hc := hb.cell0
    have hle := hx.le
    have hcap := hx.capl
    have c2 : w.cell? ⟨g, m.length, none⟩ = some (.int .i64 k) := hx.cell (ints_get (by simp))
    unfold maxLen at hcap
    simp only [List.length_append, List.length_cons, List.length_nil, Nat.zero_add] at h0 hle hc
    have hlast : (m ++ [k]).getLastD 0 = k := by simp [List.getLastD_eq_getLast?]
    have hlen : ¬ (m ++ [k]).length < 1 := by simp
    by_cases hk0 : k = 0
    · subst hk0
      have e : tabS (m ++ [0]) 7 = (0, m ++ [0]) := by
        have e1 : shT 7 = 1 := rfl
        simp [tabS, e1, List.getLastD_eq_getLast?]
      rw [e]
      obtain ⟨n, hn⟩ : ∃ n, m.length = n := ⟨_, rfl⟩
      obtain ⟨N, hN⟩ : ∃ N, n + 1 = N := ⟨_, rfl⟩
      rw [hn] at c2 h0 hle hc
      rw [hN] at hc hle h0
      have hN1 : (N : Int) - 1 = n := by omega
      have hN0 : (0 : Int) < N := by omega
      have hnN : (n : Int) < N := by omega
      clear hn hN hb hr hx hlast hlen hd e
      go_enter Try.func33, Try.ntmps33
      go_wp2_with fail
      go_ret
      exact ⟨o, rfl, hs, Step.refl _ _ _⟩
    · have e := tab_dup (m ++ [k]) hlen (by rw [hlast]; exact hk0)
      rw [e]
      obtain ⟨T, hT⟩ : ∃ T, tabS (m ++ [k]) 0 = T := ⟨_, rfl⟩
      rw [hT] at hd ⊢
      obtain ⟨n, hn⟩ : ∃ n, m.length = n := ⟨_, rfl⟩
      obtain ⟨N, hN⟩ : ∃ N, n + 1 = N := ⟨_, rfl⟩
      rw [hn] at c2 h0 hle hc
      rw [hN] at hc hle h0
      have hN1 : (N : Int) - 1 = n := by omega
      have hN0 : (0 : Int) < N := by omega
      have hnN : (n : Int) < N := by omega
      have hkb : (k == 0) = false := by simpa using hk0
      clear hn hN hb hr hx hlast hlen e hT hk0
      go_enter Try.func33, Try.ntmps33
      go_wp2_with (go_at_call 33; refine hd.mono ?_; rintro e w' ⟨o', rfl, h1, h2⟩)
      go_ret
      exact ⟨o', rfl, h1, h2⟩

theorem rdo_ok {w : World} {o : Owner} {i b : Nat} {l : List Int} (hs : Stk 46 w o i b l) (op : Int) :
    Calls Try.prog 33 #[.pointer (some ⟨b, 0, none⟩), .int .i64 op] w fun e w' => ∃ o', e = .returned (.int .i64 (doS l op).1) ∧ Stk 46 w' o' i b (doS l op).2 ∧ Step [i, i + 1] w o w' o' := by
  rw [doS]
  by_cases h1 : op = 40 ∨ op = 41
  · rw [if_pos h1]; exact rdo_far hs op h1
  · rw [if_neg h1]
    by_cases h2 : op = 42
    · rw [if_pos h2]; subst h2; exact rdo_depth hs
    · rw [if_neg h2]
      by_cases h3 : 28 ≤ op ∧ op < 40
      · rw [if_pos h3]
        by_cases h4 : op = 35
        · subst h4; exact rqdup_ok hs
        · exact rtab_ok hs _ (by omega) (by omega) op (by omega)
      · rw [if_neg h3]; exact rdo_none hs op (by omega)
end Go.Proofs.Ytkefiimcopeioaa
