/- The stack of the program: Do, whole. -/
import Derived.Test.YtkefiimcopeioaaStkF
namespace Go.Proofs.Ytkefiimcopeioaa
open Go Go.RowKit
set_option linter.unusedSimpArgs false
set_option linter.unusedVariables false

/-- A number that fits its cell. -/
def I64 (x : Int) : Prop := -9223372036854775808 ≤ x ∧ x ≤ 9223372036854775807

/-- pick (40), roll (41): m below, k the uppermost. -/
def farM (m : List Int) (k op : Int) : Int × List Int :=
  if k < 0 ∨ m.length ≤ k then (-4, m ++ [k])
  else if op = 40 then (0, m ++ [m.getD (m.length - 1 - k.toNat) 0])
  else (0, m.eraseIdx (m.length - 1 - k.toNat) ++ [m.getD (m.length - 1 - k.toNat) 0])

def farS (l : List Int) (op : Int) : Int × List Int := if l = [] then (-4, l) else farM l.dropLast (l.getLastD 0) op

def doS (l : List Int) (op : Int) : Int × List Int :=
  if op = 40 ∨ op = 41 then farS l op
  else if op = 42 then (putE l [(l.length : Int)], putL l [(l.length : Int)])
  else if 28 ≤ op ∧ op < 40 then tabS l (op - 28).toNat
  else (1, l)

theorem split_at (m : List Int) (k : Nat) (h : k < m.length) : ∃ l x r, m = l ++ x :: r ∧ r.length = k ∧ l.length = m.length - 1 - k := by
  refine ⟨m.take (m.length - 1 - k), m[m.length - 1 - k], m.drop (m.length - 1 - k + 1), ?_, by simp; omega, by simp; omega⟩
  rw [← List.drop_eq_getElem_cons (by omega), List.take_append_drop]

theorem do_far {w : World} {o : Owner} {i b : Nat} {l : List Int} (hs : Stk 55 w o i b l) (hw : ∀ x ∈ l, I64 x) (op : Int) (h : op = 40 ∨ op = 41) :
    Calls Try.prog 13 #[.pointer (some ⟨b, 0, none⟩), .int .i64 op] w fun e w' => ∃ o', e = .returned (.int .i64 (farS l op).1) ∧ Stk 55 w' o' i b (farS l op).2 ∧ Step [i, i + 1] w o w' o' := by
  have hf : Calls Try.prog 25 #[.pointer (some ⟨b, 0, none⟩), .int .i64 op] w fun e w' => ∃ o', e = .returned (.int .i64 (farS l op).1) ∧ Stk 55 w' o' i b (farS l op).2 ∧ Step [i, i + 1] w o w' o' := by
    rcases List.eq_nil_or_concat l with rfl | ⟨m, k, rfl⟩
    · refine (far_under hs (.inl rfl)).mono ?_
      rintro e w' ⟨rfl, rfl⟩
      exact ⟨o, rfl, hs, Step.refl _ _ _⟩
    · rw [List.concat_eq_append] at *
      have e1 : farS (m ++ [k]) op = farM m k op := by simp [farS, List.getLastD_eq_getLast?]
      have hk := hw k (by simp)
      rw [e1, farM]
      by_cases hc : k < 0 ∨ m.length ≤ k
      · rw [if_pos hc]
        refine (far_under hs (.inr ⟨m, k, rfl, hk.1, hk.2, hc⟩)).mono ?_
        rintro e w' ⟨rfl, rfl⟩
        exact ⟨o, rfl, hs, Step.refl _ _ _⟩
      · rw [if_neg hc]
        obtain ⟨n, rfl⟩ := Int.eq_ofNat_of_zero_le (show 0 ≤ k by omega)
        obtain ⟨a, x, r, rfl, hr, ha⟩ := split_at m n (by omega)
        have e2 : (a ++ x :: r).length - 1 - (n : Int).toNat = a.length := by simp; omega
        have e3 : (a ++ x :: r).getD a.length 0 = x := by simp [List.getD]
        rw [e2, e3]
        subst hr
        rw [List.append_assoc] at hs
        rcases h with rfl | rfl
        · rw [if_pos rfl]
          refine (far_pick hs).mono ?_
          rintro e w' ⟨rfl, h1, h2⟩
          exact ⟨o, rfl, by simpa using h1, h2⟩
        · rw [if_neg (by omega)]
          refine (far_roll hs).mono ?_
          rintro e w' ⟨o', rfl, h1, h2⟩
          exact ⟨o', rfl, by simpa [List.eraseIdx_append_of_length_le] using h1, h2⟩
  rcases h with rfl | rfl
  all_goals
    go_enter Try.func13, Try.ntmps13
    go_wp2_with (go_at_call 25; refine hf.mono ?_; rintro e w' ⟨o', rfl, h1, h2⟩)
    go_ret
    exact ⟨o', rfl, h1, h2⟩

theorem do_depth {w : World} {o : Owner} {i b : Nat} {l : List Int} (hs : Stk 55 w o i b l) :
    Calls Try.prog 13 #[.pointer (some ⟨b, 0, none⟩), .int .i64 42] w fun e w' => ∃ o', e = .returned (.int .i64 (putE l [(l.length : Int)])) ∧ Stk 55 w' o' i b (putL l [(l.length : Int)]) ∧ Step [i, i + 1] w o w' o' := by
  have hp := push_ok hs l.length
  obtain ⟨h0, v, hb, hr⟩ := id hs
  obtain ⟨ao, cap, rfl, _, _⟩ := hr.slice
  have hc := hb.cell0
  go_enter Try.func13, Try.ntmps13
  go_wp2_with (go_at_call 17; refine hp.mono ?_; rintro e w' ⟨o', rfl, h1, h2⟩)
  go_ret
  exact ⟨o', rfl, h1, h2⟩

theorem tab_ok {w : World} {o : Owner} {i b : Nat} {l : List Int} (hs : Stk 55 w o i b l) (hi : i ≠ 0) (j : Nat) (hj : j < 12) (op : Int) (hop : op = 28 + j) :
    Calls Try.prog 13 #[.pointer (some ⟨b, 0, none⟩), .int .i64 op] w fun e w' => ∃ o', e = .returned (.int .i64 (tabS l j).1) ∧ Stk 55 w' o' i b (tabS l j).2 ∧ Step [i, i + 1] w o w' o' := by
  rw [tabS]
  by_cases hc : l.length < shT j
  · rw [if_pos hc]
    exact do_under hs j hj op hop hc
  · rw [if_neg hc]
    by_cases h7 : j = 7 ∧ l.getLastD 0 = 0
    · rw [if_pos h7]
      obtain ⟨rfl, h7⟩ := h7
      have h1 : ¬ l.length < 1 := hc
      rcases List.eq_nil_or_concat l with rfl | ⟨m, k, rfl⟩
      · simp at h1
      · rw [List.concat_eq_append] at *
        obtain rfl : k = 0 := by simpa [List.getLastD_eq_getLast?] using h7
        obtain rfl : op = 35 := by omega
        exact do_qdup hs
    · rw [if_neg h7]
      have hl := List.take_append_drop (l.length - shT j) l
      have hm : shT j = (l.drop (l.length - shT j)).length := by simp; omega
      have hlen : (l.take (l.length - shT j)).length = l.length - shT j := by simp
      have h7' : j = 7 → ∃ x, l.drop (l.length - shT j) = [x] ∧ x ≠ 0 := by
        rintro rfl
        rcases List.eq_nil_or_concat l with rfl | ⟨m, k, rfl⟩
        · simp [shT, shTab] at hc
        · refine ⟨k, ?_, fun h => h7 ⟨rfl, by simp [List.getLastD_eq_getLast?, h]⟩⟩
          rw [List.concat_eq_append, show shT 7 = 1 from rfl]
          simp
      rw [← hl] at hs
      by_cases hov : 128 < l.length - shT j + (shP j).length
      · rw [if_pos hov]
        have := do_over hs j hj op hop hm h7' (by rw [hlen]; exact hov)
        rwa [hl] at this
      · rw [if_neg hov]
        exact do_puts hs hi j hj op hop hm h7' (by rw [hlen]; omega)

theorem do_ok {w : World} {o : Owner} {i b : Nat} {l : List Int} (hs : Stk 55 w o i b l) (hi : i ≠ 0) (hw : ∀ x ∈ l, I64 x) (op : Int) :
    Calls Try.prog 13 #[.pointer (some ⟨b, 0, none⟩), .int .i64 op] w fun e w' => ∃ o', e = .returned (.int .i64 (doS l op).1) ∧ Stk 55 w' o' i b (doS l op).2 ∧ Step [i, i + 1] w o w' o' := by
  rw [doS]
  by_cases h1 : op = 40 ∨ op = 41
  · rw [if_pos h1]; exact do_far hs hw op h1
  · rw [if_neg h1]
    by_cases h2 : op = 42
    · rw [if_pos h2]; subst h2; exact do_depth hs
    · rw [if_neg h2]
      by_cases h3 : 28 ≤ op ∧ op < 40
      · rw [if_pos h3]; exact tab_ok hs hi _ (by omega) op (by omega)
      · rw [if_neg h3]; exact do_none hs hi op (by omega)
end Go.Proofs.Ytkefiimcopeioaa
