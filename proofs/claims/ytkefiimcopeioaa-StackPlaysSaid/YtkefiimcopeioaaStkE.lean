/- The stack of the program: Do. -/
import Derived.Test.YtkefiimcopeioaaStkD
import Derived.Test.YtkefiimcopeioaaStkShapes
namespace Go.Proofs.Ytkefiimcopeioaa
open Go Go.RowKit
set_option linter.unusedSimpArgs false
set_option linter.unusedVariables false

theorem shStr_size (l : List Nat) : (shStr l).size = l.length := by simp [shStr, ByteArray.size]

theorem shStr_get (l : List Nat) (hl : ∀ k ∈ l, k < 4) (p : Nat) (h : p < (shStr l).size) : ∃ q, l[p]? = some q ∧ q < 4 ∧ ((shStr l)[p]'h).toNat = 97 + q := by
  have hp : p < l.length := by simpa [shStr_size] using h
  have h4 := hl _ (List.getElem_mem hp)
  refine ⟨l[p], by simp [hp], h4, ?_⟩
  have : (shStr l)[p]'h = UInt8.ofNat (97 + l[p]) := by
    show (shStr l).data[p]'(by simpa [shStr] using hp) = _
    simp [shStr]
  rw [this]
  simp
  omega

def tabS (l : List Int) (j : Nat) : Int × List Int :=
  if l.length < shT j then (-4, l)
  else if j = 7 ∧ l.getLastD 0 = 0 then (0, l)
  else if 128 < l.length - shT j + (shP j).length then (-3, l)
  else (0, l.take (l.length - shT j) ++ (shP j).map fun p => (l.drop (l.length - shT j)).getD p 0)

theorem do_none {w : World} {o : Owner} {i b : Nat} {l : List Int} (hs : Stk 55 w o i b l) (hi : i ≠ 0) (op : Int) (h : op < 28 ∨ 43 ≤ op) :
    Calls Try.prog 13 #[.pointer (some ⟨b, 0, none⟩), .int .i64 op] w fun e w' => ∃ o', e = .returned (.int .i64 1) ∧ Stk 55 w' o' i b l ∧ Step [i, i + 1] w o w' o' := by
  have hsh := shapes_none op w o (by omega)
  obtain ⟨h0, v, hb, hr⟩ := id hs
  obtain ⟨ao, cap, rfl, _, _⟩ := hr.slice
  have q40 : (op == 40) = false := by rw [beq_eq_false_iff_ne]; omega
  have q41 : (op == 41) = false := by rw [beq_eq_false_iff_ne]; omega
  rcases h with h | h
  all_goals
    go_enter Try.func13, Try.ntmps13
    go_wp2_with (go_at_call 26; refine hsh.mono ?_; rintro e w' ⟨rfl, st⟩; have hb' := hb.frame st (by simp); have hc := hb'.cell0; have hlt := hb'.lt)
    go_ret
    exact ⟨o, rfl, hs.frame (st.alloc _) (by simp) (by simp), (st.alloc _).nil⟩

theorem do_under {w : World} {o : Owner} {i b : Nat} {l : List Int} (hs : Stk 55 w o i b l) (j : Nat) (hj : j < 12) (op : Int) (hop : op = 28 + j) (h : l.length < shT j) :
    Calls Try.prog 13 #[.pointer (some ⟨b, 0, none⟩), .int .i64 op] w fun e w' => ∃ o', e = .returned (.int .i64 (-4)) ∧ Stk 55 w' o' i b l ∧ Step [i, i + 1] w o w' o' := by
  have hsh := shapes_some op j w o hop hj
  obtain ⟨h0, v, hb, hr⟩ := id hs
  obtain ⟨ao, cap, rfl, _, _⟩ := hr.slice
  have q40 : (op == 40) = false := by rw [beq_eq_false_iff_ne]; omega
  have q41 : (op == 41) = false := by rw [beq_eq_false_iff_ne]; omega
  have q1 : op < 40 := by omega
  have q2 : 28 ≤ op := by omega
  clear hop
  go_enter Try.func13, Try.ntmps13
  go_wp2_with (go_at_call 26; refine hsh.mono ?_; rintro e w' ⟨rfl, st⟩; have hb' := hb.frame st (by simp); have hc := hb'.cell0; have hlt := hb'.lt)
  go_ret
  exact ⟨o, rfl, hs.frame (st.alloc _) (by simp) (by simp), (st.alloc _).nil⟩

theorem do_qdup {w : World} {o : Owner} {i b : Nat} {l : List Int} (hs : Stk 55 w o i b (l ++ [0])) :
    Calls Try.prog 13 #[.pointer (some ⟨b, 0, none⟩), .int .i64 35] w fun e w' => ∃ o', e = .returned (.int .i64 0) ∧ Stk 55 w' o' i b (l ++ [0]) ∧ Step [i, i + 1] w o w' o' := by
  have hsh := shapes_some 35 7 w o rfl (by omega)
  have e1 : shT 7 = 1 := rfl
  rw [e1] at hsh
  clear e1
  obtain ⟨h0, v, hb, hr⟩ := id hs
  obtain ⟨g, cap, rfl, hx⟩ := hr.rowx (by simp)
  have hle := hx.le
  have hcap := hx.capl
  unfold maxLen at hcap
  simp only [List.length_append, List.length_cons, List.length_nil, Nat.zero_add] at h0 hle
  go_enter Try.func13, Try.ntmps13
  go_wp2_with (go_at_call 26; refine hsh.mono ?_; rintro e w' ⟨rfl, st⟩; have hb' := hb.frame st (by simp); have hc := hb'.cell0; simp only [List.length_append, List.length_cons, List.length_nil, Nat.zero_add] at hc; have hlt := hb'.lt; have hx' := hx.frame st (by simp); have c2 : w'.cell? ⟨g, l.length, none⟩ = some (.int .i64 0) := hx'.cell (ints_get (by simp)); have hlg : g < w'.heap.size := World.block_lt_of_cell? _ _ c2)
  go_ret
  exact ⟨o, rfl, hs.frame (st.alloc _) (by simp) (by simp), (st.alloc _).nil⟩

theorem shP_le (j : Nat) (hj : j < 12) : (shP j).length ≤ 6 ∧ (∀ k ∈ shP j, k < 4) ∧ (∀ k ∈ shP j, k < shT j) ∧ shT j ≤ 4 ∧ 0 < shT j := by
  have h12 : j = 0 ∨ j = 1 ∨ j = 2 ∨ j = 3 ∨ j = 4 ∨ j = 5 ∨ j = 6 ∨ j = 7 ∨ j = 8 ∨ j = 9 ∨ j = 10 ∨ j = 11 := by omega
  rcases h12 with rfl | rfl | rfl | rfl | rfl | rfl | rfl | rfl | rfl | rfl | rfl | rfl <;> decide

theorem do_over {w : World} {o : Owner} {i b : Nat} {l m : List Int} (hs : Stk 55 w o i b (l ++ m)) (j : Nat) (hj : j < 12) (op : Int) (hop : op = 28 + j) (hm : shT j = m.length) (h7 : j = 7 → ∃ x, m = [x] ∧ x ≠ 0)
    (hov : 128 < l.length + (shP j).length) :
    Calls Try.prog 13 #[.pointer (some ⟨b, 0, none⟩), .int .i64 op] w fun e w' => ∃ o', e = .returned (.int .i64 (-3)) ∧ Stk 55 w' o' i b (l ++ m) ∧ Step [i, i + 1] w o w' o' := by
  have hsh := shapes_some op j w o hop hj
  obtain ⟨hp, _, _, hk4, _⟩ := shP_le j hj
  have q40 : (op == 40) = false := by rw [beq_eq_false_iff_ne]; omega
  have q41 : (op == 41) = false := by rw [beq_eq_false_iff_ne]; omega
  have q1 : op < 40 := by omega
  have q2 : 28 ≤ op := by omega
  have h7' : (op == 35) = false ∨ (op = 35 ∧ ∃ x, m = [x] ∧ (x == 0) = false) := by
    by_cases e : j = 7
    · obtain ⟨x, hx, h0⟩ := h7 e; exact .inr ⟨by omega, x, hx, by simpa using h0⟩
    · exact .inl (by rw [beq_eq_false_iff_ne]; omega)
  have hsz := shStr_size (shP j)
  generalize shStr (shP j) = s at hsh hsz
  rw [← hsz] at hov hp
  rw [hm] at hsh hk4
  clear hop h7 hsz hm
  obtain ⟨h0, v, hb, hr⟩ := id hs
  rcases h7' with q3 | ⟨rfl, x, rfl, q3⟩
  · obtain ⟨ao, cap, rfl, _, _⟩ := hr.slice
    simp only [List.length_append] at *
    go_enter Try.func13, Try.ntmps13
    go_wp2_with (go_at_call 26; refine hsh.mono ?_; rintro e w' ⟨rfl, st⟩; have hb' := hb.frame st (by simp); have hc := hb'.cell0; have hlt := hb'.lt)
    go_ret
    exact ⟨o, rfl, hs.frame (st.alloc _) (by simp) (by simp), (st.alloc _).nil⟩
  · obtain ⟨g, cap, rfl, hx⟩ := hr.rowx (by simp)
    have hle := hx.le
    have hcap := hx.capl
    unfold maxLen at hcap
    simp only [List.length_append, List.length_cons, List.length_nil, Nat.zero_add] at h0 hle hov hsh
    go_enter Try.func13, Try.ntmps13
    go_wp2_with (go_at_call 26; refine hsh.mono ?_; rintro e w' ⟨rfl, st⟩; have hb' := hb.frame st (by simp); have hc := hb'.cell0; simp only [List.length_append, List.length_cons, List.length_nil, Nat.zero_add] at hc; have hlt := hb'.lt; have hx' := hx.frame st (by simp); have c2 : w'.cell? ⟨g, l.length, none⟩ = some (.int .i64 x) := hx'.cell (ints_get (by simp)); have hlg : g < w'.heap.size := World.block_lt_of_cell? _ _ c2)
    go_ret
    exact ⟨o, rfl, hs.frame (st.alloc _) (by simp) (by simp), (st.alloc _).nil⟩
end Go.Proofs.Ytkefiimcopeioaa
