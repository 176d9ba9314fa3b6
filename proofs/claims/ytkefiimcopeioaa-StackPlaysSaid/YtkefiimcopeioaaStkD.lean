/- The stack of the program: far where there is too little; shapes. -/
import Derived.Test.YtkefiimcopeioaaStkC
namespace Go.Proofs.Ytkefiimcopeioaa
open Go Go.RowKit
set_option linter.unusedSimpArgs false
set_option linter.unusedVariables false

theorem far_under {w : World} {o : Owner} {i b : Nat} {l : List Int} {op : Int} (hs : Stk 55 w o i b l) (h : l = [] ∨ ∃ m k, l = m ++ [k] ∧ -9223372036854775808 ≤ k ∧ k ≤ 9223372036854775807 ∧ (k < 0 ∨ m.length ≤ k)) :
    Calls Try.prog 25 #[.pointer (some ⟨b, 0, none⟩), .int .i64 op] w fun e w' => e = .returned (.int .i64 (-4)) ∧ w = w' := by
  obtain ⟨h0, v, hb, hr⟩ := hs
  rcases h with rfl | ⟨m, k, rfl, k1, k2, hk⟩
  · obtain ⟨ao, cap, rfl, _, _⟩ := hr.slice
    have hc := hb.cell0
    clear hr hb
    go_enter Try.func25, Try.ntmps25
    go_wp2
    go_ret
    exact ⟨rfl, rfl⟩
  · obtain ⟨g, cap, rfl, hx⟩ := hr.rowx (by simp)
    have hc := hb.cell0
    have hle := hx.le
    have hcap := hx.capl
    have c2 : w.cell? ⟨g, m.length, none⟩ = some (.int .i64 k) := hx.cell (ints_get (by simp))
    unfold maxLen at hcap
    simp only [List.length_append, List.length_cons, List.length_nil, Nat.zero_add] at h0 hle hc
    clear hr hb hx
    rcases hk with hk | hk
    · have e : IntKind.u64.wrap k = k + 18446744073709551616 := by simp [IntKind.wrap, IntKind.signed, IntKind.bits]; omega
      go_enter Try.func25, Try.ntmps25
      go_wp2
      go_ret
      exact ⟨rfl, rfl⟩
    · go_enter Try.func25, Try.ntmps25
      go_wp2
      go_ret
      exact ⟨rfl, rfl⟩

end Go.Proofs.Ytkefiimcopeioaa
