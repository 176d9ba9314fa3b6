/- A dictionary that is made to stand as it did: what it is made of. -/
import Derived.Test.YtaledmoakhlmgaaDicO
namespace Go.Proofs.Ytaledmoakhlmgaa
open Go Go.RowKit
set_option linter.unusedSimpArgs false
set_option linter.unusedVariables false

theorem known_blk {w : World} {o : Owner} {i b : Nat} {hv mv ov cv : Value} {L : Int} (hb : Blk w o i b 69 #[hv, mv, .int .i64 L, ov, cv]) (k : Int) :
    Calls Try.prog 31 #[.pointer (some ⟨b, 0, none⟩), .int .i64 k] w fun e w' => e = .returned (.bool (decide (1 ≤ k ∧ k ≤ L))) ∧ w' = w := by
  obtain ⟨c0, c1, c2, c3, c4, -⟩ := hb.cells5
  clear hb
  by_cases h1 : 1 ≤ k
  · by_cases h2 : k ≤ L
    · rw [decide_eq_true ⟨h1, h2⟩]
      go_enter Try.func31, Try.ntmps31
      go_wp2
      go_ret
      exact ⟨rfl, rfl⟩
    · rw [decide_eq_false fun h => h2 h.2]
      go_enter Try.func31, Try.ntmps31
      go_wp2
      go_ret
      exact ⟨rfl, rfl⟩
  · rw [decide_eq_false fun h => h1 h.1]
    go_enter Try.func31, Try.ntmps31
    go_wp2
    go_ret
    exact ⟨rfl, rfl⟩

theorem cl38b {w : World} {o : Owner} {i b : Nat} {hv mv ov cv : Value} {L : Int} (hb : Blk w o i b 69 #[hv, mv, .int .i64 L, ov, cv]) {c : Nat} (hc : w.cell? ⟨c, 0, none⟩ = some (.pointer (some ⟨b, 0, none⟩))) (k : Int) :
    Calls Try.prog 38 #[.int .i64 k, .pointer (some ⟨c, 0, none⟩)] w fun e w' => e = .returned (.bool (!decide (1 ≤ k ∧ k ≤ L))) ∧ w' = w := by
  have hkn := known_blk hb k
  generalize decide (1 ≤ k ∧ k ≤ L) = B at hkn ⊢
  clear hb
  cases B
  · go_enter Try.func38, Try.ntmps38
    go_wp2_with (go_at_call 31; refine hkn.mono ?_; rintro e w2 ⟨rfl, rfl⟩)
    go_ret
    exact ⟨rfl, rfl⟩
  · go_enter Try.func38, Try.ntmps38
    go_wp2_with (go_at_call 31; refine hkn.mono ?_; rintro e w2 ⟨rfl, rfl⟩)
    go_ret
    exact ⟨rfl, rfl⟩

/-- Back's first closure: a word of a list that will be no more. -/
theorem cl36_ok {w : World} {o : Owner} {c : Nat} {mw ml : Int} (hc : w.heap[c]? = some (.cells #[.int .i64 mw, .int .i64 ml] 31 (0, 0))) (x : Wd) (lk : Int) :
    Calls Try.prog 36 #[.agg #[.string x.nm, .int .i64 x.xt, .bool x.now, .string (low x.nm), .int .i64 x.li, .int .i64 lk], .pointer (some ⟨c, 0, none⟩)] w fun e w' => e = .returned (.bool (decide (ml < x.li))) ∧ Step [] w o w' o := by
  have s0 := (Step.refl [] w o).alloc (.cells #[.string x.nm, .int .i64 x.xt, .bool x.now, .string (low x.nm), .int .i64 x.li, .int .i64 lk] 72)
  have hc1 := s0.obj hc (by simp)
  have c0 : (w.alloc (.cells #[.string x.nm, .int .i64 x.xt, .bool x.now, .string (low x.nm), .int .i64 x.li, .int .i64 lk] 72)).cell? ⟨c, 0, none⟩ = some (.int .i64 mw) := by simp [World.cell?, hc1]
  have c1 : (w.alloc (.cells #[.string x.nm, .int .i64 x.xt, .bool x.now, .string (low x.nm), .int .i64 x.li, .int .i64 lk] 72)).cell? ⟨c, 1, none⟩ = some (.int .i64 ml) := by simp [World.cell?, hc1]
  clear hc hc1
  go_enter Try.func36, Try.ntmps36
  go_wp2_with fail
  go_ret
  exact ⟨rfl, s0⟩

set_option maxHeartbeats 4000000 in
/-- slices.IndexFunc over words, by Back's first closure: is there one? -/
theorem ixh_ok {w : World} {o : Owner} {i : Nat} {v : Value} {ws : List Wd} (hr : Row w o i 72 6 v ws.length (hcells ws)) (hwl : ws.length ≤ 2000) {c : Nat} {mw ml : Int} (hc : w.heap[c]? = some (.cells #[.int .i64 mw, .int .i64 ml] 31 (0, 0))) :
    Calls Try.prog 48 #[v, .func (.func 36) #[] #[.pointer (some ⟨c, 0, none⟩)]] w fun e w' => (∃ R, e = .returned (.int .i64 R) ∧ decide (0 ≤ R) = ws.any (fun x => decide (ml < x.li))) ∧ Step [] w o w' o := by
  obtain ⟨ao, cap, rfl, g1, g2⟩ := hr.slice
  obtain ⟨n, hn⟩ : ∃ n, ws.length = n := ⟨_, rfl⟩
  have HN := Lib.hid hn
  have HR := Lib.hid hr
  have HC := Lib.hid hc
  rw [hn] at g1 hwl
  rw [hn]
  clear hr hn hc
  go_enter Try.func48, Try.ntmps48
  go_wp2_with fail
  go_loopg [8] n (fun g a wr => ∃ j : Nat, g = n - j ∧ j ≤ n ∧ a = .int .i64 j ∧ Step [] w o wr o ∧ Hid (∀ x ∈ ws.drop (n - j), decide (ml < x.li) = false))
  case atStart => exact ⟨0, rfl, Nat.zero_le _, rfl, Step.refl _ _ _, Lib.hid (by intro x hx; rw [List.drop_of_length_le (by rw [HN.out]; omega)] at hx; cases hx)⟩
  case round =>
    obtain ⟨j, hg, hj, rfl, st, A⟩ := hrel
    have HQ := Lib.hid hg
    clear hg
    by_cases hlt : j < n
    · have hji : (j : Int) < n := by omega
      have hjl : n - j - 1 < ws.length := by rw [HN.out]; omega
      obtain ⟨pre, x, r, hws, hrl⟩ : ∃ pre x r, ws = pre ++ x :: r ∧ r.length = j :=
        ⟨ws.take (n - j - 1), ws[n - j - 1], ws.drop (n - j - 1 + 1), by rw [List.getElem_cons_drop, List.take_append_drop], by rw [List.length_drop, HN.out]; omega⟩
      have hr := HR.out.frame st (by simp)
      rw [hws] at hr
      obtain ⟨g, cap', hsl, hgl, hgo, hcap, hncap, y0, y1, y2, y3, y4, y5⟩ := word_at hr
      rw [← hws] at hsl
      simp only [Value.slice.injEq, true_and] at hsl
      obtain ⟨rfl, rfl⟩ := hsl
      rw [hrl] at y0 y1 y2 y3 y4 y5
      obtain ⟨lk, hlk⟩ : ∃ lk, ix x.li r = lk := ⟨_, rfl⟩
      rw [hlk] at y5
      have hcx := cl36_ok (o := o) (st.obj HC.out (by simp)) x lk
      have hd1 : ws.drop (n - (j + 1)) = x :: r := by
        rw [hws, List.drop_append_of_le_length (by have := congrArg List.length hws; rw [HN.out, List.length_append, List.length_cons] at this; omega)]
        have : n - (j + 1) = pre.length := by have := congrArg List.length hws; rw [HN.out, List.length_append, List.length_cons] at this; omega
        rw [this, List.drop_length]
        rfl
      have hd0 : ws.drop (n - j) = r := by
        have e : n - j = (n - (j + 1)) + 1 := by omega
        rw [e, ← List.drop_drop, hd1]
        rfl
      have hmem : x ∈ ws := by rw [hws]; simp
      have HD0 := Lib.hid hd0
      have HD1 := Lib.hid hd1
      have HM := Lib.hid hmem
      cases hp : decide (ml < x.li) with
      | true =>
        rw [hp] at hcx
        have HP := Lib.hid hp
        clear hr hws hlk hd0 hd1 hmem hp hrl
        go_wp2_with (go_at_call 36; refine hcx.mono ?_; rintro e w2 ⟨rfl, s2⟩)
        go_ret
        refine ⟨⟨j, rfl, ?_⟩, st.trans s2⟩
        rw [decide_eq_true (by omega)]
        exact (List.any_eq_true.2 ⟨x, HM.out, HP.out⟩).symm
      | false =>
        rw [hp] at hcx
        have HP := Lib.hid hp
        clear hr hws hlk hd0 hd1 hmem hp hrl
        go_wp2_with (go_at_call 36; refine hcx.mono ?_; rintro e w2 ⟨rfl, s2⟩)
        go_roundg (n - (j + 1))
        case measure => rw [HQ.out]; omega
        case rel =>
          refine ⟨j + 1, rfl, by omega, by go_num, st.trans s2, Lib.hid fun y hy => ?_⟩
          rw [HD1.out] at hy
          rcases List.mem_cons.1 hy with rfl | hy
          · exact HP.out
          · exact A.out y (by rw [HD0.out]; exact hy)
    · obtain rfl : j = n := by omega
      have hji : ¬ (j : Int) < j := by omega
      have hf : ws.any (fun x => decide (ml < x.li)) = false := by
        have := A.out
        rw [Nat.sub_self, List.drop_zero] at this
        cases h : ws.any (fun x => decide (ml < x.li)) with
        | false => rfl
        | true =>
          obtain ⟨x, h1, h2⟩ := List.any_eq_true.1 h
          rw [this x h1] at h2
          cases h2
      have HF := Lib.hid hf
      clear hf
      go_wp2_with fail
      go_ret
      exact ⟨⟨-1, rfl, by rw [HF.out]; decide⟩, st⟩

theorem ch_ok {w : World} {o : Owner} {i : Nat} {v : Value} {ws : List Wd} (hr : Row w o i 72 6 v ws.length (hcells ws)) (hwl : ws.length ≤ 2000) {c : Nat} {mw ml : Int} (hc : w.heap[c]? = some (.cells #[.int .i64 mw, .int .i64 ml] 31 (0, 0))) :
    Calls Try.prog 35 #[v, .func (.func 36) #[] #[.pointer (some ⟨c, 0, none⟩)]] w fun e w' => e = .returned (.bool (ws.any (fun x => decide (ml < x.li)))) ∧ Step [] w o w' o := by
  have hix := ixh_ok hr hwl hc
  obtain ⟨ao, cap, rfl, g1, g2⟩ := hr.slice
  generalize ws.any (fun x => decide (ml < x.li)) = B at hix ⊢
  clear hr hc
  go_enter Try.func35, Try.ntmps35
  go_wp2_with (go_at_call 48; refine hix.mono ?_; rintro e w2 ⟨⟨R, rfl, hR⟩, s2⟩; subst hR)
  go_ret
  exact ⟨rfl, s2⟩
end Go.Proofs.Ytaledmoakhlmgaa
