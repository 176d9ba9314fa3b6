/- The document's dictionary: a word of the lists in order; a word is added; the order is changed. -/
import Derived.Test.YtaledmoakhlmgaaRefB
import Derived.Deep.RegionLaw
namespace Go.Proofs.Ytaledmoakhlmgaa
open Go Go.RowKit
set_option linter.unusedSimpArgs false
set_option linter.unusedVariables false

set_option maxHeartbeats 4000000 in
theorem rfind_ok {w : World} {o : Owner} {i b : Nat} {s : Dst} (h : RB w o i b s) (nm : ByteArray) (hn : nm.size ≤ 1000000) :
    Calls Try.prog 41 #[.pointer (some ⟨b, 0, none⟩), .string nm] w fun e w' => e = .returned (entV (findD s nm)) ∧ ∃ o', Step [] w o w' o' := by
  have st0 := (Step.refl [] w o).alloc (.cells #[.string ByteArray.empty, .int .i64 0, .bool false] 34)
  have hE := E3.new w (.string ByteArray.empty) (.int .i64 0) (.bool false)
  have hbe : (ByteArray.empty : ByteArray) = ⟨#[]⟩ := rfl
  rw [hbe] at hE st0
  clear hbe
  replace h := h.nil st0
  have h0 := h
  obtain ⟨ok, lv, ov, jo, hjo, hb, hr, hr2⟩ := h
  have hol := ok.ol
  obtain ⟨ao, cap, rfl, g1, g2⟩ := hr2.slice
  obtain ⟨⟨c0, c1, c2, c3⟩, -⟩ := hb.cells4
  obtain ⟨n, hnl⟩ : ∃ n, s.order.length = n := ⟨_, rfl⟩
  rw [hnl] at c2 g1 hol hr2 hb
  have HNL := Lib.hid hnl
  have hz : w.heap.size ≤ w.heap.size := Nat.le_refl _
  obtain ⟨V, hV⟩ : ∃ V, entV (findD s nm) = V := ⟨_, rfl⟩
  rw [hV]
  have HV := Lib.hid hV
  have hrd := hr2.rd
  clear hnl hr ok hV hr2
  go_enter Try.func41, Try.ntmps41
  go_wp2_with fail
  go_loopg [6, 7, 8] n (fun g a6 a7 a8 wr => ∃ (q : Nat) (o' : Owner), g = n - q ∧ q ≤ n ∧ a6 = .int .i64 q ∧ Step [] (w.alloc (.cells #[.string ⟨#[]⟩, .int .i64 0, .bool false] 34)) o wr o' ∧ Hid (findD s nm = findO s nm (s.order.drop q)))
  case atStart => exact ⟨0, o, rfl, Nat.zero_le _, rfl, Step.refl _ _ _, Lib.hid rfl⟩
  case round =>
    obtain ⟨q, o3, hg, hq, rfl, st, hinv⟩ := hrel
    have HG := Lib.hid hg
    have hE3 := hE.nil st
    obtain ⟨⟨d0, d1, d2, d3⟩, -⟩ := (hb.frame st (by simp)).cells4
    clear hg c0 c1 c2 c3
    by_cases hlt : q < n
    · have hqi : (q : Int) < n := by omega
      have hql : q < s.order.length := by rw [HNL.out]; exact hlt
      obtain ⟨k, hk⟩ : ∃ k, s.order[q] = k := ⟨_, rfl⟩
      have hdrop : s.order.drop q = k :: s.order.drop (q + 1) := by rw [List.drop_eq_getElem_cons hql, hk]
      have hrd2 := hrd.frame st (by simp)
      obtain ⟨ao', cap', hsl, -, -, -, g4⟩ := hrd2
      simp only [Value.slice.injEq, true_and] at hsl
      obtain ⟨rfl, rfl⟩ := hsl
      obtain ⟨b1, off1, rfl, hb1, ho1, hc1⟩ := g4 (by omega)
      have e1 := hc1 q (.int .i64 k) (by rw [List.getElem?_map, List.getElem?_eq_getElem hql, hk]; rfl)
      have hin := rin_ok (h0.nil st) k nm hn
      obtain ⟨E, hEq⟩ : ∃ E, inD s k nm = E := ⟨_, rfl⟩
      rw [hEq] at hin
      have HEQ := Lib.hid hEq
      have HD := Lib.hid hdrop
      clear hk hdrop hc1 g4 hEq
      cases E with
      | none =>
        rw [show entV none = .tuple #[.agg #[.string ⟨#[]⟩, .int .i64 0, .bool false], .bool false] from rfl] at hin
        go_wp2_with fail
        refine hin.mono ?_
        rintro e w5 ⟨rfl, o5, s5⟩
        go_wp2_with fail
        go_roundg (n - (q + 1))
        case measure => rw [HG.out]; omega
        case rel => exact ⟨q + 1, o5, rfl, by omega, by go_num, (st.trans s5).alloc _, Lib.hid (by rw [hinv.out, HD.out, findO_none s nm HEQ.out])⟩
      | some xw =>
        rw [show entV (some xw) = .tuple #[.agg #[.string xw.nm, .int .i64 xw.xt, .bool xw.now], .bool true] from rfl] at hin
        have hv : V = .tuple #[.agg #[.string xw.nm, .int .i64 xw.xt, .bool xw.now], .bool true] := by rw [← HV.out, hinv.out, HD.out, findO_some s nm HEQ.out]; rfl
        subst hv
        go_wp2_with fail
        refine hin.mono ?_
        rintro e w5 ⟨rfl, o5, s5⟩
        have s6 := s5.alloc (.cells #[.string xw.nm, .int .i64 xw.xt, .bool xw.now] 34)
        obtain ⟨k0, k1, k2, -⟩ := (E3.new w5 (.string xw.nm) (.int .i64 xw.xt) (.bool xw.now)).cells
        have hE6 := hE3.nil s6
        obtain ⟨x0, x1, x2, f0, f1, f2⟩ := hE6.cells
        obtain ⟨g0, g1', g2', -⟩ := (hE6.set (.string xw.nm) (.int .i64 xw.xt) (.bool xw.now)).cells
        have stF := ((st0.trans st).trans s6).set3 hz (.string xw.nm) (.int .i64 xw.xt) (.bool xw.now)
        go_wp2_with fail
        refine bodyPost_ret (v := .tuple #[.agg #[.string xw.nm, .int .i64 xw.xt, .bool xw.now], .bool true]) (by simp only [results, Try.results41]; simp [go_sem, g0, g1', g2']) rfl ⟨rfl, o5, stF⟩
    · obtain rfl : q = n := by omega
      have hv : V = .tuple #[.agg #[.string ⟨#[]⟩, .int .i64 0, .bool false], .bool false] := by
        rw [← HV.out, hinv.out, List.drop_of_length_le (by rw [HNL.out]; exact Nat.le_refl _)]
        rfl
      subst hv
      obtain ⟨x0, x1, x2, f0, f1, f2⟩ := hE3.cells
      obtain ⟨g0, g1', g2', -⟩ := (hE3.set (.string ⟨#[]⟩) (.int .i64 0) (.bool false)).cells
      have stF := (st0.trans st).set3 hz (.string ⟨#[]⟩) (.int .i64 0) (.bool false)
      go_wp2_with fail
      refine bodyPost_ret (v := .tuple #[.agg #[.string ⟨#[]⟩, .int .i64 0, .bool false], .bool false]) (by simp only [results, Try.results41]; simp [go_sem, g0, g1', g2']) rfl ⟨rfl, o3, stF⟩

theorem infoOne : (Try.prog.info? 80).map (fun i => (i.zero, i.size, i.bytes)) = some (some (.agg #[.string ByteArray.empty, .int .i64 0, .bool false, .int .i64 0]), 4, 40) := by kernel_rfl
end Go.Proofs.Ytaledmoakhlmgaa
