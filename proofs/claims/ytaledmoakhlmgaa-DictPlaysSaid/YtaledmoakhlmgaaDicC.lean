/- A dictionary: a word of the lists in order. -/
import Derived.Test.YtaledmoakhlmgaaDicB
namespace Go.Proofs.Ytaledmoakhlmgaa
open Go Go.RowKit
set_option linter.unusedSimpArgs false
set_option linter.unusedVariables false

theorem findO_none (s : Dst) (nm : ByteArray) {k : Int} {r : List Int} (h : inD s k nm = none) : findO s nm (k :: r) = findO s nm r := by rw [findO, h]
theorem findO_some (s : Dst) (nm : ByteArray) {k : Int} {r : List Int} {x : Wd} (h : inD s k nm = some x) : findO s nm (k :: r) = some x := by rw [findO, h]

set_option maxHeartbeats 4000000 in
theorem find_ok {w : World} {o : Owner} {i b N : Nat} {s : Dst} (h : DB w o i b s N) (nm : ByteArray) (hn : nm.size ≤ 9223372036854775807) :
    Calls Try.prog 15 #[.pointer (some ⟨b, 0, none⟩), .string nm] w fun e w' => e = .returned (entV (findD s nm)) ∧ ∃ o', Step [] w o w' o' := by
  have st0 := (Step.refl [] w o).alloc (.cells #[.string ByteArray.empty, .int .i64 0, .bool false] 34)
  have hE := E3.new w (.string ByteArray.empty) (.int .i64 0) (.bool false)
  have h1 := h.frame st0 (by simp) (by simp) (by simp) (by simp)
  have hor := order_ok h1 (i + 50)
  obtain ⟨V, hV⟩ : ∃ V, entV (findD s nm) = V := ⟨_, rfl⟩
  rw [hV]
  have HV := Lib.hid hV
  clear hV
  have hbe : (ByteArray.empty : ByteArray) = ⟨#[]⟩ := rfl
  rw [hbe] at hE h1 hor st0
  clear hbe
  obtain ⟨n, hnl⟩ : ∃ n, s.order.length = n := ⟨_, rfl⟩
  have hn8 : n ≤ 8 := by rw [← hnl]; exact h.ok.ol
  have hkin := h.ok.o
  rw [hnl] at hor
  have HNL := Lib.hid hnl
  have HKIN := Lib.hid hkin
  have hl8 := h.ok.l8
  clear hnl hkin
  go_enter Try.func15, Try.ntmps15
  go_wp2_with (go_at_call 22; refine hor.mono ?_; rintro e w1 ⟨v, o1, rfl, hrow, s1⟩; obtain ⟨ao, cap, rfl, g1, g2⟩ := hrow.slice)
  go_loopg [7, 8, 9, 13] n (fun g a7 a8 a9 a wr => ∃ (q : Nat) (o2 : Owner), g = n - q ∧ q ≤ n ∧ a = .int .i64 q ∧ Step [] w1 o1 wr o2 ∧ Hid (findD s nm = findO s nm (s.order.drop q)))
  case atStart => exact ⟨0, o1, rfl, Nat.zero_le _, rfl, Step.refl _ _ _, Lib.hid rfl⟩
  case round =>
    obtain ⟨q, o2, hg, hq, rfl, st, hinv⟩ := hrel
    have HG := Lib.hid hg
    clear hg hor
    have hE3 := (hE.nil s1).nil st
    have hdb := (h1.frame s1 (by simp) (by simp) (by simp) (by simp)).frame st (by simp) (by simp) (by simp) (by simp)
    have hrd := hrow.rd.frame st (by simp)
    have stA := (st0.trans s1).trans st
    by_cases hlt : q < n
    · have hqi : (q : Int) < n := by omega
      have hql : q < s.order.length := by rw [HNL.out]; exact hlt
      obtain ⟨k, hk⟩ : ∃ k, s.order[q] = k := ⟨_, rfl⟩
      have hkr := HKIN.out k (by rw [← hk]; exact List.getElem_mem hql)
      have hdr : s.order.drop q = k :: s.order.drop (q + 1) := by rw [List.drop_eq_getElem_cons hql, hk]
      obtain ⟨ao2, cap2, hv2, g3, g4, g5, g6⟩ := hrd
      simp only [Value.slice.injEq, true_and] at hv2
      obtain ⟨rfl, rfl⟩ := hv2
      obtain ⟨bq, off, rfl, hbq, hoq, hcq⟩ := g6 (by omega)
      have ck := hcq q (.int .i64 k) (by rw [List.getElem?_map, List.getElem?_eq_getElem hql, hk]; rfl)
      have hin := in_ok hdb k ⟨by omega, by omega⟩ nm hn
      have HDR := Lib.hid hdr
      clear hdr hk g5 g6 hcq
      cases hB : inD s k nm with
      | none =>
        rw [hB, entV, show (ByteArray.empty : ByteArray) = ⟨#[]⟩ from rfl] at hin
        have hfn := findO_none s nm (r := s.order.drop (q + 1)) hB
        have HF := Lib.hid hfn
        clear hfn hB
        go_wp2_with (go_at_call 18; refine hin.mono ?_; rintro e w3 ⟨rfl, s3⟩)
        go_roundg (n - (q + 1))
        case measure => rw [HG.out]; omega
        case rel => exact ⟨q + 1, o2, rfl, by omega, by go_num, (st.trans s3).alloc _, Lib.hid (by rw [hinv.out, HDR.out, HF.out])⟩
      | some x =>
        rw [hB, entV] at hin
        have hv : V = .tuple #[.agg #[.string x.nm, .int .i64 x.xt, .bool x.now], .bool true] := by rw [← HV.out, hinv.out, HDR.out, findO_some s nm hB]; rfl
        subst hv
        clear hB
        go_wp2_with (go_at_call 18; refine hin.mono ?_; rintro e w3 ⟨rfl, s3⟩; have hE4 := (hE3.nil s3).nil ((Step.refl [] w3 o2).alloc (.cells #[.string x.nm, .int .i64 x.xt, .bool x.now] 34)); obtain ⟨x0, x1, x2, x3, x4, x5⟩ := hE4.cells)
        obtain ⟨h0, h1', h2, -⟩ := (hE4.set (.string x.nm) (.int .i64 x.xt) (.bool x.now)).cells
        have stF := ((stA.trans s3).alloc (.cells #[.string x.nm, .int .i64 x.xt, .bool x.now] 34)).set3 (Nat.le_refl _) (.string x.nm) (.int .i64 x.xt) (.bool x.now)
        refine bodyPost_ret (v := .tuple #[.agg #[.string x.nm, .int .i64 x.xt, .bool x.now], .bool true]) (by simp only [results, Try.results15]; simp [go_sem, h0, h1', h2]) rfl ⟨rfl, o2, stF⟩
    · obtain rfl : q = n := by omega
      have hqi : ¬ (q : Int) < q := by omega
      have hfn : findD s nm = none := by rw [hinv.out, List.drop_of_length_le (by rw [HNL.out]; exact Nat.le_refl _)]; rfl
      have hv : V = .tuple #[.agg #[.string ⟨#[]⟩, .int .i64 0, .bool false], .bool false] := by rw [← HV.out, hfn]; rfl
      subst hv
      obtain ⟨x0, x1, x2, x3, x4, x5⟩ := hE3.cells
      obtain ⟨h0, h1', h2, -⟩ := (hE3.set (.string ⟨#[]⟩) (.int .i64 0) (.bool false)).cells
      have stF := stA.set3 (Nat.le_refl _) (.string ⟨#[]⟩) (.int .i64 0) (.bool false)
      clear hfn hinv
      go_wp2_with fail
      refine bodyPost_ret (v := .tuple #[.agg #[.string ⟨#[]⟩, .int .i64 0, .bool false], .bool false]) (by simp only [results, Try.results15]; simp [go_sem, h0, h1', h2]) rfl ⟨rfl, o2, stF⟩
end Go.Proofs.Ytaledmoakhlmgaa
