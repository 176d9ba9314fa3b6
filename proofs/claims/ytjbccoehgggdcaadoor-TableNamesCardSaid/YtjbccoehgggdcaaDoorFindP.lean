/- Contracts: slices.IndexFunc at the table with Find's closure; Find. -/
import Derived.Test.YtjbccoehgggdcaaDoorSeek
import Derived.Lib.Strings
import Derived.Shelf.Abstract
namespace Go.Proofs.YtjbccoehgggdcaaDoor
open Go Go.RowKit Go.Shelf
set_option linter.unusedSimpArgs false
set_option linter.unusedVariables false

theorem teq (a b : ByteArray) : (a.toList == b.toList) = decide (a = b) := by
  rw [Lib.toList_data, Lib.toList_data]
  by_cases h : a = b
  · subst h
    rw [decide_eq_true rfl, beq_self_eq_true]
  · rw [decide_eq_false h, beq_eq_false_iff_ne]
    exact fun e => h (lst_inj e)

theorem cl_ok (t : ByteArray) (c : Nat) (b : B) (W : World) (o : Owner) (hc : W.cell? ⟨c, 0, none⟩ = some (.string t)) :
    Calls Tryd.prog 16 #[.agg #[.string b.name, .int .i64 b.k, .int .i64 b.n, .bool b.now, .bool b.only], .pointer (some ⟨c, 0, none⟩)] W fun e w' => e = .returned (.bool (decide (b.name = t))) ∧ Step [] W o w' o := by
  have hb : c < W.heap.size := World.block_lt_of_cell? W _ hc
  have hne : c ≠ W.heap.size := by omega
  go_enter Tryd.func16, Tryd.ntmps16
  go_wp2_with fail
  go_ret
  exact ⟨by rw [teq]; rfl, (Step.refl _ _ _).alloc _⟩

set_option maxHeartbeats 4000000 in
theorem ixf_ok {w : World} {o : Owner} {i g cap c ic : Nat} {t : ByteArray} (hx : Rowx w o i 24 5 g 180 cap (bcells built)) (hc : Blk w o ic c 9 #[.string t]) :
    Calls Tryd.prog 15 #[.slice (some ⟨g, 0, none⟩) 180 cap, .func (.func 16) #[] #[.pointer (some ⟨c, 0, none⟩)]] w fun e w' => e = .returned (.int .i64 (seekI t)) ∧ Step [] w o w' o := by
  have eg : ∀ args w, (callFunc 16 args).run Tryd.prog w = .ok (.enter 16 args) w := enters_of Tryd.func16 (by kernel_rfl) rfl
  have hbl := built_length
  go_enter Tryd.func15, Tryd.ntmps15
  go_wp2_with fail
  go_loopg [8] 180 (fun gg v wr => ∃ j : Nat, gg = 180 - j ∧ j ≤ 180 ∧ v = .int .i64 j ∧ Step [] w o wr o ∧ Aside (∀ q (hq : q < built.length), q < j → built[q].name ≠ t))
  case atStart => exact ⟨0, rfl, by decide, rfl, Step.refl _ _ _, fun q _ hq => absurd hq (by omega)⟩
  case round =>
    obtain ⟨j, hg, hj, rfl, st, A⟩ := hrel
    have HG := Lib.hid hg
    have HBL := Lib.hid hbl
    clear hg hbl
    by_cases hlt : j < 180
    · have hji : (j : Int) < 180 := by omega
      have hjb : j < built.length := by rw [HBL.out]; exact hlt
      obtain ⟨y0, y1, y2, y3, y4⟩ := word_at (hx.frame st (by simp)) hjb
      have hcl := cl_ok t c built[j] wr o ((hc.frame st (by simp)).cell0)
      obtain ⟨b, hb⟩ : ∃ b, built[j] = b := ⟨_, rfl⟩
      rw [hb] at y0 y1 y2 y3 y4 hcl
      have HB := Lib.hid hb
      clear hb
      by_cases e : b.name = t
      · rw [decide_eq_true e] at hcl
        have HE := Lib.hid e
        clear e
        go_wp2_with (go_at_call 16; refine hcl.mono ?_; rintro e w' ⟨rfl, s2⟩)
        go_ret
        exact ⟨by rw [seek_at hjb ((congrArg B.name HB.out).trans HE.out)]; rfl, st.trans s2⟩
      · rw [decide_eq_false e] at hcl
        have HE := Lib.hid e
        clear e
        go_wp2_with (go_at_call 16; refine hcl.mono ?_; rintro e w' ⟨rfl, s2⟩)
        go_roundg (180 - (j + 1))
        case measure => rw [HG.out]; omega
        case rel =>
          refine ⟨j + 1, rfl, by omega, by go_num, st.trans s2, (show Aside _ from fun q hq hlt => ?_)⟩
          by_cases hqj : q = j
          · subst hqj
            rw [HB.out]
            exact HE.out
          · exact A.out q hq (by omega)
    · obtain rfl : j = 180 := by omega
      have hji : ¬ ((180 : Nat) : Int) < 180 := by omega
      go_wp2_with fail
      go_ret
      exact ⟨by rw [seek_miss (fun q hq => A.out q hq (by rw [HBL.out] at hq; exact hq))]; rfl, st⟩

/-- A word's block: its five cells. -/
theorem box_facts {w : World} {o : Owner} {i b : Nat} {v0 v1 v2 v3 v4 : Value} (h : Blk w o i b 24 #[v0, v1, v2, v3, v4]) :
    (w.cell? ⟨b, 0, none⟩ = some v0 ∧ w.cell? ⟨b, 1, none⟩ = some v1 ∧ w.cell? ⟨b, 2, none⟩ = some v2 ∧ w.cell? ⟨b, 3, none⟩ = some v3 ∧ w.cell? ⟨b, 4, none⟩ = some v4) ∧
      (w.frozen? ⟨b, 0, none⟩ = false ∧ w.frozen? ⟨b, 1, none⟩ = false ∧ w.frozen? ⟨b, 2, none⟩ = false ∧ w.frozen? ⟨b, 3, none⟩ = false ∧ w.frozen? ⟨b, 4, none⟩ = false) :=
  ⟨⟨h.cell 0, h.cell 1, h.cell 2, h.cell 3, h.cell 4⟩, ⟨h.frozen 0, h.frozen 1, h.frozen 2, h.frozen 3, h.frozen 4⟩⟩

set_option maxRecDepth 100000 in
set_option maxHeartbeats 4000000 in
theorem find_ok (s : ByteArray) (hs : s.size ≤ 1000000) {w : World} {o : Owner} (hm : ML w o) :
    Calls Tryd.prog 8 #[.string s] w fun e w' => e = .returned (findV (low s)) ∧ ∃ o', Step [] w o w' o' := by
  obtain ⟨w0, hw0⟩ : ∃ w0, w0 = w.alloc (.cells #[.string ByteArray.empty, .int .i64 0, .int .i64 0, .bool false, .bool false] 24) := ⟨_, rfl⟩
  have s0 : Step [] w o w0 (o.set w.heap.size 90) := by rw [hw0]; exact ((Step.refl _ _ _).alloc _).give (Nat.le_refl _) _
  have hR : Blk w0 (o.set w.heap.size 90) 90 w.heap.size 24 #[.string ByteArray.empty, .int .i64 0, .int .i64 0, .bool false, .bool false] := by rw [hw0]; exact Blk.new w o 90 _ _
  have hall := all_ok (hm.frame s0 (by simp)) 91
  rw [hw0] at hall
  have HW0 := Lib.hid hw0
  clear hw0
  go_enter Tryd.func8, Tryd.ntmps8
  go_wp2_with fail
  refine hall.mono ?_
  rintro e w1 ⟨v, o1, rfl, hx1, s1⟩
  rw [← HW0.out] at s1
  have hR1 := hR.frame s1 (by simp)
  have hm1 : ML w1 o1 := (hm.frame s0 (by simp)).frame s1 (by simp)
  have hf := fold_ok s hs w1 o1
  obtain ⟨g, cap, rfl, hg1⟩ := hx1.rowx (by decide)
  have S1 := s0.trans s1
  clear hall hR hx1 s0 s1 HW0
  go_wp2_with fail
  refine hf.mono ?_
  rintro e w2 ⟨rfl, s2⟩
  obtain ⟨t, ht⟩ : ∃ t, low s = t := ⟨_, rfl⟩
  rw [ht]
  have HT := Lib.hid ht
  obtain ⟨w3, hw3⟩ : ∃ w3, w3 = w2.alloc (.cells #[.string t] 9) := ⟨_, rfl⟩
  have s3 : Step [] w2 o1 w3 (o1.set w2.heap.size 92) := by rw [hw3]; exact ((Step.refl _ _ _).alloc _).give (Nat.le_refl _) _
  have hC : Blk w3 (o1.set w2.heap.size 92) 92 w2.heap.size 9 #[.string t] := by rw [hw3]; exact Blk.new w2 o1 92 _ _
  have hix := ixf_ok ((hg1.frame s2 (by simp)).frame s3 (by simp)) hC
  have hR3 := (hR1.frame s2 (by simp)).frame s3 (by simp)
  have hg3 := (hg1.frame s2 (by simp)).frame s3 (by simp)
  have S3 := (S1.trans s2).trans s3
  have HW3 := Lib.hid hw3
  rw [hw3] at hix
  clear hf hw3 ht hR1 hg1 S1 s2 s3 hC
  obtain ⟨b0, hb0⟩ : ∃ b0, w.heap.size = b0 := ⟨_, rfl⟩
  rw [hb0] at hR3 ⊢
  have HB0 := Lib.hid hb0
  clear hb0
  go_wp2_with fail
  refine hix.mono ?_
  rintro e w4 ⟨rfl, s4⟩
  rw [← HW3.out] at s4
  obtain ⟨⟨r0, r1, r2, r3, r4⟩, f0, f1, f2, f3, f4⟩ := box_facts (hR3.frame s4 (by simp))
  have S4 := S3.trans s4
  have hg4 := hg3.frame s4 (by simp)
  clear hix hR3 hg3 S3 s4
  rcases seek_casesb t with ⟨j, b, hb, hjb, hs1, hs2, hfv⟩ | ⟨hs1, hfv, hs2⟩
  · have HFV := Lib.hid hfv
    rw [hs1]
    have hji : (j : Int) < 180 := by omega
    have hj0 : ¬ (j : Int) < 0 := by omega
    obtain ⟨y0, y1, y2, y3, y4⟩ := word_atb hg4 hb
    clear hs1 hs2 hfv hb hg4
    go_wp2_with fail
    simp [bodyPost, results, Tryd.results8, go_sem, r0, r1, r2, r3, r4, f0, f1, f2, f3, f4]
    have hn : ∀ j, (⟨b0, j, none⟩ : Addr).block < w.heap.size → o b0 ∈ ([] : List Nat) := fun j h => absurd h (by show ¬ b0 < w.heap.size; rw [HB0.out]; omega)
    refine ⟨?_, _, ((((S4.setCell (hn 0) _).setCell (hn 1) _).setCell (hn 2) _).setCell (hn 3) _).setCell (hn 4) _⟩
    rw [HT.out, HFV.out]
    rfl
  · have HFV := Lib.hid hfv
    rw [hs1]
    clear hs1 hs2 hfv hg4
    go_wp2_with fail
    simp [bodyPost, results, Tryd.results8, go_sem, r0, r1, r2, r3, r4, f0, f1, f2, f3, f4]
    have hn : ∀ j, (⟨b0, j, none⟩ : Addr).block < w.heap.size → o b0 ∈ ([] : List Nat) := fun j h => absurd h (by show ¬ b0 < w.heap.size; rw [HB0.out]; omega)
    refine ⟨?_, _, ((((S4.setCell (hn 0) _).setCell (hn 1) _).setCell (hn 2) _).setCell (hn 3) _).setCell (hn 4) _⟩
    rw [HT.out, HFV.out]
    rfl
end Go.Proofs.YtjbccoehgggdcaaDoor
