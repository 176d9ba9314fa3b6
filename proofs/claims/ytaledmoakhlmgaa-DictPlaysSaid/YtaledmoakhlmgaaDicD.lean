/- A dictionary: a word is added. -/
import Derived.Test.YtaledmoakhlmgaaDicC
import Derived.Deep.CutRange
import Derived.Deep.RegionHeld3
namespace Go.Proofs.Ytaledmoakhlmgaa
open Go Go.RowKit
set_option linter.unusedSimpArgs false
set_option linter.unusedVariables false

theorem info72 : (Try.prog.info? 72).map (fun i => (i.zero, i.size, i.bytes)) = some (some (.agg #[.string ByteArray.empty, .int .i64 0, .bool false, .string ByteArray.empty, .int .i64 0, .int .i64 0]), 6, 64) := by kernel_rfl

/-- A new block with a word's six cells. -/
structure CutH (w : World) (o : Owner) (u0 u1 u2 u3 u4 u5 : Value) (c7 : Value) (wx : World) : Prop where
  blk : ∃ z, c7 = .pointer (some ⟨z, 0, none⟩) ∧ w.heap.size ≤ z ∧ wx.heap[z]? = some (.cells #[u0, u1, u2, u3, u4, u5] 72 (0, 0))
  st : Step [] w o wx o

theorem em_nm (nm : ByteArray) : nm.toList.isEmpty = decide (nm.size = 0) := by
  rw [Lib.toList_data, Lib.size_eq]
  cases nm.data.toList <;> simp

/-- Six cells in a block, whoever owns it. -/
def E6 (w : World) (z : Nat) (u0 u1 u2 u3 u4 u5 : Value) : Prop := w.heap[z]? = some (.cells #[u0, u1, u2, u3, u4, u5] 72 (0, 0))
theorem E6.nil {w w' : World} {o o' : Owner} {z : Nat} {u0 u1 u2 u3 u4 u5 : Value} (h : E6 w z u0 u1 u2 u3 u4 u5) (st : Step [] w o w' o') : E6 w' z u0 u1 u2 u3 u4 u5 := st.obj h (by simp)
theorem E6.cells {w : World} {z : Nat} {u0 u1 u2 u3 u4 u5 : Value} (h : E6 w z u0 u1 u2 u3 u4 u5) :
    (w.cell? ⟨z, 0, none⟩ = some u0 ∧ w.cell? ⟨z, 1, none⟩ = some u1 ∧ w.cell? ⟨z, 2, none⟩ = some u2 ∧ w.cell? ⟨z, 3, none⟩ = some u3 ∧ w.cell? ⟨z, 4, none⟩ = some u4 ∧ w.cell? ⟨z, 5, none⟩ = some u5) ∧
    (w.frozen? ⟨z, 0, none⟩ = false ∧ w.frozen? ⟨z, 1, none⟩ = false ∧ w.frozen? ⟨z, 2, none⟩ = false ∧ w.frozen? ⟨z, 3, none⟩ = false ∧ w.frozen? ⟨z, 4, none⟩ = false ∧ w.frozen? ⟨z, 5, none⟩ = false) := by
  unfold E6 at h
  simp [World.cell?, World.frozen?, h]
theorem E6.set {w : World} {z : Nat} {u0 u1 u2 u3 u4 u5 : Value} (h : E6 w z u0 u1 u2 u3 u4 u5) (v0 v1 v2 v3 v4 v5 : Value) :
    E6 ((((((w.setCell ⟨z, 0, none⟩ v0).setCell ⟨z, 1, none⟩ v1).setCell ⟨z, 2, none⟩ v2).setCell ⟨z, 3, none⟩ v3).setCell ⟨z, 4, none⟩ v4).setCell ⟨z, 5, none⟩ v5) z v0 v1 v2 v3 v4 v5 := by
  unfold E6 at *
  rw [heap_setCell_same (heap_setCell_same (heap_setCell_same (heap_setCell_same (heap_setCell_same (heap_setCell_same h _ _) _ _) _ _) _ _) _ _) _ _]
  rfl
theorem Step.set6 {S : List Nat} {w w' : World} {o o' : Owner} (h : Step S w o w' o') {z : Nat} (hz : w.heap.size ≤ z) (v0 v1 v2 v3 v4 v5 : Value) :
    Step S w o ((((((w'.setCell ⟨z, 0, none⟩ v0).setCell ⟨z, 1, none⟩ v1).setCell ⟨z, 2, none⟩ v2).setCell ⟨z, 3, none⟩ v3).setCell ⟨z, 4, none⟩ v4).setCell ⟨z, 5, none⟩ v5) o' :=
  ((h.set3 hz v0 v1 v2).setCell (a := ⟨z, 3, none⟩) (fun hb => absurd hb (by show ¬ z < _; omega)) v3).setCell (a := ⟨z, 4, none⟩) (fun hb => absurd hb (by show ¬ z < _; omega)) v4 |>.setCell (a := ⟨z, 5, none⟩) (fun hb => absurd hb (by show ¬ z < _; omega)) v5

set_option maxRecDepth 100000 in
set_option maxHeartbeats 40000000 in
theorem add_ok {w : World} {o : Owner} {i b N : Nat} {s : Dst} (h : DB w o i b s N) (hN : N < 1000000000) (nm : ByteArray) (hn : nm.size ≤ 1000000) (xt : Int) :
    Calls Try.prog 11 #[.pointer (some ⟨b, 0, none⟩), .string nm, .int .i64 xt] w fun e w' => e = .returned (.int .i64 (addE s nm)) ∧ ∃ o', DB w' o' i b (addS s nm xt) (N + 1) ∧ Step [i, i + 1, i + 3] w o w' o' := by
  have hem := em_nm nm
  have h0 := h
  obtain ⟨ok, hv, mb, ov, hb, hr, hr2, hm⟩ := h
  obtain ⟨c0, c1, c2, c3, c4, -⟩ := hb.cells5
  obtain ⟨ao, cap, rfl, g1, g2⟩ := hr.slice
  by_cases he : nm.size = 0
  · have hE : addE s nm = -16 := by unfold addE; rw [if_pos he]
    have hS : addS s nm xt = s := by unfold addS; rw [hE, if_neg (by decide)]
    rw [decide_eq_true he] at hem
    rw [hE, hS]
    clear hb hr hr2 hm he
    go_enter Try.func11, Try.ntmps11
    go_wp2_with fail
    go_ret
    exact ⟨rfl, o, h0.mono (by omega), Step.refl _ _ _⟩
  · rw [decide_eq_false he] at hem
    have hsz0 : (0 : Int) < nm.size := by omega
    by_cases he2 : 31 < nm.size
    · have hE : addE s nm = -19 := by unfold addE; rw [if_neg he, if_pos he2]
      have hS : addS s nm xt = s := by unfold addS; rw [hE, if_neg (by decide)]
      have hi : (31 : Int) < nm.size := by omega
      rw [hE, hS]
      clear hb hr hr2 hm he
      go_enter Try.func11, Try.ntmps11
      go_wp2_with fail
      go_ret
      exact ⟨rfl, o, h0.mono (by omega), Step.refl _ _ _⟩
    · have hi : ¬ (31 : Int) < nm.size := by omega
      by_cases he3 : 2000 ≤ s.ws.length
      · have hE : addE s nm = -8 := by unfold addE; rw [if_neg he, if_neg he2, if_pos he3]
        have hS : addS s nm xt = s := by unfold addS; rw [hE, if_neg (by decide)]
        have hi3 : (2000 : Int) ≤ s.ws.length := by omega
        rw [hE, hS]
        clear hb hr hr2 hm he
        go_enter Try.func11, Try.ntmps11
        go_wp2_with fail
        go_ret
        exact ⟨rfl, o, h0.mono (by omega), Step.refl _ _ _⟩
      · have hE : addE s nm = 0 := by unfold addE; rw [if_neg he, if_neg he2, if_neg he3]
        have hS : addS s nm xt = { s with ws := ⟨nm, xt, false, s.cur⟩ :: s.ws } := by unfold addS; rw [if_pos hE]
        have hi3 : ¬ (2000 : Int) ≤ s.ws.length := by omega
        have hokS := addS_ok ok nm xt
        rw [hS] at hokS
        rw [hE, hS]
        have hfo := fun w => fold_ok nm (by omega) w o
        have hcur : I64 s.cur := ⟨by have := ok.c1; omega, by have := ok.c2; have := ok.l8; omega⟩
        have hlook := fun w' (st : Step [] w o w' o) => (hm.frame st (by simp)).look ok.c1 ok.c2 hcur
        have hbl := fun w' (st : Step [] w o w' o) => (hb.frame st (by simp)).cells5
        obtain ⟨lk, hlk⟩ : ∃ lk, ix s.cur s.ws = lk := ⟨_, rfl⟩
        have HLK := Lib.hid hlk
        simp only [hlk] at hlook
        have HLOOK := Lib.hid hlook
        have HBL := Lib.hid hbl
        have HOK := Lib.hid hokS
        have hokS0 : s.ws.length < 2000 := by omega
        clear hlook hbl hlk hE hS hokS h0 he he2 he3
        go_enter Try.func11, Try.ntmps11
        go_upto_region 9 with fail
        go_cut [7] from 25 to 44 (fun c7 wx => CutH w o (.string nm) (.int .i64 xt) (.bool false) (.string (low nm)) (.int .i64 s.cur) (.int .i64 lk) c7 wx)
        case first =>
          have MK : Hid (∀ W, Step [] w o W o → Step [] w o W o ∧ W.cell? ⟨b, 4, none⟩ = some (.int .i64 s.cur) ∧ W.cell? ⟨b, 1, none⟩ = some (.map (some mb)) ∧ (Instr.lookup 66 (.map (some mb)) (.int .i64 s.cur) false).run Try.prog W = .ok (.int .i64 lk) W) :=
            Lib.hid fun W st => ⟨st, (HBL.out W st).2.2.2.2.1, (HBL.out W st).2.1, HLOOK.out W st⟩
          have st1 := Step.refl [] w o
          have hl0 := (MK.out w st1).2.2.2
          have E0a : E6 ((w.alloc (.cells #[.string ⟨#[]⟩, .int .i64 0, .bool false, .string ⟨#[]⟩, .int .i64 0, .int .i64 0] 72)).drew) w.heap.size (.string ⟨#[]⟩) (.int .i64 0) (.bool false) (.string ⟨#[]⟩) (.int .i64 0) (.int .i64 0) := heap_alloc_new _ _
          have E0b : E6 ((w.drew).alloc (.cells #[.string ⟨#[]⟩, .int .i64 0, .bool false, .string ⟨#[]⟩, .int .i64 0, .int .i64 0] 72)) w.heap.size (.string ⟨#[]⟩) (.int .i64 0) (.bool false) (.string ⟨#[]⟩) (.int .i64 0) (.int .i64 0) := heap_alloc_new _ _
          clear hb hr hr2 hm HLOOK HBL hi3 hi hsz0 hem hcur g1 g2 c0 c2 c3 ok HOK
          refine wp_region_held_drew (S := fun W => Step [] w o W o ∧ W.cell? ⟨b, 4, none⟩ = some (.int .i64 s.cur) ∧ W.cell? ⟨b, 1, none⟩ = some (.map (some mb)) ∧ (Instr.lookup 66 (.map (some mb)) (.int .i64 s.cur) false).run Try.prog W = .ok (.int .i64 lk) W) (by kernel_rfl) (MK.out _ st1.drew) (fun hHeld => ?_)
          refine wpAnyH_take (i := 0) (oi := ?_) (v := ?_) ?_ (by kernel_rfl) (by kernel_rfl) (by kernel_rfl) ?_ (Or.inl ⟨?_, ?_⟩) ?_ ?_; rotate_left 2
          · (simp only [List.getElem?_toArray, List.getElem?_cons_succ, List.getElem?_cons_zero]; rfl)
          · exact fun _ _ _ h => h
          · rfl
          · (intro w hSw; (try dsimp only at hSw); obtain ⟨sw1, sw2, sw3, sw4⟩ := hSw; first | (go_simp; done) | (go_simp; with_reducible rfl))
          · assumption
          try simp only [Act.put, List.setIfInBounds_toArray, List.set_cons_zero, List.set_cons_succ]
          refine wpAnyH_take (i := 1) (oi := ?_) (v := ?_) ?_ (by kernel_rfl) (by kernel_rfl) (by kernel_rfl) ?_ (Or.inl ⟨?_, ?_⟩) ?_ ?_; rotate_left 2
          · (simp only [List.getElem?_toArray, List.getElem?_cons_succ, List.getElem?_cons_zero]; rfl)
          · exact fun _ _ _ h => h
          · rfl
          · (intro w hSw; (try dsimp only at hSw); obtain ⟨sw1, sw2, sw3, sw4⟩ := hSw; first | (go_simp; done) | (go_simp; with_reducible rfl))
          · assumption
          try simp only [Act.put, List.setIfInBounds_toArray, List.set_cons_zero, List.set_cons_succ]
          refine wpAnyH_take (i := 2) (oi := ?_) (v := ?_) ?_ (by kernel_rfl) (by kernel_rfl) (by kernel_rfl) ?_ (Or.inl ⟨?_, ?_⟩) ?_ ?_; rotate_left 2
          · (simp only [List.getElem?_toArray, List.getElem?_cons_succ, List.getElem?_cons_zero]; rfl)
          · exact fun _ _ _ h => h
          · rfl
          · (intro w hSw; (try dsimp only at hSw); obtain ⟨sw1, sw2, sw3, sw4⟩ := hSw; first | (go_simp; done) | (go_simp; with_reducible rfl))
          · assumption
          try simp only [Act.put, List.setIfInBounds_toArray, List.set_cons_zero, List.set_cons_succ]
          refine wpAnyH_take (i := 3) (oi := ?_) (v := ?_) ?_ (by kernel_rfl) (by kernel_rfl) (by kernel_rfl) ?_ (Or.inl ⟨?_, ?_⟩) ?_ ?_; rotate_left 2
          · (simp only [List.getElem?_toArray, List.getElem?_cons_succ, List.getElem?_cons_zero]; rfl)
          · exact fun _ _ _ h => h
          · rfl
          · (intro w hSw; (try dsimp only at hSw); obtain ⟨sw1, sw2, sw3, sw4⟩ := hSw; first | (go_simp; done) | (go_simp; with_reducible rfl))
          · assumption
          try simp only [Act.put, List.setIfInBounds_toArray, List.set_cons_zero, List.set_cons_succ]
          refine wpAnyH_take (i := 5) (oi := ?_) (v := ?_) ?_ (by kernel_rfl) (by kernel_rfl) (by kernel_rfl) ?_ (Or.inl ⟨?_, ?_⟩) ?_ ?_; rotate_left 2
          · (simp only [List.getElem?_toArray, List.getElem?_cons_succ, List.getElem?_cons_zero]; rfl)
          · exact fun _ _ _ h => h
          · rfl
          · (intro w hSw; (try dsimp only at hSw); obtain ⟨sw1, sw2, sw3, sw4⟩ := hSw; first | (go_simp; done) | (go_simp; with_reducible rfl))
          · assumption
          try simp only [Act.put, List.setIfInBounds_toArray, List.set_cons_zero, List.set_cons_succ]
          refine wpAnyH_take (i := 6) (oi := ?_) (v := ?_) ?_ (by kernel_rfl) (by kernel_rfl) (by kernel_rfl) ?_ (Or.inl ⟨?_, ?_⟩) ?_ ?_; rotate_left 2
          · (simp only [List.getElem?_toArray, List.getElem?_cons_succ, List.getElem?_cons_zero]; rfl)
          · exact fun _ _ _ h => h
          · rfl
          · (intro w hSw; (try dsimp only at hSw); obtain ⟨sw1, sw2, sw3, sw4⟩ := hSw; first | (go_simp; done) | (go_simp; with_reducible rfl))
          · assumption
          try simp only [Act.put, List.setIfInBounds_toArray, List.set_cons_zero, List.set_cons_succ]
          refine wpAnyH_take (i := 7) (oi := ?_) (v := ?_) ?_ (by kernel_rfl) (by kernel_rfl) (by kernel_rfl) ?_ (Or.inl ⟨?_, ?_⟩) ?_ ?_; rotate_left 2
          · (simp only [List.getElem?_toArray, List.getElem?_cons_succ, List.getElem?_cons_zero]; rfl)
          · exact fun _ _ _ h => h
          · rfl
          · (intro w hSw; (try dsimp only at hSw); obtain ⟨sw1, sw2, sw3, sw4⟩ := hSw; first | (go_simp; done) | (go_simp; with_reducible rfl))
          · assumption
          try simp only [Act.put, List.setIfInBounds_toArray, List.set_cons_zero, List.set_cons_succ]
          refine wpAnyH_take (i := 8) (oi := ?_) (v := ?_) ?_ (by kernel_rfl) (by kernel_rfl) (by kernel_rfl) ?_ (Or.inl ⟨?_, ?_⟩) ?_ ?_; rotate_left 2
          · (simp only [List.getElem?_toArray, List.getElem?_cons_succ, List.getElem?_cons_zero]; rfl)
          · exact fun _ _ _ h => h
          · rfl
          · (intro w hSw; (try dsimp only at hSw); obtain ⟨sw1, sw2, sw3, sw4⟩ := hSw; first | (go_simp; done) | (go_simp; with_reducible rfl))
          · assumption
          try simp only [Act.put, List.setIfInBounds_toArray, List.set_cons_zero, List.set_cons_succ]
          refine wpAnyH_take (i := 9) (oi := ?_) (v := ?_) ?_ (by kernel_rfl) (by kernel_rfl) (by kernel_rfl) ?_ (Or.inl ⟨?_, ?_⟩) ?_ ?_; rotate_left 2
          · (simp only [List.getElem?_toArray, List.getElem?_cons_succ, List.getElem?_cons_zero]; rfl)
          · exact fun _ _ _ h => h
          · rfl
          · (intro w hSw; (try dsimp only at hSw); obtain ⟨sw1, sw2, sw3, sw4⟩ := hSw; first | (go_simp; done) | (go_simp; with_reducible rfl))
          · assumption
          try simp only [Act.put, List.setIfInBounds_toArray, List.set_cons_zero, List.set_cons_succ]
          refine wpAnyH_take (i := 10) (oi := ?_) (v := ?_) ?_ (by kernel_rfl) (by kernel_rfl) (by kernel_rfl) ?_ (Or.inl ⟨?_, ?_⟩) ?_ ?_; rotate_left 2
          · (simp only [List.getElem?_toArray, List.getElem?_cons_succ, List.getElem?_cons_zero]; rfl)
          · exact fun _ _ _ h => h
          · rfl
          · (intro w hSw; (try dsimp only at hSw); obtain ⟨sw1, sw2, sw3, sw4⟩ := hSw; first | (go_simp; done) | (go_simp; with_reducible rfl))
          · assumption
          try simp only [Act.put, List.setIfInBounds_toArray, List.set_cons_zero, List.set_cons_succ]
          refine wpAnyH_take (i := 11) (oi := ?_) (v := ?_) ?_ (by kernel_rfl) (by kernel_rfl) (by kernel_rfl) ?_ (Or.inl ⟨?_, ?_⟩) ?_ ?_; rotate_left 2
          · (simp only [List.getElem?_toArray, List.getElem?_cons_succ, List.getElem?_cons_zero]; rfl)
          · exact fun _ _ _ h => h
          · rfl
          · (intro w hSw; (try dsimp only at hSw); obtain ⟨sw1, sw2, sw3, sw4⟩ := hSw; first | (go_simp; done) | (go_simp; with_reducible rfl))
          · assumption
          try simp only [Act.put, List.setIfInBounds_toArray, List.set_cons_zero, List.set_cons_succ]
          refine wpAnyH_take (i := 12) (oi := ?_) (v := ?_) ?_ (by kernel_rfl) (by kernel_rfl) (by kernel_rfl) ?_ (Or.inl ⟨?_, ?_⟩) ?_ ?_; rotate_left 2
          · (simp only [List.getElem?_toArray, List.getElem?_cons_succ, List.getElem?_cons_zero]; rfl)
          · exact fun _ _ _ h => h
          · rfl
          · (intro w hSw; (try dsimp only at hSw); obtain ⟨sw1, sw2, sw3, sw4⟩ := hSw; first | (go_simp; done) | (go_simp; with_reducible rfl))
          · assumption
          try simp only [Act.put, List.setIfInBounds_toArray, List.set_cons_zero, List.set_cons_succ]
          refine wpAnyH_take (i := 13) (oi := ?_) (v := ?_) ?_ (by kernel_rfl) (by kernel_rfl) (by kernel_rfl) ?_ (Or.inl ⟨?_, ?_⟩) ?_ ?_; rotate_left 2
          · (simp only [List.getElem?_toArray, List.getElem?_cons_succ, List.getElem?_cons_zero]; rfl)
          · exact fun _ _ _ h => h
          · rfl
          · (intro w hSw; (try dsimp only at hSw); obtain ⟨sw1, sw2, sw3, sw4⟩ := hSw; first | (go_simp; done) | (go_simp; with_reducible rfl))
          · assumption
          try simp only [Act.put, List.setIfInBounds_toArray, List.set_cons_zero, List.set_cons_succ]
          refine wpAnyH_take (i := 14) (oi := ?_) (v := ?_) ?_ (by kernel_rfl) (by kernel_rfl) (by kernel_rfl) ?_ (Or.inl ⟨?_, ?_⟩) ?_ ?_; rotate_left 2
          · (simp only [List.getElem?_toArray, List.getElem?_cons_succ, List.getElem?_cons_zero]; rfl)
          · exact fun _ _ _ h => h
          · rfl
          · (intro w hSw; (try dsimp only at hSw); obtain ⟨sw1, sw2, sw3, sw4⟩ := hSw; first | (go_simp; done) | (go_simp; with_reducible rfl))
          · assumption
          try simp only [Act.put, List.setIfInBounds_toArray, List.set_cons_zero, List.set_cons_succ]
          refine wpAnyH_take (i := 15) (oi := ?_) (v := ?_) ?_ (by kernel_rfl) (by kernel_rfl) (by kernel_rfl) ?_ (Or.inl ⟨?_, ?_⟩) ?_ ?_; rotate_left 2
          · (simp only [List.getElem?_toArray, List.getElem?_cons_succ, List.getElem?_cons_zero]; rfl)
          · exact fun _ _ _ h => h
          · rfl
          · (intro w hSw; (try dsimp only at hSw); obtain ⟨sw1, sw2, sw3, sw4⟩ := hSw; first | (go_simp; done) | (go_simp; with_reducible rfl))
          · assumption
          try simp only [Act.put, List.setIfInBounds_toArray, List.set_cons_zero, List.set_cons_succ]
          refine wpAnyH_take (i := 16) (oi := ?_) (v := ?_) ?_ (by kernel_rfl) (by kernel_rfl) (by kernel_rfl) ?_ (Or.inl ⟨?_, ?_⟩) ?_ ?_; rotate_left 2
          · (simp only [List.getElem?_toArray, List.getElem?_cons_succ, List.getElem?_cons_zero]; rfl)
          · exact fun _ _ _ h => h
          · rfl
          · (intro w hSw; (try dsimp only at hSw); obtain ⟨sw1, sw2, sw3, sw4⟩ := hSw; first | (go_simp; done) | (go_simp; with_reducible rfl))
          · assumption
          try simp only [Act.put, List.setIfInBounds_toArray, List.set_cons_zero, List.set_cons_succ]
          refine wpAnyH_take (i := 17) (oi := ?_) (v := ?_) ?_ (by kernel_rfl) (by kernel_rfl) (by kernel_rfl) ?_ (Or.inl ⟨?_, ?_⟩) ?_ ?_; rotate_left 2
          · (simp only [List.getElem?_toArray, List.getElem?_cons_succ, List.getElem?_cons_zero]; rfl)
          · exact fun _ _ _ h => h
          · rfl
          · (intro w hSw; (try dsimp only at hSw); obtain ⟨sw1, sw2, sw3, sw4⟩ := hSw; first | (go_simp; done) | (go_simp; with_reducible rfl))
          · assumption
          try simp only [Act.put, List.setIfInBounds_toArray, List.set_cons_zero, List.set_cons_succ]
          refine wpAnyH_ready (rs := [4, 19]) (by kernel_rfl) (by simp) ?_
          refine AllReadyH.cons (o := ?_) ?_ ?_ ?_; rotate_left 1
          · (simp only [List.getElem?_toArray, List.getElem?_cons_succ, List.getElem?_cons_zero]; rfl)
          · intro K hK
            go_simp
            (go_at_call 30; refine (hfo _).mono ?_; rintro e w2 ⟨rfl, s2⟩; have st2 : Step [] w o w2 o := (by first | (with_reducible exact Step.trans (by assumption) s2) | (with_reducible exact (Step.refl [] w o).drew.trans s2) | (with_reducible exact Step.trans (Step.alloc (by assumption) _) s2) | (with_reducible exact ((Step.refl [] w o).alloc _).drew.trans s2) | (with_reducible exact ((Step.refl [] w o).drew.alloc _).trans s2)); first | (with_reducible have E2 := E0a.nil s2; obtain ⟨⟨z0, z1, z2, z3, z4, z5⟩, ⟨f0, f1, f2, f3, f4, f5⟩⟩ := E2.cells) | (with_reducible have E2 := E0b.nil s2; obtain ⟨⟨z0, z1, z2, z3, z4, z5⟩, ⟨f0, f1, f2, f3, f4, f5⟩⟩ := E2.cells) | skip)
            (try go_wp2_with fail)
            refine hK.out _ _ ?_ (fun hHeld => ?_)
            · (try dsimp only)
              (refine MK.out _ ?_; first | assumption | (with_reducible refine Step.drew ?_; assumption) | (with_reducible refine Step.alloc ?_ _; assumption) | (with_reducible refine Step.drew (Step.alloc ?_ _); assumption) | (with_reducible refine Step.alloc (Step.drew ?_) _; assumption) | (refine Step.set6 ?_ (Nat.le_refl _) _ _ _ _ _ _; assumption) | (refine Step.set6 ?_ (Step.size (S := []) (o := o) (o' := o) (by assumption)) _ _ _ _ _ _; assumption))
            clear hK K
            try simp only [Act.put, List.setIfInBounds_toArray, List.set_cons_zero, List.set_cons_succ]
            refine wpAnyH_take (i := 18) (oi := ?_) (v := ?_) ?_ (by kernel_rfl) (by kernel_rfl) (by kernel_rfl) ?_ (Or.inl ⟨?_, ?_⟩) ?_ ?_; rotate_left 2
            · (simp only [List.getElem?_toArray, List.getElem?_cons_succ, List.getElem?_cons_zero]; rfl)
            · exact fun _ _ _ h => h
            · rfl
            · (intro w hSw; (try dsimp only at hSw); obtain ⟨sw1, sw2, sw3, sw4⟩ := hSw; first | (go_simp; done) | (go_simp; with_reducible rfl))
            · assumption
            try simp only [Act.put, List.setIfInBounds_toArray, List.set_cons_zero, List.set_cons_succ]
            refine wpAnyH_ready (rs := [19]) (by kernel_rfl) (by simp) ?_
            refine AllReadyH.cons (o := ?_) ?_ ?_ ?_; rotate_left 1
            · (simp only [List.getElem?_toArray, List.getElem?_cons_succ, List.getElem?_cons_zero]; rfl)
            · intro K hK
              go_simp
              refine hK.out _ _ ?_ (fun hHeld => ?_)
              · (try dsimp only)
                (refine MK.out _ ?_; first | assumption | (with_reducible refine Step.drew ?_; assumption) | (with_reducible refine Step.alloc ?_ _; assumption) | (with_reducible refine Step.drew (Step.alloc ?_ _); assumption) | (with_reducible refine Step.alloc (Step.drew ?_) _; assumption) | (refine Step.set6 ?_ (Nat.le_refl _) _ _ _ _ _ _; assumption) | (refine Step.set6 ?_ (Step.size (S := []) (o := o) (o' := o) (by assumption)) _ _ _ _ _ _; assumption))
              clear hK K
              try simp only [Act.put, List.setIfInBounds_toArray, List.set_cons_zero, List.set_cons_succ]
              refine wpAnyH_ready (rs := [20]) (by kernel_rfl) (by simp) ?_
              refine AllReadyH.cons (o := ?_) ?_ ?_ ?_; rotate_left 1
              · (simp only [List.getElem?_toArray, List.getElem?_cons_succ, List.getElem?_cons_zero]; rfl)
              · intro K hK
                go_simp
                refine hK.out _ _ ?_ (fun hHeld => ?_)
                · (try dsimp only)
                  (refine MK.out _ ?_; first | assumption | (with_reducible refine Step.drew ?_; assumption) | (with_reducible refine Step.alloc ?_ _; assumption) | (with_reducible refine Step.drew (Step.alloc ?_ _); assumption) | (with_reducible refine Step.alloc (Step.drew ?_) _; assumption) | (refine Step.set6 ?_ (Nat.le_refl _) _ _ _ _ _ _; assumption) | (refine Step.set6 ?_ (Step.size (S := []) (o := o) (o' := o) (by assumption)) _ _ _ _ _ _; assumption))
                clear hK K
                try simp only [Act.put, List.setIfInBounds_toArray, List.set_cons_zero, List.set_cons_succ]
                refine wpAnyH_done (by kernel_rfl) ?_ _
                clear E0a E0b MK
                go_wp2_with fail
                go_meet
                with_reducible refine ⟨⟨w2.heap.size, rfl, st2.size, ?_⟩, ?_⟩
                · first
                    | (with_reducible exact heap_alloc_new _ _)
                    | exact heap_alloc_new w2 _
                · exact st2.alloc _
              exact AllReadyH.nil
            exact AllReadyH.nil
          refine AllReadyH.cons (o := ?_) ?_ ?_ ?_; rotate_left 1
          · (simp only [List.getElem?_toArray, List.getElem?_cons_succ, List.getElem?_cons_zero]; rfl)
          · intro K hK
            go_simp
            refine hK.out _ _ ?_ (fun hHeld => ?_)
            · (try dsimp only)
              (refine MK.out _ ?_; first | assumption | (with_reducible refine Step.drew ?_; assumption) | (with_reducible refine Step.alloc ?_ _; assumption) | (with_reducible refine Step.drew (Step.alloc ?_ _); assumption) | (with_reducible refine Step.alloc (Step.drew ?_) _; assumption) | (refine Step.set6 ?_ (Nat.le_refl _) _ _ _ _ _ _; assumption) | (refine Step.set6 ?_ (Step.size (S := []) (o := o) (o' := o) (by assumption)) _ _ _ _ _ _; assumption))
            clear hK K
            try simp only [Act.put, List.setIfInBounds_toArray, List.set_cons_zero, List.set_cons_succ]
            refine wpAnyH_ready (rs := [4]) (by kernel_rfl) (by simp) ?_
            refine AllReadyH.cons (o := ?_) ?_ ?_ ?_; rotate_left 1
            · (simp only [List.getElem?_toArray, List.getElem?_cons_succ, List.getElem?_cons_zero]; rfl)
            · intro K hK
              go_simp
              (go_at_call 30; refine (hfo _).mono ?_; rintro e w2 ⟨rfl, s2⟩; have st2 : Step [] w o w2 o := (by first | (with_reducible exact Step.trans (by assumption) s2) | (with_reducible exact (Step.refl [] w o).drew.trans s2) | (with_reducible exact Step.trans (Step.alloc (by assumption) _) s2) | (with_reducible exact ((Step.refl [] w o).alloc _).drew.trans s2) | (with_reducible exact ((Step.refl [] w o).drew.alloc _).trans s2)); first | (with_reducible have E2 := E0a.nil s2; obtain ⟨⟨z0, z1, z2, z3, z4, z5⟩, ⟨f0, f1, f2, f3, f4, f5⟩⟩ := E2.cells) | (with_reducible have E2 := E0b.nil s2; obtain ⟨⟨z0, z1, z2, z3, z4, z5⟩, ⟨f0, f1, f2, f3, f4, f5⟩⟩ := E2.cells) | skip)
              (try go_wp2_with fail)
              refine hK.out _ _ ?_ (fun hHeld => ?_)
              · (try dsimp only)
                (refine MK.out _ ?_; first | assumption | (with_reducible refine Step.drew ?_; assumption) | (with_reducible refine Step.alloc ?_ _; assumption) | (with_reducible refine Step.drew (Step.alloc ?_ _); assumption) | (with_reducible refine Step.alloc (Step.drew ?_) _; assumption) | (refine Step.set6 ?_ (Nat.le_refl _) _ _ _ _ _ _; assumption) | (refine Step.set6 ?_ (Step.size (S := []) (o := o) (o' := o) (by assumption)) _ _ _ _ _ _; assumption))
              clear hK K
              try simp only [Act.put, List.setIfInBounds_toArray, List.set_cons_zero, List.set_cons_succ]
              refine wpAnyH_take (i := 18) (oi := ?_) (v := ?_) ?_ (by kernel_rfl) (by kernel_rfl) (by kernel_rfl) ?_ (Or.inl ⟨?_, ?_⟩) ?_ ?_; rotate_left 2
              · (simp only [List.getElem?_toArray, List.getElem?_cons_succ, List.getElem?_cons_zero]; rfl)
              · exact fun _ _ _ h => h
              · rfl
              · (intro w hSw; (try dsimp only at hSw); obtain ⟨sw1, sw2, sw3, sw4⟩ := hSw; first | (go_simp; done) | (go_simp; with_reducible rfl))
              · assumption
              try simp only [Act.put, List.setIfInBounds_toArray, List.set_cons_zero, List.set_cons_succ]
              refine wpAnyH_ready (rs := [20]) (by kernel_rfl) (by simp) ?_
              refine AllReadyH.cons (o := ?_) ?_ ?_ ?_; rotate_left 1
              · (simp only [List.getElem?_toArray, List.getElem?_cons_succ, List.getElem?_cons_zero]; rfl)
              · intro K hK
                go_simp
                refine hK.out _ _ ?_ (fun hHeld => ?_)
                · (try dsimp only)
                  (refine MK.out _ ?_; first | assumption | (with_reducible refine Step.drew ?_; assumption) | (with_reducible refine Step.alloc ?_ _; assumption) | (with_reducible refine Step.drew (Step.alloc ?_ _); assumption) | (with_reducible refine Step.alloc (Step.drew ?_) _; assumption) | (refine Step.set6 ?_ (Nat.le_refl _) _ _ _ _ _ _; assumption) | (refine Step.set6 ?_ (Step.size (S := []) (o := o) (o' := o) (by assumption)) _ _ _ _ _ _; assumption))
                clear hK K
                try simp only [Act.put, List.setIfInBounds_toArray, List.set_cons_zero, List.set_cons_succ]
                refine wpAnyH_done (by kernel_rfl) ?_ _
                clear E0a E0b MK
                go_wp2_with fail
                go_meet
                with_reducible refine ⟨⟨w.heap.size, rfl, Nat.le_refl _, ?_⟩, ?_⟩
                · exact E2.set _ _ _ _ _ _
                · exact Step.set6 st2 (Nat.le_refl _) _ _ _ _ _ _
              exact AllReadyH.nil
            exact AllReadyH.nil
          exact AllReadyH.nil
        case rest =>
          obtain ⟨⟨z, rfl, hz, hE⟩, st0⟩ := hcut
          obtain ⟨o2, st, hoz⟩ : ∃ o2, Step [] w o wc o2 ∧ o2 z = i := ⟨fun x => if x = z then i else o x, ⟨st0.os, st0.tape, st0.output, st0.size, fun y hy => by
            have : y ≠ z := by omega
            simp [this], st0.blk⟩, by simp⟩
          have HN := Lib.hid hokS0
          have hb1 := hb.frame st (by simp)
          have hr1 := hr.frame st (by simp)
          have hr21 := hr2.frame st (by simp)
          have hm1 := hm.frame st (by simp)
          clear hb hr hr2 hm c0 c1 c2 c3 c4 hfo hi hi3 hsz0 hem
          have sd : Step [] wc o2 wc.drew o2 := (Step.refl [] _ _).drew
          have hlen : I64 (s.ws.length : Int) := ⟨by omega, by omega⟩
          obtain ⟨c0, c1, -, -, c4, -⟩ := (hb1.frame sd (by simp)).cells5
          obtain ⟨w3, hrun, s3, hupd⟩ := (hm1.frame sd (by simp)).update hN hcur hlen
          go_wp2_with fail
          go_region
          have sW : Step [] w3 o2 w3.drew o2 := (Step.refl [] _ _).drew
          have sL : Step [] w3.drew o2 (w3.drew.alloc (.cells #[.string nm, .int .i64 xt, .bool false, .string (low nm), .int .i64 s.cur, .int .i64 lk] 72)) o2 := (Step.refl _ _ _).alloc _
          have sAll : Step [i + 3] w o w3.drew o2 := ((st.trans sd).weaken (by simp)).trans (s3.trans (sW.weaken (by simp)))
          have hbW := (((hb1.frame sd (by simp)).frame s3 (by simp)).frame sW (by simp))
          have hbA := hbW.frame sL (by simp)
          have hrA := ((((hr1.frame sd (by simp)).frame s3 (by simp)).frame sW (by simp))).frame sL (by simp)
          have hrZ := ((((hr21.frame sd (by simp)).frame s3 (by simp)).frame sW (by simp))).frame sL (by simp)
          have hmZ := ((hupd s.lists (fun k => ix k (⟨nm, xt, false, s.cur⟩ :: s.ws)) (Or.inl (Int.le_refl _)) (fun j _ _ => by
            show ix j (_ :: _) = _
            rw [ix_cons]
            by_cases hj : j = s.cur
            · subst hj; simp
            · rw [if_neg hj, if_neg (fun h => hj h.symm)])).frame sW (by simp)).frame sL (by simp)
          obtain ⟨x0, -, -, -, -, y0, -⟩ := hbW.cells5
          obtain ⟨a0, -, -, -, -, b0, -⟩ := hbA.cells5
          have EW : E6 w3.drew z (.string nm) (.int .i64 xt) (.bool false) (.string (low nm)) (.int .i64 s.cur) (.int .i64 lk) := sW.obj (s3.obj (sd.obj hE (by simp)) (by rw [hoz]; simp)) (by simp)
          obtain ⟨⟨z0, z1, z2, z3, z4, z5⟩, -⟩ := EW.cells
          obtain ⟨⟨t0, t1, t2, t3, t4, t5⟩, -⟩ := (EW.nil sL).cells
          have sV : Step [] w3 o2 (w3.alloc (.cells #[.string nm, .int .i64 xt, .bool false, .string (low nm), .int .i64 s.cur, .int .i64 lk] 72)) o2 := (Step.refl _ _ _).alloc _
          have EV : E6 w3 z (.string nm) (.int .i64 xt) (.bool false) (.string (low nm)) (.int .i64 s.cur) (.int .i64 lk) := s3.obj (sd.obj hE (by simp)) (by rw [hoz]; simp)
          obtain ⟨⟨q0, q1, q2, q3, q4, q5⟩, -⟩ := (EV.nil sV).cells
          obtain ⟨p0, -, -, -, -, n0, -⟩ := (((hb1.frame sd (by simp)).frame s3 (by simp)).frame sV (by simp)).cells5
          clear hupd hrun c0 c1 c4
          go_wp2_with fail
          go_region_law (first
            | (refine step_app (.tmp 61) (.tmp 63) 67 rfl Try.underlying67 info72 rfl (by kernel_rfl) (by rfl) hrA (by rfl) (Rd.fresh w3.drew o2 6 72 #[.string nm, .int .i64 xt, .bool false, .string (low nm), .int .i64 s.cur, .int .i64 lk] 1 (by simp [maxLen]) (by simp)) (by simp [Value.oneCell']) (by omega) (by omega) ?_; intro v' w5 o5 hr5 s5; obtain ⟨ao', cap', rfl, _, _⟩ := hr5.slice; have hb5 := hbA.frame s5 (by simp); obtain ⟨e0, -, -, -, -, g0, -⟩ := hb5.cells5))
          all_goals go_wp2_with fail
          all_goals go_ret
          all_goals
            have s6 : Step [i] w5 o5 (w5.setCell ⟨b, 0, none⟩ (.slice ao' (s.ws.length + 1) cap')) o5 := (Step.refl _ _ _).setCell (fun _ => by simp [hb5.own]) _
            refine ⟨rfl, o5, ⟨HOK.out, _, mb, ov, hb5.set 0 (.slice ao' (s.ws.length + 1) cap'), ?_, (hrZ.frame s5 (by simp)).frame s6 (by simp), (hmZ.frame s5 (by simp)).frame s6 (by simp)⟩, ?_⟩
            · have h7 := hr5.frame s6 (by simp)
              rw [← HLK.out] at h7
              exact h7
            · exact (sAll.weaken (by simp)).trans ((sL.weaken (by simp)).trans ((s5.weaken (by simp)).trans (s6.weaken (by simp))))
end Go.Proofs.Ytaledmoakhlmgaa
