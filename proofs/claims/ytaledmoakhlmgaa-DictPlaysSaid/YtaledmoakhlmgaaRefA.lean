/- The document's dictionary in memory: what is made, told, and the small changes. -/
import Derived.Test.YtaledmoakhlmgaaDicX
namespace Go.Proofs.Ytaledmoakhlmgaa
open Go Go.RowKit
set_option linter.unusedSimpArgs false
set_option linter.unusedVariables false

def rhd (x : Wd) : List Value := [.string x.nm, .int .i64 x.xt, .bool x.now, .int .i64 x.li]
/-- The cells of the words, the first one first. -/
def rcells : List Wd → List Value
  | [] => []
  | x :: r => rcells r ++ rhd x
theorem rcells_len : ∀ l : List Wd, (rcells l).length = l.length * 4
  | [] => rfl
  | x :: r => by rw [rcells, List.length_append, rcells_len r, List.length_cons]; simp [rhd]; omega
theorem rcells_at {x : Wd} {r : List Wd} {j : Nat} (hj : j < 4) : ∀ pre : List Wd, (rcells (pre ++ x :: r))[4 * r.length + j]? = (rhd x)[j]?
  | [] => by
    rw [List.nil_append, rcells, List.getElem?_append_right (by rw [rcells_len]; omega), rcells_len]
    congr 1
    omega
  | p :: pre => by
    have ih := rcells_at (x := x) (r := r) hj pre
    rw [List.cons_append, rcells, List.getElem?_append_left (by rw [rcells_len]; simp; omega)]
    exact ih
theorem rcells_take {r : List Wd} : ∀ pre : List Wd, (rcells (pre ++ r)).take (r.length * 4) = rcells r
  | [] => by rw [List.nil_append, ← rcells_len, List.take_length]
  | p :: pre => by
    rw [List.cons_append, rcells, List.take_append_of_le_length (by rw [rcells_len]; simp; omega)]
    exact rcells_take pre

/-- Block b, of owner i, is the document's dictionary that stands as s; its words' row is of owner i + 1, its order's of i + 2 or i + 3. -/
structure RB (w : World) (o : Owner) (i b : Nat) (s : Dst) : Prop where
  ok : s.Ok
  ex : ∃ lv ov jo, (jo = i + 2 ∨ jo = i + 3) ∧ Blk w o i b 64 #[lv, .int .i64 s.lists, ov, .int .i64 s.cur] ∧ Row w o (i + 1) 80 4 lv s.ws.length (rcells s.ws) ∧ Row w o jo 3 1 ov s.order.length (ints s.order)
theorem RB.frame {S : List Nat} {w w' : World} {o o' : Owner} {i b : Nat} {s : Dst} (h : RB w o i b s) (st : Step S w o w' o') (h0 : i ∉ S) (h1 : i + 1 ∉ S) (h2 : i + 2 ∉ S) (h3 : i + 3 ∉ S) : RB w' o' i b s := by
  obtain ⟨ok, lv, ov, jo, hjo, hb, hr, hr2⟩ := h
  exact ⟨ok, lv, ov, jo, hjo, hb.frame st h0, hr.frame st h1, hr2.frame st (by rcases hjo with rfl | rfl; exact h2; exact h3)⟩
theorem RB.nil {w w' : World} {o o' : Owner} {i b : Nat} {s : Dst} (h : RB w o i b s) (st : Step [] w o w' o') : RB w' o' i b s := h.frame st (by simp) (by simp) (by simp) (by simp)
theorem Blk.cells4 {w : World} {o : Owner} {i b : Nat} {T : TypeId} {v0 v1 v2 v3 : Value} (h : Blk w o i b T #[v0, v1, v2, v3]) :
    (w.cell? ⟨b, 0, none⟩ = some v0 ∧ w.cell? ⟨b, 1, none⟩ = some v1 ∧ w.cell? ⟨b, 2, none⟩ = some v2 ∧ w.cell? ⟨b, 3, none⟩ = some v3) ∧
      (w.frozen? ⟨b, 0, none⟩ = false ∧ w.frozen? ⟨b, 1, none⟩ = false ∧ w.frozen? ⟨b, 2, none⟩ = false ∧ w.frozen? ⟨b, 3, none⟩ = false) :=
  ⟨⟨h.cell 0, h.cell 1, h.cell 2, h.cell 3⟩, ⟨h.frozen 0, h.frozen 1, h.frozen 2, h.frozen 3⟩⟩
/-- A word's cells, at its place. -/
theorem rword_at {w : World} {o : Owner} {i : Nat} {lv : Value} {pre r : List Wd} {x : Wd} (h : Row w o i 80 4 lv (pre ++ x :: r).length (rcells (pre ++ x :: r))) :
    ∃ g cap, lv = .slice (some ⟨g, 0, none⟩) (pre ++ x :: r).length cap ∧ g < w.heap.size ∧ o g = i ∧ cap ≤ 9223372036854775807 ∧ (pre ++ x :: r).length ≤ cap ∧
      w.cell? ⟨g, r.length * 4, none⟩ = some (.string x.nm) ∧ w.cell? ⟨g, r.length * 4 + 1, none⟩ = some (.int .i64 x.xt) ∧ w.cell? ⟨g, r.length * 4 + 2, none⟩ = some (.bool x.now) ∧ w.cell? ⟨g, r.length * 4 + 3, none⟩ = some (.int .i64 x.li) := by
  obtain ⟨g, cap, rfl, hx⟩ := h.rowx (by simp; omega)
  have hc := fun j (hj : j < 4) => rcells_at (x := x) (r := r) hj pre
  have hlt : g < w.heap.size := by obtain ⟨cur, h1, _⟩ := hx.cells; exact (Array.getElem?_eq_some_iff.1 h1).1
  refine ⟨g, cap, rfl, hlt, hx.own, by have := hx.capl; simpa [maxLen] using this, hx.le, ?_, ?_, ?_, ?_⟩
  · exact hx.cell (by rw [show r.length * 4 = 4 * r.length + 0 by omega, hc 0 (by decide)]; rfl)
  · exact hx.cell (by rw [show r.length * 4 + 1 = 4 * r.length + 1 by omega, hc 1 (by decide)]; rfl)
  · exact hx.cell (by rw [show r.length * 4 + 2 = 4 * r.length + 2 by omega, hc 2 (by decide)]; rfl)
  · exact hx.cell (by rw [show r.length * 4 + 3 = 4 * r.length + 3 by omega, hc 3 (by decide)]; rfl)

theorem rnew_ok (w : World) (o : Owner) (i : Nat) : Calls Try.prog 25 #[] w fun e w' => ∃ b o', e = .returned (.pointer (some ⟨b, 0, none⟩)) ∧ RB w' o' i b new0 ∧ Step [] w o w' o' := by
  have R := Row.made w o (i + 2) 3 1 #[.int .i64 1] 1 (by decide) rfl
  have s1 : Step [] w o (w.alloc (.cells #[.int .i64 1] 3)) (o.set w.heap.size (i + 2)) := ((Step.refl _ _ _).alloc _).give (Nat.le_refl _) _
  have B := Blk.new (w.alloc (.cells #[.int .i64 1] 3)) (o.set w.heap.size (i + 2)) i 64 #[.slice none 0 0, .int .i64 1, .slice (some ⟨w.heap.size, 0, none⟩) 1 1, .int .i64 1]
  have s2 : Step [] (w.alloc (.cells #[.int .i64 1] 3)) (o.set w.heap.size (i + 2)) ((w.alloc (.cells #[.int .i64 1] 3)).alloc (.cells #[.slice none 0 0, .int .i64 1, .slice (some ⟨w.heap.size, 0, none⟩) 1 1, .int .i64 1] 64)) ((o.set w.heap.size (i + 2)).set (w.alloc (.cells #[.int .i64 1] 3)).heap.size i) := ((Step.refl _ _ _).alloc _).give (Nat.le_refl _) _
  have R2 := R.frame s2 (by simp)
  have S := s1.trans s2
  rw [World.size_alloc] at B R2 S
  clear R s1 s2
  go_enter Try.func25, Try.ntmps25
  go_wp2_with fail
  go_ret
  exact ⟨_, rfl, _, ⟨new0_ok, _, _, i + 2, .inl rfl, B, Row.nil _ _ _ _ _ _, R2⟩, S⟩

theorem rknown_ok {w : World} {o : Owner} {i b : Nat} {lv ov cv : Value} {L : Int} (hb : Blk w o i b 64 #[lv, .int .i64 L, ov, cv]) (k : Int) :
    Calls Try.prog 50 #[.pointer (some ⟨b, 0, none⟩), .int .i64 k] w fun e w' => e = .returned (.bool (decide (1 ≤ k ∧ k ≤ L))) ∧ w' = w := by
  obtain ⟨⟨c0, c1, c2, c3⟩, -⟩ := hb.cells4
  clear hb
  by_cases h1 : 1 ≤ k
  · by_cases h2 : k ≤ L
    · rw [decide_eq_true ⟨h1, h2⟩]
      go_enter Try.func50, Try.ntmps50
      go_wp2
      go_ret
      exact ⟨rfl, rfl⟩
    · rw [decide_eq_false fun h => h2 h.2]
      go_enter Try.func50, Try.ntmps50
      go_wp2
      go_ret
      exact ⟨rfl, rfl⟩
  · rw [decide_eq_false fun h => h1 h.1]
    go_enter Try.func50, Try.ntmps50
    go_wp2
    go_ret
    exact ⟨rfl, rfl⟩

theorem rmark_ok {w : World} {o : Owner} {i b : Nat} {s : Dst} (h : RB w o i b s) : Calls Try.prog 28 #[.pointer (some ⟨b, 0, none⟩)] w fun e w' => e = .returned (.agg #[.int .i64 s.ws.length, .int .i64 s.lists]) ∧ Step [] w o w' o := by
  obtain ⟨ok, lv, ov, jo, hjo, hb, hr, hr2⟩ := h
  obtain ⟨⟨c0, c1, c2, c3⟩, -⟩ := hb.cells4
  obtain ⟨ao, cap, rfl, g1, g2⟩ := hr.slice
  obtain ⟨⟨e0, e1, e2, e3⟩, -⟩ := (hb.frame ((Step.refl [] w o).alloc (.cells #[.int .i64 0, .int .i64 0] 31)) (by simp)).cells4
  clear hr hr2 hb ok
  go_enter Try.func28, Try.ntmps28
  go_wp2_with fail
  go_region
  all_goals go_wp2_with fail
  all_goals simp [bodyPost, results, Try.results28, go_sem]
  all_goals exact ((Step.refl _ _ _).alloc _).drew

theorem rcur_ok {w : World} {o : Owner} {i b : Nat} {s : Dst} (h : RB w o i b s) (k : Int) :
    Calls Try.prog 45 #[.pointer (some ⟨b, 0, none⟩), .int .i64 k] w fun e w' => e = .returned (.int .i64 (curE s k)) ∧ RB w' o i b (curS s k) ∧ Step [i] w o w' o := by
  have h0 := h
  obtain ⟨ok, lv, ov, jo, hjo, hb, hr, hr2⟩ := h
  have hkn := rknown_ok hb k
  have hokS := curS_ok ok k
  unfold curE
  unfold curS at hokS ⊢
  rw [show decide (1 ≤ k ∧ k ≤ s.lists) = knownB s k from rfl] at hkn
  cases hB : knownB s k with
  | false =>
    rw [hB] at hkn
    rw [if_neg (by decide), if_neg (by decide)]
    clear hb hr hr2 hokS
    go_enter Try.func45, Try.ntmps45
    go_wp2_with (go_at_call 50; refine hkn.mono ?_; rintro e w1 ⟨rfl, rfl⟩)
    go_ret
    exact ⟨rfl, h0, Step.refl _ _ _⟩
  | true =>
    rw [hB] at hkn hokS
    rw [if_pos rfl] at hokS
    rw [if_pos rfl, if_pos rfl]
    obtain ⟨⟨c0, c1, c2, c3⟩, ⟨f0, f1, f2, f3⟩⟩ := hb.cells4
    have HOK := Lib.hid hokS
    clear hokS h0
    go_enter Try.func45, Try.ntmps45
    go_wp2_with (go_at_call 50; refine hkn.mono ?_; rintro e w1 ⟨rfl, rfl⟩)
    go_ret
    have s6 := hb.sstep 3 (.int .i64 k)
    exact ⟨rfl, ⟨HOK.out, lv, ov, jo, hjo, hb.set 3 (.int .i64 k), hr.frame s6 (by simp), hr2.frame s6 (by simp; omega)⟩, s6⟩

theorem rlist_ok {w : World} {o : Owner} {i b : Nat} {s : Dst} (h : RB w o i b s) :
    Calls Try.prog 43 #[.pointer (some ⟨b, 0, none⟩)] w fun e w' => e = .returned (.tuple #[.int .i64 (listK s), .int .i64 (listE s)]) ∧ RB w' o i b (listS s) ∧ Step [i] w o w' o := by
  have h0 := h
  obtain ⟨ok, lv, ov, jo, hjo, hb, hr, hr2⟩ := h
  have hokS := listS_ok ok
  unfold listK listE
  unfold listS at hokS ⊢
  obtain ⟨⟨c0, c1, c2, c3⟩, ⟨f0, f1, f2, f3⟩⟩ := hb.cells4
  by_cases hl : 8 ≤ s.lists
  · rw [if_pos hl, if_pos hl, if_pos hl]
    clear hb hr hr2 hokS
    go_enter Try.func43, Try.ntmps43
    go_wp2_with fail
    simp [bodyPost, results, Try.results43, go_sem]
    exact ⟨h0, Step.refl _ _ _⟩
  · rw [if_neg hl] at hokS
    rw [if_neg hl, if_neg hl, if_neg hl]
    have HOK := Lib.hid hokS
    have hl0 := ok.l1
    have hwr : IntKind.i64.wrap (s.lists + 1) = s.lists + 1 := by rw [IntWalk.i64_left, IntWalk.wrap64_in _ (by omega)]
    have s1 := hb.sstep 1 (.int .i64 (s.lists + 1))
    have hb1 : Blk (w.setCell ⟨b, 1, none⟩ (.int .i64 (s.lists + 1))) o i b 64 #[lv, .int .i64 (s.lists + 1), ov, .int .i64 s.cur] := hb.set 1 _
    obtain ⟨⟨d0, d1, d2, d3⟩, -⟩ := hb1.cells4
    clear hokS h0
    go_enter Try.func43, Try.ntmps43
    go_wp2_with fail
    simp [bodyPost, results, Try.results43, go_sem]
    exact ⟨⟨HOK.out, lv, ov, jo, hjo, hb1, hr.frame s1 (by simp), hr2.frame s1 (by simp; omega)⟩, s1⟩

theorem rnow_ok {w : World} {o : Owner} {i b : Nat} {s : Dst} (h : RB w o i b s) :
    Calls Try.prog 40 #[.pointer (some ⟨b, 0, none⟩)] w fun e w' => e = .returned (.int .i64 (nowE s)) ∧ RB w' o i b (nowS s) ∧ Step [i + 1] w o w' o := by
  have h0 := h
  obtain ⟨ok, lv, ov, jo, hjo, hb, hr, hr2⟩ := h
  have hokS := nowS_ok ok
  obtain ⟨⟨c0, c1, c2, c3⟩, -⟩ := hb.cells4
  obtain ⟨ws, hws⟩ : ∃ ws, s.ws = ws := ⟨_, rfl⟩
  unfold nowE
  rw [hws] at hr ⊢
  cases ws with
  | nil =>
    rw [if_pos rfl]
    have hS : nowS s = s := by unfold nowS; rw [hws]; cases s; simp at hws; simp [hws, nowL]
    rw [hS]
    obtain ⟨ao, cap, rfl, g1, g2⟩ := hr.slice
    clear hb hr hr2 hokS hS hws
    go_enter Try.func40, Try.ntmps40
    go_wp2_with fail
    go_ret
    exact ⟨rfl, h0, Step.refl _ _ _⟩
  | cons x r =>
    rw [if_neg (by simp)]
    obtain ⟨g, cap, rfl, hx⟩ := hr.rowx (by simp)
    have hxs := hx.setElem (r.length * 4 + 2) (.bool true)
    have hsp := hx.spare (j := r.length * 4 + 2) (by have := hx.le; simp at this; omega)
    have hcap := hx.capl
    have hle := hx.le
    have hgo := hx.own
    have hcells : (rcells (x :: r)).set (r.length * 4 + 2) (.bool true) = rcells (nowL (x :: r)) := by
      rw [nowL, rcells, rcells, List.set_append_right _ _ (by rw [rcells_len]; omega), rcells_len]
      congr 1
      simp [rhd]
    rw [hcells] at hxs
    have HXS := Lib.hid hxs
    have HOK := Lib.hid hokS
    have HWS := Lib.hid hws
    unfold maxLen at hcap
    obtain ⟨n, hn⟩ : ∃ n, r.length = n := ⟨_, rfl⟩
    rw [List.length_cons] at hle c0
    rw [hn] at hsp c0 hle
    have HN := Lib.hid hn
    obtain ⟨M, hM⟩ : ∃ M : Nat, n + 1 = M := ⟨_, rfl⟩
    have hMi : (M : Int) - 1 = n := by omega
    have hlt : (n : Int) < M := by omega
    have hne : ((M : Int) == 0) = false := by rw [beq_eq_false_iff_ne]; omega
    rw [hM] at c0 hle
    have HM := Lib.hid hM
    obtain ⟨p1, p2⟩ := hsp
    obtain ⟨pv, p1⟩ := Option.isSome_iff_exists.1 p1
    have q1 : w.drew.cell? ⟨g, n * 4 + 2, none⟩ = some pv := p1
    have q2 : w.drew.frozen? ⟨g, n * 4 + 2, none⟩ = false := p2
    rw [List.length_cons, hn, hM] at hr
    clear hx hr hxs hokS hws hcells hn hM h0
    go_enter Try.func40, Try.ntmps40
    go_wp2_with fail
    go_region
    all_goals go_wp2_with fail
    all_goals go_ret
    all_goals
      have hxs := HXS.out
      rw [HN.out] at hxs
      have s7 : Step [i + 1] w o (w.setCell ⟨g, n * 4 + 2, none⟩ (.bool true)).drew o := ((Step.refl _ _ _).setCell (fun _ => by simp [hgo]) _).drew
      have sd : Step [] (w.setCell ⟨g, n * 4 + 2, none⟩ (.bool true)) o (w.setCell ⟨g, n * 4 + 2, none⟩ (.bool true)).drew o := (Step.refl _ _ _).drew
      refine ⟨rfl, ⟨HOK.out, _, ov, jo, hjo, hb.frame s7 (by simp), ?_, hr2.frame s7 (by simp; omega)⟩, s7⟩
      show Row _ o (i + 1) 80 4 _ (nowL s.ws).length (rcells (nowL s.ws))
      rw [HWS.out, nowL_len]
      exact (hxs.row).frame sd (by simp)
end Go.Proofs.Ytaledmoakhlmgaa
