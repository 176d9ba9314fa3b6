/- The document's frames: Top (printed by gen_rfb.py). -/
import Derived.Test.YtegcpjheglcbcaaRfA
namespace Go.Proofs.Ytegcpjheglcbcaa
open Go Go.RowKit Go.Shelf
set_option linter.unusedSimpArgs false
set_option linter.unusedVariables false

set_option maxHeartbeats 4000000 in
theorem rtop_nil {w : World} {o : Owner} {i b : Nat} (hs : RT w o i b []) :
    Calls Try.prog 26 #[.pointer (some ⟨b, 0, none⟩)] w fun e w' => e = .returned (.tuple #[Z6, .bool false]) ∧ Step [] w o w' o := by
  obtain ⟨h0, ⟨v, hb, hr⟩, -⟩ := hs
  obtain ⟨ao, cap, rfl, h1, h2⟩ := hr.slice
  have sA : Step [] w o (ZB w) o := (Step.refl _ _ _).alloc _
  have hc := (hb.frame sA (by simp)).cell0
  have fz := FB.new w 0 0 0 0 0 (.slice none 0 0)
  obtain ⟨⟨z0, z1, z2, z3, z4, z5⟩, y0, y1, y2, y3, y4, y5⟩ := fz.facts
  clear hb hr
  go_enter Try.func26, Try.ntmps26
  go_wp2_with fail
  obtain ⟨⟨x0, x1, x2, x3, x4, x5⟩, _⟩ := (fz.set6 0 0 0 0 0 (.slice none 0 0)).facts
  simp [bodyPost, results, Try.results26, go_sem, x0, x1, x2, x3, x4, x5]
  exact sA

set_option maxRecDepth 100000 in
set_option maxHeartbeats 8000000 in
theorem rtop_some {w : World} {o : Owner} {i b : Nat} {fl : List (Fr × List Int × Nat)} {k a c x y : Int} {lv : Value} {l : List Int} {t : Nat} (hs : RT w o i b (fl ++ [(⟨k, a, c, x, y, lv⟩, l, t)])) (hi : i ≠ 77 ∧ i + 1 ≠ 77) (j : Nat) (hj : j ≠ 77) :
    Calls Try.prog 26 #[.pointer (some ⟨b, 0, none⟩)] w fun e w' => ∃ lv' o', e = .returned (.tuple #[.agg #[.int .i64 k, .int .i64 a, .int .i64 c, .int .i64 x, .int .i64 y, lv'], .bool true]) ∧ Row w' o' j 22 1 lv' l.length (cellsOf l) ∧ Step [] w o w' o' := by
  obtain ⟨h0, ⟨v, hb, hr⟩, hL⟩ := hs
  obtain ⟨hll, -, -, ht77, hrow⟩ := hL (⟨k, a, c, x, y, lv⟩, l, t) (by simp)
  dsimp only at hll hrow ht77
  rw [List.length_append, List.length_singleton] at h0 hr
  rw [List.map_append, List.map_singleton] at hr
  obtain ⟨alv, clv, rfl, -, -⟩ := hrow.slice
  obtain ⟨g, cap, rfl, hx⟩ := hr.rowx (by omega)
  obtain ⟨n, hn⟩ : ∃ n, fl.length = n := ⟨_, rfl⟩
  obtain ⟨N, hN⟩ : ∃ N, n + 1 = N := ⟨_, rfl⟩
  have hcap := hx.le
  have hcapl := hx.capl
  unfold maxLen at hcapl
  have s1 : Step [] w o (w.alloc (.cells #[.int .i64 0, .int .i64 0, .int .i64 0, .int .i64 0, .int .i64 0, .slice none 0 0] 30)) (o.set w.heap.size 77) := ((Step.refl _ _ _).alloc _).give (Nat.le_refl _) _
  have hz := Blk.new w o 77 30 #[.int .i64 0, .int .i64 0, .int .i64 0, .int .i64 0, .int .i64 0, .slice none 0 0]
  have sd : Step [] (w.alloc (.cells #[.int .i64 0, .int .i64 0, .int .i64 0, .int .i64 0, .int .i64 0, .slice none 0 0] 30)) (o.set w.heap.size 77) (w.alloc (.cells #[.int .i64 0, .int .i64 0, .int .i64 0, .int .i64 0, .int .i64 0, .slice none 0 0] 30)).drew (o.set w.heap.size 77) := (Step.refl _ _ _).drew
  replace hb := hb.frame s1 (by simp)
  rw [hn, hN] at hb hcap h0
  have hc := hb.cell0
  replace hb := hb.frame sd (by simp)
  replace hz := hz.frame sd (by simp)
  replace hx := (hx.frame s1 (by simp)).frame sd (by simp)
  replace hrow := (hrow.frame s1 (by simp)).frame sd (by simp)
  have st := s1.trans sd
  generalize o.set w.heap.size 77 = o1 at hb hz hx hrow st
  have hq1 : (N : Int) - 1 = n := by omega
  have hq2 : (n : Int) < N := by omega
  have w1 : IntKind.i64.wrap (n : Int) = n := by simp [IntKind.wrap, IntKind.signed, IntKind.bits]; omega
  have hq0 : ((N : Int) == 0) = false := by rw [beq_eq_false_iff_ne]; omega
  have qr : ∀ {S : List Nat} {W : World} {O : Owner}, Step S ((w.alloc (.cells #[.int .i64 0, .int .i64 0, .int .i64 0, .int .i64 0, .int .i64 0, .slice none 0 0] 30)).drew) o1 W O → i + 1 ∉ S → ∀ (r : Nat) (u : Value), r < 6 → (⟨k, a, c, x, y, .slice alv l.length clv⟩ : Fr).cells[r]? = some u → W.cell? ⟨g, n * 6 + r, none⟩ = some u := fun s hS r u hr hu => by
    have := (hx.frame s hS).cell ((frs_top (fl.map Prod.fst) ⟨k, a, c, x, y, .slice alv l.length clv⟩ r hr).trans hu)
    rwa [List.length_map, hn] at this
  clear s1 sd hr hL hx hn hN
  go_enter Try.func26, Try.ntmps26
  go_wp2_with fail
  obtain ⟨z, hzz⟩ : ∃ z, w.heap.size = z := ⟨_, rfl⟩
  have hzw : w.heap.size ≤ z := by omega
  rw [hzz] at hz ⊢
  clear hc hzz
  have hS0 : ∀ {S : List Nat} {W : World} {O : Owner}, Step S (w.alloc (.cells #[.int .i64 0, .int .i64 0, .int .i64 0, .int .i64 0, .int .i64 0, .slice none 0 0] 30)).drew o1 W O → i ∉ S → i + 1 ∉ S → W.cell? ⟨b, 0, none⟩ = some (.slice (some ⟨g, 0, none⟩) N cap) ∧ W.cell? ⟨g, n * 6, none⟩ = some (.int .i64 k) ∧ W.cell? ⟨g, n * 6 + 1, none⟩ = some (.int .i64 a) ∧ W.cell? ⟨g, n * 6 + 2, none⟩ = some (.int .i64 c) ∧ W.cell? ⟨g, n * 6 + 3, none⟩ = some (.int .i64 x) ∧ W.cell? ⟨g, n * 6 + 4, none⟩ = some (.int .i64 y) ∧ W.cell? ⟨g, n * 6 + 5, none⟩ = some (.slice alv l.length clv) := fun s h1 h2 =>
    ⟨(hb.frame s h1).cell0, qr s h2 0 _ (by omega) rfl, qr s h2 1 _ (by omega) rfl, qr s h2 2 _ (by omega) rfl, qr s h2 3 _ (by omega) rfl, qr s h2 4 _ (by omega) rfl, qr s h2 5 _ (by omega) rfl⟩
  have hcopy := copied_ok hrow.rd hll j hj k a c x y
  refine wp_region_held_drew (S := fun W => W.cell? ⟨b, 0, none⟩ = some (.slice (some ⟨g, 0, none⟩) N cap) ∧ W.cell? ⟨g, n * 6, none⟩ = some (.int .i64 k) ∧ W.cell? ⟨g, n * 6 + 1, none⟩ = some (.int .i64 a) ∧ W.cell? ⟨g, n * 6 + 2, none⟩ = some (.int .i64 c) ∧ W.cell? ⟨g, n * 6 + 3, none⟩ = some (.int .i64 x) ∧ W.cell? ⟨g, n * 6 + 4, none⟩ = some (.int .i64 y) ∧ W.cell? ⟨g, n * 6 + 5, none⟩ = some (.slice alv l.length clv)) (by kernel_rfl) (hS0 (Step.refl [] _ _) (by simp) (by simp)) (fun hHeld => ?_)
  generalize (w.alloc (.cells #[.int .i64 0, .int .i64 0, .int .i64 0, .int .i64 0, .int .i64 0, .slice none 0 0] 30)).drew = wd at hb hz hrow st qr hS0 hcopy hHeld ⊢
  refine wpAnyH_take (i := 0) (oi := ?_) (v := ?_) ?_ (by kernel_rfl) (by kernel_rfl) (by kernel_rfl) ?_ (Or.inl ⟨?_, ?_⟩) ?_ ?_; rotate_left 2
  · (simp only [List.getElem?_toArray, List.getElem?_cons_succ, List.getElem?_cons_zero]; rfl)
  · exact fun _ _ _ h => h
  · rfl
  · (intro w hSw; (try dsimp only at hSw); obtain ⟨s0, s1, s2, s3, s4, s5, s6⟩ := hSw; first | (go_simp; done) | (go_simp; with_reducible rfl))
  · assumption
  try simp only [Act.put, List.setIfInBounds_toArray, List.set_cons_zero, List.set_cons_succ]
  refine wpAnyH_take (i := 1) (oi := ?_) (v := ?_) ?_ (by kernel_rfl) (by kernel_rfl) (by kernel_rfl) ?_ (Or.inl ⟨?_, ?_⟩) ?_ ?_; rotate_left 2
  · (simp only [List.getElem?_toArray, List.getElem?_cons_succ, List.getElem?_cons_zero]; rfl)
  · exact fun _ _ _ h => h
  · rfl
  · (intro w hSw; (try dsimp only at hSw); obtain ⟨s0, s1, s2, s3, s4, s5, s6⟩ := hSw; first | (go_simp; done) | (go_simp; with_reducible rfl))
  · assumption
  try simp only [Act.put, List.setIfInBounds_toArray, List.set_cons_zero, List.set_cons_succ]
  refine wpAnyH_take (i := 2) (oi := ?_) (v := ?_) ?_ (by kernel_rfl) (by kernel_rfl) (by kernel_rfl) ?_ (Or.inl ⟨?_, ?_⟩) ?_ ?_; rotate_left 2
  · (simp only [List.getElem?_toArray, List.getElem?_cons_succ, List.getElem?_cons_zero]; rfl)
  · exact fun _ _ _ h => h
  · rfl
  · (intro w hSw; (try dsimp only at hSw); obtain ⟨s0, s1, s2, s3, s4, s5, s6⟩ := hSw; first | (go_simp; done) | (go_simp; with_reducible rfl))
  · assumption
  try simp only [Act.put, List.setIfInBounds_toArray, List.set_cons_zero, List.set_cons_succ]
  refine wpAnyH_take (i := 3) (oi := ?_) (v := ?_) ?_ (by kernel_rfl) (by kernel_rfl) (by kernel_rfl) ?_ (Or.inl ⟨?_, ?_⟩) ?_ ?_; rotate_left 2
  · (simp only [List.getElem?_toArray, List.getElem?_cons_succ, List.getElem?_cons_zero]; rfl)
  · exact fun _ _ _ h => h
  · rfl
  · (intro w hSw; (try dsimp only at hSw); obtain ⟨s0, s1, s2, s3, s4, s5, s6⟩ := hSw; first | (go_simp; done) | (go_simp; with_reducible rfl))
  · assumption
  try simp only [Act.put, List.setIfInBounds_toArray, List.set_cons_zero, List.set_cons_succ]
  refine wpAnyH_take (i := 4) (oi := ?_) (v := ?_) ?_ (by kernel_rfl) (by kernel_rfl) (by kernel_rfl) ?_ (Or.inl ⟨?_, ?_⟩) ?_ ?_; rotate_left 2
  · (simp only [List.getElem?_toArray, List.getElem?_cons_succ, List.getElem?_cons_zero]; rfl)
  · exact fun _ _ _ h => h
  · rfl
  · (intro w hSw; (try dsimp only at hSw); obtain ⟨s0, s1, s2, s3, s4, s5, s6⟩ := hSw; first | (go_simp; done) | (go_simp; with_reducible rfl))
  · assumption
  try simp only [Act.put, List.setIfInBounds_toArray, List.set_cons_zero, List.set_cons_succ]
  refine wpAnyH_take (i := 5) (oi := ?_) (v := ?_) ?_ (by kernel_rfl) (by kernel_rfl) (by kernel_rfl) ?_ (Or.inl ⟨?_, ?_⟩) ?_ ?_; rotate_left 2
  · (simp only [List.getElem?_toArray, List.getElem?_cons_succ, List.getElem?_cons_zero]; rfl)
  · exact fun _ _ _ h => h
  · rfl
  · (intro w hSw; (try dsimp only at hSw); obtain ⟨s0, s1, s2, s3, s4, s5, s6⟩ := hSw; first | (go_simp; done) | (go_simp; with_reducible rfl))
  · assumption
  try simp only [Act.put, List.setIfInBounds_toArray, List.set_cons_zero, List.set_cons_succ]
  refine wpAnyH_take (i := 6) (oi := ?_) (v := ?_) ?_ (by kernel_rfl) (by kernel_rfl) (by kernel_rfl) ?_ (Or.inl ⟨?_, ?_⟩) ?_ ?_; rotate_left 2
  · (simp only [List.getElem?_toArray, List.getElem?_cons_succ, List.getElem?_cons_zero]; rfl)
  · exact fun _ _ _ h => h
  · rfl
  · (intro w hSw; (try dsimp only at hSw); obtain ⟨s0, s1, s2, s3, s4, s5, s6⟩ := hSw; first | (go_simp; done) | (go_simp; with_reducible rfl))
  · assumption
  try simp only [Act.put, List.setIfInBounds_toArray, List.set_cons_zero, List.set_cons_succ]
  refine wpAnyH_take (i := 7) (oi := ?_) (v := ?_) ?_ (by kernel_rfl) (by kernel_rfl) (by kernel_rfl) ?_ (Or.inl ⟨?_, ?_⟩) ?_ ?_; rotate_left 2
  · (simp only [List.getElem?_toArray, List.getElem?_cons_succ, List.getElem?_cons_zero]; rfl)
  · exact fun _ _ _ h => h
  · rfl
  · (intro w hSw; (try dsimp only at hSw); obtain ⟨s0, s1, s2, s3, s4, s5, s6⟩ := hSw; first | (go_simp; done) | (go_simp; with_reducible rfl))
  · assumption
  try simp only [Act.put, List.setIfInBounds_toArray, List.set_cons_zero, List.set_cons_succ]
  refine wpAnyH_take (i := 8) (oi := ?_) (v := ?_) ?_ (by kernel_rfl) (by kernel_rfl) (by kernel_rfl) ?_ (Or.inl ⟨?_, ?_⟩) ?_ ?_; rotate_left 2
  · (simp only [List.getElem?_toArray, List.getElem?_cons_succ, List.getElem?_cons_zero]; rfl)
  · exact fun _ _ _ h => h
  · rfl
  · (intro w hSw; (try dsimp only at hSw); obtain ⟨s0, s1, s2, s3, s4, s5, s6⟩ := hSw; first | (go_simp; done) | (go_simp; with_reducible rfl))
  · assumption
  try simp only [Act.put, List.setIfInBounds_toArray, List.set_cons_zero, List.set_cons_succ]
  refine wpAnyH_take (i := 9) (oi := ?_) (v := ?_) ?_ (by kernel_rfl) (by kernel_rfl) (by kernel_rfl) ?_ (Or.inl ⟨?_, ?_⟩) ?_ ?_; rotate_left 2
  · (simp only [List.getElem?_toArray, List.getElem?_cons_succ, List.getElem?_cons_zero]; rfl)
  · exact fun _ _ _ h => h
  · rfl
  · (intro w hSw; (try dsimp only at hSw); obtain ⟨s0, s1, s2, s3, s4, s5, s6⟩ := hSw; first | (go_simp; done) | (go_simp; with_reducible rfl))
  · assumption
  try simp only [Act.put, List.setIfInBounds_toArray, List.set_cons_zero, List.set_cons_succ]
  refine wpAnyH_take (i := 10) (oi := ?_) (v := ?_) ?_ (by kernel_rfl) (by kernel_rfl) (by kernel_rfl) ?_ (Or.inl ⟨?_, ?_⟩) ?_ ?_; rotate_left 2
  · (simp only [List.getElem?_toArray, List.getElem?_cons_succ, List.getElem?_cons_zero]; rfl)
  · exact fun _ _ _ h => h
  · rfl
  · (intro w hSw; (try dsimp only at hSw); obtain ⟨s0, s1, s2, s3, s4, s5, s6⟩ := hSw; first | (go_simp; done) | (go_simp; with_reducible rfl))
  · assumption
  try simp only [Act.put, List.setIfInBounds_toArray, List.set_cons_zero, List.set_cons_succ]
  refine wpAnyH_take (i := 11) (oi := ?_) (v := ?_) ?_ (by kernel_rfl) (by kernel_rfl) (by kernel_rfl) ?_ (Or.inl ⟨?_, ?_⟩) ?_ ?_; rotate_left 2
  · (simp only [List.getElem?_toArray, List.getElem?_cons_succ, List.getElem?_cons_zero]; rfl)
  · exact fun _ _ _ h => h
  · rfl
  · (intro w hSw; (try dsimp only at hSw); obtain ⟨s0, s1, s2, s3, s4, s5, s6⟩ := hSw; first | (go_simp; done) | (go_simp; with_reducible rfl))
  · assumption
  try simp only [Act.put, List.setIfInBounds_toArray, List.set_cons_zero, List.set_cons_succ]
  refine wpAnyH_ready (rs := [12]) (by kernel_rfl) (by simp) ?_
  refine AllReadyH.cons (o := ?_) ?_ ?_ ?_; rotate_left 1
  · (simp only [List.getElem?_toArray, List.getElem?_cons_succ, List.getElem?_cons_zero]; rfl)
  · intro K' hK
    go_simp
    go_at_call 39; refine hcopy.mono ?_
    rintro e w2 ⟨lv', o2, rfl, hrow2, s2⟩
    obtain ⟨ao', cap', rfl, -, -⟩ := hrow2.slice
    replace hz := hz.frame s2 (by simp)
    have hoz := hz.own
    try go_wp2_with fail
    refine hK.out _ _ ?_ (fun hHeld => ?_)
    · exact hS0 s2 (by simp) (by simp)
    clear hK K'
    try simp only [Act.put, List.setIfInBounds_toArray, List.set_cons_zero, List.set_cons_succ]
    refine wpAnyH_ready (rs := [13]) (by kernel_rfl) (by simp) ?_
    refine AllReadyH.cons (o := ?_) ?_ ?_ ?_; rotate_left 1
    · (simp only [List.getElem?_toArray, List.getElem?_cons_succ, List.getElem?_cons_zero]; rfl)
    · intro K' hK
      obtain ⟨⟨z0, z1, z2, z3, z4, z5⟩, u0, u1, u2, u3, u4, u5⟩ := hz.facts6
      go_simp
      have hz6 := hz.set6 k a c x y (.slice ao' l.length cap')
      have sE : Step [77] w2 o2 (Proofs.Ytegcpjheglcbcaa.set6 w2 z k a c x y (.slice ao' l.length cap')) o2 := step_set6 (Step.refl _ _ _) (fun _ => by rw [hoz]; simp) k a c x y _
      have sF : Step [] w o (Proofs.Ytegcpjheglcbcaa.set6 w2 z k a c x y (.slice ao' l.length cap')) o2 := step_set6 (st.trans s2) (fun h => absurd h (by omega)) k a c x y _
      clear z0 z1 z2 z3 z4 z5 u0 u1 u2 u3 u4 u5
      refine hK.out _ _ ?_ (fun hHeld => ?_)
      · exact hS0 (s2.nil.trans sE) (by simpa using hi.1) (by simpa using hi.2)
      clear hK K'
      try simp only [Act.put, List.setIfInBounds_toArray, List.set_cons_zero, List.set_cons_succ]
      refine wpAnyH_take (i := 14) (oi := ?_) (v := ?_) ?_ (by kernel_rfl) (by kernel_rfl) (by kernel_rfl) ?_ (Or.inl ⟨?_, ?_⟩) ?_ ?_; rotate_left 2
      · (simp only [List.getElem?_toArray, List.getElem?_cons_succ, List.getElem?_cons_zero]; rfl)
      · exact fun _ _ _ h => h
      · rfl
      · (intro w hSw; (try dsimp only at hSw); obtain ⟨s0, s1, s2, s3, s4, s5, s6⟩ := hSw; first | (go_simp; done) | (go_simp; with_reducible rfl))
      · assumption
      try simp only [Act.put, List.setIfInBounds_toArray, List.set_cons_zero, List.set_cons_succ]
      refine wpAnyH_done (by kernel_rfl) ?_ _
      go_wp2_with fail
      obtain ⟨⟨r0, r1, r2, r3, r4, r5⟩, _⟩ := hz6.facts6
      refine bodyPost_ret (v := .tuple #[.agg #[.int .i64 k, .int .i64 a, .int .i64 c, .int .i64 x, .int .i64 y, .slice ao' l.length cap'], .bool true]) (by simp [results, Try.results26, go_sem, r0, r1, r2, r3, r4, r5]) rfl ?_
      exact ⟨_, o2, rfl, hrow2.frame sE (by simpa using hj), sF⟩
    exact AllReadyH.nil
  exact AllReadyH.nil
end Go.Proofs.Ytegcpjheglcbcaa
