/- The document's frames: Push (printed by gen_rfd.py). -/
import Derived.Test.YtegcpjheglcbcaaRfC
namespace Go.Proofs.Ytegcpjheglcbcaa
open Go Go.RowKit Go.Shelf
set_option linter.unusedSimpArgs false
set_option linter.unusedVariables false

/-- New frames stand in the row, and the row in its place. -/
theorem RT.put {w1 : World} {o1 : Owner} {i b : Nat} {v v' : Value} {fl' : List (Fr × List Int × Nat)} (hb : Blk w1 o1 i b 56 #[v]) (hr : Row w1 o1 (i + 1) 30 6 v' fl'.length (frs (fl'.map Prod.fst))) (h0 : fl'.length ≤ 128)
    (hL : ∀ p ∈ fl', p.2.1.length ≤ 1000000 ∧ p.2.2 ≠ i ∧ p.2.2 ≠ i + 1 ∧ p.2.2 ≠ 77 ∧ Row w1 o1 p.2.2 22 1 p.1.lv p.2.1.length (cellsOf p.2.1)) : RT (w1.setCell ⟨b, 0, none⟩ v') o1 i b fl' ∧ Step [i] w1 o1 (w1.setCell ⟨b, 0, none⟩ v') o1 :=
  ⟨⟨h0, ⟨v', hb.set 0 v', hr.setOther hb (by decide) 0 v'⟩, fun p hp => by
    obtain ⟨q1, q2, q3, q4, q5⟩ := hL p hp
    exact ⟨q1, q2, q3, q4, q5.setOther hb (by decide) 0 v'⟩⟩, (Step.refl _ _ _).setCell (fun _ => by simp [hb.own]) _⟩

theorem rpush_full {w : World} {o : Owner} {i b : Nat} {fl : List (Fr × List Int × Nat)} (hs : RT w o i b fl) (hfit : ¬ fl.length < 128) (k a c x y : Int) (lv : Value) (h1 : ∃ ao n cap, lv = .slice ao n cap) :
    Calls Try.prog 32 #[.pointer (some ⟨b, 0, none⟩), .agg #[.int .i64 k, .int .i64 a, .int .i64 c, .int .i64 x, .int .i64 y, lv]] w fun e w' => e = .returned (.int .i64 (-5)) ∧ Step [] w o w' o := by
  obtain ⟨ax, nx, cx, rfl⟩ := h1
  obtain ⟨ao, cap, g, hc, -, hle, hcap, -⟩ := hs.key
  have s1 : Step [] w o (w.alloc (.cells #[.int .i64 k, .int .i64 a, .int .i64 c, .int .i64 x, .int .i64 y, .slice ax nx cx] 30)) o := (Step.refl _ _ _).alloc _
  obtain ⟨-, ⟨v, hb, -⟩, -⟩ := hs
  have hv := hb.cell0
  rw [hc] at hv
  obtain rfl := Option.some.inj hv
  have hc1 := (hb.frame s1 (by simp)).cell0
  have hi : (128 : Int) ≤ fl.length := by omega
  clear hb hv hc
  go_enter Try.func32, Try.ntmps32
  go_wp2_with fail
  go_ret
  exact ⟨rfl, s1⟩

set_option maxRecDepth 100000 in
set_option maxHeartbeats 8000000 in
theorem rpush_fit {w : World} {o : Owner} {i b : Nat} {fl : List (Fr × List Int × Nat)} (hs : RT w o i b fl) (hi : i ≠ 77 ∧ i + 1 ≠ 77) (j : Nat) (hj : j ≠ i ∧ j ≠ i + 1 ∧ j ≠ 77) (hfit : fl.length < 128) {k2 : Nat} {l : List Int} {lv : Value} (hl : Rd w o k2 1 lv l.length (cellsOf l)) (hll : l.length ≤ 1000000) (k a c x y : Int) :
    Calls Try.prog 32 #[.pointer (some ⟨b, 0, none⟩), .agg #[.int .i64 k, .int .i64 a, .int .i64 c, .int .i64 x, .int .i64 y, lv]] w fun e w' => ∃ o' lv', e = .returned (.int .i64 0) ∧ RT w' o' i b (fl ++ [(⟨k, a, c, x, y, lv'⟩, l, j)]) ∧ Step [i, i + 1] w o w' o' := by
  obtain ⟨h0, ⟨v, hb, hr⟩, hL⟩ := hs
  obtain ⟨al, cl, rfl, -, -, -, -⟩ := id hl
  obtain ⟨ao, cap, rfl, hcap1, hcap2⟩ := hr.slice
  obtain ⟨n, hn⟩ : ∃ n, fl.length = n := ⟨_, rfl⟩
  rw [hn] at hb hr hcap1 hfit
  have s1 : Step [] w o (w.alloc (.cells #[.int .i64 k, .int .i64 a, .int .i64 c, .int .i64 x, .int .i64 y, .slice al l.length cl] 30)) (o.set w.heap.size 77) := ((Step.refl _ _ _).alloc _).give (Nat.le_refl _) _
  have hz := Blk.new w o 77 30 #[.int .i64 k, .int .i64 a, .int .i64 c, .int .i64 x, .int .i64 y, .slice al l.length cl]
  have sd : Step [] (w.alloc (.cells #[.int .i64 k, .int .i64 a, .int .i64 c, .int .i64 x, .int .i64 y, .slice al l.length cl] 30)) (o.set w.heap.size 77) (w.alloc (.cells #[.int .i64 k, .int .i64 a, .int .i64 c, .int .i64 x, .int .i64 y, .slice al l.length cl] 30)).drew (o.set w.heap.size 77) := (Step.refl _ _ _).drew
  replace hb := hb.frame s1 (by simp)
  have hc := hb.cell0
  replace hb := hb.frame sd (by simp)
  replace hz := hz.frame sd (by simp)
  replace hr := (hr.frame s1 (by simp)).frame sd (by simp)
  replace hl := (hl.frame s1 (by simp)).frame sd (by simp)
  have st := s1.trans sd
  generalize o.set w.heap.size 77 = o1 at hb hz hr hl st
  have hi1 : ¬ (128 : Int) ≤ n := by omega
  have HN := Lib.hid hn
  have HL := Lib.hid hL
  clear s1 sd hn hL
  go_enter Try.func32, Try.ntmps32
  go_wp2_with fail
  obtain ⟨z, hzz⟩ : ∃ z, w.heap.size = z := ⟨_, rfl⟩
  rw [hzz] at hz ⊢
  clear hc hzz
  refine wp_region_held_drew (S := fun W => W.cell? ⟨z, 0, none⟩ = some (.int .i64 k) ∧ W.cell? ⟨z, 1, none⟩ = some (.int .i64 a) ∧ W.cell? ⟨z, 2, none⟩ = some (.int .i64 c) ∧ W.cell? ⟨z, 3, none⟩ = some (.int .i64 x) ∧ W.cell? ⟨z, 4, none⟩ = some (.int .i64 y) ∧ W.cell? ⟨z, 5, none⟩ = some (.slice al l.length cl)) (by kernel_rfl) hz.facts6.1 (fun hHeld => ?_)
  generalize (w.alloc (.cells #[.int .i64 k, .int .i64 a, .int .i64 c, .int .i64 x, .int .i64 y, .slice al l.length cl] 30)).drew = wd at hb hz hr hl st hHeld ⊢
  refine wpAnyH_take (i := 0) (oi := ?_) (v := ?_) ?_ (by kernel_rfl) (by kernel_rfl) (by kernel_rfl) ?_ (Or.inl ⟨?_, ?_⟩) ?_ ?_; rotate_left 2
  · (simp only [List.getElem?_toArray, List.getElem?_cons_succ, List.getElem?_cons_zero]; rfl)
  · exact fun _ _ _ h => h
  · rfl
  · (intro w hSw; (try dsimp only at hSw); obtain ⟨s0, s1, s2, s3, s4, s5⟩ := hSw; first | (go_simp; done) | (go_simp; with_reducible rfl))
  · assumption
  try simp only [Act.put, List.setIfInBounds_toArray, List.set_cons_zero, List.set_cons_succ]
  refine wpAnyH_take (i := 2) (oi := ?_) (v := ?_) ?_ (by kernel_rfl) (by kernel_rfl) (by kernel_rfl) ?_ (Or.inl ⟨?_, ?_⟩) ?_ ?_; rotate_left 2
  · (simp only [List.getElem?_toArray, List.getElem?_cons_succ, List.getElem?_cons_zero]; rfl)
  · exact fun _ _ _ h => h
  · rfl
  · (intro w hSw; (try dsimp only at hSw); obtain ⟨s0, s1, s2, s3, s4, s5⟩ := hSw; first | (go_simp; done) | (go_simp; with_reducible rfl))
  · assumption
  try simp only [Act.put, List.setIfInBounds_toArray, List.set_cons_zero, List.set_cons_succ]
  refine wpAnyH_take (i := 3) (oi := ?_) (v := ?_) ?_ (by kernel_rfl) (by kernel_rfl) (by kernel_rfl) ?_ (Or.inl ⟨?_, ?_⟩) ?_ ?_; rotate_left 2
  · (simp only [List.getElem?_toArray, List.getElem?_cons_succ, List.getElem?_cons_zero]; rfl)
  · exact fun _ _ _ h => h
  · rfl
  · (intro w hSw; (try dsimp only at hSw); obtain ⟨s0, s1, s2, s3, s4, s5⟩ := hSw; first | (go_simp; done) | (go_simp; with_reducible rfl))
  · assumption
  try simp only [Act.put, List.setIfInBounds_toArray, List.set_cons_zero, List.set_cons_succ]
  refine wpAnyH_take (i := 4) (oi := ?_) (v := ?_) ?_ (by kernel_rfl) (by kernel_rfl) (by kernel_rfl) ?_ (Or.inl ⟨?_, ?_⟩) ?_ ?_; rotate_left 2
  · (simp only [List.getElem?_toArray, List.getElem?_cons_succ, List.getElem?_cons_zero]; rfl)
  · exact fun _ _ _ h => h
  · rfl
  · (intro w hSw; (try dsimp only at hSw); obtain ⟨s0, s1, s2, s3, s4, s5⟩ := hSw; first | (go_simp; done) | (go_simp; with_reducible rfl))
  · assumption
  try simp only [Act.put, List.setIfInBounds_toArray, List.set_cons_zero, List.set_cons_succ]
  refine wpAnyH_take (i := 7) (oi := ?_) (v := ?_) ?_ (by kernel_rfl) (by kernel_rfl) (by kernel_rfl) ?_ (Or.inl ⟨?_, ?_⟩) ?_ ?_; rotate_left 2
  · (simp only [List.getElem?_toArray, List.getElem?_cons_succ, List.getElem?_cons_zero]; rfl)
  · exact fun _ _ _ h => h
  · rfl
  · (intro w hSw; (try dsimp only at hSw); obtain ⟨s0, s1, s2, s3, s4, s5⟩ := hSw; first | (go_simp; done) | (go_simp; with_reducible rfl))
  · assumption
  try simp only [Act.put, List.setIfInBounds_toArray, List.set_cons_zero, List.set_cons_succ]
  refine wpAnyH_ready (rs := [1, 5]) (by kernel_rfl) (by simp) ?_
  refine AllReadyH.cons (o := ?_) ?_ ?_ ?_; rotate_left 1
  · (simp only [List.getElem?_toArray, List.getElem?_cons_succ, List.getElem?_cons_zero]; rfl)
  · intro K' hK
    go_simp
    replace hb := hb.frame ((Step.refl [] _ _).alloc (.cells #[] 30)) (by simp)
    replace hz := hz.frame ((Step.refl [] _ _).alloc (.cells #[] 30)) (by simp)
    replace hr := hr.frame ((Step.refl [] _ _).alloc (.cells #[] 30)) (by simp)
    replace hl := hl.frame ((Step.refl [] _ _).alloc (.cells #[] 30)) (by simp)
    replace st := st.trans ((Step.refl [] _ _).alloc (.cells #[] 30))
    refine hK.out _ _ ?_ (fun hHeld => ?_)
    · exact hz.facts6.1
    clear hK K'
    try simp only [Act.put, List.setIfInBounds_toArray, List.set_cons_zero, List.set_cons_succ]
    refine wpAnyH_ready (rs := [5]) (by kernel_rfl) (by simp) ?_
    refine AllReadyH.cons (o := ?_) ?_ ?_ ?_; rotate_left 1
    · (simp only [List.getElem?_toArray, List.getElem?_cons_succ, List.getElem?_cons_zero]; rfl)
    · intro K' hK
      have hcb := hb.cell0
      go_simp
      clear hcb
      refine hK.out _ _ ?_ (fun hHeld => ?_)
      · exact hz.facts6.1
      clear hK K'
      try simp only [Act.put, List.setIfInBounds_toArray, List.set_cons_zero, List.set_cons_succ]
      refine wpAnyH_ready (rs := [6]) (by kernel_rfl) (by simp) ?_
      refine AllReadyH.cons (o := ?_) ?_ ?_ ?_; rotate_left 1
      · (simp only [List.getElem?_toArray, List.getElem?_cons_succ, List.getElem?_cons_zero]; rfl)
      · intro K' hK
        refine step_app0 (.tmp 12) (.tmp 16) 38 rfl o1 (i + 1) Try.underlying38 info30 rfl (by rfl) (by rfl) (by rfl) hr.rd (by omega) (by omega) ?_
        intro vN wN oN hN sN
        obtain ⟨aN, cN, rfl, -, -⟩ := hN.slice
        replace hb := hb.frame sN (by simp)
        replace hz := hz.frame sN (by simp)
        replace hl := hl.frame sN (by simp)
        replace st := st.trans sN
        have hcopy := copied_ok hl hll j hj.2.2 k a c x y
        refine hK.out _ _ ?_ (fun hHeld => ?_)
        · exact hz.facts6.1
        clear hK K'
        try simp only [Act.put, List.setIfInBounds_toArray, List.set_cons_zero, List.set_cons_succ]
        refine wpAnyH_ready (rs := [8]) (by kernel_rfl) (by simp) ?_
        refine AllReadyH.cons (o := ?_) ?_ ?_ ?_; rotate_left 1
        · (simp only [List.getElem?_toArray, List.getElem?_cons_succ, List.getElem?_cons_zero]; rfl)
        · intro K' hK
          go_simp
          go_at_call 39; refine hcopy.mono ?_
          rintro e wC ⟨lvC', oC, rfl, hrowC, sC⟩
          obtain ⟨ac, cc, rfl, -, -⟩ := hrowC.slice
          replace hb := hb.frame sC (by simp)
          replace hz := hz.frame sC (by simp)
          replace hN := hN.frame sC (by simp)
          replace st := st.trans sC
          clear hcopy
          try go_wp2_with fail
          refine hK.out _ _ ?_ (fun hHeld => ?_)
          · exact hz.facts6.1
          clear hK K'
          try simp only [Act.put, List.setIfInBounds_toArray, List.set_cons_zero, List.set_cons_succ]
          refine wpAnyH_ready (rs := [9]) (by kernel_rfl) (by simp) ?_
          refine AllReadyH.cons (o := ?_) ?_ ?_ ?_; rotate_left 1
          · (simp only [List.getElem?_toArray, List.getElem?_cons_succ, List.getElem?_cons_zero]; rfl)
          · intro K' hK
            go_simp
            have hX := Rd.fresh wC oC 6 30 #[.int .i64 k, .int .i64 a, .int .i64 c, .int .i64 x, .int .i64 y, .slice ac l.length cc] 1 (by decide) rfl
            replace hb := hb.frame ((Step.refl [] _ _).alloc (.cells #[.int .i64 k, .int .i64 a, .int .i64 c, .int .i64 x, .int .i64 y, .slice ac l.length cc] 30)) (by simp)
            replace hz := hz.frame ((Step.refl [] _ _).alloc (.cells #[.int .i64 k, .int .i64 a, .int .i64 c, .int .i64 x, .int .i64 y, .slice ac l.length cc] 30)) (by simp)
            replace hN := hN.frame ((Step.refl [] _ _).alloc (.cells #[.int .i64 k, .int .i64 a, .int .i64 c, .int .i64 x, .int .i64 y, .slice ac l.length cc] 30)) (by simp)
            replace hrowC := hrowC.frame ((Step.refl [] _ _).alloc (.cells #[.int .i64 k, .int .i64 a, .int .i64 c, .int .i64 x, .int .i64 y, .slice ac l.length cc] 30)) (by simp)
            replace st := st.trans ((Step.refl [] _ _).alloc (.cells #[.int .i64 k, .int .i64 a, .int .i64 c, .int .i64 x, .int .i64 y, .slice ac l.length cc] 30))
            refine hK.out _ _ ?_ (fun hHeld => ?_)
            · exact hz.facts6.1
            clear hK K'
            try simp only [Act.put, List.setIfInBounds_toArray, List.set_cons_zero, List.set_cons_succ]
            refine wpAnyH_ready (rs := [10]) (by kernel_rfl) (by simp) ?_
            refine AllReadyH.cons (o := ?_) ?_ ?_ ?_; rotate_left 1
            · (simp only [List.getElem?_toArray, List.getElem?_cons_succ, List.getElem?_cons_zero]; rfl)
            · intro K' hK
              refine step_app (.tmp 17) (.tmp 20) 38 rfl Try.underlying38 info30 rfl (by rfl) (by rfl) hN (by first | rfl | simp [Act.eval, Act.put]) hX (by simp [Value.oneCell']) (by omega) (by omega) ?_
              intro vM wM oM hM sM
              obtain ⟨aM, cM, rfl, -, -⟩ := hM.slice
              replace hb := hb.frame sM (by simp)
              replace hz := hz.frame sM (by simpa using hi.2.symm)
              replace hrowC := hrowC.frame sM (by simpa using hj.2.1)
              replace st := st.nil.trans sM
              refine hK.out _ _ ?_ (fun hHeld => ?_)
              · exact hz.facts6.1
              clear hK K'
              try simp only [Act.put, List.setIfInBounds_toArray, List.set_cons_zero, List.set_cons_succ]
              refine wpAnyH_take (i := 11) (oi := ?_) (v := ?_) ?_ (by kernel_rfl) (by kernel_rfl) (by kernel_rfl) ?_ (Or.inl ⟨?_, ?_⟩) ?_ ?_; rotate_left 2
              · (simp only [List.getElem?_toArray, List.getElem?_cons_succ, List.getElem?_cons_zero]; rfl)
              · exact fun _ _ _ h => h
              · rfl
              · (intro w hSw; (try dsimp only at hSw); obtain ⟨s0, s1, s2, s3, s4, s5⟩ := hSw; first | (go_simp; done) | (go_simp; with_reducible rfl))
              · assumption
              try simp only [Act.put, List.setIfInBounds_toArray, List.set_cons_zero, List.set_cons_succ]
              refine wpAnyH_take (i := 12) (oi := ?_) (v := ?_) ?_ (by kernel_rfl) (by kernel_rfl) (by kernel_rfl) ?_ (Or.inl ⟨?_, ?_⟩) ?_ ?_; rotate_left 2
              · (simp only [List.getElem?_toArray, List.getElem?_cons_succ, List.getElem?_cons_zero]; rfl)
              · exact fun _ _ _ h => h
              · rfl
              · (intro w hSw; (try dsimp only at hSw); obtain ⟨s0, s1, s2, s3, s4, s5⟩ := hSw; first | (go_simp; done) | (go_simp; with_reducible rfl))
              · assumption
              try simp only [Act.put, List.setIfInBounds_toArray, List.set_cons_zero, List.set_cons_succ]
              refine wpAnyH_ready (rs := [13]) (by kernel_rfl) (by simp) ?_
              refine AllReadyH.cons (o := ?_) ?_ ?_ ?_; rotate_left 1
              · (simp only [List.getElem?_toArray, List.getElem?_cons_succ, List.getElem?_cons_zero]; rfl)
              · intro K' hK
                have hcb := hb.cell0
                have hfb := hb.frozen 0
                go_simp
                refine hK.out _ _ ?_ (fun hHeld => ?_)
                · exact (hz.setOther (g := b) (fun e => by have h1 := hz.own; have h2 := hb.own; rw [e, h2] at h1; exact hi.1 h1) 0 _).facts6.1
                clear hK K'
                try simp only [Act.put, List.setIfInBounds_toArray, List.set_cons_zero, List.set_cons_succ]
                refine wpAnyH_done (by kernel_rfl) ?_ _
                go_wp2_with fail
                go_ret
                have hrN : Row wM oM (i + 1) 30 6 (.slice aM (n + 1) cM) (fl ++ [((⟨k, a, c, x, y, .slice ac l.length cc⟩ : Fr), l, j)]).length (frs ((fl ++ [((⟨k, a, c, x, y, .slice ac l.length cc⟩ : Fr), l, j)]).map Prod.fst)) := by
                  rw [List.length_append, List.length_singleton, HN.out, List.map_append, List.map_singleton, frs_app]
                  exact hM
                obtain ⟨g1, g2⟩ := RT.put hb hrN (by rw [List.length_append, List.length_singleton, HN.out]; omega) (fun p hp => by
                  rcases List.mem_append.1 hp with hp | hp
                  · obtain ⟨q1, q2, q3, q4, q5⟩ := HL.out p hp
                    exact ⟨q1, q2, q3, q4, q5.frame st (by simpa using q3)⟩
                  · rw [List.mem_singleton] at hp
                    subst hp
                    exact ⟨hll, hj.1, hj.2.1, hj.2.2, hrowC⟩)
                first | exact ⟨oM, _, rfl, g1, (st.weaken (by simp)).trans (g2.weaken (by simp))⟩ | exact ⟨rfl, oM, ⟨_, g1⟩, (st.weaken (by simp)).trans (g2.weaken (by simp))⟩
              exact AllReadyH.nil
            exact AllReadyH.nil
          exact AllReadyH.nil
        exact AllReadyH.nil
      exact AllReadyH.nil
    exact AllReadyH.nil
  refine AllReadyH.cons (o := ?_) ?_ ?_ ?_; rotate_left 1
  · (simp only [List.getElem?_toArray, List.getElem?_cons_succ, List.getElem?_cons_zero]; rfl)
  · intro K' hK
    have hcb := hb.cell0
    go_simp
    clear hcb
    refine hK.out _ _ ?_ (fun hHeld => ?_)
    · exact hz.facts6.1
    clear hK K'
    try simp only [Act.put, List.setIfInBounds_toArray, List.set_cons_zero, List.set_cons_succ]
    refine wpAnyH_ready (rs := [1]) (by kernel_rfl) (by simp) ?_
    refine AllReadyH.cons (o := ?_) ?_ ?_ ?_; rotate_left 1
    · (simp only [List.getElem?_toArray, List.getElem?_cons_succ, List.getElem?_cons_zero]; rfl)
    · intro K' hK
      go_simp
      replace hb := hb.frame ((Step.refl [] _ _).alloc (.cells #[] 30)) (by simp)
      replace hz := hz.frame ((Step.refl [] _ _).alloc (.cells #[] 30)) (by simp)
      replace hr := hr.frame ((Step.refl [] _ _).alloc (.cells #[] 30)) (by simp)
      replace hl := hl.frame ((Step.refl [] _ _).alloc (.cells #[] 30)) (by simp)
      replace st := st.trans ((Step.refl [] _ _).alloc (.cells #[] 30))
      refine hK.out _ _ ?_ (fun hHeld => ?_)
      · exact hz.facts6.1
      clear hK K'
      try simp only [Act.put, List.setIfInBounds_toArray, List.set_cons_zero, List.set_cons_succ]
      refine wpAnyH_ready (rs := [6]) (by kernel_rfl) (by simp) ?_
      refine AllReadyH.cons (o := ?_) ?_ ?_ ?_; rotate_left 1
      · (simp only [List.getElem?_toArray, List.getElem?_cons_succ, List.getElem?_cons_zero]; rfl)
      · intro K' hK
        refine step_app0 (.tmp 12) (.tmp 16) 38 rfl o1 (i + 1) Try.underlying38 info30 rfl (by rfl) (by rfl) (by rfl) hr.rd (by omega) (by omega) ?_
        intro vN wN oN hN sN
        obtain ⟨aN, cN, rfl, -, -⟩ := hN.slice
        replace hb := hb.frame sN (by simp)
        replace hz := hz.frame sN (by simp)
        replace hl := hl.frame sN (by simp)
        replace st := st.trans sN
        have hcopy := copied_ok hl hll j hj.2.2 k a c x y
        refine hK.out _ _ ?_ (fun hHeld => ?_)
        · exact hz.facts6.1
        clear hK K'
        try simp only [Act.put, List.setIfInBounds_toArray, List.set_cons_zero, List.set_cons_succ]
        refine wpAnyH_ready (rs := [8]) (by kernel_rfl) (by simp) ?_
        refine AllReadyH.cons (o := ?_) ?_ ?_ ?_; rotate_left 1
        · (simp only [List.getElem?_toArray, List.getElem?_cons_succ, List.getElem?_cons_zero]; rfl)
        · intro K' hK
          go_simp
          go_at_call 39; refine hcopy.mono ?_
          rintro e wC ⟨lvC', oC, rfl, hrowC, sC⟩
          obtain ⟨ac, cc, rfl, -, -⟩ := hrowC.slice
          replace hb := hb.frame sC (by simp)
          replace hz := hz.frame sC (by simp)
          replace hN := hN.frame sC (by simp)
          replace st := st.trans sC
          clear hcopy
          try go_wp2_with fail
          refine hK.out _ _ ?_ (fun hHeld => ?_)
          · exact hz.facts6.1
          clear hK K'
          try simp only [Act.put, List.setIfInBounds_toArray, List.set_cons_zero, List.set_cons_succ]
          refine wpAnyH_ready (rs := [9]) (by kernel_rfl) (by simp) ?_
          refine AllReadyH.cons (o := ?_) ?_ ?_ ?_; rotate_left 1
          · (simp only [List.getElem?_toArray, List.getElem?_cons_succ, List.getElem?_cons_zero]; rfl)
          · intro K' hK
            go_simp
            have hX := Rd.fresh wC oC 6 30 #[.int .i64 k, .int .i64 a, .int .i64 c, .int .i64 x, .int .i64 y, .slice ac l.length cc] 1 (by decide) rfl
            replace hb := hb.frame ((Step.refl [] _ _).alloc (.cells #[.int .i64 k, .int .i64 a, .int .i64 c, .int .i64 x, .int .i64 y, .slice ac l.length cc] 30)) (by simp)
            replace hz := hz.frame ((Step.refl [] _ _).alloc (.cells #[.int .i64 k, .int .i64 a, .int .i64 c, .int .i64 x, .int .i64 y, .slice ac l.length cc] 30)) (by simp)
            replace hN := hN.frame ((Step.refl [] _ _).alloc (.cells #[.int .i64 k, .int .i64 a, .int .i64 c, .int .i64 x, .int .i64 y, .slice ac l.length cc] 30)) (by simp)
            replace hrowC := hrowC.frame ((Step.refl [] _ _).alloc (.cells #[.int .i64 k, .int .i64 a, .int .i64 c, .int .i64 x, .int .i64 y, .slice ac l.length cc] 30)) (by simp)
            replace st := st.trans ((Step.refl [] _ _).alloc (.cells #[.int .i64 k, .int .i64 a, .int .i64 c, .int .i64 x, .int .i64 y, .slice ac l.length cc] 30))
            refine hK.out _ _ ?_ (fun hHeld => ?_)
            · exact hz.facts6.1
            clear hK K'
            try simp only [Act.put, List.setIfInBounds_toArray, List.set_cons_zero, List.set_cons_succ]
            refine wpAnyH_ready (rs := [10]) (by kernel_rfl) (by simp) ?_
            refine AllReadyH.cons (o := ?_) ?_ ?_ ?_; rotate_left 1
            · (simp only [List.getElem?_toArray, List.getElem?_cons_succ, List.getElem?_cons_zero]; rfl)
            · intro K' hK
              refine step_app (.tmp 17) (.tmp 20) 38 rfl Try.underlying38 info30 rfl (by rfl) (by rfl) hN (by first | rfl | simp [Act.eval, Act.put]) hX (by simp [Value.oneCell']) (by omega) (by omega) ?_
              intro vM wM oM hM sM
              obtain ⟨aM, cM, rfl, -, -⟩ := hM.slice
              replace hb := hb.frame sM (by simp)
              replace hz := hz.frame sM (by simpa using hi.2.symm)
              replace hrowC := hrowC.frame sM (by simpa using hj.2.1)
              replace st := st.nil.trans sM
              refine hK.out _ _ ?_ (fun hHeld => ?_)
              · exact hz.facts6.1
              clear hK K'
              try simp only [Act.put, List.setIfInBounds_toArray, List.set_cons_zero, List.set_cons_succ]
              refine wpAnyH_take (i := 11) (oi := ?_) (v := ?_) ?_ (by kernel_rfl) (by kernel_rfl) (by kernel_rfl) ?_ (Or.inl ⟨?_, ?_⟩) ?_ ?_; rotate_left 2
              · (simp only [List.getElem?_toArray, List.getElem?_cons_succ, List.getElem?_cons_zero]; rfl)
              · exact fun _ _ _ h => h
              · rfl
              · (intro w hSw; (try dsimp only at hSw); obtain ⟨s0, s1, s2, s3, s4, s5⟩ := hSw; first | (go_simp; done) | (go_simp; with_reducible rfl))
              · assumption
              try simp only [Act.put, List.setIfInBounds_toArray, List.set_cons_zero, List.set_cons_succ]
              refine wpAnyH_take (i := 12) (oi := ?_) (v := ?_) ?_ (by kernel_rfl) (by kernel_rfl) (by kernel_rfl) ?_ (Or.inl ⟨?_, ?_⟩) ?_ ?_; rotate_left 2
              · (simp only [List.getElem?_toArray, List.getElem?_cons_succ, List.getElem?_cons_zero]; rfl)
              · exact fun _ _ _ h => h
              · rfl
              · (intro w hSw; (try dsimp only at hSw); obtain ⟨s0, s1, s2, s3, s4, s5⟩ := hSw; first | (go_simp; done) | (go_simp; with_reducible rfl))
              · assumption
              try simp only [Act.put, List.setIfInBounds_toArray, List.set_cons_zero, List.set_cons_succ]
              refine wpAnyH_ready (rs := [13]) (by kernel_rfl) (by simp) ?_
              refine AllReadyH.cons (o := ?_) ?_ ?_ ?_; rotate_left 1
              · (simp only [List.getElem?_toArray, List.getElem?_cons_succ, List.getElem?_cons_zero]; rfl)
              · intro K' hK
                have hcb := hb.cell0
                have hfb := hb.frozen 0
                go_simp
                refine hK.out _ _ ?_ (fun hHeld => ?_)
                · exact (hz.setOther (g := b) (fun e => by have h1 := hz.own; have h2 := hb.own; rw [e, h2] at h1; exact hi.1 h1) 0 _).facts6.1
                clear hK K'
                try simp only [Act.put, List.setIfInBounds_toArray, List.set_cons_zero, List.set_cons_succ]
                refine wpAnyH_done (by kernel_rfl) ?_ _
                go_wp2_with fail
                go_ret
                have hrN : Row wM oM (i + 1) 30 6 (.slice aM (n + 1) cM) (fl ++ [((⟨k, a, c, x, y, .slice ac l.length cc⟩ : Fr), l, j)]).length (frs ((fl ++ [((⟨k, a, c, x, y, .slice ac l.length cc⟩ : Fr), l, j)]).map Prod.fst)) := by
                  rw [List.length_append, List.length_singleton, HN.out, List.map_append, List.map_singleton, frs_app]
                  exact hM
                obtain ⟨g1, g2⟩ := RT.put hb hrN (by rw [List.length_append, List.length_singleton, HN.out]; omega) (fun p hp => by
                  rcases List.mem_append.1 hp with hp | hp
                  · obtain ⟨q1, q2, q3, q4, q5⟩ := HL.out p hp
                    exact ⟨q1, q2, q3, q4, q5.frame st (by simpa using q3)⟩
                  · rw [List.mem_singleton] at hp
                    subst hp
                    exact ⟨hll, hj.1, hj.2.1, hj.2.2, hrowC⟩)
                first | exact ⟨oM, _, rfl, g1, (st.weaken (by simp)).trans (g2.weaken (by simp))⟩ | exact ⟨rfl, oM, ⟨_, g1⟩, (st.weaken (by simp)).trans (g2.weaken (by simp))⟩
              exact AllReadyH.nil
            exact AllReadyH.nil
          exact AllReadyH.nil
        exact AllReadyH.nil
      exact AllReadyH.nil
    exact AllReadyH.nil
  exact AllReadyH.nil
end Go.Proofs.Ytegcpjheglcbcaa
