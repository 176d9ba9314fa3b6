/- The document's dictionary: a word is added. -/
import Derived.Test.YtaledmoakhlmgaaRefC
import Derived.Deep.RegionHeld3
namespace Go.Proofs.Ytaledmoakhlmgaa
open Go Go.RowKit
set_option linter.unusedSimpArgs false
set_option linter.unusedVariables false

theorem Blk.freshX {w : World} {o : Owner} {i b : Nat} {T : TypeId} {cs : Array Value} (h : Blk w o i b T cs) (nm : ByteArray) (xt li : Int) :
    ∃ j, Rd (w.alloc (.cells #[.string nm, .int .i64 xt, .bool false, .int .i64 li] 80)) o j 4 (.slice (some ⟨w.heap.size, 0, none⟩) 1 1) 1 [.string nm, .int .i64 xt, .bool false, .int .i64 li] :=
  ⟨_, Rd.fresh w o 4 80 #[.string nm, .int .i64 xt, .bool false, .int .i64 li] 1 (by decide) rfl⟩

set_option maxRecDepth 100000 in
set_option maxHeartbeats 40000000 in
theorem radd_ok {w : World} {o : Owner} {i b : Nat} {s : Dst} (h : RB w o i b s) (nm : ByteArray) (hn : nm.size ≤ 1000000) (xt : Int) :
    Calls Try.prog 39 #[.pointer (some ⟨b, 0, none⟩), .string nm, .int .i64 xt] w fun e w' => e = .returned (.int .i64 (addE s nm)) ∧ ∃ o', RB w' o' i b (addS s nm xt) ∧ Step [i, i + 1] w o w' o' := by
  have h0 := h
  obtain ⟨ok, lv, ov, jo, hjo, hb, hr, hr2⟩ := h
  have hwl := ok.wl
  obtain ⟨ao, cap, rfl, g1, g2⟩ := hr.slice
  obtain ⟨⟨c0, c1, c2, c3⟩, -⟩ := hb.cells4
  by_cases he : nm.size = 0
  · have hE : addE s nm = -16 := by unfold addE; rw [if_pos he]
    have hS : addS s nm xt = s := by unfold addS; rw [hE, if_neg (by decide)]
    have hz : ((nm.size : Int) == 0) = true := by rw [he]; rfl
    rw [hE, hS]
    clear hb hr hr2 he
    go_enter Try.func39, Try.ntmps39
    go_wp2_with fail
    go_ret
    exact ⟨rfl, o, h0, Step.refl _ _ _⟩
  · have hz : ((nm.size : Int) == 0) = false := by rw [beq_eq_false_iff_ne]; omega
    by_cases he2 : 31 < nm.size
    · have hE : addE s nm = -19 := by unfold addE; rw [if_neg he, if_pos he2]
      have hS : addS s nm xt = s := by unfold addS; rw [hE, if_neg (by decide)]
      have hi : (31 : Int) < nm.size := by omega
      rw [hE, hS]
      clear hb hr hr2 he
      go_enter Try.func39, Try.ntmps39
      go_wp2_with fail
      go_ret
      exact ⟨rfl, o, h0, Step.refl _ _ _⟩
    · have hi : ¬ (31 : Int) < nm.size := by omega
      by_cases he3 : 2000 ≤ s.ws.length
      · have hE : addE s nm = -8 := by unfold addE; rw [if_neg he, if_neg he2, if_pos he3]
        have hS : addS s nm xt = s := by unfold addS; rw [hE, if_neg (by decide)]
        have hi3 : (2000 : Int) ≤ s.ws.length := by omega
        rw [hE, hS]
        clear hb hr hr2 he
        go_enter Try.func39, Try.ntmps39
        go_wp2_with fail
        go_ret
        exact ⟨rfl, o, h0, Step.refl _ _ _⟩
      · have hE : addE s nm = 0 := by unfold addE; rw [if_neg he, if_neg he2, if_neg he3]
        have hokS := addS_ok ok nm xt
        have hS : addS s nm xt = { s with ws := ⟨nm, xt, false, s.cur⟩ :: s.ws } := by unfold addS; rw [if_pos hE]
        have hi3 : ¬ (2000 : Int) ≤ s.ws.length := by omega
        rw [hS] at hokS
        rw [hE, hS]
        have HOK := Lib.hid hokS
        have hsd : Step [] w o w.drew o := (Step.refl _ _ _).drew
        clear hE hS hokS h0 he he2 he3
        go_enter Try.func39, Try.ntmps39
        go_wp2_with fail
        clear c0 c1 c2 c3
        replace hb := hb.frame hsd (by simp)
        replace hr := hr.frame hsd (by simp)
        replace hr2 := hr2.frame hsd (by simp)
        have hs := hsd
        clear hsd
        refine wp_region_held_drew (S := fun W' => W'.cell? ⟨b, 3, none⟩ = some (.int .i64 s.cur)) (by kernel_rfl) hb.cells4.1.2.2.2 (fun hHeld => ?_)
        generalize w.drew = wd at hb hr hr2 hs hHeld ⊢
        refine wpAnyH_take (i := 0) (oi := ?_) (v := ?_) ?_ (by kernel_rfl) (by kernel_rfl) (by kernel_rfl) ?_ (Or.inl ⟨?_, ?_⟩) ?_ ?_; rotate_left 2
        · (simp only [List.getElem?_toArray, List.getElem?_cons_succ, List.getElem?_cons_zero]; rfl)
        · exact fun _ _ _ h => h
        · rfl
        · (intro w hSw; (try dsimp only at hSw); first | (go_simp; done) | (go_simp; with_reducible rfl))
        · assumption
        try simp only [Act.put, List.setIfInBounds_toArray, List.set_cons_zero, List.set_cons_succ]
        refine wpAnyH_take (i := 2) (oi := ?_) (v := ?_) ?_ (by kernel_rfl) (by kernel_rfl) (by kernel_rfl) ?_ (Or.inl ⟨?_, ?_⟩) ?_ ?_; rotate_left 2
        · (simp only [List.getElem?_toArray, List.getElem?_cons_succ, List.getElem?_cons_zero]; rfl)
        · exact fun _ _ _ h => h
        · rfl
        · (intro w hSw; (try dsimp only at hSw); first | (go_simp; done) | (go_simp; with_reducible rfl))
        · assumption
        try simp only [Act.put, List.setIfInBounds_toArray, List.set_cons_zero, List.set_cons_succ]
        refine wpAnyH_take (i := 3) (oi := ?_) (v := ?_) ?_ (by kernel_rfl) (by kernel_rfl) (by kernel_rfl) ?_ (Or.inl ⟨?_, ?_⟩) ?_ ?_; rotate_left 2
        · (simp only [List.getElem?_toArray, List.getElem?_cons_succ, List.getElem?_cons_zero]; rfl)
        · exact fun _ _ _ h => h
        · rfl
        · (intro w hSw; (try dsimp only at hSw); first | (go_simp; done) | (go_simp; with_reducible rfl))
        · assumption
        try simp only [Act.put, List.setIfInBounds_toArray, List.set_cons_zero, List.set_cons_succ]
        refine wpAnyH_take (i := 4) (oi := ?_) (v := ?_) ?_ (by kernel_rfl) (by kernel_rfl) (by kernel_rfl) ?_ (Or.inl ⟨?_, ?_⟩) ?_ ?_; rotate_left 2
        · (simp only [List.getElem?_toArray, List.getElem?_cons_succ, List.getElem?_cons_zero]; rfl)
        · exact fun _ _ _ h => h
        · rfl
        · (intro w hSw; (try dsimp only at hSw); first | (go_simp; done) | (go_simp; with_reducible rfl))
        · assumption
        try simp only [Act.put, List.setIfInBounds_toArray, List.set_cons_zero, List.set_cons_succ]
        refine wpAnyH_take (i := 7) (oi := ?_) (v := ?_) ?_ (by kernel_rfl) (by kernel_rfl) (by kernel_rfl) ?_ (Or.inl ⟨?_, ?_⟩) ?_ ?_; rotate_left 2
        · (simp only [List.getElem?_toArray, List.getElem?_cons_succ, List.getElem?_cons_zero]; rfl)
        · exact fun _ _ _ h => h
        · rfl
        · (intro w hSw; (try dsimp only at hSw); first | (go_simp; done) | (go_simp; with_reducible rfl))
        · assumption
        try simp only [Act.put, List.setIfInBounds_toArray, List.set_cons_zero, List.set_cons_succ]
        refine wpAnyH_take (i := 8) (oi := ?_) (v := ?_) ?_ (by kernel_rfl) (by kernel_rfl) (by kernel_rfl) ?_ (Or.inl ⟨?_, ?_⟩) ?_ ?_; rotate_left 2
        · (simp only [List.getElem?_toArray, List.getElem?_cons_succ, List.getElem?_cons_zero]; rfl)
        · exact fun _ _ _ h => h
        · rfl
        · (intro w hSw; (try dsimp only at hSw); first | (go_simp; done) | (go_simp; with_reducible rfl))
        · assumption
        try simp only [Act.put, List.setIfInBounds_toArray, List.set_cons_zero, List.set_cons_succ]
        refine wpAnyH_take (i := 9) (oi := ?_) (v := ?_) ?_ (by kernel_rfl) (by kernel_rfl) (by kernel_rfl) ?_ (Or.inl ⟨?_, ?_⟩) ?_ ?_; rotate_left 2
        · (simp only [List.getElem?_toArray, List.getElem?_cons_succ, List.getElem?_cons_zero]; rfl)
        · exact fun _ _ _ h => h
        · rfl
        · (intro w hSw; (try dsimp only at hSw); first | (go_simp; done) | (go_simp; with_reducible rfl))
        · assumption
        try simp only [Act.put, List.setIfInBounds_toArray, List.set_cons_zero, List.set_cons_succ]
        refine wpAnyH_take (i := 10) (oi := ?_) (v := ?_) ?_ (by kernel_rfl) (by kernel_rfl) (by kernel_rfl) ?_ (Or.inl ⟨?_, ?_⟩) ?_ ?_; rotate_left 2
        · (simp only [List.getElem?_toArray, List.getElem?_cons_succ, List.getElem?_cons_zero]; rfl)
        · exact fun _ _ _ h => h
        · rfl
        · (intro w hSw; (try dsimp only at hSw); first | (go_simp; done) | (go_simp; with_reducible rfl))
        · assumption
        try simp only [Act.put, List.setIfInBounds_toArray, List.set_cons_zero, List.set_cons_succ]
        refine wpAnyH_take (i := 11) (oi := ?_) (v := ?_) ?_ (by kernel_rfl) (by kernel_rfl) (by kernel_rfl) ?_ (Or.inl ⟨?_, ?_⟩) ?_ ?_; rotate_left 2
        · (simp only [List.getElem?_toArray, List.getElem?_cons_succ, List.getElem?_cons_zero]; rfl)
        · exact fun _ _ _ h => h
        · rfl
        · (intro w hSw; (try dsimp only at hSw); first | (go_simp; done) | (go_simp; with_reducible rfl))
        · assumption
        try simp only [Act.put, List.setIfInBounds_toArray, List.set_cons_zero, List.set_cons_succ]
        refine wpAnyH_take (i := 12) (oi := ?_) (v := ?_) ?_ (by kernel_rfl) (by kernel_rfl) (by kernel_rfl) ?_ (Or.inl ⟨?_, ?_⟩) ?_ ?_; rotate_left 2
        · (simp only [List.getElem?_toArray, List.getElem?_cons_succ, List.getElem?_cons_zero]; rfl)
        · exact fun _ _ _ h => h
        · rfl
        · (intro w hSw; (try dsimp only at hSw); first | (go_simp; done) | (go_simp; with_reducible rfl))
        · assumption
        try simp only [Act.put, List.setIfInBounds_toArray, List.set_cons_zero, List.set_cons_succ]
        refine wpAnyH_take (i := 13) (oi := ?_) (v := ?_) ?_ (by kernel_rfl) (by kernel_rfl) (by kernel_rfl) ?_ (Or.inl ⟨?_, ?_⟩) ?_ ?_; rotate_left 2
        · (simp only [List.getElem?_toArray, List.getElem?_cons_succ, List.getElem?_cons_zero]; rfl)
        · exact fun _ _ _ h => h
        · rfl
        · (intro w hSw; (try dsimp only at hSw); first | (go_simp; done) | (go_simp; with_reducible rfl))
        · assumption
        try simp only [Act.put, List.setIfInBounds_toArray, List.set_cons_zero, List.set_cons_succ]
        refine wpAnyH_take (i := 14) (oi := ?_) (v := ?_) ?_ (by kernel_rfl) (by kernel_rfl) (by kernel_rfl) ?_ (Or.inl ⟨?_, ?_⟩) ?_ ?_; rotate_left 2
        · (simp only [List.getElem?_toArray, List.getElem?_cons_succ, List.getElem?_cons_zero]; rfl)
        · exact fun _ _ _ h => h
        · rfl
        · (intro w hSw; (try dsimp only at hSw); first | (go_simp; done) | (go_simp; with_reducible rfl))
        · assumption
        try simp only [Act.put, List.setIfInBounds_toArray, List.set_cons_zero, List.set_cons_succ]
        refine wpAnyH_ready (rs := [1, 5, 15]) (by kernel_rfl) (by simp) ?_
        refine AllReadyH.cons (o := ?_) ?_ ?_ ?_; rotate_left 1
        · (simp only [List.getElem?_toArray, List.getElem?_cons_succ, List.getElem?_cons_zero]; rfl)
        · intro K hK
          go_simp
          replace hb := hb.frame ((Step.refl [] _ _).alloc (.cells #[] 80)) (by simp)
          replace hr := hr.frame ((Step.refl [] _ _).alloc (.cells #[] 80)) (by simp)
          replace hr2 := hr2.frame ((Step.refl [] _ _).alloc (.cells #[] 80)) (by simp)
          replace hs := hs.trans ((Step.refl [] _ _).alloc (.cells #[] 80))
          refine hK.out _ _ ?_ (fun hHeld => ?_)
          · exact hb.cells4.1.2.2.2
          clear hK K
          try simp only [Act.put, List.setIfInBounds_toArray, List.set_cons_zero, List.set_cons_succ]
          refine wpAnyH_ready (rs := [5, 15]) (by kernel_rfl) (by simp) ?_
          refine AllReadyH.cons (o := ?_) ?_ ?_ ?_; rotate_left 1
          · (simp only [List.getElem?_toArray, List.getElem?_cons_succ, List.getElem?_cons_zero]; rfl)
          · intro K hK
            have c0 := hb.cells4.1.1
            go_simp
            refine hK.out _ _ ?_ (fun hHeld => ?_)
            · exact hb.cells4.1.2.2.2
            clear hK K
            try simp only [Act.put, List.setIfInBounds_toArray, List.set_cons_zero, List.set_cons_succ]
            refine wpAnyH_ready (rs := [6, 15]) (by kernel_rfl) (by simp) ?_
            refine AllReadyH.cons (o := ?_) ?_ ?_ ?_; rotate_left 1
            · (simp only [List.getElem?_toArray, List.getElem?_cons_succ, List.getElem?_cons_zero]; rfl)
            · intro K hK
              refine step_app0 (.tmp 20) (.tmp 24) 62 rfl o (i + 1) Try.underlying62 infoOne rfl (by rfl) (by rfl) (by rfl) hr.rd (by omega) (by omega) ?_
              intro vN wN oN hN sN
              obtain ⟨aN, cN, rfl, -, -⟩ := hN.slice
              replace hb := hb.frame sN (by simp)
              replace hr2 := hr2.frame sN (by simp)
              replace hr := hr.frame sN (by simp)
              replace hs := hs.trans sN
              refine hK.out _ _ ?_ (fun hHeld => ?_)
              · exact hb.cells4.1.2.2.2
              clear hK K
              try simp only [Act.put, List.setIfInBounds_toArray, List.set_cons_zero, List.set_cons_succ]
              refine wpAnyH_ready (rs := [15]) (by kernel_rfl) (by simp) ?_
              refine AllReadyH.cons (o := ?_) ?_ ?_ ?_; rotate_left 1
              · (simp only [List.getElem?_toArray, List.getElem?_cons_succ, List.getElem?_cons_zero]; rfl)
              · intro K hK
                go_simp
                obtain ⟨jX, hX⟩ := hb.freshX nm xt s.cur
                replace hb := hb.frame ((Step.refl [] _ _).alloc (.cells #[.string nm, .int .i64 xt, .bool false, .int .i64 s.cur] 80)) (by simp)
                replace hr := hr.frame ((Step.refl [] _ _).alloc (.cells #[.string nm, .int .i64 xt, .bool false, .int .i64 s.cur] 80)) (by simp)
                replace hr2 := hr2.frame ((Step.refl [] _ _).alloc (.cells #[.string nm, .int .i64 xt, .bool false, .int .i64 s.cur] 80)) (by simp)
                replace hs := hs.trans ((Step.refl [] _ _).alloc (.cells #[.string nm, .int .i64 xt, .bool false, .int .i64 s.cur] 80))
                replace hN := hN.frame ((Step.refl [] _ _).alloc (.cells #[.string nm, .int .i64 xt, .bool false, .int .i64 s.cur] 80)) (by simp)
                refine hK.out _ _ ?_ (fun hHeld => ?_)
                · exact hb.cells4.1.2.2.2
                clear hK K
                try simp only [Act.put, List.setIfInBounds_toArray, List.set_cons_zero, List.set_cons_succ]
                refine wpAnyH_ready (rs := [16]) (by kernel_rfl) (by simp) ?_
                refine AllReadyH.cons (o := ?_) ?_ ?_ ?_; rotate_left 1
                · (simp only [List.getElem?_toArray, List.getElem?_cons_succ, List.getElem?_cons_zero]; rfl)
                · intro K hK
                  refine step_app (.tmp 25) (.tmp 34) 62 rfl Try.underlying62 infoOne rfl (by rfl) (by rfl) hN (by first | rfl | simp [Act.eval, Act.put]) hX (by simp [Value.oneCell']) (by omega) (by omega) ?_
                  intro vM wM oM hM sM
                  obtain ⟨aM, cM, rfl, -, -⟩ := hM.slice
                  replace hb := hb.frame sM (by simp)
                  replace hr2 := hr2.frame sM (by simp; omega)
                  have hs16 := hs.nil.trans sM
                  refine hK.out _ _ ?_ (fun hHeld => ?_)
                  · exact hb.cells4.1.2.2.2
                  clear hK K
                  try simp only [Act.put, List.setIfInBounds_toArray, List.set_cons_zero, List.set_cons_succ]
                  refine wpAnyH_take (i := 17) (oi := ?_) (v := ?_) ?_ (by kernel_rfl) (by kernel_rfl) (by kernel_rfl) ?_ (Or.inl ⟨?_, ?_⟩) ?_ ?_; rotate_left 2
                  · (simp only [List.getElem?_toArray, List.getElem?_cons_succ, List.getElem?_cons_zero]; rfl)
                  · exact fun _ _ _ h => h
                  · rfl
                  · (intro w hSw; (try dsimp only at hSw); first | (go_simp; done) | (go_simp; with_reducible rfl))
                  · assumption
                  try simp only [Act.put, List.setIfInBounds_toArray, List.set_cons_zero, List.set_cons_succ]
                  refine wpAnyH_take (i := 18) (oi := ?_) (v := ?_) ?_ (by kernel_rfl) (by kernel_rfl) (by kernel_rfl) ?_ (Or.inl ⟨?_, ?_⟩) ?_ ?_; rotate_left 2
                  · (simp only [List.getElem?_toArray, List.getElem?_cons_succ, List.getElem?_cons_zero]; rfl)
                  · exact fun _ _ _ h => h
                  · rfl
                  · (intro w hSw; (try dsimp only at hSw); first | (go_simp; done) | (go_simp; with_reducible rfl))
                  · assumption
                  try simp only [Act.put, List.setIfInBounds_toArray, List.set_cons_zero, List.set_cons_succ]
                  refine wpAnyH_ready (rs := [19]) (by kernel_rfl) (by simp) ?_
                  refine AllReadyH.cons (o := ?_) ?_ ?_ ?_; rotate_left 1
                  · (simp only [List.getElem?_toArray, List.getElem?_cons_succ, List.getElem?_cons_zero]; rfl)
                  · intro K hK
                    obtain ⟨⟨y0, y1, y2, y3⟩, ⟨f0, f1, f2, f3⟩⟩ := hb.cells4
                    go_simp
                    refine hK.out _ _ ?_ (fun hHeld => ?_)
                    · exact (hb.set 0 (.slice aM (s.ws.length + 1) cM)).cell 3
                    clear hK K
                    try simp only [Act.put, List.setIfInBounds_toArray, List.set_cons_zero, List.set_cons_succ]
                    refine wpAnyH_done (by kernel_rfl) ?_ _
                    go_wp2_with fail
                    go_ret
                    exact ⟨rfl, oM, ⟨HOK.out, _, ov, jo, hjo, hb.set 0 (.slice aM (s.ws.length + 1) cM), hM.frame (hb.sstep 0 (.slice aM (s.ws.length + 1) cM)) (by simp), hr2.frame (hb.sstep 0 (.slice aM (s.ws.length + 1) cM)) (by simp; omega)⟩, (hs16.weaken (by simp)).trans ((hb.sstep 0 (.slice aM (s.ws.length + 1) cM)).weaken (by simp))⟩
                  exact AllReadyH.nil
                exact AllReadyH.nil
              exact AllReadyH.nil
            refine AllReadyH.cons (o := ?_) ?_ ?_ ?_; rotate_left 1
            · (simp only [List.getElem?_toArray, List.getElem?_cons_succ, List.getElem?_cons_zero]; rfl)
            · intro K hK
              go_simp
              obtain ⟨jX, hX⟩ := hb.freshX nm xt s.cur
              replace hb := hb.frame ((Step.refl [] _ _).alloc (.cells #[.string nm, .int .i64 xt, .bool false, .int .i64 s.cur] 80)) (by simp)
              replace hr := hr.frame ((Step.refl [] _ _).alloc (.cells #[.string nm, .int .i64 xt, .bool false, .int .i64 s.cur] 80)) (by simp)
              replace hr2 := hr2.frame ((Step.refl [] _ _).alloc (.cells #[.string nm, .int .i64 xt, .bool false, .int .i64 s.cur] 80)) (by simp)
              replace hs := hs.trans ((Step.refl [] _ _).alloc (.cells #[.string nm, .int .i64 xt, .bool false, .int .i64 s.cur] 80))
              refine hK.out _ _ ?_ (fun hHeld => ?_)
              · exact hb.cells4.1.2.2.2
              clear hK K
              try simp only [Act.put, List.setIfInBounds_toArray, List.set_cons_zero, List.set_cons_succ]
              refine wpAnyH_ready (rs := [6]) (by kernel_rfl) (by simp) ?_
              refine AllReadyH.cons (o := ?_) ?_ ?_ ?_; rotate_left 1
              · (simp only [List.getElem?_toArray, List.getElem?_cons_succ, List.getElem?_cons_zero]; rfl)
              · intro K hK
                refine step_app0 (.tmp 20) (.tmp 24) 62 rfl o (i + 1) Try.underlying62 infoOne rfl (by rfl) (by rfl) (by rfl) hr.rd (by omega) (by omega) ?_
                intro vN wN oN hN sN
                obtain ⟨aN, cN, rfl, -, -⟩ := hN.slice
                replace hb := hb.frame sN (by simp)
                replace hr2 := hr2.frame sN (by simp)
                replace hr := hr.frame sN (by simp)
                replace hs := hs.trans sN
                replace hX := hX.frame sN (by simp)
                refine hK.out _ _ ?_ (fun hHeld => ?_)
                · exact hb.cells4.1.2.2.2
                clear hK K
                try simp only [Act.put, List.setIfInBounds_toArray, List.set_cons_zero, List.set_cons_succ]
                refine wpAnyH_ready (rs := [16]) (by kernel_rfl) (by simp) ?_
                refine AllReadyH.cons (o := ?_) ?_ ?_ ?_; rotate_left 1
                · (simp only [List.getElem?_toArray, List.getElem?_cons_succ, List.getElem?_cons_zero]; rfl)
                · intro K hK
                  refine step_app (.tmp 25) (.tmp 34) 62 rfl Try.underlying62 infoOne rfl (by rfl) (by rfl) hN (by first | rfl | simp [Act.eval, Act.put]) hX (by simp [Value.oneCell']) (by omega) (by omega) ?_
                  intro vM wM oM hM sM
                  obtain ⟨aM, cM, rfl, -, -⟩ := hM.slice
                  replace hb := hb.frame sM (by simp)
                  replace hr2 := hr2.frame sM (by simp; omega)
                  have hs16 := hs.nil.trans sM
                  refine hK.out _ _ ?_ (fun hHeld => ?_)
                  · exact hb.cells4.1.2.2.2
                  clear hK K
                  try simp only [Act.put, List.setIfInBounds_toArray, List.set_cons_zero, List.set_cons_succ]
                  refine wpAnyH_take (i := 17) (oi := ?_) (v := ?_) ?_ (by kernel_rfl) (by kernel_rfl) (by kernel_rfl) ?_ (Or.inl ⟨?_, ?_⟩) ?_ ?_; rotate_left 2
                  · (simp only [List.getElem?_toArray, List.getElem?_cons_succ, List.getElem?_cons_zero]; rfl)
                  · exact fun _ _ _ h => h
                  · rfl
                  · (intro w hSw; (try dsimp only at hSw); first | (go_simp; done) | (go_simp; with_reducible rfl))
                  · assumption
                  try simp only [Act.put, List.setIfInBounds_toArray, List.set_cons_zero, List.set_cons_succ]
                  refine wpAnyH_take (i := 18) (oi := ?_) (v := ?_) ?_ (by kernel_rfl) (by kernel_rfl) (by kernel_rfl) ?_ (Or.inl ⟨?_, ?_⟩) ?_ ?_; rotate_left 2
                  · (simp only [List.getElem?_toArray, List.getElem?_cons_succ, List.getElem?_cons_zero]; rfl)
                  · exact fun _ _ _ h => h
                  · rfl
                  · (intro w hSw; (try dsimp only at hSw); first | (go_simp; done) | (go_simp; with_reducible rfl))
                  · assumption
                  try simp only [Act.put, List.setIfInBounds_toArray, List.set_cons_zero, List.set_cons_succ]
                  refine wpAnyH_ready (rs := [19]) (by kernel_rfl) (by simp) ?_
                  refine AllReadyH.cons (o := ?_) ?_ ?_ ?_; rotate_left 1
                  · (simp only [List.getElem?_toArray, List.getElem?_cons_succ, List.getElem?_cons_zero]; rfl)
                  · intro K hK
                    obtain ⟨⟨y0, y1, y2, y3⟩, ⟨f0, f1, f2, f3⟩⟩ := hb.cells4
                    go_simp
                    refine hK.out _ _ ?_ (fun hHeld => ?_)
                    · exact (hb.set 0 (.slice aM (s.ws.length + 1) cM)).cell 3
                    clear hK K
                    try simp only [Act.put, List.setIfInBounds_toArray, List.set_cons_zero, List.set_cons_succ]
                    refine wpAnyH_done (by kernel_rfl) ?_ _
                    go_wp2_with fail
                    go_ret
                    exact ⟨rfl, oM, ⟨HOK.out, _, ov, jo, hjo, hb.set 0 (.slice aM (s.ws.length + 1) cM), hM.frame (hb.sstep 0 (.slice aM (s.ws.length + 1) cM)) (by simp), hr2.frame (hb.sstep 0 (.slice aM (s.ws.length + 1) cM)) (by simp; omega)⟩, (hs16.weaken (by simp)).trans ((hb.sstep 0 (.slice aM (s.ws.length + 1) cM)).weaken (by simp))⟩
                  exact AllReadyH.nil
                exact AllReadyH.nil
              exact AllReadyH.nil
            exact AllReadyH.nil
          refine AllReadyH.cons (o := ?_) ?_ ?_ ?_; rotate_left 1
          · (simp only [List.getElem?_toArray, List.getElem?_cons_succ, List.getElem?_cons_zero]; rfl)
          · intro K hK
            go_simp
            obtain ⟨jX, hX⟩ := hb.freshX nm xt s.cur
            replace hb := hb.frame ((Step.refl [] _ _).alloc (.cells #[.string nm, .int .i64 xt, .bool false, .int .i64 s.cur] 80)) (by simp)
            replace hr := hr.frame ((Step.refl [] _ _).alloc (.cells #[.string nm, .int .i64 xt, .bool false, .int .i64 s.cur] 80)) (by simp)
            replace hr2 := hr2.frame ((Step.refl [] _ _).alloc (.cells #[.string nm, .int .i64 xt, .bool false, .int .i64 s.cur] 80)) (by simp)
            replace hs := hs.trans ((Step.refl [] _ _).alloc (.cells #[.string nm, .int .i64 xt, .bool false, .int .i64 s.cur] 80))
            refine hK.out _ _ ?_ (fun hHeld => ?_)
            · exact hb.cells4.1.2.2.2
            clear hK K
            try simp only [Act.put, List.setIfInBounds_toArray, List.set_cons_zero, List.set_cons_succ]
            refine wpAnyH_ready (rs := [5]) (by kernel_rfl) (by simp) ?_
            refine AllReadyH.cons (o := ?_) ?_ ?_ ?_; rotate_left 1
            · (simp only [List.getElem?_toArray, List.getElem?_cons_succ, List.getElem?_cons_zero]; rfl)
            · intro K hK
              have c0 := hb.cells4.1.1
              go_simp
              refine hK.out _ _ ?_ (fun hHeld => ?_)
              · exact hb.cells4.1.2.2.2
              clear hK K
              try simp only [Act.put, List.setIfInBounds_toArray, List.set_cons_zero, List.set_cons_succ]
              refine wpAnyH_ready (rs := [6]) (by kernel_rfl) (by simp) ?_
              refine AllReadyH.cons (o := ?_) ?_ ?_ ?_; rotate_left 1
              · (simp only [List.getElem?_toArray, List.getElem?_cons_succ, List.getElem?_cons_zero]; rfl)
              · intro K hK
                refine step_app0 (.tmp 20) (.tmp 24) 62 rfl o (i + 1) Try.underlying62 infoOne rfl (by rfl) (by rfl) (by rfl) hr.rd (by omega) (by omega) ?_
                intro vN wN oN hN sN
                obtain ⟨aN, cN, rfl, -, -⟩ := hN.slice
                replace hb := hb.frame sN (by simp)
                replace hr2 := hr2.frame sN (by simp)
                replace hr := hr.frame sN (by simp)
                replace hs := hs.trans sN
                replace hX := hX.frame sN (by simp)
                refine hK.out _ _ ?_ (fun hHeld => ?_)
                · exact hb.cells4.1.2.2.2
                clear hK K
                try simp only [Act.put, List.setIfInBounds_toArray, List.set_cons_zero, List.set_cons_succ]
                refine wpAnyH_ready (rs := [16]) (by kernel_rfl) (by simp) ?_
                refine AllReadyH.cons (o := ?_) ?_ ?_ ?_; rotate_left 1
                · (simp only [List.getElem?_toArray, List.getElem?_cons_succ, List.getElem?_cons_zero]; rfl)
                · intro K hK
                  refine step_app (.tmp 25) (.tmp 34) 62 rfl Try.underlying62 infoOne rfl (by rfl) (by rfl) hN (by first | rfl | simp [Act.eval, Act.put]) hX (by simp [Value.oneCell']) (by omega) (by omega) ?_
                  intro vM wM oM hM sM
                  obtain ⟨aM, cM, rfl, -, -⟩ := hM.slice
                  replace hb := hb.frame sM (by simp)
                  replace hr2 := hr2.frame sM (by simp; omega)
                  have hs16 := hs.nil.trans sM
                  refine hK.out _ _ ?_ (fun hHeld => ?_)
                  · exact hb.cells4.1.2.2.2
                  clear hK K
                  try simp only [Act.put, List.setIfInBounds_toArray, List.set_cons_zero, List.set_cons_succ]
                  refine wpAnyH_take (i := 17) (oi := ?_) (v := ?_) ?_ (by kernel_rfl) (by kernel_rfl) (by kernel_rfl) ?_ (Or.inl ⟨?_, ?_⟩) ?_ ?_; rotate_left 2
                  · (simp only [List.getElem?_toArray, List.getElem?_cons_succ, List.getElem?_cons_zero]; rfl)
                  · exact fun _ _ _ h => h
                  · rfl
                  · (intro w hSw; (try dsimp only at hSw); first | (go_simp; done) | (go_simp; with_reducible rfl))
                  · assumption
                  try simp only [Act.put, List.setIfInBounds_toArray, List.set_cons_zero, List.set_cons_succ]
                  refine wpAnyH_take (i := 18) (oi := ?_) (v := ?_) ?_ (by kernel_rfl) (by kernel_rfl) (by kernel_rfl) ?_ (Or.inl ⟨?_, ?_⟩) ?_ ?_; rotate_left 2
                  · (simp only [List.getElem?_toArray, List.getElem?_cons_succ, List.getElem?_cons_zero]; rfl)
                  · exact fun _ _ _ h => h
                  · rfl
                  · (intro w hSw; (try dsimp only at hSw); first | (go_simp; done) | (go_simp; with_reducible rfl))
                  · assumption
                  try simp only [Act.put, List.setIfInBounds_toArray, List.set_cons_zero, List.set_cons_succ]
                  refine wpAnyH_ready (rs := [19]) (by kernel_rfl) (by simp) ?_
                  refine AllReadyH.cons (o := ?_) ?_ ?_ ?_; rotate_left 1
                  · (simp only [List.getElem?_toArray, List.getElem?_cons_succ, List.getElem?_cons_zero]; rfl)
                  · intro K hK
                    obtain ⟨⟨y0, y1, y2, y3⟩, ⟨f0, f1, f2, f3⟩⟩ := hb.cells4
                    go_simp
                    refine hK.out _ _ ?_ (fun hHeld => ?_)
                    · exact (hb.set 0 (.slice aM (s.ws.length + 1) cM)).cell 3
                    clear hK K
                    try simp only [Act.put, List.setIfInBounds_toArray, List.set_cons_zero, List.set_cons_succ]
                    refine wpAnyH_done (by kernel_rfl) ?_ _
                    go_wp2_with fail
                    go_ret
                    exact ⟨rfl, oM, ⟨HOK.out, _, ov, jo, hjo, hb.set 0 (.slice aM (s.ws.length + 1) cM), hM.frame (hb.sstep 0 (.slice aM (s.ws.length + 1) cM)) (by simp), hr2.frame (hb.sstep 0 (.slice aM (s.ws.length + 1) cM)) (by simp; omega)⟩, (hs16.weaken (by simp)).trans ((hb.sstep 0 (.slice aM (s.ws.length + 1) cM)).weaken (by simp))⟩
                  exact AllReadyH.nil
                exact AllReadyH.nil
              exact AllReadyH.nil
            exact AllReadyH.nil
          exact AllReadyH.nil
        refine AllReadyH.cons (o := ?_) ?_ ?_ ?_; rotate_left 1
        · (simp only [List.getElem?_toArray, List.getElem?_cons_succ, List.getElem?_cons_zero]; rfl)
        · intro K hK
          have c0 := hb.cells4.1.1
          go_simp
          refine hK.out _ _ ?_ (fun hHeld => ?_)
          · exact hb.cells4.1.2.2.2
          clear hK K
          try simp only [Act.put, List.setIfInBounds_toArray, List.set_cons_zero, List.set_cons_succ]
          refine wpAnyH_ready (rs := [1, 15]) (by kernel_rfl) (by simp) ?_
          refine AllReadyH.cons (o := ?_) ?_ ?_ ?_; rotate_left 1
          · (simp only [List.getElem?_toArray, List.getElem?_cons_succ, List.getElem?_cons_zero]; rfl)
          · intro K hK
            go_simp
            replace hb := hb.frame ((Step.refl [] _ _).alloc (.cells #[] 80)) (by simp)
            replace hr := hr.frame ((Step.refl [] _ _).alloc (.cells #[] 80)) (by simp)
            replace hr2 := hr2.frame ((Step.refl [] _ _).alloc (.cells #[] 80)) (by simp)
            replace hs := hs.trans ((Step.refl [] _ _).alloc (.cells #[] 80))
            refine hK.out _ _ ?_ (fun hHeld => ?_)
            · exact hb.cells4.1.2.2.2
            clear hK K
            try simp only [Act.put, List.setIfInBounds_toArray, List.set_cons_zero, List.set_cons_succ]
            refine wpAnyH_ready (rs := [6, 15]) (by kernel_rfl) (by simp) ?_
            refine AllReadyH.cons (o := ?_) ?_ ?_ ?_; rotate_left 1
            · (simp only [List.getElem?_toArray, List.getElem?_cons_succ, List.getElem?_cons_zero]; rfl)
            · intro K hK
              refine step_app0 (.tmp 20) (.tmp 24) 62 rfl o (i + 1) Try.underlying62 infoOne rfl (by rfl) (by rfl) (by rfl) hr.rd (by omega) (by omega) ?_
              intro vN wN oN hN sN
              obtain ⟨aN, cN, rfl, -, -⟩ := hN.slice
              replace hb := hb.frame sN (by simp)
              replace hr2 := hr2.frame sN (by simp)
              replace hr := hr.frame sN (by simp)
              replace hs := hs.trans sN
              refine hK.out _ _ ?_ (fun hHeld => ?_)
              · exact hb.cells4.1.2.2.2
              clear hK K
              try simp only [Act.put, List.setIfInBounds_toArray, List.set_cons_zero, List.set_cons_succ]
              refine wpAnyH_ready (rs := [15]) (by kernel_rfl) (by simp) ?_
              refine AllReadyH.cons (o := ?_) ?_ ?_ ?_; rotate_left 1
              · (simp only [List.getElem?_toArray, List.getElem?_cons_succ, List.getElem?_cons_zero]; rfl)
              · intro K hK
                go_simp
                obtain ⟨jX, hX⟩ := hb.freshX nm xt s.cur
                replace hb := hb.frame ((Step.refl [] _ _).alloc (.cells #[.string nm, .int .i64 xt, .bool false, .int .i64 s.cur] 80)) (by simp)
                replace hr := hr.frame ((Step.refl [] _ _).alloc (.cells #[.string nm, .int .i64 xt, .bool false, .int .i64 s.cur] 80)) (by simp)
                replace hr2 := hr2.frame ((Step.refl [] _ _).alloc (.cells #[.string nm, .int .i64 xt, .bool false, .int .i64 s.cur] 80)) (by simp)
                replace hs := hs.trans ((Step.refl [] _ _).alloc (.cells #[.string nm, .int .i64 xt, .bool false, .int .i64 s.cur] 80))
                replace hN := hN.frame ((Step.refl [] _ _).alloc (.cells #[.string nm, .int .i64 xt, .bool false, .int .i64 s.cur] 80)) (by simp)
                refine hK.out _ _ ?_ (fun hHeld => ?_)
                · exact hb.cells4.1.2.2.2
                clear hK K
                try simp only [Act.put, List.setIfInBounds_toArray, List.set_cons_zero, List.set_cons_succ]
                refine wpAnyH_ready (rs := [16]) (by kernel_rfl) (by simp) ?_
                refine AllReadyH.cons (o := ?_) ?_ ?_ ?_; rotate_left 1
                · (simp only [List.getElem?_toArray, List.getElem?_cons_succ, List.getElem?_cons_zero]; rfl)
                · intro K hK
                  refine step_app (.tmp 25) (.tmp 34) 62 rfl Try.underlying62 infoOne rfl (by rfl) (by rfl) hN (by first | rfl | simp [Act.eval, Act.put]) hX (by simp [Value.oneCell']) (by omega) (by omega) ?_
                  intro vM wM oM hM sM
                  obtain ⟨aM, cM, rfl, -, -⟩ := hM.slice
                  replace hb := hb.frame sM (by simp)
                  replace hr2 := hr2.frame sM (by simp; omega)
                  have hs16 := hs.nil.trans sM
                  refine hK.out _ _ ?_ (fun hHeld => ?_)
                  · exact hb.cells4.1.2.2.2
                  clear hK K
                  try simp only [Act.put, List.setIfInBounds_toArray, List.set_cons_zero, List.set_cons_succ]
                  refine wpAnyH_take (i := 17) (oi := ?_) (v := ?_) ?_ (by kernel_rfl) (by kernel_rfl) (by kernel_rfl) ?_ (Or.inl ⟨?_, ?_⟩) ?_ ?_; rotate_left 2
                  · (simp only [List.getElem?_toArray, List.getElem?_cons_succ, List.getElem?_cons_zero]; rfl)
                  · exact fun _ _ _ h => h
                  · rfl
                  · (intro w hSw; (try dsimp only at hSw); first | (go_simp; done) | (go_simp; with_reducible rfl))
                  · assumption
                  try simp only [Act.put, List.setIfInBounds_toArray, List.set_cons_zero, List.set_cons_succ]
                  refine wpAnyH_take (i := 18) (oi := ?_) (v := ?_) ?_ (by kernel_rfl) (by kernel_rfl) (by kernel_rfl) ?_ (Or.inl ⟨?_, ?_⟩) ?_ ?_; rotate_left 2
                  · (simp only [List.getElem?_toArray, List.getElem?_cons_succ, List.getElem?_cons_zero]; rfl)
                  · exact fun _ _ _ h => h
                  · rfl
                  · (intro w hSw; (try dsimp only at hSw); first | (go_simp; done) | (go_simp; with_reducible rfl))
                  · assumption
                  try simp only [Act.put, List.setIfInBounds_toArray, List.set_cons_zero, List.set_cons_succ]
                  refine wpAnyH_ready (rs := [19]) (by kernel_rfl) (by simp) ?_
                  refine AllReadyH.cons (o := ?_) ?_ ?_ ?_; rotate_left 1
                  · (simp only [List.getElem?_toArray, List.getElem?_cons_succ, List.getElem?_cons_zero]; rfl)
                  · intro K hK
                    obtain ⟨⟨y0, y1, y2, y3⟩, ⟨f0, f1, f2, f3⟩⟩ := hb.cells4
                    go_simp
                    refine hK.out _ _ ?_ (fun hHeld => ?_)
                    · exact (hb.set 0 (.slice aM (s.ws.length + 1) cM)).cell 3
                    clear hK K
                    try simp only [Act.put, List.setIfInBounds_toArray, List.set_cons_zero, List.set_cons_succ]
                    refine wpAnyH_done (by kernel_rfl) ?_ _
                    go_wp2_with fail
                    go_ret
                    exact ⟨rfl, oM, ⟨HOK.out, _, ov, jo, hjo, hb.set 0 (.slice aM (s.ws.length + 1) cM), hM.frame (hb.sstep 0 (.slice aM (s.ws.length + 1) cM)) (by simp), hr2.frame (hb.sstep 0 (.slice aM (s.ws.length + 1) cM)) (by simp; omega)⟩, (hs16.weaken (by simp)).trans ((hb.sstep 0 (.slice aM (s.ws.length + 1) cM)).weaken (by simp))⟩
                  exact AllReadyH.nil
                exact AllReadyH.nil
              exact AllReadyH.nil
            refine AllReadyH.cons (o := ?_) ?_ ?_ ?_; rotate_left 1
            · (simp only [List.getElem?_toArray, List.getElem?_cons_succ, List.getElem?_cons_zero]; rfl)
            · intro K hK
              go_simp
              obtain ⟨jX, hX⟩ := hb.freshX nm xt s.cur
              replace hb := hb.frame ((Step.refl [] _ _).alloc (.cells #[.string nm, .int .i64 xt, .bool false, .int .i64 s.cur] 80)) (by simp)
              replace hr := hr.frame ((Step.refl [] _ _).alloc (.cells #[.string nm, .int .i64 xt, .bool false, .int .i64 s.cur] 80)) (by simp)
              replace hr2 := hr2.frame ((Step.refl [] _ _).alloc (.cells #[.string nm, .int .i64 xt, .bool false, .int .i64 s.cur] 80)) (by simp)
              replace hs := hs.trans ((Step.refl [] _ _).alloc (.cells #[.string nm, .int .i64 xt, .bool false, .int .i64 s.cur] 80))
              refine hK.out _ _ ?_ (fun hHeld => ?_)
              · exact hb.cells4.1.2.2.2
              clear hK K
              try simp only [Act.put, List.setIfInBounds_toArray, List.set_cons_zero, List.set_cons_succ]
              refine wpAnyH_ready (rs := [6]) (by kernel_rfl) (by simp) ?_
              refine AllReadyH.cons (o := ?_) ?_ ?_ ?_; rotate_left 1
              · (simp only [List.getElem?_toArray, List.getElem?_cons_succ, List.getElem?_cons_zero]; rfl)
              · intro K hK
                refine step_app0 (.tmp 20) (.tmp 24) 62 rfl o (i + 1) Try.underlying62 infoOne rfl (by rfl) (by rfl) (by rfl) hr.rd (by omega) (by omega) ?_
                intro vN wN oN hN sN
                obtain ⟨aN, cN, rfl, -, -⟩ := hN.slice
                replace hb := hb.frame sN (by simp)
                replace hr2 := hr2.frame sN (by simp)
                replace hr := hr.frame sN (by simp)
                replace hs := hs.trans sN
                replace hX := hX.frame sN (by simp)
                refine hK.out _ _ ?_ (fun hHeld => ?_)
                · exact hb.cells4.1.2.2.2
                clear hK K
                try simp only [Act.put, List.setIfInBounds_toArray, List.set_cons_zero, List.set_cons_succ]
                refine wpAnyH_ready (rs := [16]) (by kernel_rfl) (by simp) ?_
                refine AllReadyH.cons (o := ?_) ?_ ?_ ?_; rotate_left 1
                · (simp only [List.getElem?_toArray, List.getElem?_cons_succ, List.getElem?_cons_zero]; rfl)
                · intro K hK
                  refine step_app (.tmp 25) (.tmp 34) 62 rfl Try.underlying62 infoOne rfl (by rfl) (by rfl) hN (by first | rfl | simp [Act.eval, Act.put]) hX (by simp [Value.oneCell']) (by omega) (by omega) ?_
                  intro vM wM oM hM sM
                  obtain ⟨aM, cM, rfl, -, -⟩ := hM.slice
                  replace hb := hb.frame sM (by simp)
                  replace hr2 := hr2.frame sM (by simp; omega)
                  have hs16 := hs.nil.trans sM
                  refine hK.out _ _ ?_ (fun hHeld => ?_)
                  · exact hb.cells4.1.2.2.2
                  clear hK K
                  try simp only [Act.put, List.setIfInBounds_toArray, List.set_cons_zero, List.set_cons_succ]
                  refine wpAnyH_take (i := 17) (oi := ?_) (v := ?_) ?_ (by kernel_rfl) (by kernel_rfl) (by kernel_rfl) ?_ (Or.inl ⟨?_, ?_⟩) ?_ ?_; rotate_left 2
                  · (simp only [List.getElem?_toArray, List.getElem?_cons_succ, List.getElem?_cons_zero]; rfl)
                  · exact fun _ _ _ h => h
                  · rfl
                  · (intro w hSw; (try dsimp only at hSw); first | (go_simp; done) | (go_simp; with_reducible rfl))
                  · assumption
                  try simp only [Act.put, List.setIfInBounds_toArray, List.set_cons_zero, List.set_cons_succ]
                  refine wpAnyH_take (i := 18) (oi := ?_) (v := ?_) ?_ (by kernel_rfl) (by kernel_rfl) (by kernel_rfl) ?_ (Or.inl ⟨?_, ?_⟩) ?_ ?_; rotate_left 2
                  · (simp only [List.getElem?_toArray, List.getElem?_cons_succ, List.getElem?_cons_zero]; rfl)
                  · exact fun _ _ _ h => h
                  · rfl
                  · (intro w hSw; (try dsimp only at hSw); first | (go_simp; done) | (go_simp; with_reducible rfl))
                  · assumption
                  try simp only [Act.put, List.setIfInBounds_toArray, List.set_cons_zero, List.set_cons_succ]
                  refine wpAnyH_ready (rs := [19]) (by kernel_rfl) (by simp) ?_
                  refine AllReadyH.cons (o := ?_) ?_ ?_ ?_; rotate_left 1
                  · (simp only [List.getElem?_toArray, List.getElem?_cons_succ, List.getElem?_cons_zero]; rfl)
                  · intro K hK
                    obtain ⟨⟨y0, y1, y2, y3⟩, ⟨f0, f1, f2, f3⟩⟩ := hb.cells4
                    go_simp
                    refine hK.out _ _ ?_ (fun hHeld => ?_)
                    · exact (hb.set 0 (.slice aM (s.ws.length + 1) cM)).cell 3
                    clear hK K
                    try simp only [Act.put, List.setIfInBounds_toArray, List.set_cons_zero, List.set_cons_succ]
                    refine wpAnyH_done (by kernel_rfl) ?_ _
                    go_wp2_with fail
                    go_ret
                    exact ⟨rfl, oM, ⟨HOK.out, _, ov, jo, hjo, hb.set 0 (.slice aM (s.ws.length + 1) cM), hM.frame (hb.sstep 0 (.slice aM (s.ws.length + 1) cM)) (by simp), hr2.frame (hb.sstep 0 (.slice aM (s.ws.length + 1) cM)) (by simp; omega)⟩, (hs16.weaken (by simp)).trans ((hb.sstep 0 (.slice aM (s.ws.length + 1) cM)).weaken (by simp))⟩
                  exact AllReadyH.nil
                exact AllReadyH.nil
              exact AllReadyH.nil
            exact AllReadyH.nil
          refine AllReadyH.cons (o := ?_) ?_ ?_ ?_; rotate_left 1
          · (simp only [List.getElem?_toArray, List.getElem?_cons_succ, List.getElem?_cons_zero]; rfl)
          · intro K hK
            go_simp
            obtain ⟨jX, hX⟩ := hb.freshX nm xt s.cur
            replace hb := hb.frame ((Step.refl [] _ _).alloc (.cells #[.string nm, .int .i64 xt, .bool false, .int .i64 s.cur] 80)) (by simp)
            replace hr := hr.frame ((Step.refl [] _ _).alloc (.cells #[.string nm, .int .i64 xt, .bool false, .int .i64 s.cur] 80)) (by simp)
            replace hr2 := hr2.frame ((Step.refl [] _ _).alloc (.cells #[.string nm, .int .i64 xt, .bool false, .int .i64 s.cur] 80)) (by simp)
            replace hs := hs.trans ((Step.refl [] _ _).alloc (.cells #[.string nm, .int .i64 xt, .bool false, .int .i64 s.cur] 80))
            refine hK.out _ _ ?_ (fun hHeld => ?_)
            · exact hb.cells4.1.2.2.2
            clear hK K
            try simp only [Act.put, List.setIfInBounds_toArray, List.set_cons_zero, List.set_cons_succ]
            refine wpAnyH_ready (rs := [1]) (by kernel_rfl) (by simp) ?_
            refine AllReadyH.cons (o := ?_) ?_ ?_ ?_; rotate_left 1
            · (simp only [List.getElem?_toArray, List.getElem?_cons_succ, List.getElem?_cons_zero]; rfl)
            · intro K hK
              go_simp
              replace hb := hb.frame ((Step.refl [] _ _).alloc (.cells #[] 80)) (by simp)
              replace hr := hr.frame ((Step.refl [] _ _).alloc (.cells #[] 80)) (by simp)
              replace hr2 := hr2.frame ((Step.refl [] _ _).alloc (.cells #[] 80)) (by simp)
              replace hs := hs.trans ((Step.refl [] _ _).alloc (.cells #[] 80))
              replace hX := hX.frame ((Step.refl [] _ _).alloc (.cells #[] 80)) (by simp)
              refine hK.out _ _ ?_ (fun hHeld => ?_)
              · exact hb.cells4.1.2.2.2
              clear hK K
              try simp only [Act.put, List.setIfInBounds_toArray, List.set_cons_zero, List.set_cons_succ]
              refine wpAnyH_ready (rs := [6]) (by kernel_rfl) (by simp) ?_
              refine AllReadyH.cons (o := ?_) ?_ ?_ ?_; rotate_left 1
              · (simp only [List.getElem?_toArray, List.getElem?_cons_succ, List.getElem?_cons_zero]; rfl)
              · intro K hK
                refine step_app0 (.tmp 20) (.tmp 24) 62 rfl o (i + 1) Try.underlying62 infoOne rfl (by rfl) (by rfl) (by rfl) hr.rd (by omega) (by omega) ?_
                intro vN wN oN hN sN
                obtain ⟨aN, cN, rfl, -, -⟩ := hN.slice
                replace hb := hb.frame sN (by simp)
                replace hr2 := hr2.frame sN (by simp)
                replace hr := hr.frame sN (by simp)
                replace hs := hs.trans sN
                replace hX := hX.frame sN (by simp)
                refine hK.out _ _ ?_ (fun hHeld => ?_)
                · exact hb.cells4.1.2.2.2
                clear hK K
                try simp only [Act.put, List.setIfInBounds_toArray, List.set_cons_zero, List.set_cons_succ]
                refine wpAnyH_ready (rs := [16]) (by kernel_rfl) (by simp) ?_
                refine AllReadyH.cons (o := ?_) ?_ ?_ ?_; rotate_left 1
                · (simp only [List.getElem?_toArray, List.getElem?_cons_succ, List.getElem?_cons_zero]; rfl)
                · intro K hK
                  refine step_app (.tmp 25) (.tmp 34) 62 rfl Try.underlying62 infoOne rfl (by rfl) (by rfl) hN (by first | rfl | simp [Act.eval, Act.put]) hX (by simp [Value.oneCell']) (by omega) (by omega) ?_
                  intro vM wM oM hM sM
                  obtain ⟨aM, cM, rfl, -, -⟩ := hM.slice
                  replace hb := hb.frame sM (by simp)
                  replace hr2 := hr2.frame sM (by simp; omega)
                  have hs16 := hs.nil.trans sM
                  refine hK.out _ _ ?_ (fun hHeld => ?_)
                  · exact hb.cells4.1.2.2.2
                  clear hK K
                  try simp only [Act.put, List.setIfInBounds_toArray, List.set_cons_zero, List.set_cons_succ]
                  refine wpAnyH_take (i := 17) (oi := ?_) (v := ?_) ?_ (by kernel_rfl) (by kernel_rfl) (by kernel_rfl) ?_ (Or.inl ⟨?_, ?_⟩) ?_ ?_; rotate_left 2
                  · (simp only [List.getElem?_toArray, List.getElem?_cons_succ, List.getElem?_cons_zero]; rfl)
                  · exact fun _ _ _ h => h
                  · rfl
                  · (intro w hSw; (try dsimp only at hSw); first | (go_simp; done) | (go_simp; with_reducible rfl))
                  · assumption
                  try simp only [Act.put, List.setIfInBounds_toArray, List.set_cons_zero, List.set_cons_succ]
                  refine wpAnyH_take (i := 18) (oi := ?_) (v := ?_) ?_ (by kernel_rfl) (by kernel_rfl) (by kernel_rfl) ?_ (Or.inl ⟨?_, ?_⟩) ?_ ?_; rotate_left 2
                  · (simp only [List.getElem?_toArray, List.getElem?_cons_succ, List.getElem?_cons_zero]; rfl)
                  · exact fun _ _ _ h => h
                  · rfl
                  · (intro w hSw; (try dsimp only at hSw); first | (go_simp; done) | (go_simp; with_reducible rfl))
                  · assumption
                  try simp only [Act.put, List.setIfInBounds_toArray, List.set_cons_zero, List.set_cons_succ]
                  refine wpAnyH_ready (rs := [19]) (by kernel_rfl) (by simp) ?_
                  refine AllReadyH.cons (o := ?_) ?_ ?_ ?_; rotate_left 1
                  · (simp only [List.getElem?_toArray, List.getElem?_cons_succ, List.getElem?_cons_zero]; rfl)
                  · intro K hK
                    obtain ⟨⟨y0, y1, y2, y3⟩, ⟨f0, f1, f2, f3⟩⟩ := hb.cells4
                    go_simp
                    refine hK.out _ _ ?_ (fun hHeld => ?_)
                    · exact (hb.set 0 (.slice aM (s.ws.length + 1) cM)).cell 3
                    clear hK K
                    try simp only [Act.put, List.setIfInBounds_toArray, List.set_cons_zero, List.set_cons_succ]
                    refine wpAnyH_done (by kernel_rfl) ?_ _
                    go_wp2_with fail
                    go_ret
                    exact ⟨rfl, oM, ⟨HOK.out, _, ov, jo, hjo, hb.set 0 (.slice aM (s.ws.length + 1) cM), hM.frame (hb.sstep 0 (.slice aM (s.ws.length + 1) cM)) (by simp), hr2.frame (hb.sstep 0 (.slice aM (s.ws.length + 1) cM)) (by simp; omega)⟩, (hs16.weaken (by simp)).trans ((hb.sstep 0 (.slice aM (s.ws.length + 1) cM)).weaken (by simp))⟩
                  exact AllReadyH.nil
                exact AllReadyH.nil
              exact AllReadyH.nil
            exact AllReadyH.nil
          exact AllReadyH.nil
        refine AllReadyH.cons (o := ?_) ?_ ?_ ?_; rotate_left 1
        · (simp only [List.getElem?_toArray, List.getElem?_cons_succ, List.getElem?_cons_zero]; rfl)
        · intro K hK
          go_simp
          obtain ⟨jX, hX⟩ := hb.freshX nm xt s.cur
          replace hb := hb.frame ((Step.refl [] _ _).alloc (.cells #[.string nm, .int .i64 xt, .bool false, .int .i64 s.cur] 80)) (by simp)
          replace hr := hr.frame ((Step.refl [] _ _).alloc (.cells #[.string nm, .int .i64 xt, .bool false, .int .i64 s.cur] 80)) (by simp)
          replace hr2 := hr2.frame ((Step.refl [] _ _).alloc (.cells #[.string nm, .int .i64 xt, .bool false, .int .i64 s.cur] 80)) (by simp)
          replace hs := hs.trans ((Step.refl [] _ _).alloc (.cells #[.string nm, .int .i64 xt, .bool false, .int .i64 s.cur] 80))
          refine hK.out _ _ ?_ (fun hHeld => ?_)
          · exact hb.cells4.1.2.2.2
          clear hK K
          try simp only [Act.put, List.setIfInBounds_toArray, List.set_cons_zero, List.set_cons_succ]
          refine wpAnyH_ready (rs := [1, 5]) (by kernel_rfl) (by simp) ?_
          refine AllReadyH.cons (o := ?_) ?_ ?_ ?_; rotate_left 1
          · (simp only [List.getElem?_toArray, List.getElem?_cons_succ, List.getElem?_cons_zero]; rfl)
          · intro K hK
            go_simp
            replace hb := hb.frame ((Step.refl [] _ _).alloc (.cells #[] 80)) (by simp)
            replace hr := hr.frame ((Step.refl [] _ _).alloc (.cells #[] 80)) (by simp)
            replace hr2 := hr2.frame ((Step.refl [] _ _).alloc (.cells #[] 80)) (by simp)
            replace hs := hs.trans ((Step.refl [] _ _).alloc (.cells #[] 80))
            replace hX := hX.frame ((Step.refl [] _ _).alloc (.cells #[] 80)) (by simp)
            refine hK.out _ _ ?_ (fun hHeld => ?_)
            · exact hb.cells4.1.2.2.2
            clear hK K
            try simp only [Act.put, List.setIfInBounds_toArray, List.set_cons_zero, List.set_cons_succ]
            refine wpAnyH_ready (rs := [5]) (by kernel_rfl) (by simp) ?_
            refine AllReadyH.cons (o := ?_) ?_ ?_ ?_; rotate_left 1
            · (simp only [List.getElem?_toArray, List.getElem?_cons_succ, List.getElem?_cons_zero]; rfl)
            · intro K hK
              have c0 := hb.cells4.1.1
              go_simp
              refine hK.out _ _ ?_ (fun hHeld => ?_)
              · exact hb.cells4.1.2.2.2
              clear hK K
              try simp only [Act.put, List.setIfInBounds_toArray, List.set_cons_zero, List.set_cons_succ]
              refine wpAnyH_ready (rs := [6]) (by kernel_rfl) (by simp) ?_
              refine AllReadyH.cons (o := ?_) ?_ ?_ ?_; rotate_left 1
              · (simp only [List.getElem?_toArray, List.getElem?_cons_succ, List.getElem?_cons_zero]; rfl)
              · intro K hK
                refine step_app0 (.tmp 20) (.tmp 24) 62 rfl o (i + 1) Try.underlying62 infoOne rfl (by rfl) (by rfl) (by rfl) hr.rd (by omega) (by omega) ?_
                intro vN wN oN hN sN
                obtain ⟨aN, cN, rfl, -, -⟩ := hN.slice
                replace hb := hb.frame sN (by simp)
                replace hr2 := hr2.frame sN (by simp)
                replace hr := hr.frame sN (by simp)
                replace hs := hs.trans sN
                replace hX := hX.frame sN (by simp)
                refine hK.out _ _ ?_ (fun hHeld => ?_)
                · exact hb.cells4.1.2.2.2
                clear hK K
                try simp only [Act.put, List.setIfInBounds_toArray, List.set_cons_zero, List.set_cons_succ]
                refine wpAnyH_ready (rs := [16]) (by kernel_rfl) (by simp) ?_
                refine AllReadyH.cons (o := ?_) ?_ ?_ ?_; rotate_left 1
                · (simp only [List.getElem?_toArray, List.getElem?_cons_succ, List.getElem?_cons_zero]; rfl)
                · intro K hK
                  refine step_app (.tmp 25) (.tmp 34) 62 rfl Try.underlying62 infoOne rfl (by rfl) (by rfl) hN (by first | rfl | simp [Act.eval, Act.put]) hX (by simp [Value.oneCell']) (by omega) (by omega) ?_
                  intro vM wM oM hM sM
                  obtain ⟨aM, cM, rfl, -, -⟩ := hM.slice
                  replace hb := hb.frame sM (by simp)
                  replace hr2 := hr2.frame sM (by simp; omega)
                  have hs16 := hs.nil.trans sM
                  refine hK.out _ _ ?_ (fun hHeld => ?_)
                  · exact hb.cells4.1.2.2.2
                  clear hK K
                  try simp only [Act.put, List.setIfInBounds_toArray, List.set_cons_zero, List.set_cons_succ]
                  refine wpAnyH_take (i := 17) (oi := ?_) (v := ?_) ?_ (by kernel_rfl) (by kernel_rfl) (by kernel_rfl) ?_ (Or.inl ⟨?_, ?_⟩) ?_ ?_; rotate_left 2
                  · (simp only [List.getElem?_toArray, List.getElem?_cons_succ, List.getElem?_cons_zero]; rfl)
                  · exact fun _ _ _ h => h
                  · rfl
                  · (intro w hSw; (try dsimp only at hSw); first | (go_simp; done) | (go_simp; with_reducible rfl))
                  · assumption
                  try simp only [Act.put, List.setIfInBounds_toArray, List.set_cons_zero, List.set_cons_succ]
                  refine wpAnyH_take (i := 18) (oi := ?_) (v := ?_) ?_ (by kernel_rfl) (by kernel_rfl) (by kernel_rfl) ?_ (Or.inl ⟨?_, ?_⟩) ?_ ?_; rotate_left 2
                  · (simp only [List.getElem?_toArray, List.getElem?_cons_succ, List.getElem?_cons_zero]; rfl)
                  · exact fun _ _ _ h => h
                  · rfl
                  · (intro w hSw; (try dsimp only at hSw); first | (go_simp; done) | (go_simp; with_reducible rfl))
                  · assumption
                  try simp only [Act.put, List.setIfInBounds_toArray, List.set_cons_zero, List.set_cons_succ]
                  refine wpAnyH_ready (rs := [19]) (by kernel_rfl) (by simp) ?_
                  refine AllReadyH.cons (o := ?_) ?_ ?_ ?_; rotate_left 1
                  · (simp only [List.getElem?_toArray, List.getElem?_cons_succ, List.getElem?_cons_zero]; rfl)
                  · intro K hK
                    obtain ⟨⟨y0, y1, y2, y3⟩, ⟨f0, f1, f2, f3⟩⟩ := hb.cells4
                    go_simp
                    refine hK.out _ _ ?_ (fun hHeld => ?_)
                    · exact (hb.set 0 (.slice aM (s.ws.length + 1) cM)).cell 3
                    clear hK K
                    try simp only [Act.put, List.setIfInBounds_toArray, List.set_cons_zero, List.set_cons_succ]
                    refine wpAnyH_done (by kernel_rfl) ?_ _
                    go_wp2_with fail
                    go_ret
                    exact ⟨rfl, oM, ⟨HOK.out, _, ov, jo, hjo, hb.set 0 (.slice aM (s.ws.length + 1) cM), hM.frame (hb.sstep 0 (.slice aM (s.ws.length + 1) cM)) (by simp), hr2.frame (hb.sstep 0 (.slice aM (s.ws.length + 1) cM)) (by simp; omega)⟩, (hs16.weaken (by simp)).trans ((hb.sstep 0 (.slice aM (s.ws.length + 1) cM)).weaken (by simp))⟩
                  exact AllReadyH.nil
                exact AllReadyH.nil
              exact AllReadyH.nil
            exact AllReadyH.nil
          refine AllReadyH.cons (o := ?_) ?_ ?_ ?_; rotate_left 1
          · (simp only [List.getElem?_toArray, List.getElem?_cons_succ, List.getElem?_cons_zero]; rfl)
          · intro K hK
            have c0 := hb.cells4.1.1
            go_simp
            refine hK.out _ _ ?_ (fun hHeld => ?_)
            · exact hb.cells4.1.2.2.2
            clear hK K
            try simp only [Act.put, List.setIfInBounds_toArray, List.set_cons_zero, List.set_cons_succ]
            refine wpAnyH_ready (rs := [1]) (by kernel_rfl) (by simp) ?_
            refine AllReadyH.cons (o := ?_) ?_ ?_ ?_; rotate_left 1
            · (simp only [List.getElem?_toArray, List.getElem?_cons_succ, List.getElem?_cons_zero]; rfl)
            · intro K hK
              go_simp
              replace hb := hb.frame ((Step.refl [] _ _).alloc (.cells #[] 80)) (by simp)
              replace hr := hr.frame ((Step.refl [] _ _).alloc (.cells #[] 80)) (by simp)
              replace hr2 := hr2.frame ((Step.refl [] _ _).alloc (.cells #[] 80)) (by simp)
              replace hs := hs.trans ((Step.refl [] _ _).alloc (.cells #[] 80))
              replace hX := hX.frame ((Step.refl [] _ _).alloc (.cells #[] 80)) (by simp)
              refine hK.out _ _ ?_ (fun hHeld => ?_)
              · exact hb.cells4.1.2.2.2
              clear hK K
              try simp only [Act.put, List.setIfInBounds_toArray, List.set_cons_zero, List.set_cons_succ]
              refine wpAnyH_ready (rs := [6]) (by kernel_rfl) (by simp) ?_
              refine AllReadyH.cons (o := ?_) ?_ ?_ ?_; rotate_left 1
              · (simp only [List.getElem?_toArray, List.getElem?_cons_succ, List.getElem?_cons_zero]; rfl)
              · intro K hK
                refine step_app0 (.tmp 20) (.tmp 24) 62 rfl o (i + 1) Try.underlying62 infoOne rfl (by rfl) (by rfl) (by rfl) hr.rd (by omega) (by omega) ?_
                intro vN wN oN hN sN
                obtain ⟨aN, cN, rfl, -, -⟩ := hN.slice
                replace hb := hb.frame sN (by simp)
                replace hr2 := hr2.frame sN (by simp)
                replace hr := hr.frame sN (by simp)
                replace hs := hs.trans sN
                replace hX := hX.frame sN (by simp)
                refine hK.out _ _ ?_ (fun hHeld => ?_)
                · exact hb.cells4.1.2.2.2
                clear hK K
                try simp only [Act.put, List.setIfInBounds_toArray, List.set_cons_zero, List.set_cons_succ]
                refine wpAnyH_ready (rs := [16]) (by kernel_rfl) (by simp) ?_
                refine AllReadyH.cons (o := ?_) ?_ ?_ ?_; rotate_left 1
                · (simp only [List.getElem?_toArray, List.getElem?_cons_succ, List.getElem?_cons_zero]; rfl)
                · intro K hK
                  refine step_app (.tmp 25) (.tmp 34) 62 rfl Try.underlying62 infoOne rfl (by rfl) (by rfl) hN (by first | rfl | simp [Act.eval, Act.put]) hX (by simp [Value.oneCell']) (by omega) (by omega) ?_
                  intro vM wM oM hM sM
                  obtain ⟨aM, cM, rfl, -, -⟩ := hM.slice
                  replace hb := hb.frame sM (by simp)
                  replace hr2 := hr2.frame sM (by simp; omega)
                  have hs16 := hs.nil.trans sM
                  refine hK.out _ _ ?_ (fun hHeld => ?_)
                  · exact hb.cells4.1.2.2.2
                  clear hK K
                  try simp only [Act.put, List.setIfInBounds_toArray, List.set_cons_zero, List.set_cons_succ]
                  refine wpAnyH_take (i := 17) (oi := ?_) (v := ?_) ?_ (by kernel_rfl) (by kernel_rfl) (by kernel_rfl) ?_ (Or.inl ⟨?_, ?_⟩) ?_ ?_; rotate_left 2
                  · (simp only [List.getElem?_toArray, List.getElem?_cons_succ, List.getElem?_cons_zero]; rfl)
                  · exact fun _ _ _ h => h
                  · rfl
                  · (intro w hSw; (try dsimp only at hSw); first | (go_simp; done) | (go_simp; with_reducible rfl))
                  · assumption
                  try simp only [Act.put, List.setIfInBounds_toArray, List.set_cons_zero, List.set_cons_succ]
                  refine wpAnyH_take (i := 18) (oi := ?_) (v := ?_) ?_ (by kernel_rfl) (by kernel_rfl) (by kernel_rfl) ?_ (Or.inl ⟨?_, ?_⟩) ?_ ?_; rotate_left 2
                  · (simp only [List.getElem?_toArray, List.getElem?_cons_succ, List.getElem?_cons_zero]; rfl)
                  · exact fun _ _ _ h => h
                  · rfl
                  · (intro w hSw; (try dsimp only at hSw); first | (go_simp; done) | (go_simp; with_reducible rfl))
                  · assumption
                  try simp only [Act.put, List.setIfInBounds_toArray, List.set_cons_zero, List.set_cons_succ]
                  refine wpAnyH_ready (rs := [19]) (by kernel_rfl) (by simp) ?_
                  refine AllReadyH.cons (o := ?_) ?_ ?_ ?_; rotate_left 1
                  · (simp only [List.getElem?_toArray, List.getElem?_cons_succ, List.getElem?_cons_zero]; rfl)
                  · intro K hK
                    obtain ⟨⟨y0, y1, y2, y3⟩, ⟨f0, f1, f2, f3⟩⟩ := hb.cells4
                    go_simp
                    refine hK.out _ _ ?_ (fun hHeld => ?_)
                    · exact (hb.set 0 (.slice aM (s.ws.length + 1) cM)).cell 3
                    clear hK K
                    try simp only [Act.put, List.setIfInBounds_toArray, List.set_cons_zero, List.set_cons_succ]
                    refine wpAnyH_done (by kernel_rfl) ?_ _
                    go_wp2_with fail
                    go_ret
                    exact ⟨rfl, oM, ⟨HOK.out, _, ov, jo, hjo, hb.set 0 (.slice aM (s.ws.length + 1) cM), hM.frame (hb.sstep 0 (.slice aM (s.ws.length + 1) cM)) (by simp), hr2.frame (hb.sstep 0 (.slice aM (s.ws.length + 1) cM)) (by simp; omega)⟩, (hs16.weaken (by simp)).trans ((hb.sstep 0 (.slice aM (s.ws.length + 1) cM)).weaken (by simp))⟩
                  exact AllReadyH.nil
                exact AllReadyH.nil
              exact AllReadyH.nil
            exact AllReadyH.nil
          exact AllReadyH.nil
        exact AllReadyH.nil
end Go.Proofs.Ytaledmoakhlmgaa
