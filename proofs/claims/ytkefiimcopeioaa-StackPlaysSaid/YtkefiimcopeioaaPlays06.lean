/- StackPlays: the walk (printed by gen_plays06.py). -/
import Derived.Test.YtkefiimcopeioaaArgsP6
import Derived.Test.YtkefiimcopeioaaShown
import Derived.Deep.CutRange
import Derived.Deep.RegionHeld3
namespace Go.Proofs.Ytkefiimcopeioaa
open Go Go.RowKit
set_option linter.unusedSimpArgs false
set_option linter.unusedVariables false

theorem Base.rd {w w' : World} {o' : Owner} {size : Nat} {v : Value} {n : Nat} {xs : List Value} (hB : Base w w' o') (h : Rd w (fun _ => 0) 0 size v n xs) : Rd w' o' 0 size v n xs := by
  obtain ⟨ao, cap, hv, h1, h2, h3, h4⟩ := h
  refine ⟨ao, cap, hv, h1, h2, h3, fun hn => ?_⟩
  obtain ⟨b, off, ha, hb, -, hc⟩ := h4 hn
  exact ⟨b, off, ha, Nat.lt_of_lt_of_le hb hB.below.size, hB.own b hb, fun j u hj => (World.cell?_of_block (a := ⟨b, off + j, none⟩) (hB.below.block b hb)).trans (hc j u hj)⟩

/-- What stands behind the great test. -/
structure CutP (w : World) (b c : Nat) (cv : Value) (wx : World) : Prop where
  val : cv = .bool false
  ex : ∃ o' l', Both wx o' b c l' ∧ Base w wx o'

set_option maxRecDepth 100000 in
set_option maxHeartbeats 40000000 in
theorem plays_walk {w : World} {ao : Option Addr} {n ca : Nat} {zs : List Av} (hz : Rd w (fun _ => 0) 0 3 (.slice ao n ca) n (acells zs)) (hln : zs.length = n) (hok : ∀ a ∈ zs, AvOk a) :
    Calls Try.prog 8 #[.slice ao n ca] w fun e w' => e = .returned (.bool true) ∧ Below w.heap.size w w' := by
  obtain ⟨ao', ca', hv, g1, g2, g3, g4⟩ := id hz
  simp only [Value.slice.injEq, true_and] at hv
  obtain ⟨rfl, rfl⟩ := hv
  have HZ := Lib.hid hz
  have HL := Lib.hid hln
  have HOK := Lib.hid hok
  unfold maxLen at g2
  clear g3 g4 hz hln hok
  go_enter Try.func8, Try.ntmps8
  go_wp2_with fail
  refine (shown_ok w (fun _ => 0)).mono ?_
  rintro e w1 ⟨rfl, s1⟩
  go_wp2_with fail
  refine (new_ok w1 (fun _ => 0) 10).mono ?_
  rintro e w2 ⟨b, o2, rfl, h2, s2⟩
  have s3 : Step [] w2 o2 (w2.alloc (.cells #[.slice none 0 0] 46)) (o2.set w2.heap.size 30) := ((Step.refl _ _ _).alloc _).give (Nat.le_refl _) _
  have h3 : Stk 46 (w2.alloc (.cells #[.slice none 0 0] 46)) (o2.set w2.heap.size 30) 30 w2.heap.size [] := ⟨by simp, _, Blk.new _ _ _ _ _, Row.nil _ _ _ _ _ _⟩
  replace h2 := h2.frame s3 (by simp) (by simp)
  have hB := (((Base.start w).step s1 (by decide)).step s2 (by decide)).step s3 (by decide)
  have hboth : Both (w2.alloc (.cells #[.slice none 0 0] 46)) (o2.set w2.heap.size 30) b w2.heap.size [] := ⟨h2, h3, by simp⟩
  clear s1 s2 s3 h2 h3
  generalize o2.set w2.heap.size 30 = o3 at hB hboth
  obtain ⟨w3, hw3⟩ : ∃ w3, w2.alloc (.cells #[.slice none 0 0] 46) = w3 := ⟨_, rfl⟩
  obtain ⟨c, hc⟩ : ∃ c, w2.heap.size = c := ⟨_, rfl⟩
  rw [hc] at hboth
  rw [hw3] at hB hboth
  have HW3 := Lib.hid hw3
  clear hw3
  have hfew := few_ok (w := w3) (a := ao) g1
  obtain ⟨K, hK⟩ : ∃ K, min n 200 = K := ⟨_, rfl⟩
  rw [hK] at hfew
  have hKn : K ≤ n := by omega
  have hKc : K ≤ ca := by omega
  clear hK
  go_wp2_with fail
  rw [HW3.out]
  refine hfew.mono ?_
  rintro e w4 ⟨rfl, rfl⟩
  clear hfew hc
  go_wp2_with fail
  go_loopg [7, 17] K (fun g a7 a wr => ∃ (q : Nat) (l : List Int) (o' : Owner), g = K - q ∧ q ≤ K ∧ a = .int .i64 q ∧ Both wr o' b c l ∧ Base w wr o')
  case atStart => exact ⟨0, [], o3, rfl, Nat.zero_le _, rfl, hboth, hB⟩
  case round =>
    obtain ⟨q, l, o5, hg, hq, rfl, hboth5, hB5⟩ := hrel
    have HQ := Lib.hid hg
    clear hg hboth hB
    by_cases hlt : q < K
    · have hqi : (q : Int) < K := by omega
      obtain ⟨a, ha⟩ : ∃ a, zs[q]? = some a := ⟨_, List.getElem?_eq_getElem (by rw [HL.out]; omega)⟩
      have hrd := hB5.rd HZ.out
      obtain ⟨ao', cap', hsl, -, -, -, g4⟩ := hrd
      simp only [Value.slice.injEq, true_and] at hsl
      obtain ⟨rfl, rfl⟩ := hsl
      obtain ⟨b1, off1, rfl, hb1, ho1, hc1⟩ := g4 (by omega)
      have hcell := fun j (hj : j < 3) u (hu : a.cells[j]? = some u) => hc1 (3 * q + j) u (by rw [acells_at ha hj]; exact hu)
      obtain ⟨hak, hax⟩ := HOK.out a (List.mem_of_getElem? ha)
      obtain ⟨ak, aop, ax⟩ := a
      have y0 := hcell 0 (by decide) _ rfl
      have y1 := hcell 1 (by decide) _ rfl
      have y2 := hcell 2 (by decide) _ rfl
      rw [show off1 + (3 * q + 0) = off1 + q * 3 by omega] at y0
      rw [show off1 + (3 * q + 1) = off1 + q * 3 + 1 by omega] at y1
      rw [show off1 + (3 * q + 2) = off1 + q * 3 + 2 by omega] at y2
      have s6 : Step [] wr o5 (wr.alloc (.cells #[.int .u8 ak, .int .i64 aop, .int .i64 ax] 49)) (o5.set wr.heap.size 49) := ((Step.refl _ _ _).alloc _).give (Nat.le_refl _) _
      have hbx := Blk.new wr o5 49 49 #[.int .u8 ak, .int .i64 aop, .int .i64 ax]
      replace hboth5 := hboth5.frame s6 (by simp)
      replace hB5 := hB5.step s6 (by simp)
      generalize o5.set wr.heap.size 49 = o6 at hbx hboth5 hB5 s6
      simp only at hak hax
      clear hcell hc1 g4 s6 ha hb1 ho1
      have x0 := hbx.cell 0
      have hdoes0 := fun (W : World) (st : Step [] (wr.alloc (.cells #[.int .u8 ak, .int .i64 aop, .int .i64 ax] 49)) o6 W o6) => does_ok ak aop ax (hboth5.frame st (by simp)) hak hax
      obtain ⟨zb, hzb⟩ : ∃ zb, wr.heap.size = zb := ⟨_, rfl⟩
      rw [hzb] at hbx
      clear x0
      go_upto_region 8 with fail
      clear hzb
      go_cut [35] from 21 to 35 (fun cv wx => CutP w b c cv wx)
      case first =>
        have sd : Step [] (wr.alloc (.cells #[.int .u8 ak, .int .i64 aop, .int .i64 ax] 49)) o6 (wr.alloc (.cells #[.int .u8 ak, .int .i64 aop, .int .i64 ax] 49)).drew o6 := (Step.refl _ _ _).drew
        have hdoes := hdoes0 _ sd
        have hBD := hB5.step sd (by simp)
        have hbxD := hbx.frame sd (by simp)
        clear hdoes0 hboth5 hB5
        refine wp_region_held_drew (S := fun _ => True) (by kernel_rfl) trivial (fun hHeld => ?_)
        generalize (wr.alloc (.cells #[.int .u8 ak, .int .i64 aop, .int .i64 ax] 49)).drew = Wd at hdoes hBD hbxD hHeld ⊢
        have d0 : Wd.cell? ⟨zb, 0, none⟩ = some (.int .u8 ak) := hbxD.cell 0
        have d1 : Wd.cell? ⟨zb, 1, none⟩ = some (.int .i64 aop) := hbxD.cell 1
        have d2 : Wd.cell? ⟨zb, 2, none⟩ = some (.int .i64 ax) := hbxD.cell 2
        clear sd hbx y0 y1 y2
        refine wpAnyH_take (i := 0) (oi := ?_) (v := ?_) ?_ (by kernel_rfl) (by kernel_rfl) (by kernel_rfl) ?_ (Or.inl ⟨?_, ?_⟩) ?_ ?_; rotate_left 2
        · (simp only [List.getElem?_toArray, List.getElem?_cons_succ, List.getElem?_cons_zero]; rfl)
        · exact fun _ _ _ h => h
        · rfl
        · (intro w hSw; (try dsimp only at hSw); first | (go_simp; done) | (go_simp; with_reducible rfl))
        · trivial
        try simp only [Act.put, List.setIfInBounds_toArray, List.set_cons_zero, List.set_cons_succ]
        refine wpAnyH_take (i := 1) (oi := ?_) (v := ?_) ?_ (by kernel_rfl) (by kernel_rfl) (by kernel_rfl) ?_ (Or.inl ⟨?_, ?_⟩) ?_ ?_; rotate_left 2
        · (simp only [List.getElem?_toArray, List.getElem?_cons_succ, List.getElem?_cons_zero]; rfl)
        · exact fun _ _ _ h => h
        · rfl
        · (intro w hSw; (try dsimp only at hSw); first | (go_simp; done) | (go_simp; with_reducible rfl))
        · trivial
        try simp only [Act.put, List.setIfInBounds_toArray, List.set_cons_zero, List.set_cons_succ]
        refine wpAnyH_ready (rs := [2]) (by kernel_rfl) (by simp) ?_
        refine AllReadyH.cons (o := ?_) ?_ ?_ ?_; rotate_left 1
        · (simp only [List.getElem?_toArray, List.getElem?_cons_succ, List.getElem?_cons_zero]; rfl)
        · intro K' hK
          go_simp
          refine hK.out _ _ ?_ (fun hHeld => ?_)
          · trivial
          clear hK K'
          try simp only [Act.put, List.setIfInBounds_toArray, List.set_cons_zero, List.set_cons_succ]
          refine wpAnyH_ready (rs := [3]) (by kernel_rfl) (by simp) ?_
          refine AllReadyH.cons (o := ?_) ?_ ?_ ?_; rotate_left 1
          · (simp only [List.getElem?_toArray, List.getElem?_cons_succ, List.getElem?_cons_zero]; rfl)
          · intro K' hK
            go_simp
            go_at_call 23; refine hdoes.mono ?_; rintro e wE ⟨rfl, oE, l', hbE, sE⟩
            obtain ⟨hp, hRB, hwf⟩ := hbE
            obtain ⟨hl128, vr, hbr, hrr⟩ := id hRB
            obtain ⟨ar, cr, rfl, -, -⟩ := hrr.slice
            have hBE := hBD.step sE (by decide)
            clear hdoes hBD d0 d1 d2
            try go_wp2_with fail
            refine hK.out _ _ ?_ (fun hHeld => ?_)
            · trivial
            clear hK K'
            try simp only [Act.put, List.setIfInBounds_toArray, List.set_cons_zero, List.set_cons_succ]
            refine wpAnyH_take (i := 4) (oi := ?_) (v := ?_) ?_ (by kernel_rfl) (by kernel_rfl) (by kernel_rfl) ?_ (Or.inl ⟨?_, ?_⟩) ?_ ?_; rotate_left 2
            · (simp only [List.getElem?_toArray, List.getElem?_cons_succ, List.getElem?_cons_zero]; rfl)
            · exact fun _ _ _ h => h
            · rfl
            · (intro w hSw; (try dsimp only at hSw); first | (go_simp; done) | (go_simp; with_reducible rfl))
            · trivial
            try simp only [Act.put, List.setIfInBounds_toArray, List.set_cons_zero, List.set_cons_succ]
            refine wpAnyH_take (i := 5) (oi := ?_) (v := ?_) ?_ (by kernel_rfl) (by kernel_rfl) (by kernel_rfl) ?_ (Or.inl ⟨?_, ?_⟩) ?_ ?_; rotate_left 2
            · (simp only [List.getElem?_toArray, List.getElem?_cons_succ, List.getElem?_cons_zero]; rfl)
            · exact fun _ _ _ h => h
            · rfl
            · (intro w hSw; (try dsimp only at hSw); first | (go_simp; done) | (go_simp; with_reducible rfl))
            · trivial
            try simp only [Act.put, List.setIfInBounds_toArray, List.set_cons_zero, List.set_cons_succ]
            refine wpAnyH_take (i := 6) (oi := ?_) (v := ?_) ?_ (by kernel_rfl) (by kernel_rfl) (by kernel_rfl) ?_ (Or.inl ⟨?_, ?_⟩) ?_ ?_; rotate_left 2
            · (simp only [List.getElem?_toArray, List.getElem?_cons_succ, List.getElem?_cons_zero]; rfl)
            · exact fun _ _ _ h => h
            · rfl
            · (intro w hSw; (try dsimp only at hSw); first | (go_simp; done) | (go_simp; with_reducible rfl))
            · trivial
            try simp only [Act.put, List.setIfInBounds_toArray, List.set_cons_zero, List.set_cons_succ]
            refine wpAnyH_take (i := 8) (oi := ?_) (v := ?_) ?_ (by kernel_rfl) (by kernel_rfl) (by kernel_rfl) ?_ (Or.inl ⟨?_, ?_⟩) ?_ ?_; rotate_left 2
            · (simp only [List.getElem?_toArray, List.getElem?_cons_succ, List.getElem?_cons_zero]; rfl)
            · exact fun _ _ _ h => h
            · rfl
            · (intro w hSw; (try dsimp only at hSw); first | (go_simp; done) | (go_simp; with_reducible rfl))
            · trivial
            try simp only [Act.put, List.setIfInBounds_toArray, List.set_cons_zero, List.set_cons_succ]
            refine wpAnyH_take (i := 9) (oi := ?_) (v := ?_) ?_ (by kernel_rfl) (by kernel_rfl) (by kernel_rfl) ?_ (Or.inl ⟨?_, ?_⟩) ?_ ?_; rotate_left 2
            · (simp only [List.getElem?_toArray, List.getElem?_cons_succ, List.getElem?_cons_zero]; rfl)
            · exact fun _ _ _ h => h
            · rfl
            · (intro w hSw; (try dsimp only at hSw); first | (go_simp; done) | (go_simp; with_reducible rfl))
            · trivial
            try simp only [Act.put, List.setIfInBounds_toArray, List.set_cons_zero, List.set_cons_succ]
            refine wpAnyH_take (i := 10) (oi := ?_) (v := ?_) ?_ (by kernel_rfl) (by kernel_rfl) (by kernel_rfl) ?_ (Or.inl ⟨?_, ?_⟩) ?_ ?_; rotate_left 2
            · (simp only [List.getElem?_toArray, List.getElem?_cons_succ, List.getElem?_cons_zero]; rfl)
            · exact fun _ _ _ h => h
            · rfl
            · (intro w hSw; (try dsimp only at hSw); first | (go_simp; done) | (go_simp; with_reducible rfl))
            · trivial
            try simp only [Act.put, List.setIfInBounds_toArray, List.set_cons_zero, List.set_cons_succ]
            refine wpAnyH_ready (rs := [7, 11]) (by kernel_rfl) (by simp) ?_
            refine AllReadyH.cons (o := ?_) ?_ ?_ ?_; rotate_left 1
            · (simp only [List.getElem?_toArray, List.getElem?_cons_succ, List.getElem?_cons_zero]; rfl)
            · intro K' hK
              go_simp
              go_at_call 18; refine (depth_ok hp).mono ?_; rintro e w7 ⟨rfl, rfl⟩
              try go_wp2_with fail
              refine hK.out _ _ ?_ (fun hHeld => ?_)
              · trivial
              clear hK K'
              try simp only [Act.put, List.setIfInBounds_toArray, List.set_cons_zero, List.set_cons_succ]
              refine wpAnyH_ready (rs := [11]) (by kernel_rfl) (by simp) ?_
              refine AllReadyH.cons (o := ?_) ?_ ?_ ?_; rotate_left 1
              · (simp only [List.getElem?_toArray, List.getElem?_cons_succ, List.getElem?_cons_zero]; rfl)
              · intro K' hK
                have r0 := hbr.cell0
                go_simp
                refine hK.out _ _ ?_ (fun hHeld => ?_)
                · trivial
                clear hK K'
                try simp only [Act.put, List.setIfInBounds_toArray, List.set_cons_zero, List.set_cons_succ]
                refine wpAnyH_take (i := 12) (oi := ?_) (v := ?_) ?_ (by kernel_rfl) (by kernel_rfl) (by kernel_rfl) ?_ (Or.inl ⟨?_, ?_⟩) ?_ ?_; rotate_left 2
                · (simp only [List.getElem?_toArray, List.getElem?_cons_succ, List.getElem?_cons_zero]; rfl)
                · exact fun _ _ _ h => h
                · rfl
                · (intro w hSw; (try dsimp only at hSw); first | (go_simp; done) | (go_simp; with_reducible rfl))
                · trivial
                try simp only [Act.put, List.setIfInBounds_toArray, List.set_cons_zero, List.set_cons_succ]
                refine wpAnyH_take (i := 13) (oi := ?_) (v := ?_) ?_ (by kernel_rfl) (by kernel_rfl) (by kernel_rfl) ?_ (Or.inl ⟨?_, ?_⟩) ?_ ?_; rotate_left 2
                · (simp only [List.getElem?_toArray, List.getElem?_cons_succ, List.getElem?_cons_zero]; rfl)
                · exact fun _ _ _ h => h
                · rfl
                · (intro w hSw; (try dsimp only at hSw); first | (go_simp; done) | (go_simp; with_reducible rfl))
                · trivial
                try simp only [Act.put, List.setIfInBounds_toArray, List.set_cons_zero, List.set_cons_succ]
                refine wpAnyH_take (i := 14) (oi := ?_) (v := ?_) ?_ (by kernel_rfl) (by kernel_rfl) (by kernel_rfl) ?_ (Or.inl ⟨?_, ?_⟩) ?_ ?_; rotate_left 2
                · (simp only [List.getElem?_toArray, List.getElem?_cons_succ, List.getElem?_cons_zero]; rfl)
                · exact fun _ _ _ h => h
                · rfl
                · (intro w hSw; (try dsimp only at hSw); first | (go_simp; done) | (go_simp; with_reducible rfl))
                · trivial
                try simp only [Act.put, List.setIfInBounds_toArray, List.set_cons_zero, List.set_cons_succ]
                refine wpAnyH_done (by kernel_rfl) ?_ _
                go_wp2_with fail
                go_meet
                exact ⟨rfl, _, l', ⟨hp, hRB, hwf⟩, hBE⟩
              exact AllReadyH.nil
            refine AllReadyH.cons (o := ?_) ?_ ?_ ?_; rotate_left 1
            · (simp only [List.getElem?_toArray, List.getElem?_cons_succ, List.getElem?_cons_zero]; rfl)
            · intro K' hK
              have r0 := hbr.cell0
              go_simp
              refine hK.out _ _ ?_ (fun hHeld => ?_)
              · trivial
              clear hK K'
              try simp only [Act.put, List.setIfInBounds_toArray, List.set_cons_zero, List.set_cons_succ]
              refine wpAnyH_take (i := 12) (oi := ?_) (v := ?_) ?_ (by kernel_rfl) (by kernel_rfl) (by kernel_rfl) ?_ (Or.inl ⟨?_, ?_⟩) ?_ ?_; rotate_left 2
              · (simp only [List.getElem?_toArray, List.getElem?_cons_succ, List.getElem?_cons_zero]; rfl)
              · exact fun _ _ _ h => h
              · rfl
              · (intro w hSw; (try dsimp only at hSw); first | (go_simp; done) | (go_simp; with_reducible rfl))
              · trivial
              try simp only [Act.put, List.setIfInBounds_toArray, List.set_cons_zero, List.set_cons_succ]
              refine wpAnyH_ready (rs := [7]) (by kernel_rfl) (by simp) ?_
              refine AllReadyH.cons (o := ?_) ?_ ?_ ?_; rotate_left 1
              · (simp only [List.getElem?_toArray, List.getElem?_cons_succ, List.getElem?_cons_zero]; rfl)
              · intro K' hK
                go_simp
                go_at_call 18; refine (depth_ok hp).mono ?_; rintro e w7 ⟨rfl, rfl⟩
                try go_wp2_with fail
                refine hK.out _ _ ?_ (fun hHeld => ?_)
                · trivial
                clear hK K'
                try simp only [Act.put, List.setIfInBounds_toArray, List.set_cons_zero, List.set_cons_succ]
                refine wpAnyH_take (i := 13) (oi := ?_) (v := ?_) ?_ (by kernel_rfl) (by kernel_rfl) (by kernel_rfl) ?_ (Or.inl ⟨?_, ?_⟩) ?_ ?_; rotate_left 2
                · (simp only [List.getElem?_toArray, List.getElem?_cons_succ, List.getElem?_cons_zero]; rfl)
                · exact fun _ _ _ h => h
                · rfl
                · (intro w hSw; (try dsimp only at hSw); first | (go_simp; done) | (go_simp; with_reducible rfl))
                · trivial
                try simp only [Act.put, List.setIfInBounds_toArray, List.set_cons_zero, List.set_cons_succ]
                refine wpAnyH_take (i := 14) (oi := ?_) (v := ?_) ?_ (by kernel_rfl) (by kernel_rfl) (by kernel_rfl) ?_ (Or.inl ⟨?_, ?_⟩) ?_ ?_; rotate_left 2
                · (simp only [List.getElem?_toArray, List.getElem?_cons_succ, List.getElem?_cons_zero]; rfl)
                · exact fun _ _ _ h => h
                · rfl
                · (intro w hSw; (try dsimp only at hSw); first | (go_simp; done) | (go_simp; with_reducible rfl))
                · trivial
                try simp only [Act.put, List.setIfInBounds_toArray, List.set_cons_zero, List.set_cons_succ]
                refine wpAnyH_done (by kernel_rfl) ?_ _
                go_wp2_with fail
                go_meet
                exact ⟨rfl, _, l', ⟨hp, hRB, hwf⟩, hBE⟩
              exact AllReadyH.nil
            exact AllReadyH.nil
          exact AllReadyH.nil
        exact AllReadyH.nil
      case rest =>
        obtain ⟨rfl, o9, l', hb9, hB9⟩ := hcut
        clear hdoes0 hboth5 hB5 hbx y0 y1 y2
        go_wp2_with fail
        go_roundg (K - (q + 1))
        case measure => rw [HQ.out]; omega
        case rel => exact ⟨q + 1, l', o9, rfl, by omega, by go_num, hb9, hB9⟩
    · have hqK : K = q := by omega
      subst hqK
      clear hlt
      go_wp2_with fail
      have sd : Step [] wr o5 wr.drew o5 := (Step.refl _ _ _).drew
      have hD := hboth5.frame sd (by simp)
      have hBD := hB5.step sd (by simp)
      obtain ⟨hp, hR, hwf⟩ := hD
      obtain ⟨hl128, vr, hbr, hrr⟩ := hR
      obtain ⟨ar, cr, rfl, -, -⟩ := hrr.slice
      have hall := all_ok hp 40
      clear hboth5 hB5
      refine wp_region_held_drew (S := fun W' => W'.cell? ⟨c, 0, none⟩ = some (.slice ar l.length cr)) (by kernel_rfl) hbr.cell0 (fun hHeld => ?_)
      generalize wr.drew = Wd at hbr hrr hp hBD hall hHeld ⊢
      have c0 := hbr.cell0
      clear sd
      refine wpAnyH_take (i := 0) (oi := ?_) (v := ?_) ?_ (by kernel_rfl) (by kernel_rfl) (by kernel_rfl) ?_ (Or.inl ⟨?_, ?_⟩) ?_ ?_; rotate_left 2
      · (simp only [List.getElem?_toArray, List.getElem?_cons_succ, List.getElem?_cons_zero]; rfl)
      · exact fun _ _ _ h => h
      · rfl
      · (intro w hSw; (try dsimp only at hSw); first | (go_simp; done) | (go_simp; with_reducible rfl))
      · assumption
      try simp only [Act.put, List.setIfInBounds_toArray, List.set_cons_zero, List.set_cons_succ]
      refine wpAnyH_take (i := 1) (oi := ?_) (v := ?_) ?_ (by kernel_rfl) (by kernel_rfl) (by kernel_rfl) ?_ (Or.inl ⟨?_, ?_⟩) ?_ ?_; rotate_left 2
      · (simp only [List.getElem?_toArray, List.getElem?_cons_succ, List.getElem?_cons_zero]; rfl)
      · exact fun _ _ _ h => h
      · rfl
      · (intro w hSw; (try dsimp only at hSw); first | (go_simp; done) | (go_simp; with_reducible rfl))
      · assumption
      try simp only [Act.put, List.setIfInBounds_toArray, List.set_cons_zero, List.set_cons_succ]
      refine wpAnyH_take (i := 2) (oi := ?_) (v := ?_) ?_ (by kernel_rfl) (by kernel_rfl) (by kernel_rfl) ?_ (Or.inl ⟨?_, ?_⟩) ?_ ?_; rotate_left 2
      · (simp only [List.getElem?_toArray, List.getElem?_cons_succ, List.getElem?_cons_zero]; rfl)
      · exact fun _ _ _ h => h
      · rfl
      · (intro w hSw; (try dsimp only at hSw); first | (go_simp; done) | (go_simp; with_reducible rfl))
      · assumption
      try simp only [Act.put, List.setIfInBounds_toArray, List.set_cons_zero, List.set_cons_succ]
      refine wpAnyH_take (i := 4) (oi := ?_) (v := ?_) ?_ (by kernel_rfl) (by kernel_rfl) (by kernel_rfl) ?_ (Or.inl ⟨?_, ?_⟩) ?_ ?_; rotate_left 2
      · (simp only [List.getElem?_toArray, List.getElem?_cons_succ, List.getElem?_cons_zero]; rfl)
      · exact fun _ _ _ h => h
      · rfl
      · (intro w hSw; (try dsimp only at hSw); first | (go_simp; done) | (go_simp; with_reducible rfl))
      · assumption
      try simp only [Act.put, List.setIfInBounds_toArray, List.set_cons_zero, List.set_cons_succ]
      refine wpAnyH_take (i := 5) (oi := ?_) (v := ?_) ?_ (by kernel_rfl) (by kernel_rfl) (by kernel_rfl) ?_ (Or.inl ⟨?_, ?_⟩) ?_ ?_; rotate_left 2
      · (simp only [List.getElem?_toArray, List.getElem?_cons_succ, List.getElem?_cons_zero]; rfl)
      · exact fun _ _ _ h => h
      · rfl
      · (intro w hSw; (try dsimp only at hSw); first | (go_simp; done) | (go_simp; with_reducible rfl))
      · assumption
      try simp only [Act.put, List.setIfInBounds_toArray, List.set_cons_zero, List.set_cons_succ]
      refine wpAnyH_take (i := 6) (oi := ?_) (v := ?_) ?_ (by kernel_rfl) (by kernel_rfl) (by kernel_rfl) ?_ (Or.inl ⟨?_, ?_⟩) ?_ ?_; rotate_left 2
      · (simp only [List.getElem?_toArray, List.getElem?_cons_succ, List.getElem?_cons_zero]; rfl)
      · exact fun _ _ _ h => h
      · rfl
      · (intro w hSw; (try dsimp only at hSw); first | (go_simp; done) | (go_simp; with_reducible rfl))
      · assumption
      try simp only [Act.put, List.setIfInBounds_toArray, List.set_cons_zero, List.set_cons_succ]
      refine wpAnyH_take (i := 7) (oi := ?_) (v := ?_) ?_ (by kernel_rfl) (by kernel_rfl) (by kernel_rfl) ?_ (Or.inl ⟨?_, ?_⟩) ?_ ?_; rotate_left 2
      · (simp only [List.getElem?_toArray, List.getElem?_cons_succ, List.getElem?_cons_zero]; rfl)
      · exact fun _ _ _ h => h
      · rfl
      · (intro w hSw; (try dsimp only at hSw); first | (go_simp; done) | (go_simp; with_reducible rfl))
      · assumption
      try simp only [Act.put, List.setIfInBounds_toArray, List.set_cons_zero, List.set_cons_succ]
      refine wpAnyH_ready (rs := [3]) (by kernel_rfl) (by simp) ?_
      refine AllReadyH.cons (o := ?_) ?_ ?_ ?_; rotate_left 1
      · (simp only [List.getElem?_toArray, List.getElem?_cons_succ, List.getElem?_cons_zero]; rfl)
      · intro K' hK
        go_simp
        go_at_call 14; refine hall.mono ?_
        rintro e wA ⟨vA, oA, rfl, hrA, sA⟩
        have hbrA := hbr.frame sA (by simp)
        have hrrA := hrr.frame sA (by simp)
        have hBA := hBD.step sA (by decide)
        try go_wp2_with fail
        refine hK.out _ _ ?_ (fun hHeld => ?_)
        · exact hbrA.cell0
        clear hK K'
        try simp only [Act.put, List.setIfInBounds_toArray, List.set_cons_zero, List.set_cons_succ]
        refine wpAnyH_ready (rs := [8]) (by kernel_rfl) (by simp) ?_
        refine AllReadyH.cons (o := ?_) ?_ ?_ ?_; rotate_left 1
        · (simp only [List.getElem?_toArray, List.getElem?_cons_succ, List.getElem?_cons_zero]; rfl)
        · intro K' hK
          go_simp
          go_at_call 15; refine (same_ok hrA.rd hrrA.rd).mono ?_
          rintro e wS ⟨rfl, kS, rfl⟩
          rw [show sameB l l = true by simp [sameB]]
          have sS : Step [] wA oA (wA.drewN kS) oA := (Step.refl _ _ _).drewN kS
          have hbrS := hbrA.frame sS (by simp)
          have hBS := hBA.step sS (by simp)
          try go_wp2_with fail
          refine hK.out _ _ ?_ (fun hHeld => ?_)
          · exact hbrS.cell0
          clear hK K'
          try simp only [Act.put, List.setIfInBounds_toArray, List.set_cons_zero, List.set_cons_succ]
          refine wpAnyH_take (i := 9) (oi := ?_) (v := ?_) ?_ (by kernel_rfl) (by kernel_rfl) (by kernel_rfl) ?_ (Or.inl ⟨?_, ?_⟩) ?_ ?_; rotate_left 2
          · (simp only [List.getElem?_toArray, List.getElem?_cons_succ, List.getElem?_cons_zero]; rfl)
          · exact fun _ _ _ h => h
          · rfl
          · (intro w hSw; (try dsimp only at hSw); first | (go_simp; done) | (go_simp; with_reducible rfl))
          · assumption
          try simp only [Act.put, List.setIfInBounds_toArray, List.set_cons_zero, List.set_cons_succ]
          refine wpAnyH_take (i := 10) (oi := ?_) (v := ?_) ?_ (by kernel_rfl) (by kernel_rfl) (by kernel_rfl) ?_ (Or.inl ⟨?_, ?_⟩) ?_ ?_; rotate_left 2
          · (simp only [List.getElem?_toArray, List.getElem?_cons_succ, List.getElem?_cons_zero]; rfl)
          · exact fun _ _ _ h => h
          · rfl
          · (intro w hSw; (try dsimp only at hSw); first | (go_simp; done) | (go_simp; with_reducible rfl))
          · assumption
          try simp only [Act.put, List.setIfInBounds_toArray, List.set_cons_zero, List.set_cons_succ]
          refine wpAnyH_done (by kernel_rfl) ?_ _
          go_wp2_with fail
          go_ret
          exact ⟨rfl, hBS.below⟩
        exact AllReadyH.nil
      exact AllReadyH.nil
end Go.Proofs.Ytkefiimcopeioaa
