/- FramePlays: the walk (printed by gen_plays14.py). -/
import Derived.Test.YtegcpjheglcbcaaArgsP14
import Derived.Deep.CutRange
import Derived.Deep.RegionHeld3
namespace Go.Proofs.Ytegcpjheglcbcaa
open Go Go.RowKit Go.Shelf
set_option linter.unusedSimpArgs false
set_option linter.unusedVariables false

theorem Base.rdP {w w' : World} {o' : Owner} {size : Nat} {v : Value} {n : Nat} {xs : List Value} (hB : Base w w' o') (h : Rd w (fun _ => 0) 0 size v n xs) : Rd w' o' 0 size v n xs := by
  obtain ⟨ao, cap, hv, h1, h2, h3, h4⟩ := h
  refine ⟨ao, cap, hv, h1, h2, h3, fun hn => ?_⟩
  obtain ⟨b, off, ha, hb, -, hc⟩ := h4 hn
  exact ⟨b, off, ha, Nat.lt_of_lt_of_le hb hB.below.size, hB.own b hb, fun j u hj => (World.cell?_of_block (a := ⟨b, off + j, none⟩) (hB.below.block b hb)).trans (hc j u hj)⟩
theorem Rd.take20 {w : World} {o : Owner} {i : Nat} {ao : Option Addr} {n cap : Nat} {l : List Int} (h : Rd w o i 1 (.slice ao n cap) n (cellsOf l)) (k : Nat) (hk : k ≤ n) : Rd w o i 1 (.slice ao k cap) k (cellsOf (l.take k)) := by
  obtain ⟨ao', cap', hv, h1, h2, h3, h4⟩ := h
  simp only [Value.slice.injEq, true_and] at hv
  obtain ⟨rfl, rfl⟩ := hv
  have hl : l.length = n := by simpa [cellsOf] using h3
  refine ⟨ao, cap, rfl, by omega, h2, by simp [cellsOf]; omega, fun hn => ?_⟩
  obtain ⟨b, off, ha, hb, ho, hc⟩ := h4 (by omega)
  refine ⟨b, off, ha, hb, ho, fun j u hj => hc j u ?_⟩
  rw [List.getElem?_map, List.getElem?_take] at hj
  split at hj
  · rw [List.getElem?_map]; exact hj
  · simp at hj

/-- What stands behind the great test. -/
structure CutP (w : World) (b c K N : Nat) (vf : Value) (fs : List Value) (cv : Value) (wx : World) : Prop where
  val : cv = .bool false
  ex : ∃ o' fl fr, Both wx o' b c N fl fr ∧ Row wx o' 48 59 9 vf K fs ∧ Base w wx o'

set_option maxRecDepth 100000 in
set_option maxHeartbeats 40000000 in
theorem plays_walk {w : World} {v : Value} {n : Nat} {zs : List Av} (hz : Rd w (fun _ => 0) 0 9 v n (acells zs)) (hln : zs.length = n) (hok : ∀ a ∈ zs, AvOk w a) :
    Calls Try.prog 9 #[v] w fun e w' => e = .returned (.bool true) ∧ Below w.heap.size w w' := by
  obtain ⟨ao, ca, hv, g1, g2, g3, g4⟩ := hz
  have hz' : Rd w (fun _ => 0) 0 9 v n (acells zs) := ⟨ao, ca, hv, g1, g2, g3, g4⟩
  have HZ := Lib.hid hz'
  have HL := Lib.hid hln
  have HOK := Lib.hid hok
  subst hv
  unfold maxLen at g2
  clear g3 g4 hz' hln hok
  go_enter Try.func9, Try.ntmps9
  go_wp2_with fail
  refine (shown_ok w (fun _ => 0)).mono ?_
  rintro e w1 ⟨rfl, s1⟩
  go_wp2_with fail
  refine (new_ok w1 (fun _ => 0) 10).mono ?_
  rintro e w2 ⟨b, o2, rfl, h2, s2⟩
  have s3 : Step [] w2 o2 (w2.alloc (.cells #[.slice none 0 0] 56)) (o2.set w2.heap.size 30) := ((Step.refl _ _ _).alloc _).give (Nat.le_refl _) _
  have h3 : RT (w2.alloc (.cells #[.slice none 0 0] 56)) (o2.set w2.heap.size 30) 30 w2.heap.size [] := ⟨by simp, ⟨_, Blk.new _ _ _ _ _, Row.nil _ _ _ _ _ _⟩, by simp⟩
  replace h2 := h2.frame s3 (by simp) (by simp)
  have hB := (((Base.start w).step s1 (by decide)).step s2 (by decide)).step s3 (by decide)
  have hboth : Both (w2.alloc (.cells #[.slice none 0 0] 56)) (o2.set w2.heap.size 30) b w2.heap.size 0 [] [] := ⟨LT.nil h2, h3, rfl, by simp, by simp, by simp, by omega⟩
  clear s1 s2 s3 h2 h3
  generalize o2.set w2.heap.size 30 = o3 at hB hboth
  obtain ⟨w3, hw3⟩ : ∃ w3, w2.alloc (.cells #[.slice none 0 0] 56) = w3 := ⟨_, rfl⟩
  obtain ⟨c, hc⟩ : ∃ c, w2.heap.size = c := ⟨_, rfl⟩
  rw [hc] at hboth
  rw [hw3] at hB hboth
  have HW3 := Lib.hid hw3
  clear hw3
  have hfew := few_ok (hB.rdP HZ.out) HL.out HOK.out
  go_wp2_with fail
  rw [HW3.out]
  refine hfew.mono ?_
  rintro e w4 ⟨vf, o4, rfl, hrow, s4⟩
  obtain ⟨K, hK⟩ : ∃ K, min n 200 = K := ⟨_, rfl⟩
  rw [hK] at hrow
  have hK80 : K ≤ 200 := by omega
  have hKn : K ≤ n := by omega
  obtain ⟨af, cf, rfl, hcf, hcf2⟩ := hrow.slice
  replace hboth := hboth.frame s4 (by decide)
  replace hB := hB.step s4 (by decide)
  clear hfew s4 hK hc
  go_wp2_with fail
  go_loopg [7, 21] K (fun g a7 a wr => ∃ (q : Nat) (fl fr : List (Fr × List Int × Nat)) (o' : Owner), g = K - q ∧ q ≤ K ∧ a = .int .i64 q ∧ Both wr o' b c q fl fr ∧ Row wr o' 48 59 9 (.slice af K cf) K (acells ((zs.take 200).map cutA)) ∧ Base w wr o')
  case atStart => exact ⟨0, [], [], o4, rfl, Nat.zero_le _, rfl, hboth, hrow, hB⟩
  case round =>
    obtain ⟨q, fl, fr, o5, hg, hq, rfl, hboth5, hrow5, hB5⟩ := hrel
    have HQ := Lib.hid hg
    clear hg hboth hrow hB
    by_cases hlt : q < K
    · have hqi : (q : Int) < K := by omega
      obtain ⟨a, ha⟩ : ∃ a, zs[q]? = some a := ⟨_, List.getElem?_eq_getElem (by rw [HL.out]; omega)⟩
      have hca : ((zs.take 200).map cutA)[q]? = some (cutA a) := by rw [List.getElem?_map, List.getElem?_take, if_pos (by omega), ha]; rfl
      obtain ⟨ao', cap', hsl, -, -, -, g4⟩ := hrow5.rd
      simp only [Value.slice.injEq, true_and] at hsl
      obtain ⟨rfl, rfl⟩ := hsl
      obtain ⟨b1, off1, rfl, hb1, ho1, hc1⟩ := g4 (by omega)
      have hcell := fun j (hj : j < 9) u (hu : (cutA a).cells[j]? = some u) => hc1 (9 * q + j) u (by rw [acells_at hca hj]; exact hu)
      obtain ⟨hay, han, han1, han2, har⟩ := HOK.out a (List.mem_of_getElem? ha)
      have hrd := hB5.rdP har
      have hlen : a.l.length = a.m := by have := har.len; simpa [cellsOf] using this
      have hrdc : Rd wr o5 0 1 (.slice (cutA a).ao (cutA a).m (cutA a).cap) (cutA a).m (cellsOf (cutA a).l) := by
        have h12 := hrd.take20 (min a.m 20) (by omega)
        have e : a.l.take 20 = a.l.take (min a.m 20) := by
          rcases Nat.le_total a.m 20 with h | h
          · rw [Nat.min_eq_left h, List.take_of_length_le (by omega), List.take_of_length_le (by omega)]
          · rw [Nat.min_eq_right h]
        show Rd wr o5 0 1 (.slice a.ao (min a.m 20) a.cap) (min a.m 20) (cellsOf (a.l.take 20))
        rw [e]
        exact h12
      have hml : (cutA a).l.length = (cutA a).m := by show (a.l.take 20).length = min a.m 20; rw [List.length_take, hlen, Nat.min_comm]
      have hm20 : (cutA a).l.length ≤ 20 := by show (a.l.take 20).length ≤ 20; rw [List.length_take]; omega
      have hay' : 0 ≤ (cutA a).y ∧ (cutA a).y ≤ 255 := hay
      have han' : -9223372036854775808 ≤ (cutA a).n ∧ (cutA a).n ≤ 9223372036854775807 := han
      generalize cutA a = A at hcell hrdc hay' han' hml hm20
      obtain ⟨ay, ak, aa, ad, ax, az, aao, am, acap, an, aX, al⟩ := A
      have y0 := hcell 0 (by decide) _ rfl
      have y1 := hcell 1 (by decide) _ rfl
      have y2 := hcell 2 (by decide) _ rfl
      have y3 := hcell 3 (by decide) _ rfl
      have y4 := hcell 4 (by decide) _ rfl
      have y5 := hcell 5 (by decide) _ rfl
      have y6 := hcell 6 (by decide) _ rfl
      have y7 := hcell 7 (by decide) _ rfl
      have y8 := hcell 8 (by decide) _ rfl
      rw [show off1 + (9 * q + 0) = off1 + q * 9 by omega] at y0
      rw [show off1 + (9 * q + 1) = off1 + q * 9 + 1 by omega] at y1
      rw [show off1 + (9 * q + 2) = off1 + q * 9 + 2 by omega] at y2
      rw [show off1 + (9 * q + 3) = off1 + q * 9 + 3 by omega] at y3
      rw [show off1 + (9 * q + 4) = off1 + q * 9 + 4 by omega] at y4
      rw [show off1 + (9 * q + 5) = off1 + q * 9 + 5 by omega] at y5
      rw [show off1 + (9 * q + 6) = off1 + q * 9 + 6 by omega] at y6
      rw [show off1 + (9 * q + 7) = off1 + q * 9 + 7 by omega] at y7
      rw [show off1 + (9 * q + 8) = off1 + q * 9 + 8 by omega] at y8
      simp only at hrdc hay' han' hml hm20
      subst hml
      have s6 : Step [] wr o5 (wr.alloc (.cells #[.int .u8 ay, .int .i64 ak, .int .i64 aa, .int .i64 ad, .int .i64 ax, .int .i64 az, .slice aao al.length acap, .int .i64 an, .int .i64 aX] 59)) (o5.set wr.heap.size 49) := ((Step.refl _ _ _).alloc _).give (Nat.le_refl _) _
      have hbx := Blk.new wr o5 49 59 #[.int .u8 ay, .int .i64 ak, .int .i64 aa, .int .i64 ad, .int .i64 ax, .int .i64 az, .slice aao al.length acap, .int .i64 an, .int .i64 aX]
      replace hboth5 := hboth5.frame s6 (by simp)
      replace hrow5 := hrow5.frame s6 (by simp)
      replace hB5 := hB5.step s6 (by simp)
      replace hrdc := hrdc.frame s6 (by simp)
      generalize o5.set wr.heap.size 49 = o6 at hbx hboth5 hrow5 hB5 hrdc s6
      clear hcell hc1 g4 hca har hrd hay han han1 han2 hlen s6 ha
      have hdoes0 := fun (W : World) (st : Step [] (wr.alloc (.cells #[.int .u8 ay, .int .i64 ak, .int .i64 aa, .int .i64 ad, .int .i64 ax, .int .i64 az, .slice aao al.length acap, .int .i64 an, .int .i64 aX] 59)) o6 W o6) => does_ok ay ak aa ad ax az an aX (hboth5.frame st (by simp)) (by omega) hay' han' (hrdc.frame st (by simp)) hm20
      obtain ⟨zb, hzb⟩ : ∃ zb, wr.heap.size = zb := ⟨_, rfl⟩
      rw [hzb] at hbx
      go_upto_region 8 with fail
      clear hzb
      go_cut [39] from 25 to 39 (fun cv wx => CutP w b c K (q + 1) (.slice (some ⟨b1, off1, none⟩) K cf) (acells ((zs.take 200).map cutA)) cv wx)
      case first =>
        have sd : Step [] (wr.alloc (.cells #[.int .u8 ay, .int .i64 ak, .int .i64 aa, .int .i64 ad, .int .i64 ax, .int .i64 az, .slice aao al.length acap, .int .i64 an, .int .i64 aX] 59)) o6 (wr.alloc (.cells #[.int .u8 ay, .int .i64 ak, .int .i64 aa, .int .i64 ad, .int .i64 ax, .int .i64 az, .slice aao al.length acap, .int .i64 an, .int .i64 aX] 59)).drew o6 := (Step.refl _ _ _).drew
        have hdoes := hdoes0 _ sd
        have hrowD := hrow5.frame sd (by simp)
        have hBD := hB5.step sd (by simp)
        have hbxD := hbx.frame sd (by simp)
        clear hdoes0 hboth5 hrow5 hB5 hrdc
        refine wp_region_held_drew (S := fun _ => True) (by kernel_rfl) trivial (fun hHeld => ?_)
        generalize (wr.alloc (.cells #[.int .u8 ay, .int .i64 ak, .int .i64 aa, .int .i64 ad, .int .i64 ax, .int .i64 az, .slice aao al.length acap, .int .i64 an, .int .i64 aX] 59)).drew = Wd at hdoes hrowD hBD hbxD hHeld ⊢
        have d0 := hbxD.cell 0
        have d1 := hbxD.cell 1
        have d2 := hbxD.cell 2
        have d3 := hbxD.cell 3
        have d4 := hbxD.cell 4
        have d5 := hbxD.cell 5
        have d6 := hbxD.cell 6
        have d7 := hbxD.cell 7
        have d8 := hbxD.cell 8
        simp only [List.getElem?_toArray, List.getElem?_cons_succ, List.getElem?_cons_zero] at d0 d1 d2 d3 d4 d5 d6 d7 d8
        clear sd hbx y0 y1 y2 y3 y4 y5 y6 y7 y8
        refine wpAnyH_take (i := 0) (oi := ?_) (v := ?_) ?_ (by kernel_rfl) (by kernel_rfl) (by kernel_rfl) ?_ (Or.inl ⟨?_, ?_⟩) ?_ ?_; rotate_left 2
        · (simp only [List.getElem?_toArray, List.getElem?_cons_succ, List.getElem?_cons_zero]; rfl)
        · exact fun _ _ _ h => h
        · rfl
        · (intro w hSw; (try dsimp only at hSw); first | (go_simp; done) | (go_simp; with_reducible rfl))
        · trivial
        try simp only [Act.put, List.setIfInBounds_toArray, List.set_cons_zero, List.set_cons_succ]
        refine wpAnyH_take (i := 1) (oi := ?_) (v := ?_) ?_ (by kernel_rfl) (by kernel_rfl) (by kernel_rfl) ?_ (Or.inl ⟨?_, ?_⟩) ?_ ?_; rotate_left 2
        · (simp only [List.getElem?_toArray, List.getElem?_cons_succ, List.getElem?_cons_zero]; rfl)
        · exact fun _ _ _ h => h
        · rfl
        · (intro w hSw; (try dsimp only at hSw); first | (go_simp; done) | (go_simp; with_reducible rfl))
        · trivial
        try simp only [Act.put, List.setIfInBounds_toArray, List.set_cons_zero, List.set_cons_succ]
        refine wpAnyH_ready (rs := [2]) (by kernel_rfl) (by simp) ?_
        refine AllReadyH.cons (o := ?_) ?_ ?_ ?_; rotate_left 1
        · (simp only [List.getElem?_toArray, List.getElem?_cons_succ, List.getElem?_cons_zero]; rfl)
        · intro K' hK
          go_simp
          refine hK.out _ _ ?_ (fun hHeld => ?_)
          · trivial
          clear hK K'
          try simp only [Act.put, List.setIfInBounds_toArray, List.set_cons_zero, List.set_cons_succ]
          refine wpAnyH_ready (rs := [3]) (by kernel_rfl) (by simp) ?_
          refine AllReadyH.cons (o := ?_) ?_ ?_ ?_; rotate_left 1
          · (simp only [List.getElem?_toArray, List.getElem?_cons_succ, List.getElem?_cons_zero]; rfl)
          · intro K' hK
            go_simp
            go_at_call 25; refine hdoes.mono ?_; rintro e wE ⟨rfl, oE, fl', fr', SE, hboth, hSOK, sE⟩
            have hBE := hBD.step sE (by intro h0; have := hSOK 0 h0; omega)
            have hrowE := hrowD.frame sE (by intro h0; have := hSOK 48 h0; omega)
            obtain ⟨ar, cr, gr, hcr, -, -, -, -⟩ := hboth.r.key
            have hlen := hboth.len
            have hdep := depth_ok hboth.p.1
            rw [List.length_map, hlen] at hdep
            clear hdoes hBD hrowD d0 d1 d2 d3 d4 d5 d6 d7 d8 hlen
            try go_wp2_with fail
            refine hK.out _ _ ?_ (fun hHeld => ?_)
            · trivial
            clear hK K'
            try simp only [Act.put, List.setIfInBounds_toArray, List.set_cons_zero, List.set_cons_succ]
            refine wpAnyH_take (i := 4) (oi := ?_) (v := ?_) ?_ (by kernel_rfl) (by kernel_rfl) (by kernel_rfl) ?_ (Or.inl ⟨?_, ?_⟩) ?_ ?_; rotate_left 2
            · (simp only [List.getElem?_toArray, List.getElem?_cons_succ, List.getElem?_cons_zero]; rfl)
            · exact fun _ _ _ h => h
            · rfl
            · (intro w hSw; (try dsimp only at hSw); first | (go_simp; done) | (go_simp; with_reducible rfl))
            · trivial
            try simp only [Act.put, List.setIfInBounds_toArray, List.set_cons_zero, List.set_cons_succ]
            refine wpAnyH_take (i := 5) (oi := ?_) (v := ?_) ?_ (by kernel_rfl) (by kernel_rfl) (by kernel_rfl) ?_ (Or.inl ⟨?_, ?_⟩) ?_ ?_; rotate_left 2
            · (simp only [List.getElem?_toArray, List.getElem?_cons_succ, List.getElem?_cons_zero]; rfl)
            · exact fun _ _ _ h => h
            · rfl
            · (intro w hSw; (try dsimp only at hSw); first | (go_simp; done) | (go_simp; with_reducible rfl))
            · trivial
            try simp only [Act.put, List.setIfInBounds_toArray, List.set_cons_zero, List.set_cons_succ]
            refine wpAnyH_take (i := 6) (oi := ?_) (v := ?_) ?_ (by kernel_rfl) (by kernel_rfl) (by kernel_rfl) ?_ (Or.inl ⟨?_, ?_⟩) ?_ ?_; rotate_left 2
            · (simp only [List.getElem?_toArray, List.getElem?_cons_succ, List.getElem?_cons_zero]; rfl)
            · exact fun _ _ _ h => h
            · rfl
            · (intro w hSw; (try dsimp only at hSw); first | (go_simp; done) | (go_simp; with_reducible rfl))
            · trivial
            try simp only [Act.put, List.setIfInBounds_toArray, List.set_cons_zero, List.set_cons_succ]
            refine wpAnyH_take (i := 8) (oi := ?_) (v := ?_) ?_ (by kernel_rfl) (by kernel_rfl) (by kernel_rfl) ?_ (Or.inl ⟨?_, ?_⟩) ?_ ?_; rotate_left 2
            · (simp only [List.getElem?_toArray, List.getElem?_cons_succ, List.getElem?_cons_zero]; rfl)
            · exact fun _ _ _ h => h
            · rfl
            · (intro w hSw; (try dsimp only at hSw); first | (go_simp; done) | (go_simp; with_reducible rfl))
            · trivial
            try simp only [Act.put, List.setIfInBounds_toArray, List.set_cons_zero, List.set_cons_succ]
            refine wpAnyH_take (i := 9) (oi := ?_) (v := ?_) ?_ (by kernel_rfl) (by kernel_rfl) (by kernel_rfl) ?_ (Or.inl ⟨?_, ?_⟩) ?_ ?_; rotate_left 2
            · (simp only [List.getElem?_toArray, List.getElem?_cons_succ, List.getElem?_cons_zero]; rfl)
            · exact fun _ _ _ h => h
            · rfl
            · (intro w hSw; (try dsimp only at hSw); first | (go_simp; done) | (go_simp; with_reducible rfl))
            · trivial
            try simp only [Act.put, List.setIfInBounds_toArray, List.set_cons_zero, List.set_cons_succ]
            refine wpAnyH_take (i := 10) (oi := ?_) (v := ?_) ?_ (by kernel_rfl) (by kernel_rfl) (by kernel_rfl) ?_ (Or.inl ⟨?_, ?_⟩) ?_ ?_; rotate_left 2
            · (simp only [List.getElem?_toArray, List.getElem?_cons_succ, List.getElem?_cons_zero]; rfl)
            · exact fun _ _ _ h => h
            · rfl
            · (intro w hSw; (try dsimp only at hSw); first | (go_simp; done) | (go_simp; with_reducible rfl))
            · trivial
            try simp only [Act.put, List.setIfInBounds_toArray, List.set_cons_zero, List.set_cons_succ]
            refine wpAnyH_ready (rs := [7, 11]) (by kernel_rfl) (by simp) ?_
            refine AllReadyH.cons (o := ?_) ?_ ?_ ?_; rotate_left 1
            · (simp only [List.getElem?_toArray, List.getElem?_cons_succ, List.getElem?_cons_zero]; rfl)
            · intro K' hK
              go_simp
              go_at_call 17; refine hdep.mono ?_; rintro e w7 ⟨rfl, rfl⟩
              try go_wp2_with fail
              refine hK.out _ _ ?_ (fun hHeld => ?_)
              · trivial
              clear hK K'
              try simp only [Act.put, List.setIfInBounds_toArray, List.set_cons_zero, List.set_cons_succ]
              refine wpAnyH_ready (rs := [11]) (by kernel_rfl) (by simp) ?_
              refine AllReadyH.cons (o := ?_) ?_ ?_ ?_; rotate_left 1
              · (simp only [List.getElem?_toArray, List.getElem?_cons_succ, List.getElem?_cons_zero]; rfl)
              · intro K' hK
                go_simp
                refine hK.out _ _ ?_ (fun hHeld => ?_)
                · trivial
                clear hK K'
                try simp only [Act.put, List.setIfInBounds_toArray, List.set_cons_zero, List.set_cons_succ]
                refine wpAnyH_take (i := 12) (oi := ?_) (v := ?_) ?_ (by kernel_rfl) (by kernel_rfl) (by kernel_rfl) ?_ (Or.inl ⟨?_, ?_⟩) ?_ ?_; rotate_left 2
                · (simp only [List.getElem?_toArray, List.getElem?_cons_succ, List.getElem?_cons_zero]; rfl)
                · exact fun _ _ _ h => h
                · rfl
                · (intro w hSw; (try dsimp only at hSw); first | (go_simp; done) | (go_simp; with_reducible rfl))
                · trivial
                try simp only [Act.put, List.setIfInBounds_toArray, List.set_cons_zero, List.set_cons_succ]
                refine wpAnyH_take (i := 13) (oi := ?_) (v := ?_) ?_ (by kernel_rfl) (by kernel_rfl) (by kernel_rfl) ?_ (Or.inl ⟨?_, ?_⟩) ?_ ?_; rotate_left 2
                · (simp only [List.getElem?_toArray, List.getElem?_cons_succ, List.getElem?_cons_zero]; rfl)
                · exact fun _ _ _ h => h
                · rfl
                · (intro w hSw; (try dsimp only at hSw); first | (go_simp; done) | (go_simp; with_reducible rfl))
                · trivial
                try simp only [Act.put, List.setIfInBounds_toArray, List.set_cons_zero, List.set_cons_succ]
                refine wpAnyH_take (i := 14) (oi := ?_) (v := ?_) ?_ (by kernel_rfl) (by kernel_rfl) (by kernel_rfl) ?_ (Or.inl ⟨?_, ?_⟩) ?_ ?_; rotate_left 2
                · (simp only [List.getElem?_toArray, List.getElem?_cons_succ, List.getElem?_cons_zero]; rfl)
                · exact fun _ _ _ h => h
                · rfl
                · (intro w hSw; (try dsimp only at hSw); first | (go_simp; done) | (go_simp; with_reducible rfl))
                · trivial
                try simp only [Act.put, List.setIfInBounds_toArray, List.set_cons_zero, List.set_cons_succ]
                refine wpAnyH_done (by kernel_rfl) ?_ _
                go_wp2_with fail
                go_meet
                exact ⟨rfl, _, fl', fr', hboth, hrowE, hBE⟩
              exact AllReadyH.nil
            refine AllReadyH.cons (o := ?_) ?_ ?_ ?_; rotate_left 1
            · (simp only [List.getElem?_toArray, List.getElem?_cons_succ, List.getElem?_cons_zero]; rfl)
            · intro K' hK
              go_simp
              refine hK.out _ _ ?_ (fun hHeld => ?_)
              · trivial
              clear hK K'
              try simp only [Act.put, List.setIfInBounds_toArray, List.set_cons_zero, List.set_cons_succ]
              refine wpAnyH_take (i := 12) (oi := ?_) (v := ?_) ?_ (by kernel_rfl) (by kernel_rfl) (by kernel_rfl) ?_ (Or.inl ⟨?_, ?_⟩) ?_ ?_; rotate_left 2
              · (simp only [List.getElem?_toArray, List.getElem?_cons_succ, List.getElem?_cons_zero]; rfl)
              · exact fun _ _ _ h => h
              · rfl
              · (intro w hSw; (try dsimp only at hSw); first | (go_simp; done) | (go_simp; with_reducible rfl))
              · trivial
              try simp only [Act.put, List.setIfInBounds_toArray, List.set_cons_zero, List.set_cons_succ]
              refine wpAnyH_ready (rs := [7]) (by kernel_rfl) (by simp) ?_
              refine AllReadyH.cons (o := ?_) ?_ ?_ ?_; rotate_left 1
              · (simp only [List.getElem?_toArray, List.getElem?_cons_succ, List.getElem?_cons_zero]; rfl)
              · intro K' hK
                go_simp
                go_at_call 17; refine hdep.mono ?_; rintro e w7 ⟨rfl, rfl⟩
                try go_wp2_with fail
                refine hK.out _ _ ?_ (fun hHeld => ?_)
                · trivial
                clear hK K'
                try simp only [Act.put, List.setIfInBounds_toArray, List.set_cons_zero, List.set_cons_succ]
                refine wpAnyH_take (i := 13) (oi := ?_) (v := ?_) ?_ (by kernel_rfl) (by kernel_rfl) (by kernel_rfl) ?_ (Or.inl ⟨?_, ?_⟩) ?_ ?_; rotate_left 2
                · (simp only [List.getElem?_toArray, List.getElem?_cons_succ, List.getElem?_cons_zero]; rfl)
                · exact fun _ _ _ h => h
                · rfl
                · (intro w hSw; (try dsimp only at hSw); first | (go_simp; done) | (go_simp; with_reducible rfl))
                · trivial
                try simp only [Act.put, List.setIfInBounds_toArray, List.set_cons_zero, List.set_cons_succ]
                refine wpAnyH_take (i := 14) (oi := ?_) (v := ?_) ?_ (by kernel_rfl) (by kernel_rfl) (by kernel_rfl) ?_ (Or.inl ⟨?_, ?_⟩) ?_ ?_; rotate_left 2
                · (simp only [List.getElem?_toArray, List.getElem?_cons_succ, List.getElem?_cons_zero]; rfl)
                · exact fun _ _ _ h => h
                · rfl
                · (intro w hSw; (try dsimp only at hSw); first | (go_simp; done) | (go_simp; with_reducible rfl))
                · trivial
                try simp only [Act.put, List.setIfInBounds_toArray, List.set_cons_zero, List.set_cons_succ]
                refine wpAnyH_done (by kernel_rfl) ?_ _
                go_wp2_with fail
                go_meet
                exact ⟨rfl, _, fl', fr', hboth, hrowE, hBE⟩
              exact AllReadyH.nil
            exact AllReadyH.nil
          exact AllReadyH.nil
        exact AllReadyH.nil
      case rest =>
        obtain ⟨rfl, o9, fl', fr', hb9, hrow9, hB9⟩ := hcut
        clear hdoes0 hboth5 hrow5 hB5 hrdc hbx y0 y1 y2 y3 y4 y5 y6 y7 y8
        go_wp2_with fail
        go_roundg (K - (q + 1))
        case measure => rw [HQ.out]; omega
        case rel => exact ⟨q + 1, fl', fr', o9, rfl, by omega, by go_num, hb9, hrow9, hB9⟩
    · have hqK : K = q := by omega
      subst hqK
      clear hlt hrow5
      obtain ⟨ar, cr, gr, hcr, -, -, -, -⟩ := hboth5.r.key
      have hlen := hboth5.len
      have h128 := hboth5.p.len
      obtain ⟨M, hM⟩ : ∃ M, fr.length = M := ⟨_, rfl⟩
      rw [hM] at hcr hlen
      have HM := Lib.hid hlen
      have hM128 : M ≤ 128 := by omega
      clear hM hlen h128
      go_wp2_with fail
      clear hcr
      go_loopg [46, 8, 9, 10, 11] M (fun g a a8 a9 a10 a11 wr => ∃ (p : Nat) (fl fr : List (Fr × List Int × Nat)) (o' : Owner), g = M - p ∧ p ≤ M ∧ a = .int .i64 p ∧ Hid (fl.length = M - p) ∧ Both wr o' b c (K + p) fl fr ∧ Base w wr o')
      case atStart => exact ⟨0, fl, fr, o5, rfl, Nat.zero_le _, rfl, Lib.hid (by rw [HM.out]; rfl), hboth5, hB5⟩
      case round =>
        obtain ⟨p, fl7, fr7, o7, hg, hp, rfl, HF, hb7, hB7⟩ := hrel
        have HQ7 := Lib.hid hg
        clear hg hboth5 hB5 HM
        by_cases hlt : p < M
        · have hpi : (p : Int) < M := by omega
          obtain ⟨T, hT⟩ : ∃ T, topA (fl7.map ab) = T := ⟨_, rfl⟩
          have hA := ptop_ok hb7.p
          have hC := fun (W : World) (oW : Owner) (st : Step [] wr o7 W oW) => rtopA_ok (hb7.rOver st (by simp))
          rw [← hb7.e] at hC
          rw [hT] at hA hC
          obtain ⟨⟨f0, f1, f2, f3, f4, L⟩, V⟩ := T
          simp only [Fa.val, Fa.l] at hA hC
          have hV : V = true := by
            have hT' := hT
            rcases last_cases fl7 with rfl | ⟨fl0, q1, q2, q3, q4, q5, q6, q7, q8, rfl⟩
            · have := HF.out; simp at this; omega
            · rw [List.map_append, List.map_singleton, topA_app] at hT'
              exact (congrArg Prod.snd hT').symm
          subst hV
          clear hT
          go_wp2_with fail
          refine hA.mono ?_
          rintro e w5 ⟨lv5, o5', rfl, hr5, hL5, s5⟩
          obtain ⟨a5, k5, rfl⟩ : ∃ a5 k5, lv5 = .slice a5 L.length k5 := by obtain ⟨a5, k5, e5, -⟩ := hr5; exact ⟨a5, k5, e5⟩
          have t5 : Step [] w5 o5' (w5.alloc (.cells #[.int .i64 f0, .int .i64 f1, .int .i64 f2, .int .i64 f3, .int .i64 f4, .slice a5 L.length k5] 30)) (o5'.set w5.heap.size 51) := ((Step.refl _ _ _).alloc _).give (Nat.le_refl _) _
          have b5 := Blk.new w5 o5' 51 30 #[.int .i64 f0, .int .i64 f1, .int .i64 f2, .int .i64 f3, .int .i64 f4, .slice a5 L.length k5]
          replace hr5 := hr5.frame t5 (by simp)
          have st5 := s5.trans t5
          generalize o5'.set w5.heap.size 51 = p5 at t5 b5 hr5 st5
          have hC5 := hC _ _ st5
          go_wp2_with fail
          refine hC5.mono ?_
          rintro e w6 ⟨lv6, o6, rfl, hr6, s6⟩
          obtain ⟨a6, k6, rfl⟩ : ∃ a6 k6, lv6 = .slice a6 L.length k6 := by obtain ⟨a6, k6, e6, -⟩ := hr6; exact ⟨a6, k6, e6⟩
          have t6 : Step [] w6 o6 (w6.alloc (.cells #[.int .i64 f0, .int .i64 f1, .int .i64 f2, .int .i64 f3, .int .i64 f4, .slice a6 L.length k6] 30)) (o6.set w6.heap.size 51) := ((Step.refl _ _ _).alloc _).give (Nat.le_refl _) _
          have b6 := Blk.new w6 o6 51 30 #[.int .i64 f0, .int .i64 f1, .int .i64 f2, .int .i64 f3, .int .i64 f4, .slice a6 L.length k6]
          replace hr6 := hr6.frame t6 (by simp)
          replace hr5 := (hr5.frame s6 (by decide)).frame t6 (by simp)
          replace b5 := (b5.frame s6 (by decide)).frame t6 (by simp)
          have st6 := s6.trans t6
          generalize o6.set w6.heap.size 51 = p6 at t6 b6 hr6 hr5 b5 st6
          obtain ⟨⟨e0', e1', e2', e3', e4', e5'⟩, -⟩ := b5.facts6
          obtain ⟨⟨g0, g1, g2, g3, g4, g5⟩, -⟩ := b6.facts6
          have hone := one_l hr5 hr6 hL5 p6 f0 f1 f2 f3 f4
          clear hC5 hA hC
          go_wp2_with fail
          refine hone.mono ?_
          rintro e w7 ⟨rfl, s7⟩
          have st7 := (st5.trans st6).trans s7
          replace hb7 := hb7.frame st7 (by simp)
          replace hB7 := hB7.step st7 (by simp)
          clear e0' e1' e2' e3' e4' e5' g0 g1 g2 g3 g4 g5 hr5 hr6 b5 b6 t5 t6 st5 st6 s5 s6 s7 st7 hone
          have hlen7 := hb7.len
          have hdep := depth_ok hb7.p.1
          obtain ⟨D, hD⟩ : ∃ D, M - p = D := ⟨_, rfl⟩
          obtain ⟨D1, hD1⟩ : ∃ D1, D - 1 = D1 := ⟨_, rfl⟩
          have hFD : fl7.length = D := by rw [HF.out]; exact hD
          rw [List.length_map, hFD] at hdep
          have hq1 : (D : Int) - 1 = D1 := by omega
          have hDb : D ≤ 128 := by omega
          have hDb1 : D1 ≤ 128 := by omega
          have hcutP := pcut_ok hb7.p D1
          have hcutR := fun (W : World) (oW : Owner) (st : Step [10] w7 p6 W oW) => rcut_ok (hb7.rOver st (by simp)) D1
          have hFD2 : fr7.length = D := by rw [← hlen7]; exact hFD
          have HFD := Lib.hid hFD
          have HD := Lib.hid hD
          have HD1 := Lib.hid hD1
          have HFD2 := Lib.hid hFD2
          clear hlen7 hFD hFD2 hD hD1
          go_wp2_with fail
          refine hdep.mono ?_
          rintro e w8 ⟨rfl, rfl⟩
          go_wp2_with fail
          refine hcutP.mono ?_
          rintro e w8 ⟨rfl, hp8, s8⟩
          obtain ⟨ar8, cr8, gr8, hcr8, -, -, -, -⟩ := (hb7.rOver s8 (by simp)).key
          rw [HFD2.out] at hcr8
          have hcutR8 := hcutR _ _ s8
          clear hcutR hcutP hdep
          go_wp2_with fail
          refine hcutR8.mono ?_
          rintro e w9 ⟨rfl, hr9, s9⟩
          have hb9 := hb7.cut (w' := w9) (o' := p6) (by omega) (LT.pOver hp8 (fun p hp => hb7.po p (List.mem_of_mem_take hp)) hb7.small s9 (by simp)) hr9 (by rw [List.map_take, List.map_take, hb7.e])
          have hB9 := (hB7.step s8 (by simp)).step s9 (by simp)
          clear hcr8 hcutR8 hp8 hr9 hb7 hB7
          go_wp2_with fail
          go_roundg (M - (p + 1))
          case measure => rw [HQ7.out]; omega
          case rel => exact ⟨p + 1, _, _, p6, rfl, by omega, by go_num, Lib.hid (by rw [List.length_take, HFD.out, Int.toNat_natCast]; have := HD.out; have := HD1.out; omega), hb9, hB9⟩
        · have hpM : M = p := by omega
          subst hpM
          have hdep := depth_ok hb7.p.1
          rw [List.length_map, HF.out, Nat.sub_self] at hdep
          clear hlt
          go_wp2_with fail
          refine hdep.mono ?_
          rintro e w8 ⟨rfl, rfl⟩
          go_wp2_with fail
          go_ret
          exact ⟨rfl, hB7.below⟩
end Go.Proofs.Ytegcpjheglcbcaa
