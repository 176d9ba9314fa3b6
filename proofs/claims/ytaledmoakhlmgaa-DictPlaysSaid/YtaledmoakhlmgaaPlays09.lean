/- DictPlays: the walk. -/
import Derived.Test.YtaledmoakhlmgaaDoes09
import Derived.Test.YtaledmoakhlmgaaFew09
import Derived.Test.YtaledmoakhlmgaaShown09
import Derived.Test.YtaledmoakhlmgaaOrdersL
import Derived.Deep.CutRange
import Derived.Deep.RegionHeld3
namespace Go.Proofs.Ytaledmoakhlmgaa
open Go Go.RowKit
set_option linter.unusedSimpArgs false
set_option linter.unusedVariables false

theorem Base.rd {w w' : World} {o' : Owner} {size : Nat} {v : Value} {n : Nat} {xs : List Value} (hB : Base w w' o') (h : Rd w (fun _ => 0) 0 size v n xs) : Rd w' o' 0 size v n xs := by
  obtain ⟨ao, cap, hv, h1, h2, h3, h4⟩ := h
  refine ⟨ao, cap, hv, h1, h2, h3, fun hn => ?_⟩
  obtain ⟨b, off, ha, hb, -, hc⟩ := h4 hn
  exact ⟨b, off, ha, Nat.lt_of_lt_of_le hb hB.below.size, hB.own b hb, fun j u hj => (World.cell?_of_block (a := ⟨b, off + j, none⟩) (hB.below.block b hb)).trans (hc j u hj)⟩
theorem Rd.take12 {w : World} {o : Owner} {i : Nat} {ao : Option Addr} {n cap : Nat} {l : List Int} (h : Rd w o i 1 (.slice ao n cap) n (ints l)) (k : Nat) (hk : k ≤ n) : Rd w o i 1 (.slice ao k cap) k (ints (l.take k)) := by
  obtain ⟨ao', cap', hv, h1, h2, h3, h4⟩ := h
  simp only [Value.slice.injEq, true_and] at hv
  obtain ⟨rfl, rfl⟩ := hv
  have hl : l.length = n := by simpa [ints] using h3
  refine ⟨ao, cap, rfl, by omega, h2, by simp [ints]; omega, fun hn => ?_⟩
  obtain ⟨b, off, ha, hb, ho, hc⟩ := h4 (by omega)
  refine ⟨b, off, ha, hb, ho, fun j u hj => hc j u ?_⟩
  rw [List.getElem?_map, List.getElem?_take] at hj
  split at hj
  · rw [List.getElem?_map]; exact hj
  · simp at hj

/-- What stands behind the great test. -/
structure CutP (w : World) (b c K : Nat) (vf : Value) (fs : List Value) (N : Nat) (cv : Value) (wx : World) : Prop where
  val : cv = .bool false
  ex : ∃ o' s', Both wx o' b c s' N ∧ Row wx o' 48 60 6 vf K fs ∧ Base w wx o'

set_option maxRecDepth 100000 in
set_option maxHeartbeats 40000000 in
theorem plays_walk {w : World} {v : Value} {n : Nat} {zs : List Av} (hz : Rd w (fun _ => 0) 0 6 v n (acells zs)) (hln : zs.length = n) (hok : ∀ a ∈ zs, AvOk w a) :
    Calls Try.prog 8 #[v] w fun e w' => e = .returned (.bool true) ∧ Below w.heap.size w w' := by
  obtain ⟨ao, ca, hv, g1, g2, g3, g4⟩ := hz
  have hz' : Rd w (fun _ => 0) 0 6 v n (acells zs) := ⟨ao, ca, hv, g1, g2, g3, g4⟩
  have HZ := Lib.hid hz'
  have HL := Lib.hid hln
  have HOK := Lib.hid hok
  subst hv
  unfold maxLen at g2
  clear g3 g4 hz' hln hok
  go_enter Try.func8, Try.ntmps8
  go_wp2_with fail
  refine (shown_ok w (fun _ => 0)).mono ?_
  rintro e w1 ⟨rfl, s1⟩
  go_wp2_with fail
  refine (new_ok w1 (fun _ => 0) 10).mono ?_
  rintro e w2 ⟨b, o2, rfl, h2, s2⟩
  go_wp2_with fail
  refine (rnew_ok w2 o2 30).mono ?_
  rintro e w3 ⟨c, o3, rfl, h3, s3⟩
  replace h2 := h2.nil s3
  have hB := (((Base.start w).step s1 (by decide)).step s2 (by decide)).step s3 (by decide)
  clear s1 s2 s3
  have hfew := few_ok (hB.rd HZ.out) HL.out HOK.out
  go_wp2_with fail
  refine hfew.mono ?_
  rintro e w4 ⟨vf, o4, rfl, hrow, s4⟩
  obtain ⟨K, hK⟩ : ∃ K, min n 80 = K := ⟨_, rfl⟩
  rw [hK] at hrow
  have HK := Lib.hid hK
  have hK80 : K ≤ 80 := by omega
  have hKn : K ≤ n := by omega
  obtain ⟨af, cf, rfl, hcf, hcf2⟩ := hrow.slice
  have hboth : Both w4 o4 b c new0 2 := ⟨h2.frame s4 (by decide) (by decide) (by decide) (by decide), h3.frame s4 (by decide) (by decide) (by decide) (by decide)⟩
  replace hB := hB.step s4 (by decide)
  clear hfew s4 h2 h3 hK
  go_wp2_with fail
  go_loopg [7, 17] K (fun g a7 a wr => ∃ (q : Nat) (s : Dst) (o' : Owner), g = K - q ∧ q ≤ K ∧ a = .int .i64 q ∧ Both wr o' b c s (2 + 2000 * q) ∧ Row wr o' 48 60 6 (.slice af K cf) K (acells ((zs.take 80).map cutv)) ∧ Base w wr o')
  case atStart => exact ⟨0, new0, o4, rfl, Nat.zero_le _, rfl, hboth, hrow, hB⟩
  case round =>
    obtain ⟨q, s, o5, hg, hq, rfl, hboth5, hrow5, hB5⟩ := hrel
    have HQ := Lib.hid hg
    clear hg hboth hrow hB
    by_cases hlt : q < K
    · have hqi : (q : Int) < K := by omega
      obtain ⟨a, ha⟩ : ∃ a, zs[q]? = some a := ⟨_, List.getElem?_eq_getElem (by rw [HL.out]; omega)⟩
      have hca : ((zs.take 80).map cutv)[q]? = some (cutv a) := by rw [List.getElem?_map, List.getElem?_take, if_pos (by omega), ha]; rfl
      obtain ⟨ao', cap', hsl, -, -, -, g4⟩ := hrow5.rd
      simp only [Value.slice.injEq, true_and] at hsl
      obtain ⟨rfl, rfl⟩ := hsl
      obtain ⟨b1, off1, rfl, hb1, ho1, hc1⟩ := g4 (by omega)
      have hcell := fun j (hj : j < 6) u (hu : (cutv a).cells[j]? = some u) => hc1 (6 * q + j) u (by rw [acells_at hca hj]; exact hu)
      obtain ⟨hay, has, hax, han1, han2, har⟩ := HOK.out a (List.mem_of_getElem? ha)
      have hrd := hB5.rd har
      have hS40 : (cutv a).S.size ≤ 40 := by
        show (a.S.extract 0 (min (a.S.size : Int) 40).toNat).size ≤ 40
        rw [ByteArray.size_extract]; omega
      have hlen : a.l.length = a.n := by have := har.len; simpa [ints] using this
      have hrdc : Rd wr o5 0 1 (.slice (cutv a).ao (cutv a).n (cutv a).cap) (cutv a).n (ints (cutv a).l) := by
        have h12 := hrd.take12 (min a.n 12) (by omega)
        have e : a.l.take 12 = a.l.take (min a.n 12) := by
          rcases Nat.le_total a.n 12 with h | h
          · rw [Nat.min_eq_left h, List.take_of_length_le (by omega), List.take_of_length_le (by omega)]
          · rw [Nat.min_eq_right h]
        show Rd wr o5 0 1 (.slice a.ao (min a.n 12) a.cap) (min a.n 12) (ints (a.l.take 12))
        rw [e]
        exact h12
      have hay' : 0 ≤ (cutv a).y ∧ (cutv a).y ≤ 255 := hay
      have hax' : I64 (cutv a).X := hax
      generalize cutv a = A at hcell hS40 hrdc hay' hax'
      obtain ⟨ay, aS, aX, aao, an, acap, amw, aml, al⟩ := A
      have y0 := hcell 0 (by decide) _ rfl
      have y1 := hcell 1 (by decide) _ rfl
      have y2 := hcell 2 (by decide) _ rfl
      have y3 := hcell 3 (by decide) _ rfl
      have y4 := hcell 4 (by decide) _ rfl
      have y5 := hcell 5 (by decide) _ rfl
      rw [show off1 + (6 * q + 0) = off1 + q * 6 by omega] at y0
      rw [show off1 + (6 * q + 1) = off1 + q * 6 + 1 by omega] at y1
      rw [show off1 + (6 * q + 2) = off1 + q * 6 + 2 by omega] at y2
      rw [show off1 + (6 * q + 3) = off1 + q * 6 + 3 by omega] at y3
      rw [show off1 + (6 * q + 4) = off1 + q * 6 + 4 by omega] at y4
      rw [show off1 + (6 * q + 5) = off1 + q * 6 + 5 by omega] at y5
      have s6 : Step [] wr o5 (wr.alloc (.cells #[.int .u8 ay, .string aS, .int .i64 aX, .slice aao an acap, .int .i64 amw, .int .i64 aml] 60)) (o5.set wr.heap.size 49) := ((Step.refl _ _ _).alloc _).give (Nat.le_refl _) _
      have hbx := Blk.new wr o5 49 60 #[.int .u8 ay, .string aS, .int .i64 aX, .slice aao an acap, .int .i64 amw, .int .i64 aml]
      replace hboth5 := hboth5.frame s6 (by simp)
      replace hrow5 := hrow5.frame s6 (by simp)
      replace hB5 := hB5.step s6 (by simp)
      replace hrdc := hrdc.frame s6 (by simp)
      generalize o5.set wr.heap.size 49 = o6 at hbx hboth5 hrow5 hB5 hrdc s6
      simp only at hS40 hrdc hay' hax'
      clear hcell hc1 g4 hca har hrd hay has hax han1 han2 hlen s6 ha
      have x0 := hbx.cell 0
      have hdoes0 := fun (W : World) (st : Step [] (wr.alloc (.cells #[.int .u8 ay, .string aS, .int .i64 aX, .slice aao an acap, .int .i64 amw, .int .i64 aml] 60)) o6 W o6) => does_ok (N := 2 + 2000 * q) ⟨ay, aS, aX, .slice aao an acap, amw, aml⟩ (hboth5.frame st (by simp)) (by omega) hay' hS40 hax' (hrdc.frame st (by simp))
      obtain ⟨zb, hzb⟩ : ∃ zb, wr.heap.size = zb := ⟨_, rfl⟩
      rw [hzb] at hbx
      clear x0
      go_upto_region 8 with fail
      clear hzb
      go_cut [51] from 21 to 51 (fun cv wx => CutP w b c K (.slice (some ⟨b1, off1, none⟩) K cf) (acells ((zs.take 80).map cutv)) (2 + 2000 * (q + 1)) cv wx)
      case first =>
        have sd : Step [] (wr.alloc (.cells #[.int .u8 ay, .string aS, .int .i64 aX, .slice aao an acap, .int .i64 amw, .int .i64 aml] 60)) o6 (wr.alloc (.cells #[.int .u8 ay, .string aS, .int .i64 aX, .slice aao an acap, .int .i64 amw, .int .i64 aml] 60)).drew o6 := (Step.refl _ _ _).drew
        have hdoes := hdoes0 _ sd
        simp only [Ac.arr] at hdoes
        have hrowD := hrow5.frame sd (by simp)
        have hBD := hB5.step sd (by simp)
        have hbxD := hbx.frame sd (by simp)
        clear hdoes0 hboth5 hrow5 hB5 hrdc
        refine wp_region_held_drew (S := fun _ => True) (by kernel_rfl) trivial (fun hHeld => ?_)
        generalize (wr.alloc (.cells #[.int .u8 ay, .string aS, .int .i64 aX, .slice aao an acap, .int .i64 amw, .int .i64 aml] 60)).drew = Wd at hdoes hrowD hBD hbxD hHeld ⊢
        have d0 : Wd.cell? ⟨zb, 0, none⟩ = some (.int .u8 ay) := hbxD.cell 0
        have d1 : Wd.cell? ⟨zb, 1, none⟩ = some (.string aS) := hbxD.cell 1
        have d2 : Wd.cell? ⟨zb, 2, none⟩ = some (.int .i64 aX) := hbxD.cell 2
        have d3 : Wd.cell? ⟨zb, 3, none⟩ = some (.slice aao an acap) := hbxD.cell 3
        have d4 : Wd.cell? ⟨zb, 4, none⟩ = some (.int .i64 amw) := hbxD.cell 4
        have d5 : Wd.cell? ⟨zb, 5, none⟩ = some (.int .i64 aml) := hbxD.cell 5
        clear sd hbx y0 y1 y2 y3 y4 y5
        refine wpAnyH_take (i := 0) (oi := ?_) (v := ?_) ?_ (by kernel_rfl) (by kernel_rfl) (by kernel_rfl) ?_ (Or.inl ⟨?_, ?_⟩) ?_ ?_; rotate_left 2
        · (simp only [List.getElem?_toArray, List.getElem?_cons_succ, List.getElem?_cons_zero]; rfl)
        · exact fun _ _ _ h => h
        · rfl
        · (intro w hSw; first | (go_simp; done) | (go_simp; with_reducible rfl))
        · trivial
        try simp only [Act.put, List.setIfInBounds_toArray, List.set_cons_zero, List.set_cons_succ]
        refine wpAnyH_take (i := 1) (oi := ?_) (v := ?_) ?_ (by kernel_rfl) (by kernel_rfl) (by kernel_rfl) ?_ (Or.inl ⟨?_, ?_⟩) ?_ ?_; rotate_left 2
        · (simp only [List.getElem?_toArray, List.getElem?_cons_succ, List.getElem?_cons_zero]; rfl)
        · exact fun _ _ _ h => h
        · rfl
        · (intro w hSw; first | (go_simp; done) | (go_simp; with_reducible rfl))
        · trivial
        try simp only [Act.put, List.setIfInBounds_toArray, List.set_cons_zero, List.set_cons_succ]
        refine wpAnyH_ready (rs := [2]) (by kernel_rfl) (by simp) ?_
        refine AllReadyH.cons (o := ?_) ?_ ?_ ?_; rotate_left 1
        · (simp only [List.getElem?_toArray, List.getElem?_cons_succ, List.getElem?_cons_zero]; rfl)
        · intro K' hK
          go_simp
          refine hK.out _ _ ?_ (fun hHeld => ?_)
          · trivial
          clear hK K'
          try simp only [Act.put, List.setIfInBounds_toArray, List.set_cons_zero, List.set_cons_succ]
          refine wpAnyH_ready (rs := [3]) (by kernel_rfl) (by simp) ?_
          refine AllReadyH.cons (o := ?_) ?_ ?_ ?_; rotate_left 1
          · (simp only [List.getElem?_toArray, List.getElem?_cons_succ, List.getElem?_cons_zero]; rfl)
          · intro K' hK
            go_simp
            go_at_call 27; refine hdoes.mono ?_; rintro e wE ⟨rfl, oE, s', hbE, sE⟩
            obtain ⟨hd, hRB⟩ := hbE
            obtain ⟨okr, lvr, ovr, jor, hjor, hbr, hrr, hr2r⟩ := hRB
            have hRB : RB wE oE 30 c s' := ⟨okr, lvr, ovr, jor, hjor, hbr, hrr, hr2r⟩
            obtain ⟨aor, cor, rfl, -, -⟩ := hr2r.slice
            have hrowE := hrowD.frame sE (by decide)
            have hBE := hBD.step sE (by decide)
            have hcu := current_ok hd
            clear hdoes hrowD hBD d0 d1 d2 d3 d4 d5
            try go_wp2_with fail
            refine hK.out _ _ ?_ (fun hHeld => ?_)
            · trivial
            clear hK K'
            try simp only [Act.put, List.setIfInBounds_toArray, List.set_cons_zero, List.set_cons_succ]
            refine wpAnyH_take (i := 4) (oi := ?_) (v := ?_) ?_ (by kernel_rfl) (by kernel_rfl) (by kernel_rfl) ?_ (Or.inl ⟨?_, ?_⟩) ?_ ?_; rotate_left 2
            · (simp only [List.getElem?_toArray, List.getElem?_cons_succ, List.getElem?_cons_zero]; rfl)
            · exact fun _ _ _ h => h
            · rfl
            · (intro w hSw; first | (go_simp; done) | (go_simp; with_reducible rfl))
            · trivial
            try simp only [Act.put, List.setIfInBounds_toArray, List.set_cons_zero, List.set_cons_succ]
            refine wpAnyH_take (i := 5) (oi := ?_) (v := ?_) ?_ (by kernel_rfl) (by kernel_rfl) (by kernel_rfl) ?_ (Or.inl ⟨?_, ?_⟩) ?_ ?_; rotate_left 2
            · (simp only [List.getElem?_toArray, List.getElem?_cons_succ, List.getElem?_cons_zero]; rfl)
            · exact fun _ _ _ h => h
            · rfl
            · (intro w hSw; first | (go_simp; done) | (go_simp; with_reducible rfl))
            · trivial
            try simp only [Act.put, List.setIfInBounds_toArray, List.set_cons_zero, List.set_cons_succ]
            refine wpAnyH_take (i := 6) (oi := ?_) (v := ?_) ?_ (by kernel_rfl) (by kernel_rfl) (by kernel_rfl) ?_ (Or.inl ⟨?_, ?_⟩) ?_ ?_; rotate_left 2
            · (simp only [List.getElem?_toArray, List.getElem?_cons_succ, List.getElem?_cons_zero]; rfl)
            · exact fun _ _ _ h => h
            · rfl
            · (intro w hSw; first | (go_simp; done) | (go_simp; with_reducible rfl))
            · trivial
            try simp only [Act.put, List.setIfInBounds_toArray, List.set_cons_zero, List.set_cons_succ]
            refine wpAnyH_take (i := 8) (oi := ?_) (v := ?_) ?_ (by kernel_rfl) (by kernel_rfl) (by kernel_rfl) ?_ (Or.inl ⟨?_, ?_⟩) ?_ ?_; rotate_left 2
            · (simp only [List.getElem?_toArray, List.getElem?_cons_succ, List.getElem?_cons_zero]; rfl)
            · exact fun _ _ _ h => h
            · rfl
            · (intro w hSw; first | (go_simp; done) | (go_simp; with_reducible rfl))
            · trivial
            try simp only [Act.put, List.setIfInBounds_toArray, List.set_cons_zero, List.set_cons_succ]
            refine wpAnyH_take (i := 9) (oi := ?_) (v := ?_) ?_ (by kernel_rfl) (by kernel_rfl) (by kernel_rfl) ?_ (Or.inl ⟨?_, ?_⟩) ?_ ?_; rotate_left 2
            · (simp only [List.getElem?_toArray, List.getElem?_cons_succ, List.getElem?_cons_zero]; rfl)
            · exact fun _ _ _ h => h
            · rfl
            · (intro w hSw; first | (go_simp; done) | (go_simp; with_reducible rfl))
            · trivial
            try simp only [Act.put, List.setIfInBounds_toArray, List.set_cons_zero, List.set_cons_succ]
            refine wpAnyH_take (i := 10) (oi := ?_) (v := ?_) ?_ (by kernel_rfl) (by kernel_rfl) (by kernel_rfl) ?_ (Or.inl ⟨?_, ?_⟩) ?_ ?_; rotate_left 2
            · (simp only [List.getElem?_toArray, List.getElem?_cons_succ, List.getElem?_cons_zero]; rfl)
            · exact fun _ _ _ h => h
            · rfl
            · (intro w hSw; first | (go_simp; done) | (go_simp; with_reducible rfl))
            · trivial
            try simp only [Act.put, List.setIfInBounds_toArray, List.set_cons_zero, List.set_cons_succ]
            refine wpAnyH_ready (rs := [7, 11]) (by kernel_rfl) (by simp) ?_
            refine AllReadyH.cons (o := ?_) ?_ ?_ ?_; rotate_left 1
            · (simp only [List.getElem?_toArray, List.getElem?_cons_succ, List.getElem?_cons_zero]; rfl)
            · intro K' hK
              go_simp
              go_at_call 19; refine (current_ok hd).mono ?_; rintro e w7 ⟨rfl, rfl⟩
              try go_wp2_with fail
              refine hK.out _ _ ?_ (fun hHeld => ?_)
              · trivial
              clear hK K'
              try simp only [Act.put, List.setIfInBounds_toArray, List.set_cons_zero, List.set_cons_succ]
              refine wpAnyH_ready (rs := [11]) (by kernel_rfl) (by simp) ?_
              refine AllReadyH.cons (o := ?_) ?_ ?_ ?_; rotate_left 1
              · (simp only [List.getElem?_toArray, List.getElem?_cons_succ, List.getElem?_cons_zero]; rfl)
              · intro K' hK
                have r3 := hbr.cells4.1.2.2.2
                go_simp
                refine hK.out _ _ ?_ (fun hHeld => ?_)
                · trivial
                clear hK K'
                try simp only [Act.put, List.setIfInBounds_toArray, List.set_cons_zero, List.set_cons_succ]
                refine wpAnyH_take (i := 12) (oi := ?_) (v := ?_) ?_ (by kernel_rfl) (by kernel_rfl) (by kernel_rfl) ?_ (Or.inl ⟨?_, ?_⟩) ?_ ?_; rotate_left 2
                · (simp only [List.getElem?_toArray, List.getElem?_cons_succ, List.getElem?_cons_zero]; rfl)
                · exact fun _ _ _ h => h
                · rfl
                · (intro w hSw; first | (go_simp; done) | (go_simp; with_reducible rfl))
                · trivial
                try simp only [Act.put, List.setIfInBounds_toArray, List.set_cons_zero, List.set_cons_succ]
                refine wpAnyH_take (i := 13) (oi := ?_) (v := ?_) ?_ (by kernel_rfl) (by kernel_rfl) (by kernel_rfl) ?_ (Or.inl ⟨?_, ?_⟩) ?_ ?_; rotate_left 2
                · (simp only [List.getElem?_toArray, List.getElem?_cons_succ, List.getElem?_cons_zero]; rfl)
                · exact fun _ _ _ h => h
                · rfl
                · (intro w hSw; first | (go_simp; done) | (go_simp; with_reducible rfl))
                · trivial
                try simp only [Act.put, List.setIfInBounds_toArray, List.set_cons_zero, List.set_cons_succ]
                refine wpAnyH_take (i := 14) (oi := ?_) (v := ?_) ?_ (by kernel_rfl) (by kernel_rfl) (by kernel_rfl) ?_ (Or.inl ⟨?_, ?_⟩) ?_ ?_; rotate_left 2
                · (simp only [List.getElem?_toArray, List.getElem?_cons_succ, List.getElem?_cons_zero]; rfl)
                · exact fun _ _ _ h => h
                · rfl
                · (intro w hSw; first | (go_simp; done) | (go_simp; with_reducible rfl))
                · trivial
                try simp only [Act.put, List.setIfInBounds_toArray, List.set_cons_zero, List.set_cons_succ]
                refine wpAnyH_take (i := 15) (oi := ?_) (v := ?_) ?_ (by kernel_rfl) (by kernel_rfl) (by kernel_rfl) ?_ (Or.inl ⟨?_, ?_⟩) ?_ ?_; rotate_left 2
                · (simp only [List.getElem?_toArray, List.getElem?_cons_succ, List.getElem?_cons_zero]; rfl)
                · exact fun _ _ _ h => h
                · rfl
                · (intro w hSw; first | (go_simp; done) | (go_simp; with_reducible rfl))
                · trivial
                try simp only [Act.put, List.setIfInBounds_toArray, List.set_cons_zero, List.set_cons_succ]
                refine wpAnyH_take (i := 17) (oi := ?_) (v := ?_) ?_ (by kernel_rfl) (by kernel_rfl) (by kernel_rfl) ?_ (Or.inl ⟨?_, ?_⟩) ?_ ?_; rotate_left 2
                · (simp only [List.getElem?_toArray, List.getElem?_cons_succ, List.getElem?_cons_zero]; rfl)
                · exact fun _ _ _ h => h
                · rfl
                · (intro w hSw; first | (go_simp; done) | (go_simp; with_reducible rfl))
                · trivial
                try simp only [Act.put, List.setIfInBounds_toArray, List.set_cons_zero, List.set_cons_succ]
                refine wpAnyH_take (i := 18) (oi := ?_) (v := ?_) ?_ (by kernel_rfl) (by kernel_rfl) (by kernel_rfl) ?_ (Or.inl ⟨?_, ?_⟩) ?_ ?_; rotate_left 2
                · (simp only [List.getElem?_toArray, List.getElem?_cons_succ, List.getElem?_cons_zero]; rfl)
                · exact fun _ _ _ h => h
                · rfl
                · (intro w hSw; first | (go_simp; done) | (go_simp; with_reducible rfl))
                · trivial
                try simp only [Act.put, List.setIfInBounds_toArray, List.set_cons_zero, List.set_cons_succ]
                refine wpAnyH_take (i := 19) (oi := ?_) (v := ?_) ?_ (by kernel_rfl) (by kernel_rfl) (by kernel_rfl) ?_ (Or.inl ⟨?_, ?_⟩) ?_ ?_; rotate_left 2
                · (simp only [List.getElem?_toArray, List.getElem?_cons_succ, List.getElem?_cons_zero]; rfl)
                · exact fun _ _ _ h => h
                · rfl
                · (intro w hSw; first | (go_simp; done) | (go_simp; with_reducible rfl))
                · trivial
                try simp only [Act.put, List.setIfInBounds_toArray, List.set_cons_zero, List.set_cons_succ]
                refine wpAnyH_ready (rs := [16, 20]) (by kernel_rfl) (by simp) ?_
                refine AllReadyH.cons (o := ?_) ?_ ?_ ?_; rotate_left 1
                · (simp only [List.getElem?_toArray, List.getElem?_cons_succ, List.getElem?_cons_zero]; rfl)
                · intro K' hK
                  go_simp
                  go_at_call 22; refine (order_ok hd 43).mono ?_; rintro e w8 ⟨v8, o8, rfl, hr8, s8⟩; obtain ⟨a8, c8, rfl, -, -⟩ := hr8.slice
                  replace hd := hd.nil s8
                  replace hRB := hRB.nil s8
                  replace hbr := hbr.frame s8 (by simp)
                  replace hr2r := hr2r.frame s8 (by simp)
                  replace hrowE := hrowE.frame s8 (by simp)
                  replace hBE := hBE.step s8 (by simp)
                  try go_wp2_with fail
                  refine hK.out _ _ ?_ (fun hHeld => ?_)
                  · trivial
                  clear hK K'
                  try simp only [Act.put, List.setIfInBounds_toArray, List.set_cons_zero, List.set_cons_succ]
                  refine wpAnyH_ready (rs := [20]) (by kernel_rfl) (by simp) ?_
                  refine AllReadyH.cons (o := ?_) ?_ ?_ ?_; rotate_left 1
                  · (simp only [List.getElem?_toArray, List.getElem?_cons_succ, List.getElem?_cons_zero]; rfl)
                  · intro K' hK
                    have r2 := hbr.cells4.1.2.2.1
                    go_simp
                    refine hK.out _ _ ?_ (fun hHeld => ?_)
                    · trivial
                    clear hK K'
                    try simp only [Act.put, List.setIfInBounds_toArray, List.set_cons_zero, List.set_cons_succ]
                    refine wpAnyH_ready (rs := [21]) (by kernel_rfl) (by simp) ?_
                    refine AllReadyH.cons (o := ?_) ?_ ?_ ?_; rotate_left 1
                    · (simp only [List.getElem?_toArray, List.getElem?_cons_succ, List.getElem?_cons_zero]; rfl)
                    · intro K' hK
                      go_simp
                      go_at_call 21; refine (ints_ok hr8.rd hr2r.rd (by have := hd.ok.ol; omega) (by have := hd.ok.ol; omega)).mono ?_; rintro e w9 ⟨rfl, s9⟩
                      replace hd := hd.nil s9
                      replace hRB := hRB.nil s9
                      replace hrowE := hrowE.frame s9 (by simp)
                      replace hBE := hBE.step s9 (by simp)
                      try go_wp2_with fail
                      refine hK.out _ _ ?_ (fun hHeld => ?_)
                      · trivial
                      clear hK K'
                      try simp only [Act.put, List.setIfInBounds_toArray, List.set_cons_zero, List.set_cons_succ]
                      refine wpAnyH_take (i := 22) (oi := ?_) (v := ?_) ?_ (by kernel_rfl) (by kernel_rfl) (by kernel_rfl) ?_ (Or.inl ⟨?_, ?_⟩) ?_ ?_; rotate_left 2
                      · (simp only [List.getElem?_toArray, List.getElem?_cons_succ, List.getElem?_cons_zero]; rfl)
                      · exact fun _ _ _ h => h
                      · rfl
                      · (intro w hSw; first | (go_simp; done) | (go_simp; with_reducible rfl))
                      · trivial
                      try simp only [Act.put, List.setIfInBounds_toArray, List.set_cons_zero, List.set_cons_succ]
                      refine wpAnyH_take (i := 23) (oi := ?_) (v := ?_) ?_ (by kernel_rfl) (by kernel_rfl) (by kernel_rfl) ?_ (Or.inl ⟨?_, ?_⟩) ?_ ?_; rotate_left 2
                      · (simp only [List.getElem?_toArray, List.getElem?_cons_succ, List.getElem?_cons_zero]; rfl)
                      · exact fun _ _ _ h => h
                      · rfl
                      · (intro w hSw; first | (go_simp; done) | (go_simp; with_reducible rfl))
                      · trivial
                      try simp only [Act.put, List.setIfInBounds_toArray, List.set_cons_zero, List.set_cons_succ]
                      refine wpAnyH_take (i := 24) (oi := ?_) (v := ?_) ?_ (by kernel_rfl) (by kernel_rfl) (by kernel_rfl) ?_ (Or.inl ⟨?_, ?_⟩) ?_ ?_; rotate_left 2
                      · (simp only [List.getElem?_toArray, List.getElem?_cons_succ, List.getElem?_cons_zero]; rfl)
                      · exact fun _ _ _ h => h
                      · rfl
                      · (intro w hSw; first | (go_simp; done) | (go_simp; with_reducible rfl))
                      · trivial
                      try simp only [Act.put, List.setIfInBounds_toArray, List.set_cons_zero, List.set_cons_succ]
                      refine wpAnyH_take (i := 25) (oi := ?_) (v := ?_) ?_ (by kernel_rfl) (by kernel_rfl) (by kernel_rfl) ?_ (Or.inl ⟨?_, ?_⟩) ?_ ?_; rotate_left 2
                      · (simp only [List.getElem?_toArray, List.getElem?_cons_succ, List.getElem?_cons_zero]; rfl)
                      · exact fun _ _ _ h => h
                      · rfl
                      · (intro w hSw; first | (go_simp; done) | (go_simp; with_reducible rfl))
                      · trivial
                      try simp only [Act.put, List.setIfInBounds_toArray, List.set_cons_zero, List.set_cons_succ]
                      refine wpAnyH_take (i := 27) (oi := ?_) (v := ?_) ?_ (by kernel_rfl) (by kernel_rfl) (by kernel_rfl) ?_ (Or.inl ⟨?_, ?_⟩) ?_ ?_; rotate_left 2
                      · (simp only [List.getElem?_toArray, List.getElem?_cons_succ, List.getElem?_cons_zero]; rfl)
                      · exact fun _ _ _ h => h
                      · rfl
                      · (intro w hSw; first | (go_simp; done) | (go_simp; with_reducible rfl))
                      · trivial
                      try simp only [Act.put, List.setIfInBounds_toArray, List.set_cons_zero, List.set_cons_succ]
                      refine wpAnyH_ready (rs := [26]) (by kernel_rfl) (by simp) ?_
                      refine AllReadyH.cons (o := ?_) ?_ ?_ ?_; rotate_left 1
                      · (simp only [List.getElem?_toArray, List.getElem?_cons_succ, List.getElem?_cons_zero]; rfl)
                      · intro K' hK
                        go_simp
                        go_at_call 14; refine (mark_ok hd).mono ?_; rintro e w10 ⟨rfl, s10⟩
                        replace hd := hd.nil s10
                        replace hRB := hRB.nil s10
                        replace hrowE := hrowE.frame s10 (by simp)
                        replace hBE := hBE.step s10 (by simp)
                        try go_wp2_with fail
                        refine hK.out _ _ ?_ (fun hHeld => ?_)
                        · trivial
                        clear hK K'
                        try simp only [Act.put, List.setIfInBounds_toArray, List.set_cons_zero, List.set_cons_succ]
                        refine wpAnyH_ready (rs := [28]) (by kernel_rfl) (by simp) ?_
                        refine AllReadyH.cons (o := ?_) ?_ ?_ ?_; rotate_left 1
                        · (simp only [List.getElem?_toArray, List.getElem?_cons_succ, List.getElem?_cons_zero]; rfl)
                        · intro K' hK
                          go_simp
                          go_at_call 28; refine (rmark_ok hRB).mono ?_; rintro e w11 ⟨rfl, s11⟩
                          replace hd := hd.nil s11
                          replace hRB := hRB.nil s11
                          replace hrowE := hrowE.frame s11 (by simp)
                          replace hBE := hBE.step s11 (by simp)
                          try go_wp2_with fail
                          refine hK.out _ _ ?_ (fun hHeld => ?_)
                          · trivial
                          clear hK K'
                          try simp only [Act.put, List.setIfInBounds_toArray, List.set_cons_zero, List.set_cons_succ]
                          refine wpAnyH_take (i := 29) (oi := ?_) (v := ?_) ?_ (by kernel_rfl) (by kernel_rfl) (by kernel_rfl) ?_ (Or.inl ⟨?_, ?_⟩) ?_ ?_; rotate_left 2
                          · (simp only [List.getElem?_toArray, List.getElem?_cons_succ, List.getElem?_cons_zero]; rfl)
                          · exact fun _ _ _ h => h
                          · rfl
                          · (intro w hSw; first | (go_simp; done) | (go_simp; with_reducible rfl))
                          · trivial
                          try simp only [Act.put, List.setIfInBounds_toArray, List.set_cons_zero, List.set_cons_succ]
                          refine wpAnyH_take (i := 30) (oi := ?_) (v := ?_) ?_ (by kernel_rfl) (by kernel_rfl) (by kernel_rfl) ?_ (Or.inl ⟨?_, ?_⟩) ?_ ?_; rotate_left 2
                          · (simp only [List.getElem?_toArray, List.getElem?_cons_succ, List.getElem?_cons_zero]; rfl)
                          · exact fun _ _ _ h => h
                          · rfl
                          · (intro w hSw; first | (go_simp; done) | (go_simp; with_reducible rfl))
                          · trivial
                          try simp only [Act.put, List.setIfInBounds_toArray, List.set_cons_zero, List.set_cons_succ]
                          refine wpAnyH_done (by kernel_rfl) ?_ _
                          go_wp2_with fail
                          go_meet
                          exact ⟨rfl, _, s', ⟨hd.mono (by omega), hRB⟩, hrowE, hBE⟩
                        exact AllReadyH.nil
                      exact AllReadyH.nil
                    exact AllReadyH.nil
                  exact AllReadyH.nil
                refine AllReadyH.cons (o := ?_) ?_ ?_ ?_; rotate_left 1
                · (simp only [List.getElem?_toArray, List.getElem?_cons_succ, List.getElem?_cons_zero]; rfl)
                · intro K' hK
                  have r2 := hbr.cells4.1.2.2.1
                  go_simp
                  refine hK.out _ _ ?_ (fun hHeld => ?_)
                  · trivial
                  clear hK K'
                  try simp only [Act.put, List.setIfInBounds_toArray, List.set_cons_zero, List.set_cons_succ]
                  refine wpAnyH_ready (rs := [16]) (by kernel_rfl) (by simp) ?_
                  refine AllReadyH.cons (o := ?_) ?_ ?_ ?_; rotate_left 1
                  · (simp only [List.getElem?_toArray, List.getElem?_cons_succ, List.getElem?_cons_zero]; rfl)
                  · intro K' hK
                    go_simp
                    go_at_call 22; refine (order_ok hd 43).mono ?_; rintro e w8 ⟨v8, o8, rfl, hr8, s8⟩; obtain ⟨a8, c8, rfl, -, -⟩ := hr8.slice
                    replace hd := hd.nil s8
                    replace hRB := hRB.nil s8
                    replace hbr := hbr.frame s8 (by simp)
                    replace hr2r := hr2r.frame s8 (by simp)
                    replace hrowE := hrowE.frame s8 (by simp)
                    replace hBE := hBE.step s8 (by simp)
                    try go_wp2_with fail
                    refine hK.out _ _ ?_ (fun hHeld => ?_)
                    · trivial
                    clear hK K'
                    try simp only [Act.put, List.setIfInBounds_toArray, List.set_cons_zero, List.set_cons_succ]
                    refine wpAnyH_ready (rs := [21]) (by kernel_rfl) (by simp) ?_
                    refine AllReadyH.cons (o := ?_) ?_ ?_ ?_; rotate_left 1
                    · (simp only [List.getElem?_toArray, List.getElem?_cons_succ, List.getElem?_cons_zero]; rfl)
                    · intro K' hK
                      go_simp
                      go_at_call 21; refine (ints_ok hr8.rd hr2r.rd (by have := hd.ok.ol; omega) (by have := hd.ok.ol; omega)).mono ?_; rintro e w9 ⟨rfl, s9⟩
                      replace hd := hd.nil s9
                      replace hRB := hRB.nil s9
                      replace hrowE := hrowE.frame s9 (by simp)
                      replace hBE := hBE.step s9 (by simp)
                      try go_wp2_with fail
                      refine hK.out _ _ ?_ (fun hHeld => ?_)
                      · trivial
                      clear hK K'
                      try simp only [Act.put, List.setIfInBounds_toArray, List.set_cons_zero, List.set_cons_succ]
                      refine wpAnyH_take (i := 22) (oi := ?_) (v := ?_) ?_ (by kernel_rfl) (by kernel_rfl) (by kernel_rfl) ?_ (Or.inl ⟨?_, ?_⟩) ?_ ?_; rotate_left 2
                      · (simp only [List.getElem?_toArray, List.getElem?_cons_succ, List.getElem?_cons_zero]; rfl)
                      · exact fun _ _ _ h => h
                      · rfl
                      · (intro w hSw; first | (go_simp; done) | (go_simp; with_reducible rfl))
                      · trivial
                      try simp only [Act.put, List.setIfInBounds_toArray, List.set_cons_zero, List.set_cons_succ]
                      refine wpAnyH_take (i := 23) (oi := ?_) (v := ?_) ?_ (by kernel_rfl) (by kernel_rfl) (by kernel_rfl) ?_ (Or.inl ⟨?_, ?_⟩) ?_ ?_; rotate_left 2
                      · (simp only [List.getElem?_toArray, List.getElem?_cons_succ, List.getElem?_cons_zero]; rfl)
                      · exact fun _ _ _ h => h
                      · rfl
                      · (intro w hSw; first | (go_simp; done) | (go_simp; with_reducible rfl))
                      · trivial
                      try simp only [Act.put, List.setIfInBounds_toArray, List.set_cons_zero, List.set_cons_succ]
                      refine wpAnyH_take (i := 24) (oi := ?_) (v := ?_) ?_ (by kernel_rfl) (by kernel_rfl) (by kernel_rfl) ?_ (Or.inl ⟨?_, ?_⟩) ?_ ?_; rotate_left 2
                      · (simp only [List.getElem?_toArray, List.getElem?_cons_succ, List.getElem?_cons_zero]; rfl)
                      · exact fun _ _ _ h => h
                      · rfl
                      · (intro w hSw; first | (go_simp; done) | (go_simp; with_reducible rfl))
                      · trivial
                      try simp only [Act.put, List.setIfInBounds_toArray, List.set_cons_zero, List.set_cons_succ]
                      refine wpAnyH_take (i := 25) (oi := ?_) (v := ?_) ?_ (by kernel_rfl) (by kernel_rfl) (by kernel_rfl) ?_ (Or.inl ⟨?_, ?_⟩) ?_ ?_; rotate_left 2
                      · (simp only [List.getElem?_toArray, List.getElem?_cons_succ, List.getElem?_cons_zero]; rfl)
                      · exact fun _ _ _ h => h
                      · rfl
                      · (intro w hSw; first | (go_simp; done) | (go_simp; with_reducible rfl))
                      · trivial
                      try simp only [Act.put, List.setIfInBounds_toArray, List.set_cons_zero, List.set_cons_succ]
                      refine wpAnyH_take (i := 27) (oi := ?_) (v := ?_) ?_ (by kernel_rfl) (by kernel_rfl) (by kernel_rfl) ?_ (Or.inl ⟨?_, ?_⟩) ?_ ?_; rotate_left 2
                      · (simp only [List.getElem?_toArray, List.getElem?_cons_succ, List.getElem?_cons_zero]; rfl)
                      · exact fun _ _ _ h => h
                      · rfl
                      · (intro w hSw; first | (go_simp; done) | (go_simp; with_reducible rfl))
                      · trivial
                      try simp only [Act.put, List.setIfInBounds_toArray, List.set_cons_zero, List.set_cons_succ]
                      refine wpAnyH_ready (rs := [26]) (by kernel_rfl) (by simp) ?_
                      refine AllReadyH.cons (o := ?_) ?_ ?_ ?_; rotate_left 1
                      · (simp only [List.getElem?_toArray, List.getElem?_cons_succ, List.getElem?_cons_zero]; rfl)
                      · intro K' hK
                        go_simp
                        go_at_call 14; refine (mark_ok hd).mono ?_; rintro e w10 ⟨rfl, s10⟩
                        replace hd := hd.nil s10
                        replace hRB := hRB.nil s10
                        replace hrowE := hrowE.frame s10 (by simp)
                        replace hBE := hBE.step s10 (by simp)
                        try go_wp2_with fail
                        refine hK.out _ _ ?_ (fun hHeld => ?_)
                        · trivial
                        clear hK K'
                        try simp only [Act.put, List.setIfInBounds_toArray, List.set_cons_zero, List.set_cons_succ]
                        refine wpAnyH_ready (rs := [28]) (by kernel_rfl) (by simp) ?_
                        refine AllReadyH.cons (o := ?_) ?_ ?_ ?_; rotate_left 1
                        · (simp only [List.getElem?_toArray, List.getElem?_cons_succ, List.getElem?_cons_zero]; rfl)
                        · intro K' hK
                          go_simp
                          go_at_call 28; refine (rmark_ok hRB).mono ?_; rintro e w11 ⟨rfl, s11⟩
                          replace hd := hd.nil s11
                          replace hRB := hRB.nil s11
                          replace hrowE := hrowE.frame s11 (by simp)
                          replace hBE := hBE.step s11 (by simp)
                          try go_wp2_with fail
                          refine hK.out _ _ ?_ (fun hHeld => ?_)
                          · trivial
                          clear hK K'
                          try simp only [Act.put, List.setIfInBounds_toArray, List.set_cons_zero, List.set_cons_succ]
                          refine wpAnyH_take (i := 29) (oi := ?_) (v := ?_) ?_ (by kernel_rfl) (by kernel_rfl) (by kernel_rfl) ?_ (Or.inl ⟨?_, ?_⟩) ?_ ?_; rotate_left 2
                          · (simp only [List.getElem?_toArray, List.getElem?_cons_succ, List.getElem?_cons_zero]; rfl)
                          · exact fun _ _ _ h => h
                          · rfl
                          · (intro w hSw; first | (go_simp; done) | (go_simp; with_reducible rfl))
                          · trivial
                          try simp only [Act.put, List.setIfInBounds_toArray, List.set_cons_zero, List.set_cons_succ]
                          refine wpAnyH_take (i := 30) (oi := ?_) (v := ?_) ?_ (by kernel_rfl) (by kernel_rfl) (by kernel_rfl) ?_ (Or.inl ⟨?_, ?_⟩) ?_ ?_; rotate_left 2
                          · (simp only [List.getElem?_toArray, List.getElem?_cons_succ, List.getElem?_cons_zero]; rfl)
                          · exact fun _ _ _ h => h
                          · rfl
                          · (intro w hSw; first | (go_simp; done) | (go_simp; with_reducible rfl))
                          · trivial
                          try simp only [Act.put, List.setIfInBounds_toArray, List.set_cons_zero, List.set_cons_succ]
                          refine wpAnyH_done (by kernel_rfl) ?_ _
                          go_wp2_with fail
                          go_meet
                          exact ⟨rfl, _, s', ⟨hd.mono (by omega), hRB⟩, hrowE, hBE⟩
                        exact AllReadyH.nil
                      exact AllReadyH.nil
                    exact AllReadyH.nil
                  exact AllReadyH.nil
                exact AllReadyH.nil
              exact AllReadyH.nil
            refine AllReadyH.cons (o := ?_) ?_ ?_ ?_; rotate_left 1
            · (simp only [List.getElem?_toArray, List.getElem?_cons_succ, List.getElem?_cons_zero]; rfl)
            · intro K' hK
              have r3 := hbr.cells4.1.2.2.2
              go_simp
              refine hK.out _ _ ?_ (fun hHeld => ?_)
              · trivial
              clear hK K'
              try simp only [Act.put, List.setIfInBounds_toArray, List.set_cons_zero, List.set_cons_succ]
              refine wpAnyH_ready (rs := [7]) (by kernel_rfl) (by simp) ?_
              refine AllReadyH.cons (o := ?_) ?_ ?_ ?_; rotate_left 1
              · (simp only [List.getElem?_toArray, List.getElem?_cons_succ, List.getElem?_cons_zero]; rfl)
              · intro K' hK
                go_simp
                go_at_call 19; refine (current_ok hd).mono ?_; rintro e w7 ⟨rfl, rfl⟩
                try go_wp2_with fail
                refine hK.out _ _ ?_ (fun hHeld => ?_)
                · trivial
                clear hK K'
                try simp only [Act.put, List.setIfInBounds_toArray, List.set_cons_zero, List.set_cons_succ]
                refine wpAnyH_take (i := 12) (oi := ?_) (v := ?_) ?_ (by kernel_rfl) (by kernel_rfl) (by kernel_rfl) ?_ (Or.inl ⟨?_, ?_⟩) ?_ ?_; rotate_left 2
                · (simp only [List.getElem?_toArray, List.getElem?_cons_succ, List.getElem?_cons_zero]; rfl)
                · exact fun _ _ _ h => h
                · rfl
                · (intro w hSw; first | (go_simp; done) | (go_simp; with_reducible rfl))
                · trivial
                try simp only [Act.put, List.setIfInBounds_toArray, List.set_cons_zero, List.set_cons_succ]
                refine wpAnyH_take (i := 13) (oi := ?_) (v := ?_) ?_ (by kernel_rfl) (by kernel_rfl) (by kernel_rfl) ?_ (Or.inl ⟨?_, ?_⟩) ?_ ?_; rotate_left 2
                · (simp only [List.getElem?_toArray, List.getElem?_cons_succ, List.getElem?_cons_zero]; rfl)
                · exact fun _ _ _ h => h
                · rfl
                · (intro w hSw; first | (go_simp; done) | (go_simp; with_reducible rfl))
                · trivial
                try simp only [Act.put, List.setIfInBounds_toArray, List.set_cons_zero, List.set_cons_succ]
                refine wpAnyH_take (i := 14) (oi := ?_) (v := ?_) ?_ (by kernel_rfl) (by kernel_rfl) (by kernel_rfl) ?_ (Or.inl ⟨?_, ?_⟩) ?_ ?_; rotate_left 2
                · (simp only [List.getElem?_toArray, List.getElem?_cons_succ, List.getElem?_cons_zero]; rfl)
                · exact fun _ _ _ h => h
                · rfl
                · (intro w hSw; first | (go_simp; done) | (go_simp; with_reducible rfl))
                · trivial
                try simp only [Act.put, List.setIfInBounds_toArray, List.set_cons_zero, List.set_cons_succ]
                refine wpAnyH_take (i := 15) (oi := ?_) (v := ?_) ?_ (by kernel_rfl) (by kernel_rfl) (by kernel_rfl) ?_ (Or.inl ⟨?_, ?_⟩) ?_ ?_; rotate_left 2
                · (simp only [List.getElem?_toArray, List.getElem?_cons_succ, List.getElem?_cons_zero]; rfl)
                · exact fun _ _ _ h => h
                · rfl
                · (intro w hSw; first | (go_simp; done) | (go_simp; with_reducible rfl))
                · trivial
                try simp only [Act.put, List.setIfInBounds_toArray, List.set_cons_zero, List.set_cons_succ]
                refine wpAnyH_take (i := 17) (oi := ?_) (v := ?_) ?_ (by kernel_rfl) (by kernel_rfl) (by kernel_rfl) ?_ (Or.inl ⟨?_, ?_⟩) ?_ ?_; rotate_left 2
                · (simp only [List.getElem?_toArray, List.getElem?_cons_succ, List.getElem?_cons_zero]; rfl)
                · exact fun _ _ _ h => h
                · rfl
                · (intro w hSw; first | (go_simp; done) | (go_simp; with_reducible rfl))
                · trivial
                try simp only [Act.put, List.setIfInBounds_toArray, List.set_cons_zero, List.set_cons_succ]
                refine wpAnyH_take (i := 18) (oi := ?_) (v := ?_) ?_ (by kernel_rfl) (by kernel_rfl) (by kernel_rfl) ?_ (Or.inl ⟨?_, ?_⟩) ?_ ?_; rotate_left 2
                · (simp only [List.getElem?_toArray, List.getElem?_cons_succ, List.getElem?_cons_zero]; rfl)
                · exact fun _ _ _ h => h
                · rfl
                · (intro w hSw; first | (go_simp; done) | (go_simp; with_reducible rfl))
                · trivial
                try simp only [Act.put, List.setIfInBounds_toArray, List.set_cons_zero, List.set_cons_succ]
                refine wpAnyH_take (i := 19) (oi := ?_) (v := ?_) ?_ (by kernel_rfl) (by kernel_rfl) (by kernel_rfl) ?_ (Or.inl ⟨?_, ?_⟩) ?_ ?_; rotate_left 2
                · (simp only [List.getElem?_toArray, List.getElem?_cons_succ, List.getElem?_cons_zero]; rfl)
                · exact fun _ _ _ h => h
                · rfl
                · (intro w hSw; first | (go_simp; done) | (go_simp; with_reducible rfl))
                · trivial
                try simp only [Act.put, List.setIfInBounds_toArray, List.set_cons_zero, List.set_cons_succ]
                refine wpAnyH_ready (rs := [16, 20]) (by kernel_rfl) (by simp) ?_
                refine AllReadyH.cons (o := ?_) ?_ ?_ ?_; rotate_left 1
                · (simp only [List.getElem?_toArray, List.getElem?_cons_succ, List.getElem?_cons_zero]; rfl)
                · intro K' hK
                  go_simp
                  go_at_call 22; refine (order_ok hd 43).mono ?_; rintro e w8 ⟨v8, o8, rfl, hr8, s8⟩; obtain ⟨a8, c8, rfl, -, -⟩ := hr8.slice
                  replace hd := hd.nil s8
                  replace hRB := hRB.nil s8
                  replace hbr := hbr.frame s8 (by simp)
                  replace hr2r := hr2r.frame s8 (by simp)
                  replace hrowE := hrowE.frame s8 (by simp)
                  replace hBE := hBE.step s8 (by simp)
                  try go_wp2_with fail
                  refine hK.out _ _ ?_ (fun hHeld => ?_)
                  · trivial
                  clear hK K'
                  try simp only [Act.put, List.setIfInBounds_toArray, List.set_cons_zero, List.set_cons_succ]
                  refine wpAnyH_ready (rs := [20]) (by kernel_rfl) (by simp) ?_
                  refine AllReadyH.cons (o := ?_) ?_ ?_ ?_; rotate_left 1
                  · (simp only [List.getElem?_toArray, List.getElem?_cons_succ, List.getElem?_cons_zero]; rfl)
                  · intro K' hK
                    have r2 := hbr.cells4.1.2.2.1
                    go_simp
                    refine hK.out _ _ ?_ (fun hHeld => ?_)
                    · trivial
                    clear hK K'
                    try simp only [Act.put, List.setIfInBounds_toArray, List.set_cons_zero, List.set_cons_succ]
                    refine wpAnyH_ready (rs := [21]) (by kernel_rfl) (by simp) ?_
                    refine AllReadyH.cons (o := ?_) ?_ ?_ ?_; rotate_left 1
                    · (simp only [List.getElem?_toArray, List.getElem?_cons_succ, List.getElem?_cons_zero]; rfl)
                    · intro K' hK
                      go_simp
                      go_at_call 21; refine (ints_ok hr8.rd hr2r.rd (by have := hd.ok.ol; omega) (by have := hd.ok.ol; omega)).mono ?_; rintro e w9 ⟨rfl, s9⟩
                      replace hd := hd.nil s9
                      replace hRB := hRB.nil s9
                      replace hrowE := hrowE.frame s9 (by simp)
                      replace hBE := hBE.step s9 (by simp)
                      try go_wp2_with fail
                      refine hK.out _ _ ?_ (fun hHeld => ?_)
                      · trivial
                      clear hK K'
                      try simp only [Act.put, List.setIfInBounds_toArray, List.set_cons_zero, List.set_cons_succ]
                      refine wpAnyH_take (i := 22) (oi := ?_) (v := ?_) ?_ (by kernel_rfl) (by kernel_rfl) (by kernel_rfl) ?_ (Or.inl ⟨?_, ?_⟩) ?_ ?_; rotate_left 2
                      · (simp only [List.getElem?_toArray, List.getElem?_cons_succ, List.getElem?_cons_zero]; rfl)
                      · exact fun _ _ _ h => h
                      · rfl
                      · (intro w hSw; first | (go_simp; done) | (go_simp; with_reducible rfl))
                      · trivial
                      try simp only [Act.put, List.setIfInBounds_toArray, List.set_cons_zero, List.set_cons_succ]
                      refine wpAnyH_take (i := 23) (oi := ?_) (v := ?_) ?_ (by kernel_rfl) (by kernel_rfl) (by kernel_rfl) ?_ (Or.inl ⟨?_, ?_⟩) ?_ ?_; rotate_left 2
                      · (simp only [List.getElem?_toArray, List.getElem?_cons_succ, List.getElem?_cons_zero]; rfl)
                      · exact fun _ _ _ h => h
                      · rfl
                      · (intro w hSw; first | (go_simp; done) | (go_simp; with_reducible rfl))
                      · trivial
                      try simp only [Act.put, List.setIfInBounds_toArray, List.set_cons_zero, List.set_cons_succ]
                      refine wpAnyH_take (i := 24) (oi := ?_) (v := ?_) ?_ (by kernel_rfl) (by kernel_rfl) (by kernel_rfl) ?_ (Or.inl ⟨?_, ?_⟩) ?_ ?_; rotate_left 2
                      · (simp only [List.getElem?_toArray, List.getElem?_cons_succ, List.getElem?_cons_zero]; rfl)
                      · exact fun _ _ _ h => h
                      · rfl
                      · (intro w hSw; first | (go_simp; done) | (go_simp; with_reducible rfl))
                      · trivial
                      try simp only [Act.put, List.setIfInBounds_toArray, List.set_cons_zero, List.set_cons_succ]
                      refine wpAnyH_take (i := 25) (oi := ?_) (v := ?_) ?_ (by kernel_rfl) (by kernel_rfl) (by kernel_rfl) ?_ (Or.inl ⟨?_, ?_⟩) ?_ ?_; rotate_left 2
                      · (simp only [List.getElem?_toArray, List.getElem?_cons_succ, List.getElem?_cons_zero]; rfl)
                      · exact fun _ _ _ h => h
                      · rfl
                      · (intro w hSw; first | (go_simp; done) | (go_simp; with_reducible rfl))
                      · trivial
                      try simp only [Act.put, List.setIfInBounds_toArray, List.set_cons_zero, List.set_cons_succ]
                      refine wpAnyH_take (i := 27) (oi := ?_) (v := ?_) ?_ (by kernel_rfl) (by kernel_rfl) (by kernel_rfl) ?_ (Or.inl ⟨?_, ?_⟩) ?_ ?_; rotate_left 2
                      · (simp only [List.getElem?_toArray, List.getElem?_cons_succ, List.getElem?_cons_zero]; rfl)
                      · exact fun _ _ _ h => h
                      · rfl
                      · (intro w hSw; first | (go_simp; done) | (go_simp; with_reducible rfl))
                      · trivial
                      try simp only [Act.put, List.setIfInBounds_toArray, List.set_cons_zero, List.set_cons_succ]
                      refine wpAnyH_ready (rs := [26]) (by kernel_rfl) (by simp) ?_
                      refine AllReadyH.cons (o := ?_) ?_ ?_ ?_; rotate_left 1
                      · (simp only [List.getElem?_toArray, List.getElem?_cons_succ, List.getElem?_cons_zero]; rfl)
                      · intro K' hK
                        go_simp
                        go_at_call 14; refine (mark_ok hd).mono ?_; rintro e w10 ⟨rfl, s10⟩
                        replace hd := hd.nil s10
                        replace hRB := hRB.nil s10
                        replace hrowE := hrowE.frame s10 (by simp)
                        replace hBE := hBE.step s10 (by simp)
                        try go_wp2_with fail
                        refine hK.out _ _ ?_ (fun hHeld => ?_)
                        · trivial
                        clear hK K'
                        try simp only [Act.put, List.setIfInBounds_toArray, List.set_cons_zero, List.set_cons_succ]
                        refine wpAnyH_ready (rs := [28]) (by kernel_rfl) (by simp) ?_
                        refine AllReadyH.cons (o := ?_) ?_ ?_ ?_; rotate_left 1
                        · (simp only [List.getElem?_toArray, List.getElem?_cons_succ, List.getElem?_cons_zero]; rfl)
                        · intro K' hK
                          go_simp
                          go_at_call 28; refine (rmark_ok hRB).mono ?_; rintro e w11 ⟨rfl, s11⟩
                          replace hd := hd.nil s11
                          replace hRB := hRB.nil s11
                          replace hrowE := hrowE.frame s11 (by simp)
                          replace hBE := hBE.step s11 (by simp)
                          try go_wp2_with fail
                          refine hK.out _ _ ?_ (fun hHeld => ?_)
                          · trivial
                          clear hK K'
                          try simp only [Act.put, List.setIfInBounds_toArray, List.set_cons_zero, List.set_cons_succ]
                          refine wpAnyH_take (i := 29) (oi := ?_) (v := ?_) ?_ (by kernel_rfl) (by kernel_rfl) (by kernel_rfl) ?_ (Or.inl ⟨?_, ?_⟩) ?_ ?_; rotate_left 2
                          · (simp only [List.getElem?_toArray, List.getElem?_cons_succ, List.getElem?_cons_zero]; rfl)
                          · exact fun _ _ _ h => h
                          · rfl
                          · (intro w hSw; first | (go_simp; done) | (go_simp; with_reducible rfl))
                          · trivial
                          try simp only [Act.put, List.setIfInBounds_toArray, List.set_cons_zero, List.set_cons_succ]
                          refine wpAnyH_take (i := 30) (oi := ?_) (v := ?_) ?_ (by kernel_rfl) (by kernel_rfl) (by kernel_rfl) ?_ (Or.inl ⟨?_, ?_⟩) ?_ ?_; rotate_left 2
                          · (simp only [List.getElem?_toArray, List.getElem?_cons_succ, List.getElem?_cons_zero]; rfl)
                          · exact fun _ _ _ h => h
                          · rfl
                          · (intro w hSw; first | (go_simp; done) | (go_simp; with_reducible rfl))
                          · trivial
                          try simp only [Act.put, List.setIfInBounds_toArray, List.set_cons_zero, List.set_cons_succ]
                          refine wpAnyH_done (by kernel_rfl) ?_ _
                          go_wp2_with fail
                          go_meet
                          exact ⟨rfl, _, s', ⟨hd.mono (by omega), hRB⟩, hrowE, hBE⟩
                        exact AllReadyH.nil
                      exact AllReadyH.nil
                    exact AllReadyH.nil
                  exact AllReadyH.nil
                refine AllReadyH.cons (o := ?_) ?_ ?_ ?_; rotate_left 1
                · (simp only [List.getElem?_toArray, List.getElem?_cons_succ, List.getElem?_cons_zero]; rfl)
                · intro K' hK
                  have r2 := hbr.cells4.1.2.2.1
                  go_simp
                  refine hK.out _ _ ?_ (fun hHeld => ?_)
                  · trivial
                  clear hK K'
                  try simp only [Act.put, List.setIfInBounds_toArray, List.set_cons_zero, List.set_cons_succ]
                  refine wpAnyH_ready (rs := [16]) (by kernel_rfl) (by simp) ?_
                  refine AllReadyH.cons (o := ?_) ?_ ?_ ?_; rotate_left 1
                  · (simp only [List.getElem?_toArray, List.getElem?_cons_succ, List.getElem?_cons_zero]; rfl)
                  · intro K' hK
                    go_simp
                    go_at_call 22; refine (order_ok hd 43).mono ?_; rintro e w8 ⟨v8, o8, rfl, hr8, s8⟩; obtain ⟨a8, c8, rfl, -, -⟩ := hr8.slice
                    replace hd := hd.nil s8
                    replace hRB := hRB.nil s8
                    replace hbr := hbr.frame s8 (by simp)
                    replace hr2r := hr2r.frame s8 (by simp)
                    replace hrowE := hrowE.frame s8 (by simp)
                    replace hBE := hBE.step s8 (by simp)
                    try go_wp2_with fail
                    refine hK.out _ _ ?_ (fun hHeld => ?_)
                    · trivial
                    clear hK K'
                    try simp only [Act.put, List.setIfInBounds_toArray, List.set_cons_zero, List.set_cons_succ]
                    refine wpAnyH_ready (rs := [21]) (by kernel_rfl) (by simp) ?_
                    refine AllReadyH.cons (o := ?_) ?_ ?_ ?_; rotate_left 1
                    · (simp only [List.getElem?_toArray, List.getElem?_cons_succ, List.getElem?_cons_zero]; rfl)
                    · intro K' hK
                      go_simp
                      go_at_call 21; refine (ints_ok hr8.rd hr2r.rd (by have := hd.ok.ol; omega) (by have := hd.ok.ol; omega)).mono ?_; rintro e w9 ⟨rfl, s9⟩
                      replace hd := hd.nil s9
                      replace hRB := hRB.nil s9
                      replace hrowE := hrowE.frame s9 (by simp)
                      replace hBE := hBE.step s9 (by simp)
                      try go_wp2_with fail
                      refine hK.out _ _ ?_ (fun hHeld => ?_)
                      · trivial
                      clear hK K'
                      try simp only [Act.put, List.setIfInBounds_toArray, List.set_cons_zero, List.set_cons_succ]
                      refine wpAnyH_take (i := 22) (oi := ?_) (v := ?_) ?_ (by kernel_rfl) (by kernel_rfl) (by kernel_rfl) ?_ (Or.inl ⟨?_, ?_⟩) ?_ ?_; rotate_left 2
                      · (simp only [List.getElem?_toArray, List.getElem?_cons_succ, List.getElem?_cons_zero]; rfl)
                      · exact fun _ _ _ h => h
                      · rfl
                      · (intro w hSw; first | (go_simp; done) | (go_simp; with_reducible rfl))
                      · trivial
                      try simp only [Act.put, List.setIfInBounds_toArray, List.set_cons_zero, List.set_cons_succ]
                      refine wpAnyH_take (i := 23) (oi := ?_) (v := ?_) ?_ (by kernel_rfl) (by kernel_rfl) (by kernel_rfl) ?_ (Or.inl ⟨?_, ?_⟩) ?_ ?_; rotate_left 2
                      · (simp only [List.getElem?_toArray, List.getElem?_cons_succ, List.getElem?_cons_zero]; rfl)
                      · exact fun _ _ _ h => h
                      · rfl
                      · (intro w hSw; first | (go_simp; done) | (go_simp; with_reducible rfl))
                      · trivial
                      try simp only [Act.put, List.setIfInBounds_toArray, List.set_cons_zero, List.set_cons_succ]
                      refine wpAnyH_take (i := 24) (oi := ?_) (v := ?_) ?_ (by kernel_rfl) (by kernel_rfl) (by kernel_rfl) ?_ (Or.inl ⟨?_, ?_⟩) ?_ ?_; rotate_left 2
                      · (simp only [List.getElem?_toArray, List.getElem?_cons_succ, List.getElem?_cons_zero]; rfl)
                      · exact fun _ _ _ h => h
                      · rfl
                      · (intro w hSw; first | (go_simp; done) | (go_simp; with_reducible rfl))
                      · trivial
                      try simp only [Act.put, List.setIfInBounds_toArray, List.set_cons_zero, List.set_cons_succ]
                      refine wpAnyH_take (i := 25) (oi := ?_) (v := ?_) ?_ (by kernel_rfl) (by kernel_rfl) (by kernel_rfl) ?_ (Or.inl ⟨?_, ?_⟩) ?_ ?_; rotate_left 2
                      · (simp only [List.getElem?_toArray, List.getElem?_cons_succ, List.getElem?_cons_zero]; rfl)
                      · exact fun _ _ _ h => h
                      · rfl
                      · (intro w hSw; first | (go_simp; done) | (go_simp; with_reducible rfl))
                      · trivial
                      try simp only [Act.put, List.setIfInBounds_toArray, List.set_cons_zero, List.set_cons_succ]
                      refine wpAnyH_take (i := 27) (oi := ?_) (v := ?_) ?_ (by kernel_rfl) (by kernel_rfl) (by kernel_rfl) ?_ (Or.inl ⟨?_, ?_⟩) ?_ ?_; rotate_left 2
                      · (simp only [List.getElem?_toArray, List.getElem?_cons_succ, List.getElem?_cons_zero]; rfl)
                      · exact fun _ _ _ h => h
                      · rfl
                      · (intro w hSw; first | (go_simp; done) | (go_simp; with_reducible rfl))
                      · trivial
                      try simp only [Act.put, List.setIfInBounds_toArray, List.set_cons_zero, List.set_cons_succ]
                      refine wpAnyH_ready (rs := [26]) (by kernel_rfl) (by simp) ?_
                      refine AllReadyH.cons (o := ?_) ?_ ?_ ?_; rotate_left 1
                      · (simp only [List.getElem?_toArray, List.getElem?_cons_succ, List.getElem?_cons_zero]; rfl)
                      · intro K' hK
                        go_simp
                        go_at_call 14; refine (mark_ok hd).mono ?_; rintro e w10 ⟨rfl, s10⟩
                        replace hd := hd.nil s10
                        replace hRB := hRB.nil s10
                        replace hrowE := hrowE.frame s10 (by simp)
                        replace hBE := hBE.step s10 (by simp)
                        try go_wp2_with fail
                        refine hK.out _ _ ?_ (fun hHeld => ?_)
                        · trivial
                        clear hK K'
                        try simp only [Act.put, List.setIfInBounds_toArray, List.set_cons_zero, List.set_cons_succ]
                        refine wpAnyH_ready (rs := [28]) (by kernel_rfl) (by simp) ?_
                        refine AllReadyH.cons (o := ?_) ?_ ?_ ?_; rotate_left 1
                        · (simp only [List.getElem?_toArray, List.getElem?_cons_succ, List.getElem?_cons_zero]; rfl)
                        · intro K' hK
                          go_simp
                          go_at_call 28; refine (rmark_ok hRB).mono ?_; rintro e w11 ⟨rfl, s11⟩
                          replace hd := hd.nil s11
                          replace hRB := hRB.nil s11
                          replace hrowE := hrowE.frame s11 (by simp)
                          replace hBE := hBE.step s11 (by simp)
                          try go_wp2_with fail
                          refine hK.out _ _ ?_ (fun hHeld => ?_)
                          · trivial
                          clear hK K'
                          try simp only [Act.put, List.setIfInBounds_toArray, List.set_cons_zero, List.set_cons_succ]
                          refine wpAnyH_take (i := 29) (oi := ?_) (v := ?_) ?_ (by kernel_rfl) (by kernel_rfl) (by kernel_rfl) ?_ (Or.inl ⟨?_, ?_⟩) ?_ ?_; rotate_left 2
                          · (simp only [List.getElem?_toArray, List.getElem?_cons_succ, List.getElem?_cons_zero]; rfl)
                          · exact fun _ _ _ h => h
                          · rfl
                          · (intro w hSw; first | (go_simp; done) | (go_simp; with_reducible rfl))
                          · trivial
                          try simp only [Act.put, List.setIfInBounds_toArray, List.set_cons_zero, List.set_cons_succ]
                          refine wpAnyH_take (i := 30) (oi := ?_) (v := ?_) ?_ (by kernel_rfl) (by kernel_rfl) (by kernel_rfl) ?_ (Or.inl ⟨?_, ?_⟩) ?_ ?_; rotate_left 2
                          · (simp only [List.getElem?_toArray, List.getElem?_cons_succ, List.getElem?_cons_zero]; rfl)
                          · exact fun _ _ _ h => h
                          · rfl
                          · (intro w hSw; first | (go_simp; done) | (go_simp; with_reducible rfl))
                          · trivial
                          try simp only [Act.put, List.setIfInBounds_toArray, List.set_cons_zero, List.set_cons_succ]
                          refine wpAnyH_done (by kernel_rfl) ?_ _
                          go_wp2_with fail
                          go_meet
                          exact ⟨rfl, _, s', ⟨hd.mono (by omega), hRB⟩, hrowE, hBE⟩
                        exact AllReadyH.nil
                      exact AllReadyH.nil
                    exact AllReadyH.nil
                  exact AllReadyH.nil
                exact AllReadyH.nil
              exact AllReadyH.nil
            exact AllReadyH.nil
          exact AllReadyH.nil
        exact AllReadyH.nil
      case rest =>
        obtain ⟨rfl, o9, s', hb9, hrow9, hB9⟩ := hcut
        clear hdoes0 hboth5 hrow5 hB5 hrdc hbx y0 y1 y2 y3 y4 y5
        go_wp2_with fail
        go_roundg (K - (q + 1))
        case measure => rw [HQ.out]; omega
        case rel => exact ⟨q + 1, s', o9, rfl, by omega, by go_num, hb9, hrow9, hB9⟩
    · have hqK : K = q := by omega
      subst hqK
      clear hlt hrow5
      go_wp2_with fail
      go_loopg [8, 53] 10 (fun g a8 a wr => ∃ (p : Nat) (o' : Owner), g = 10 - p ∧ p ≤ 10 ∧ a = .int .i64 p ∧ Both wr o' b c s (2 + 2000 * 80) ∧ Base w wr o')
      case atStart => exact ⟨0, o5, rfl, Nat.zero_le _, rfl, ⟨hboth5.1.mono (by omega), hboth5.2⟩, hB5⟩
      case round =>
        obtain ⟨p, o7, hg, hp, rfl, hboth7, hB7⟩ := hrel
        have HQ7 := Lib.hid hg
        clear hg hboth5 hB5
        by_cases hlt : p < 10
        · have hpi : (p : Int) < 10 := by omega
          obtain ⟨R, hR⟩ : ∃ R, namesD s p = R := ⟨_, rfl⟩
          have hRl : R.length ≤ 1000000 := by
            have : R.length ≤ s.ws.length := by rw [← hR]; exact dnamesD_len _ _
            have := hboth7.1.ok.wl
            omega
          have hn1 := names_ok hboth7.1 p ⟨by omega, by omega⟩ 40 (by decide) (by decide) (by decide) (by decide)
          rw [hR] at hn1
          go_wp2_with fail
          refine hn1.mono ?_
          rintro e w8 ⟨v8, o8, rfl, hr8, s8⟩
          replace hboth7 := hboth7.frame s8 (by decide)
          replace hB7 := hB7.step s8 (by decide)
          have hn2 := rnames_ok hboth7.2 p 41 (by decide) (by decide) (by decide)
          rw [hR] at hn2
          clear hn1 hR
          go_wp2_with fail
          refine hn2.mono ?_
          rintro e w9 ⟨v9, o9, rfl, hr9, s9⟩
          replace hboth7 := hboth7.frame s9 (by decide)
          replace hB7 := hB7.step s9 (by decide)
          replace hr8 := hr8.frame s9 (by decide)
          have htx := texts_ok hr8.rd hr9.rd hRl hRl
          rw [decide_eq_true rfl] at htx
          clear hn2
          go_wp2_with fail
          refine htx.mono ?_
          rintro e w10 ⟨rfl, s10⟩
          go_wp2_with fail
          go_roundg (10 - (p + 1))
          case measure => rw [HQ7.out]; omega
          case rel => exact ⟨p + 1, o9, rfl, by omega, by go_num, hboth7.frame s10 (by simp), hB7.step s10 (by simp)⟩
        · have hp10 : p = 10 := by omega
          subst hp10
          go_wp2_with fail
          go_ret
          exact ⟨rfl, hB7.below⟩
end Go.Proofs.Ytaledmoakhlmgaa
