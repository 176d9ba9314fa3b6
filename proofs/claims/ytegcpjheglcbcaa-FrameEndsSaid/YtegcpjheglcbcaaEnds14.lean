/- FrameEnds: the walk (printed by gen_ends14.py). -/
import Derived.Test.YtegcpjheglcbcaaFrmN
import Derived.Test.YtegcpjheglcbcaaLoops
namespace Go.Proofs.Ytegcpjheglcbcaa
open Go Go.RowKit Go.Shelf
set_option linter.unusedSimpArgs false
set_option linter.unusedVariables false

theorem Row.elem {w : World} {o : Owner} {j : Nat} {v : Value} {l : List Int} (h : Row w o j 22 1 v l.length (cellsOf l)) {p : Nat} (hp : p < l.length) :
    ∃ g cap, v = .slice (some ⟨g, 0, none⟩) l.length cap ∧ w.cell? ⟨g, p, none⟩ = some (.int .i64 l[p]) ∧ w.frozen? ⟨g, p, none⟩ = false ∧ o g = j ∧ ∀ u, Row (w.setCell ⟨g, p, none⟩ (.int .i64 u)) o j 22 1 v l.length (cellsOf (l.set p u)) := by
  obtain ⟨g, cap, rfl, hx⟩ := h.rowx (by omega)
  have hle := hx.le
  refine ⟨g, cap, rfl, hx.cell (by simp [hp]), (hx.spare (by omega)).2, hx.own, fun u => ?_⟩
  have := (hx.setElem p (.int .i64 u)).row
  rw [show (cellsOf l).set p (.int .i64 u) = cellsOf (l.set p u) by simp [cellsOf, List.map_set]] at this
  exact this

/-- Frames that are all alike. -/
def Rep (k : Int) (l : List Int) (fl : List (Fr × List Int)) : Prop := ∀ q ∈ fl, q.1.k = k ∧ q.1.a = 0 ∧ q.1.b = 0 ∧ q.1.x = 0 ∧ q.1.y = 0 ∧ q.2 = l

set_option maxRecDepth 100000 in
set_option maxHeartbeats 16000000 in
theorem ends_walk {w : World} (a0 a1 : Int) (ha0 : 0 ≤ a0 ∧ a0 ≤ 255) (ha1 : 0 ≤ a1 ∧ a1 ≤ 255) {v2 : Value} {z : List Int} (h2 : Rd w (fun _ => 0) 0 1 v2 z.length (ints z)) :
    Calls Try.prog 8 #[.int .u8 a0, .int .u8 a1, v2] w fun e w' => e = .returned (.bool true) ∧ Below w.heap.size w w' := by
  have hB := Base.start w
  obtain ⟨a2, c2, rfl, p1, p2, _, _⟩ := id h2
  unfold maxLen at p2
  obtain ⟨l, hxz, hN, hN1, hN2, hN3, h2⟩ := h2.few 20 (M := 20) rfl
  clear hxz
  obtain ⟨k, hk⟩ : ∃ k, a0.tmod 7 = k := ⟨_, rfl⟩
  obtain ⟨kk, hkk⟩ : ∃ kk, a1.tmod 7 = kk := ⟨_, rfl⟩
  have k0 : 0 ≤ k := by rw [← hk, Int.tmod_eq_emod_of_nonneg ha0.1]; omega
  have k6 : k ≤ 6 := by rw [← hk, Int.tmod_eq_emod_of_nonneg ha0.1]; omega
  have kk0 : 0 ≤ kk := by rw [← hkk, Int.tmod_eq_emod_of_nonneg ha1.1]; omega
  have kk6 : kk ≤ 6 := by rw [← hkk, Int.tmod_eq_emod_of_nonneg ha1.1]; omega
  clear ha0 ha1
  go_enter Try.func8, Try.ntmps8
  go_wp2_with fail
  refine (shown_ok w (fun _ => 0)).mono ?_
  rintro e w1 ⟨rfl, s1⟩
  replace hB := hB.step s1 (by decide)
  replace h2 := h2.frame s1 (by decide)
  clear s1
  go_wp2_with fail
  refine (new_ok w1 (fun _ => 0) 10).mono ?_
  rintro e w2 ⟨b, o2, rfl, hs, s1⟩
  replace hB := hB.step s1 (by decide)
  replace h2 := h2.frame s1 (by decide)
  have hls := LS.ofBare hs
  have eN : Step [] w2 o2 (w2.alloc (.cells #[] 22)) o2 := (Step.refl _ _ _).alloc _
  have h2' := h2.frame eN (by decide)
  clear s1 hs
  go_wp2_with (at_builtin; refine wpList_app0 rfl (.tmp 39) (.tmp 44) 28 rfl o2 20 Try.underlying28 info22 rfl rfl rfl h2' (by omega) (by omega) ?_)
  intro vx w3 o3 hx st
  replace st := eN.trans st
  replace hB := hB.step st (by decide)
  replace hls := hls.frame st (by decide) (by decide) (by decide)
  have eM : Step [] w3 o3 (w3.alloc (.cells #[] 22)) o3 := (Step.refl _ _ _).alloc _
  have hx' := (hx.frame eM (by decide)).rd
  clear st eN h2 h2'
  obtain ⟨aox, cx, rfl, _, _⟩ := hx.slice
  go_wp2_with (at_builtin; refine wpList_app0 rfl (.tmp 46) (.tmp 47) 28 rfl o3 21 Try.underlying28 info22 rfl rfl rfl hx' (by omega) (by omega) ?_)
  intro vy w4 o4 hy st
  replace st := eM.trans st
  replace hB := hB.step st (by decide)
  replace hls := hls.frame st (by decide) (by decide) (by decide)
  replace hx := hx.frame st (by decide)
  clear st eM hx'
  obtain ⟨aoy, cy, rfl, _, _⟩ := hy.slice
  go_wp2_with fail
  go_loopg [49] 128 (fun g v wr => ∃ (p : Nat) (o' : Owner) (fl : List (Fr × List Int)), g = 128 - p ∧ p ≤ 128 ∧ v = .int .i64 p ∧ fl.length = p ∧ Rep (k + 1) l fl ∧ LS wr o' 10 b fl ∧ Step [10, 11] w4 o4 wr o')
  case atStart => exact ⟨0, o4, [], rfl, by omega, rfl, rfl, by simp [Rep], hls, Step.refl _ _ _⟩
  case round =>
    obtain ⟨p, o5, fl, hg, hp1, rfl, hfl, hrep, hls5, s5⟩ := hrel
    have HG := Lib.hid hg
    have HFL := Lib.hid hfl
    have HREP := Lib.hid hrep
    clear hg hls hfl hrep
    by_cases hlt : p < 128
    · have hpi : (p : Int) < 128 := by omega
      have hp := push_l hls5 (by rw [HFL.out]; exact hlt) (hx.frame s5 (by decide)).rd (by omega) (k + 1) 0 0 0 0
      clear hls5
      go_wp2_with fail
      refine hp.mono ?_
      rintro e w6 ⟨o6, lv6, rfl, hls6, s6⟩
      clear hp
      go_wp2_with fail
      go_roundg (128 - (p + 1))
      case measure => rw [HG.out]; omega
      case rel => exact ⟨p + 1, o6, _, rfl, by omega, by go_num, by rw [List.length_append, HFL.out]; rfl, fun q hq => (List.mem_append.1 hq).elim (HREP.out q) (fun e => by rw [List.mem_singleton] at e; subst e; exact ⟨rfl, rfl, rfl, rfl, rfl, rfl⟩), hls6, s5.trans s6⟩
    · obtain rfl : p = 128 := by omega
      replace hB := hB.step s5 (by decide)
      replace hx := hx.frame s5 (by decide)
      replace hy := hy.frame s5 (by decide)
      obtain ⟨w5, rfl⟩ : ∃ w5, w5 = wr := ⟨_, rfl⟩
      clear s5 HG hlt
      go_wp2_with fail
      go_loopg [60] l.length (fun g v wr2 => ∃ (p : Nat) (l' : List Int), g = l.length - p ∧ p ≤ l.length ∧ v = .int .i64 p ∧ l'.length = l.length ∧ Row wr2 o5 20 22 1 (.slice aox l.length cx) l.length (cellsOf l') ∧ Step [20] w5 o5 wr2 o5)
      case atStart => exact ⟨0, l, rfl, Nat.zero_le _, rfl, rfl, hx, Step.refl _ _ _⟩
      case round =>
        obtain ⟨p, l', hg, hp1, rfl, hll, hx6, s6⟩ := hrel
        have HG := Lib.hid hg
        have HLL := Lib.hid hll
        clear hg
        by_cases hlt : p < l.length
        · rw [← hll] at hx6
          obtain ⟨gx, cgx, hv, hc, hf, hog, hset⟩ := hx6.elem (p := p) (by omega)
          rw [hll] at hv
          simp only [Value.slice.injEq, true_and] at hv
          obtain ⟨rfl, rfl⟩ := hv
          have hpi : (p : Int) < l.length := by omega
          generalize l'[p] = u at hc
          have hset1 := hset (wrap64 (u + 1))
          rw [hll] at hset1
          have HOG := Lib.hid hog
          clear hset hll hog hx6 hx
          go_wp2_with fail
          go_roundg (l.length - (p + 1))
          case measure => rw [HG.out]; omega
          case rel => exact ⟨p + 1, _, rfl, by omega, by go_num, by rw [List.length_set]; exact HLL.out, hset1, s6.setCell (fun h => by rw [HOG.out]; simp) _⟩
        · have hpi : ¬ (p : Int) < l.length := by omega
          replace hB := hB.step s6 (by decide)
          replace hy := hy.frame s6 (by decide)
          have hls6 := hls5.frame s6 (by decide) (by decide) (by decide)
          have hpu := push_bare hls6.1 (k + 1) 0 0 0 0
          have hl3 : ¬ (fl.map Prod.fst).length < 128 := by rw [List.length_map, HFL.out]; omega
          rw [pushE, pushF, if_neg hl3, if_neg hl3] at hpu
          clear hl3 hls5 hx6 hx s6 hll hlt HLL HG
          go_wp2_with fail
          refine hpu.mono ?_
          rintro e w7 ⟨o7, rfl, hfs7, s7⟩
          replace hB := hB.step s7 (by decide)
          replace hy := hy.frame s7 (by decide)
          have hls7 : LS w7 o7 10 b fl := ⟨hfs7, fun q hq => ⟨(hls6.2 q hq).1, (hls6.2 q hq).2.frame s7 (by decide)⟩⟩
          clear hpu hls6 hfs7 s7
          obtain ⟨fl0, ⟨⟨k1, e1, e2, e3, e4, lv7⟩, l7⟩, rfl⟩ : ∃ fl0 ft, fl = fl0 ++ [ft] := by
            rcases List.eq_nil_or_concat fl with h | ⟨fl0, ft, h⟩
            · have := HFL.out; rw [h] at this; simp at this
            · exact ⟨fl0, ft, by rw [h, List.concat_eq_append]⟩
          obtain ⟨h1, h2, h3, h4, h5, h6⟩ := HREP.out (⟨k1, e1, e2, e3, e4, lv7⟩, l7) (by simp)
          dsimp only at h1 h2 h3 h4 h5 h6
          subst h1 h2 h3 h4 h5 h6
          have htop := top_l hls7 22
          go_wp2_with fail
          refine htop.mono ?_
          rintro e w8 ⟨o8, lv8, rfl, ht, s8⟩
          obtain ⟨aot, ct, rfl, _, _⟩ := ht.slice
          obtain ⟨w9, hw9⟩ : ∃ w9, w9 = w8.alloc (.cells #[.int .i64 (k + 1), .int .i64 0, .int .i64 0, .int .i64 0, .int .i64 0, .slice aot l7.length ct] 30) := ⟨_, rfl⟩
          obtain ⟨o9, ho9⟩ : ∃ o9, o9 = o8.set w8.heap.size 23 := ⟨_, rfl⟩
          have s9 : Step [] w8 o8 w9 o9 := by rw [hw9, ho9]; exact ((Step.refl _ _ _).alloc _).give (Nat.le_refl _) _
          have hX : Blk w9 o9 23 w8.heap.size 30 #[.int .i64 (k + 1), .int .i64 0, .int .i64 0, .int .i64 0, .int .i64 0, .slice aot l7.length ct] := by rw [hw9, ho9]; exact Blk.new w8 o8 23 30 _
          replace s9 := s8.trans s9
          replace hB := hB.step s9 (by decide)
          replace hy := hy.frame s9 (by decide)
          replace ht := ht.frame (by rw [hw9, ho9]; exact ((Step.refl [] _ _).alloc _).give (Nat.le_refl _) _ : Step [] w8 o8 w9 o9) (by decide)
          replace hls7 := hls7.frame s9 (by decide) (by decide) (by decide)
          obtain ⟨⟨x0, x1, x2, x3, x4, x5⟩, _⟩ := FB.facts (k := k + 1) (a := 0) (c := 0) (x := 0) (y := 0) (lv := .slice aot l7.length ct) hX.heap
          have HW9 := Lib.hid hw9
          have hX9 := hX
          rw [hw9] at x0 x1 x2 x3 x4 x5
          clear htop s8 s9 ho9 hw9
          go_wp2_with fail
          rw [← HW9.out]
          go_loopg [83] l7.length (fun g v wr3 => ∃ (p : Nat) (l' : List Int), g = l7.length - p ∧ p ≤ l7.length ∧ v = .int .i64 p ∧ l'.length = l7.length ∧ Row wr3 o9 22 22 1 (.slice aot l7.length ct) l7.length (cellsOf l') ∧ Step [22] w9 o9 wr3 o9)
          case atStart => exact ⟨0, l7, rfl, Nat.zero_le _, rfl, rfl, ht, Step.refl _ _ _⟩
          case round =>
            obtain ⟨p, l', hg, hp1, rfl, hll, ht10, s10⟩ := hrel
            have HG := Lib.hid hg
            have HLL := Lib.hid hll
            have hX10 := hX9.frame s10 (by decide)
            obtain ⟨⟨y0, y1, y2, y3, y4, y5⟩, _⟩ := FB.facts (k := k + 1) (a := 0) (c := 0) (x := 0) (y := 0) (lv := .slice aot l7.length ct) hX10.heap
            clear hg x0 x1 x2 x3 x4 x5 y0 y1 y2 y3 y4
            by_cases hlt : p < l7.length
            · rw [← hll] at ht10
              obtain ⟨gx, cgx, hv, hc, hf, hog, hset⟩ := ht10.elem (p := p) (by omega)
              rw [hll] at hv
              simp only [Value.slice.injEq, true_and] at hv
              obtain ⟨rfl, rfl⟩ := hv
              have hpi : (p : Int) < l7.length := by omega
              generalize l'[p] = u at hc
              have hset1 := hset (wrap64 (u + 1))
              rw [hll] at hset1
              have HOG := Lib.hid hog
              clear hset hll hog ht10 ht
              go_wp2_with fail
              go_roundg (l7.length - (p + 1))
              case measure => rw [HG.out]; omega
              case rel => exact ⟨p + 1, _, rfl, by omega, by go_num, by rw [List.length_set]; exact HLL.out, hset1, s10.setCell (fun h => by rw [HOG.out]; simp) _⟩
            · have hpi : ¬ (p : Int) < l7.length := by omega
              replace hB := hB.step s10 (by decide)
              replace hy := hy.frame s10 (by decide)
              replace hls7 := hls7.frame s10 (by decide) (by decide) (by decide)
              have hflen : fl0.length + 1 = 128 := by have := HFL.out; simpa using this
              have HFLN := Lib.hid hflen
              obtain ⟨wA, rfl⟩ : ∃ wA, wA = wr := ⟨_, rfl⟩
              clear s10 ht10 ht hll hlt HLL HG y5 hX10 hX9 hX hflen
              by_cases hko : kk = k
              · replace hko := hko.symm
                subst hko
                obtain ⟨oA, rfl⟩ : ∃ oA, oA = o9 := ⟨_, rfl⟩
                have hpo := pop_l hls7 24 (by decide)
                clear hls7
                go_wp2_with fail
                refine hpo.mono ?_
                rintro e wD ⟨oD, lvD, rfl, hzD, hlsD, sD⟩
                obtain ⟨aoD, cD, rfl, _, _⟩ := hzD.slice
                obtain ⟨wE, hwE⟩ : ∃ wE, wE = wD.alloc (.cells #[.int .i64 (k + 1), .int .i64 0, .int .i64 0, .int .i64 0, .int .i64 0, .slice aoD l7.length cD] 30) := ⟨_, rfl⟩
                obtain ⟨oE, hoE⟩ : ∃ oE, oE = oD.set wD.heap.size 25 := ⟨_, rfl⟩
                have sE : Step [] wD oD wE oE := by rw [hwE, hoE]; exact ((Step.refl _ _ _).alloc _).give (Nat.le_refl _) _
                have hX : Blk wE oE 25 wD.heap.size 30 #[.int .i64 (k + 1), .int .i64 0, .int .i64 0, .int .i64 0, .int .i64 0, .slice aoD l7.length cD] := by rw [hwE, hoE]; exact Blk.new wD oD 25 30 _
                replace hB := (hB.step sD (by decide)).step sE (by decide)
                replace hy := (hy.frame sD (by decide)).frame sE (by decide)
                replace hzD := hzD.frame sE (by decide)
                have hsE := hlsD.1.frame sE (by decide) (by decide)
                have hcut := cut_ok hsE (-1)
                rw [show cutF (fl0.map Prod.fst) (-1) = [] by simp [cutF]] at hcut
                rw [hwE] at hcut
                have HWE := Lib.hid hwE
                clear hpo sD sE hwE hoE hlsD hsE
                go_wp2_with fail
                refine hcut.mono ?_
                rintro e wF ⟨rfl, hsF, sF⟩
                rw [← HWE.out] at sF
                replace hB := hB.step sF (by decide)
                replace hy := hy.frame sF (by decide)
                replace hzD := hzD.frame sF (by decide)
                replace hX := hX.frame sF (by decide)
                clear hcut sF HWE
                have hmi2 := pop_miss hsF (k + 1) (by simp)
                go_wp2_with fail
                refine hmi2.mono ?_
                rintro e wG ⟨rfl, sG⟩
                have sG2 : Step [] wG oE (wG.alloc (.cells #[.int .i64 0, .int .i64 0, .int .i64 0, .int .i64 0, .int .i64 0, .slice none 0 0] 30)) oE := (Step.refl _ _ _).alloc _
                replace sG2 := sG.trans sG2
                replace hB := hB.step sG2 (by decide)
                replace hy := hy.frame sG2 (by decide)
                replace hzD := hzD.frame sG2 (by decide)
                replace hX := hX.frame sG2 (by decide)
                replace hsF := hsF.frame sG2 (by decide) (by decide)
                clear hmi2 sG sG2
                have hst := step_miss hsF (by simp) 1
                go_wp2_with fail
                refine hst.mono ?_
                rintro e wH ⟨rfl, sH⟩
                replace hB := hB.step sH (by decide)
                replace hy := hy.frame sH (by decide)
                replace hzD := hzD.frame sH (by decide)
                replace hX := hX.frame sH (by decide)
                replace hsF := hsF.frame sH (by decide) (by decide)
                clear hst sH
                have hix := index_out hsF 0 (.inr rfl)
                go_wp2_with fail
                refine hix.mono ?_
                rintro e wI ⟨rfl, sI⟩
                replace hB := hB.step sI (by decide)
                replace hy := hy.frame sI (by decide)
                replace hzD := hzD.frame sI (by decide)
                replace hX := hX.frame sI (by decide)
                replace hsF := hsF.frame sI (by decide) (by decide)
                obtain ⟨⟨x0, x1, x2, x3, x4, x5⟩, _⟩ := FB.facts (k := k + 1) (a := 0) (c := 0) (x := 0) (y := 0) (lv := .slice aoD l7.length cD) hX.heap
                have hone := one_l hzD.rd hy.rd (by omega) oE (k + 1) 0 0 0 0
                clear hix sI
                go_wp2_with fail
                refine hone.mono ?_
                rintro e wJ ⟨rfl, sJ⟩
                replace hB := hB.step sJ (by decide)
                replace hsF := hsF.frame sJ (by decide) (by decide)
                have hd2 := depth_ok hsF
                clear hone sJ x0 x1 x2 x3 x4 x5 hX
                go_wp2_with fail
                refine hd2.mono ?_
                rintro e wK ⟨rfl, rfl⟩
                go_wp2_with fail
                go_ret
                exact ⟨rfl, hB.below⟩
              · have hk1 : (kk + 1 == k + 1) = false := by rw [beq_eq_false_iff_ne]; omega
                have hmis := pop_miss hls7.1 (kk + 1) (fun f hf => by
                  rw [List.map_append, List.map_cons, List.map_nil, List.getLast?_append] at hf
                  simp at hf
                  subst hf
                  show ¬ k + 1 = kk + 1
                  omega)
                have HKO := Lib.hid hko
                clear hko
                go_wp2_with fail
                refine hmis.mono ?_
                rintro e wB ⟨rfl, sB⟩
                have sB2 : Step [] wB o9 (wB.alloc (.cells #[.int .i64 0, .int .i64 0, .int .i64 0, .int .i64 0, .int .i64 0, .slice none 0 0] 30)) o9 := (Step.refl _ _ _).alloc _
                replace sB2 := sB.trans sB2
                replace hB := hB.step sB2 (by decide)
                replace hy := hy.frame sB2 (by decide)
                replace hls7 := hls7.frame sB2 (by decide) (by decide) (by decide)
                have hd := depth_ok hls7.1
                have hdl : ((((fl0 ++ [((⟨k + 1, 0, 0, 0, 0, lv7⟩ : Fr), l7)]).map Prod.fst).length : Nat) : Int) = 128 := by have := HFL.out; rw [List.length_map, this]; rfl
                rw [hdl] at hd
                clear hdl sB sB2 hmis
                go_wp2_with fail
                refine hd.mono ?_
                rintro e wC ⟨rfl, rfl⟩
                obtain ⟨oA, rfl⟩ : ∃ oA, oA = o9 := ⟨_, rfl⟩
                clear hd
                have hpo := pop_l hls7 24 (by decide)
                clear hls7
                go_wp2_with fail
                refine hpo.mono ?_
                rintro e wD ⟨oD, lvD, rfl, hzD, hlsD, sD⟩
                obtain ⟨aoD, cD, rfl, _, _⟩ := hzD.slice
                obtain ⟨wE, hwE⟩ : ∃ wE, wE = wD.alloc (.cells #[.int .i64 (k + 1), .int .i64 0, .int .i64 0, .int .i64 0, .int .i64 0, .slice aoD l7.length cD] 30) := ⟨_, rfl⟩
                obtain ⟨oE, hoE⟩ : ∃ oE, oE = oD.set wD.heap.size 25 := ⟨_, rfl⟩
                have sE : Step [] wD oD wE oE := by rw [hwE, hoE]; exact ((Step.refl _ _ _).alloc _).give (Nat.le_refl _) _
                have hX : Blk wE oE 25 wD.heap.size 30 #[.int .i64 (k + 1), .int .i64 0, .int .i64 0, .int .i64 0, .int .i64 0, .slice aoD l7.length cD] := by rw [hwE, hoE]; exact Blk.new wD oD 25 30 _
                replace hB := (hB.step sD (by decide)).step sE (by decide)
                replace hy := (hy.frame sD (by decide)).frame sE (by decide)
                replace hzD := hzD.frame sE (by decide)
                have hsE := hlsD.1.frame sE (by decide) (by decide)
                have hcut := cut_ok hsE (-1)
                rw [show cutF (fl0.map Prod.fst) (-1) = [] by simp [cutF]] at hcut
                rw [hwE] at hcut
                have HWE := Lib.hid hwE
                clear hpo sD sE hwE hoE hlsD hsE
                go_wp2_with fail
                refine hcut.mono ?_
                rintro e wF ⟨rfl, hsF, sF⟩
                rw [← HWE.out] at sF
                replace hB := hB.step sF (by decide)
                replace hy := hy.frame sF (by decide)
                replace hzD := hzD.frame sF (by decide)
                replace hX := hX.frame sF (by decide)
                clear hcut sF HWE
                have hmi2 := pop_miss hsF (k + 1) (by simp)
                go_wp2_with fail
                refine hmi2.mono ?_
                rintro e wG ⟨rfl, sG⟩
                have sG2 : Step [] wG oE (wG.alloc (.cells #[.int .i64 0, .int .i64 0, .int .i64 0, .int .i64 0, .int .i64 0, .slice none 0 0] 30)) oE := (Step.refl _ _ _).alloc _
                replace sG2 := sG.trans sG2
                replace hB := hB.step sG2 (by decide)
                replace hy := hy.frame sG2 (by decide)
                replace hzD := hzD.frame sG2 (by decide)
                replace hX := hX.frame sG2 (by decide)
                replace hsF := hsF.frame sG2 (by decide) (by decide)
                clear hmi2 sG sG2
                have hst := step_miss hsF (by simp) 1
                go_wp2_with fail
                refine hst.mono ?_
                rintro e wH ⟨rfl, sH⟩
                replace hB := hB.step sH (by decide)
                replace hy := hy.frame sH (by decide)
                replace hzD := hzD.frame sH (by decide)
                replace hX := hX.frame sH (by decide)
                replace hsF := hsF.frame sH (by decide) (by decide)
                clear hst sH
                have hix := index_out hsF 0 (.inr rfl)
                go_wp2_with fail
                refine hix.mono ?_
                rintro e wI ⟨rfl, sI⟩
                replace hB := hB.step sI (by decide)
                replace hy := hy.frame sI (by decide)
                replace hzD := hzD.frame sI (by decide)
                replace hX := hX.frame sI (by decide)
                replace hsF := hsF.frame sI (by decide) (by decide)
                obtain ⟨⟨x0, x1, x2, x3, x4, x5⟩, _⟩ := FB.facts (k := k + 1) (a := 0) (c := 0) (x := 0) (y := 0) (lv := .slice aoD l7.length cD) hX.heap
                have hone := one_l hzD.rd hy.rd (by omega) oE (k + 1) 0 0 0 0
                clear hix sI
                go_wp2_with fail
                refine hone.mono ?_
                rintro e wJ ⟨rfl, sJ⟩
                replace hB := hB.step sJ (by decide)
                replace hsF := hsF.frame sJ (by decide) (by decide)
                have hd2 := depth_ok hsF
                clear hone sJ x0 x1 x2 x3 x4 x5 hX
                go_wp2_with fail
                refine hd2.mono ?_
                rintro e wK ⟨rfl, rfl⟩
                go_wp2_with fail
                go_ret
                exact ⟨rfl, hB.below⟩
end Go.Proofs.Ytegcpjheglcbcaa
