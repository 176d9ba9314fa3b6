/- DictBack: the walk. -/
import Derived.Test.YtaledmoakhlmgaaHidesW
import Derived.Test.YtaledmoakhlmgaaOrdersL
import Derived.Test.YtaledmoakhlmgaaBackL
import Derived.Deep.CutRange
import Derived.Deep.RegionHeld3
namespace Go.Proofs.Ytaledmoakhlmgaa
open Go Go.RowKit
set_option linter.unusedSimpArgs false
set_option linter.unusedVariables false

/-- What stands behind the great test. -/
structure CutB (w : World) (b bw zM N0 : Nat) (ws : List Wd) (c : Value) (wx : World) : Prop where
  val : c = .bool false
  ex : ∃ o', DB wx o' 10 b (sH ws) 3000 ∧ DB wx o' 30 bw (sH ws) 30 ∧ Blk wx o' 24 zM 31 #[.int .i64 N0, .int .i64 1] ∧ Base w wx o'

theorem take_min {l : List Int} {P : Nat} (h : P = min l.length 7) : l.take P = l.take 7 := by
  subst h
  rcases Nat.le_total l.length 7 with h | h
  · rw [Nat.min_eq_left h, List.take_length, List.take_of_length_le h]
  · rw [Nat.min_eq_right h]

set_option maxRecDepth 100000 in
set_option maxHeartbeats 16000000 in
theorem back_walk {w : World} {v0 v1 : Value} {z0 z1 : List ByteArray} {y : Int} (h0 : Rd w (fun _ => 0) 0 1 v0 z0.length (strs z0)) (h1 : Rd w (fun _ => 0) 0 1 v1 z1.length (strs z1)) (hy : 0 ≤ y ∧ y ≤ 255) :
    Calls Try.prog 7 #[v0, v1, .int .u8 y] w fun e w' => e = .returned (.bool true) ∧ Below w.heap.size w w' := by
  obtain ⟨ao, ca, rfl, g1, g2, g3, g4⟩ := h0
  obtain ⟨bo, cb, rfl, k1, k2, k3, k4⟩ := h1
  obtain ⟨n, hn⟩ : ∃ n, z0.length = n := ⟨_, rfl⟩
  obtain ⟨m, hm⟩ : ∃ m, z1.length = m := ⟨_, rfl⟩
  rw [hn] at g1 g4
  rw [hm] at k1 k4
  rw [hn, hm]
  have HN := Lib.hid hn
  have HM := Lib.hid hm
  have HG := Lib.hid g4
  have HK := Lib.hid k4
  unfold maxLen at g2 k2
  clear g3 g4 k3 k4 hn hm
  go_enter Try.func7, Try.ntmps7
  go_wp2_with fail
  refine (shown_ok w (fun _ => 0)).mono ?_
  rintro e w1 ⟨rfl, s1⟩
  go_wp2_with fail
  refine (new_ok w1 (fun _ => 0) 10).mono ?_
  rintro e w2 ⟨b, o2, rfl, h2, s2⟩
  have hB := ((Base.start w).step s1 (by decide)).step s2 (by decide)
  clear s1 s2
  go_wp2_with fail
  refine (new_ok w2 o2 30).mono ?_
  rintro e w3 ⟨bw, o3, rfl, h3, s3⟩
  replace h2 := h2.nil s3
  replace hB := hB.step s3 (by decide)
  clear s3
  obtain ⟨L, hL⟩ : ∃ L : Nat, min (n : Int) 20 = (L : Int) := ⟨min n 20, by omega⟩
  have hLn : L ≤ n := by omega
  have hL20 : L ≤ 20 := by omega
  have hLc : (L : Int) ≤ ca := by omega
  have hL0 : (0 : Int) ≤ L := by omega
  go_wp2_with fail
  go_loopg [10, 11, 40] L (fun g a10 a11 a wy => ∃ (q : Nat) (ws : List Wd) (o' : Owner), g = L - q ∧ q ≤ L ∧ a = .int .i64 q ∧ Hid (ws.length ≤ q) ∧ DB wy o' 10 b (sH ws) (2 + q) ∧ DB wy o' 30 bw (sH ws) (2 + q) ∧ Base w wy o')
  case atStart => exact ⟨0, [], o3, rfl, Nat.zero_le _, rfl, Lib.hid (Nat.le_refl _), h2, h3, hB⟩
  case round =>
    obtain ⟨q, ws, o3, hg, hq, rfl, HWL, hdb, hdw, hB3⟩ := hrel
    have HQ := Lib.hid hg
    clear hg h2 h3 hB
    by_cases hlt : q < L
    · have hqi : (q : Int) < L := by omega
      obtain ⟨s, hs⟩ : ∃ s, z0[q]? = some s := ⟨_, List.getElem?_eq_getElem (by rw [HN.out]; omega)⟩
      obtain ⟨b1, off1, rfl, hb1, ho1, hc1⟩ := HG.out (by omega)
      have e1 := (World.cell?_of_block (a := ⟨b1, off1 + q, none⟩) (hB3.below.block b1 hb1)).trans (hc1 q (.string s) (by rw [List.getElem?_map, hs]; rfl))
      obtain ⟨t, ht⟩ : ∃ t, s.extract 0 (min (s.size : Int) 40).toNat = t := ⟨_, rfl⟩
      have ht40 : t.size ≤ 40 := by rw [← ht, ByteArray.size_extract]; omega
      have hm1 : (0 : Int) ≤ min (s.size : Int) 40 := by omega
      have hm2 : min (s.size : Int) 40 ≤ s.size := by omega
      have hadd := add_ok hdb (by omega) t (by omega) q
      obtain ⟨ws', hws, hwl⟩ := sH_add ws t q
      have HWS := Lib.hid hws
      rw [hws] at hadd
      obtain ⟨E, hE⟩ : ∃ E, addE (sH ws) t = E := ⟨_, rfl⟩
      have HE := Lib.hid hE
      rw [hE] at hadd
      clear hc1 hs hdb hws hE
      go_wp2_with fail
      refine hadd.mono ?_
      rintro e w4 ⟨rfl, o4, hdb, s4⟩
      have hadd2 := add_ok (hdw.frame s4 (by decide) (by decide) (by decide) (by decide)) (by omega) t (by omega) q
      rw [HWS.out, HE.out] at hadd2
      clear hadd hdw
      go_wp2_with fail
      refine hadd2.mono ?_
      rintro e w5 ⟨rfl, o5, hdw, s5⟩
      go_wp2_with fail
      go_roundg (L - (q + 1))
      case measure => rw [HQ.out]; omega
      case rel => exact ⟨q + 1, ws', o5, rfl, by omega, by go_num, Lib.hid (by have := HWL.out; omega), (hdb.frame s5 (by decide) (by decide) (by decide) (by decide)).mono (by omega), hdw.mono (by omega), (hB3.step s4 (by decide)).step s5 (by decide)⟩
    · obtain rfl : L = q := by omega
      clear hlt
      have hwl := HWL.out
      obtain ⟨N0, hN0⟩ : ∃ N0, ws.length = N0 := ⟨_, rfl⟩
      rw [hN0] at hwl
      have HN0 := Lib.hid hN0
      have hli : ∀ x ∈ ws, x.li ≤ 1 := fun x hx => (hdb.ok.w x hx).2.1
      have HLI := Lib.hid hli
      have hmk := mark_ok hdb
      rw [show (sH ws).ws.length = ws.length from rfl, show (sH ws).lists = 1 from rfl, hN0] at hmk
      clear hN0 hli
      go_wp2_with fail
      refine hmk.mono ?_
      rintro e w6 ⟨rfl, s6⟩
      have sM : Step [] w6 o3 (w6.alloc (.cells #[.int .i64 N0, .int .i64 1] 31)) (o3.set w6.heap.size 24) := ((Step.refl _ _ _).alloc _).give (Nat.le_refl _) _
      have hM := Blk.new w6 o3 24 31 #[.int .i64 N0, .int .i64 1]
      replace hdb := (hdb.nil s6).nil sM
      replace hdw := (hdw.nil s6).nil sM
      replace hB3 := (hB3.step s6 (by simp)).step sM (by simp)
      obtain ⟨zM, hzM⟩ : ∃ z, w6.heap.size = z := ⟨_, rfl⟩
      rw [hzM] at hM hdb hdw hB3
      obtain ⟨R, hR⟩ : ∃ R : Nat, y % 10 = (R : Int) := ⟨(y % 10).toNat, by omega⟩
      have hR9 : R ≤ 9 := by omega
      clear hmk s6 sM
      go_wp2_with fail
      clear hzM
      rw [hR]
      clear hR
      go_loopg [13, 14, 66] R (fun g a13 a14 a wy => ∃ (p : Nat) (s : Dst) (o' : Owner), g = R - p ∧ p ≤ R ∧ a = .int .u8 p ∧ Hid (Grown ws 0 s) ∧ DB wy o' 10 b s (30 + 2 * p) ∧ DB wy o' 30 bw (sH ws) 30 ∧ Blk wy o' 24 zM 31 #[.int .i64 N0, .int .i64 1] ∧ Base w wy o')
      case atStart => exact ⟨0, sH ws, _, rfl, Nat.zero_le _, rfl, Lib.hid (Grown.start ws), hdb.mono (by omega), hdw.mono (by omega), hM, hB3⟩
      case round =>
        obtain ⟨p, s, o7, hg, hp, rfl, HGR, hdb7, hdw7, hM7, hB7⟩ := hrel
        have HQ7 := Lib.hid hg
        clear hg hdb hdw hM hB3
        by_cases hlt : p < R
        · have hpi : (p : Int) < R := by omega
          have hls := list_ok hdb7 (by omega)
          have hl1 := hdb7.ok.l1
          have hknown := hdb7.ok.o
          have hol := hdb7.ok.ol
          by_cases h8 : s.lists < 8
          · obtain ⟨n1, n2, n3, n4⟩ := new_cur hl1 h8
            obtain ⟨n5, n6⟩ := new_order hknown hl1
            rw [n1, n2] at hls
            have HN3 := Lib.hid (And.intro n3 n4)
            have HN5 := Lib.hid (And.intro n5 n6)
            have hnew := HGR.out.new
            have HNEW := Lib.hid hnew
            obtain ⟨K, hK⟩ : ∃ K, s.lists + 1 = K := ⟨_, rfl⟩
            rw [hK] at hls HN3 HN5
            have HK1 := Lib.hid hK
            have hKi : I64 K := ⟨by omega, by omega⟩
            clear n1 n2 n3 n4 n5 n6 hnew hdb7 hK
            go_wp2_with fail
            refine hls.mono ?_
            rintro e w8 ⟨rfl, hdb8, s8⟩
            have hcu := cur_ok hdb8 K
            rw [HN3.out.1, HN3.out.2] at hcu
            replace hdw7 := hdw7.frame s8 (by decide) (by decide) (by decide) (by decide)
            replace hM7 := hM7.frame s8 (by decide)
            replace hB7 := hB7.step s8 (by decide)
            clear hls
            go_wp2_with fail
            refine hcu.mono ?_
            rintro e w9 ⟨rfl, hdb9, s9⟩
            replace hdw7 := hdw7.frame s9 (by decide) (by decide) (by decide) (by decide)
            replace hM7 := hM7.frame s9 (by decide)
            replace hB7 := hB7.step s9 (by decide)
            -- GROWN
            obtain ⟨ord, hord⟩ : ∃ ord, s.order = ord := ⟨_, rfl⟩
            obtain ⟨nn, hnn⟩ : ∃ nn, ord.length = nn := ⟨_, rfl⟩
            obtain ⟨P, hP⟩ : ∃ P : Nat, min (nn : Int) 7 = (P : Int) := ⟨min nn 7, by omega⟩
            have hP7 : P ≤ 7 := by omega
            have hPn : P ≤ nn := by omega
            have hP0 : (0 : Int) ≤ P := by omega
            have htk : ord.take P = ord.take 7 := take_min (by rw [hnn]; omega)
            have hor : ∀ (W : World) (oW : Owner) (j : Nat), Step [] w9 o7 W oW → Calls Try.prog 22 #[.pointer (some ⟨b, 0, none⟩)] W fun e w' => ∃ v o', e = .returned v ∧ Row w' o' j 3 1 v nn (ints ord) ∧ Step [] W oW w' o' := fun W oW j st => by
              have := order_ok (hdb9.nil st) j
              rw [show (⟨s.ws, K, s.order, K⟩ : Dst).order = ord from hord, hnn] at this
              exact this
            have HORD := Lib.hid hord
            have HNN := Lib.hid hnn
            have HTK := Lib.hid htk
            clear hcu hdb8 s8 s9 hord hnn htk
            go_wp2_with fail
            refine (hor _ _ 41 (Step.refl _ _ _)).mono ?_
            rintro e w10 ⟨v10, o10, rfl, hr10, s10⟩
            obtain ⟨a10, c10, rfl, hc10, hc10'⟩ := hr10.slice
            have hor2 := hor _ _ 42 s10
            go_wp2_with fail
            refine hor2.mono ?_
            rintro e w11 ⟨v11, o11, rfl, hr11, s11⟩
            obtain ⟨a11, c11, rfl, -, -⟩ := hr11.slice
            have S11 := s10.trans s11
            replace hr10 := hr10.frame s11 (by simp)
            replace hdb9 := hdb9.nil S11
            replace hdw7 := hdw7.nil S11
            replace hM7 := hM7.frame S11 (by simp)
            replace hB7 := hB7.step S11 (by simp)
            have hPc : (P : Int) ≤ c10 := by omega
            have hcut := hr10.cut (k := P) hPn
            rw [Nat.mul_one, show (ints ord).take P = ints (ord.take P) from List.map_take.symm, HTK.out] at hcut
            have hxB := fun cs => hcut.frame ((Step.refl [] w11 o11).alloc (.cells cs 3)) (by simp)
            have hbig : P + 1 ≤ 9223372036854775807 := by omega
            have hbig2 : (P + 1) * 8 ≤ 140737488355328 := by omega
            clear hr10 hr11 hcut hor hor2 s10 s11 S11
            go_wp2_with (at_builtin; refine wpList_app rfl (.tmp 85) (.tmp 87) 46 rfl Try.underlying46 infoI rfl rfl (hxB _) rfl (Rd.fresh w11 o11 1 3 _ 1 (by decide) rfl) (by simp [Value.oneCell']) hbig hbig2 ?_)
            intro vx w12 o12 hx12 s12
            have S12 := ((Step.refl [41] w11 o11).alloc (.cells #[.int .i64 K] 3)).trans s12
            have hx7 : Row w12 o12 41 3 1 vx (P + 1) (ints (ord.take 7 ++ [K])) := hx12.cast (by simp [ints])
            replace hdb9 := hdb9.frame S12 (by simp) (by simp) (by simp) (by simp)
            replace hdw7 := hdw7.frame S12 (by simp) (by simp) (by simp) (by simp)
            replace hM7 := hM7.frame S12 (by simp)
            replace hB7 := hB7.step S12 (by simp)
            obtain ⟨ax, cx, rfl, -, -⟩ := hx7.slice
            have hso := setorder_ok hdb9 hx7.rd
            rw [← HORD.out, HN5.out.1, HN5.out.2] at hso
            clear hxB hx12 hx7 s12 S12 hdb9
            go_wp2_with fail
            refine hso.mono ?_
            rintro e w13 ⟨rfl, o13, hdb13, s13⟩
            go_wp2_with fail
            go_roundg (R - (p + 1))
            case measure => rw [HQ7.out]; omega
            case rel => exact ⟨p + 1, newS s, o13, rfl, by omega, by go_num, HNEW, hdb13.mono (by omega), hdw7.frame s13 (by simp) (by simp) (by simp) (by simp), hM7.frame s13 (by simp), hB7.step s13 (by simp)⟩
          · obtain ⟨n1, n2, n3⟩ := new_full (s := s) (by omega)
            rw [n1, n2, n3] at hls
            clear n1 n2 n3 hdb7
            go_wp2_with fail
            refine hls.mono ?_
            rintro e w8 ⟨rfl, hdb8, s8⟩
            go_wp2_with fail
            go_roundg (R - (p + 1))
            case measure => rw [HQ7.out]; omega
            case rel => exact ⟨p + 1, s, o7, rfl, by omega, by go_num, HGR, hdb8.mono (by omega), hdw7.frame s8 (by decide) (by decide) (by decide) (by decide), hM7.frame s8 (by decide), hB7.step s8 (by decide)⟩
        · obtain rfl : p = R := by omega
          clear hlt
          obtain ⟨L2, hL2⟩ : ∃ L2 : Nat, min (m : Int) 20 = (L2 : Int) := ⟨min m 20, by omega⟩
          have hL2m : L2 ≤ m := by omega
          have hL220 : L2 ≤ 20 := by omega
          have hL2c : (L2 : Int) ≤ cb := by omega
          have hL20' : (0 : Int) ≤ L2 := by omega
          go_wp2_with fail
          go_loopg [15, 16, 97] L2 (fun g a15 a16 a wy => ∃ (q : Nat) (s : Dst) (o' : Owner), g = L2 - q ∧ q ≤ L2 ∧ a = .int .i64 q ∧ Hid (Grown ws q s) ∧ DB wy o' 10 b s (50 + q) ∧ DB wy o' 30 bw (sH ws) 30 ∧ Blk wy o' 24 zM 31 #[.int .i64 N0, .int .i64 1] ∧ Base w wy o')
          case atStart => exact ⟨0, s, o7, rfl, Nat.zero_le _, rfl, HGR, hdb7.mono (by omega), hdw7, hM7, hB7⟩
          case round =>
            obtain ⟨q, s, o8, hg, hq, rfl, HGR8, hdb8, hdw8, hM8, hB8⟩ := hrel
            have HQ8 := Lib.hid hg
            clear hg hdb7 hdw7 hM7 hB7
            by_cases hlt : q < L2
            · have hqi : (q : Int) < L2 := by omega
              obtain ⟨x, hx⟩ : ∃ x, z1[q]? = some x := ⟨_, List.getElem?_eq_getElem (by rw [HM.out]; omega)⟩
              obtain ⟨b1, off1, rfl, hb1, ho1, hc1⟩ := HK.out (by omega)
              have e1 := (World.cell?_of_block (a := ⟨b1, off1 + q, none⟩) (hB8.below.block b1 hb1)).trans (hc1 q (.string x) (by rw [List.getElem?_map, hx]; rfl))
              obtain ⟨t, ht⟩ : ∃ t, x.extract 0 (min (x.size : Int) 40).toNat = t := ⟨_, rfl⟩
              have ht40 : t.size ≤ 40 := by rw [← ht, ByteArray.size_extract]; omega
              have hm1 : (0 : Int) ≤ min (x.size : Int) 40 := by omega
              have hm2 : min (x.size : Int) 40 ≤ x.size := by omega
              have hadd := add_ok hdb8 (by omega) t (by omega) (100 + (q : Int))
              have HADD := Lib.hid (HGR8.out.add t (100 + (q : Int)))
              generalize addE s t = E at hadd
              clear hc1 hx hdb8
              go_wp2_with fail
              refine hadd.mono ?_
              rintro e w9 ⟨rfl, o9, hdb9, s9⟩
              go_wp2_with fail
              go_roundg (L2 - (q + 1))
              case measure => rw [HQ8.out]; omega
              case rel => exact ⟨q + 1, addS s t (100 + (q : Int)), o9, rfl, by omega, by go_num, HADD, hdb9.mono (by omega), hdw8.frame s9 (by decide) (by decide) (by decide) (by decide), hM8.frame s9 (by decide), hB8.step s9 (by decide)⟩
            · obtain rfl : q = L2 := by omega
              clear hlt
              have hbk := back_ok (hdb8.nil ((Step.refl [] wr o8).drew)) (by omega) ws.length 1
              rw [(HGR8.out.back HLI.out).1, (HGR8.out.back HLI.out).2, HN0.out] at hbk
              have hdwD := hdw8.nil ((Step.refl [] wr o8).drew)
              have hMD := hM8.frame ((Step.refl [] wr o8).drew) (by simp)
              have hBD := hB8.step ((Step.refl [] wr o8).drew) (by simp)
              have hmkf : ∀ W oW N, DB W oW 10 b (sH ws) N → Calls Try.prog 14 #[.pointer (some ⟨b, 0, none⟩)] W fun e w' => e = .returned (.agg #[.int .i64 N0, .int .i64 1]) ∧ Step [] W oW w' oW := fun W oW N h => by
                have := mark_ok h
                rw [show (sH ws).ws.length = ws.length from rfl, HN0.out] at this
                exact this
              have hcuf : ∀ W oW N, DB W oW 10 b (sH ws) N → Calls Try.prog 19 #[.pointer (some ⟨b, 0, none⟩)] W fun e w' => e = .returned (.int .i64 1) ∧ w' = W := fun W oW N h => current_ok h
              have hof : ∀ W oW N, DB W oW 10 b (sH ws) N → Calls Try.prog 22 #[.pointer (some ⟨b, 0, none⟩)] W fun e w' => ∃ v o', e = .returned v ∧ Row w' o' 43 3 1 v 1 (ints [1]) ∧ Step [] W oW w' o' := fun W oW N h => order_ok h 43
              obtain ⟨RN, hRN⟩ : ∃ RN, namesD (sH ws) 1 = RN := ⟨_, rfl⟩
              have hRl : RN.length ≤ 1000000 := by
                have : RN.length ≤ ws.length := by rw [← hRN]; exact bnamesD_len _ _
                have := HN0.out
                omega
              have hnf : ∀ W oW N, DB W oW 10 b (sH ws) N → Calls Try.prog 13 #[.pointer (some ⟨b, 0, none⟩), .int .i64 1] W fun e w' => ∃ v o', e = .returned v ∧ Row w' o' 44 9 1 v RN.length (strs RN) ∧ Step [44] W oW w' o' := fun W oW N h => by
                have := names_ok h 1 ⟨by decide, by decide⟩ 44 (by decide) (by decide) (by decide) (by decide)
                rw [hRN] at this
                exact this
              have hnw : ∀ W oW N, DB W oW 30 bw (sH ws) N → Calls Try.prog 13 #[.pointer (some ⟨bw, 0, none⟩), .int .i64 1] W fun e w' => ∃ v o', e = .returned v ∧ Row w' o' 45 9 1 v RN.length (strs RN) ∧ Step [45] W oW w' o' := fun W oW N h => by
                have := names_ok h 1 ⟨by decide, by decide⟩ 45 (by decide) (by decide) (by decide) (by decide)
                rw [hRN] at this
                exact this
              have hn2 : ∀ W oW N, DB W oW 10 b (sH ws) N → Calls Try.prog 13 #[.pointer (some ⟨b, 0, none⟩), .int .i64 2] W fun e w' => ∃ v o', e = .returned v ∧ Row w' o' 46 9 1 v 0 (strs []) ∧ Step [46] W oW w' o' := fun W oW N h =>
                names_ok h 2 ⟨by decide, by decide⟩ 46 (by decide) (by decide) (by decide) (by decide)
              clear hdb8 hdw8 hM8 hB8 hRN
              go_upto_region 24 with fail
              go_cut [147] from 112 to 147 (fun c wx => CutB w b bw zM N0 ws c wx)
              case first =>
                go_region_held3 (fun W => W.cell? ⟨zM, 0, none⟩ = some (.int .i64 N0) ∧ W.cell? ⟨zM, 1, none⟩ = some (.int .i64 1))
                  (first | exact ⟨hMD.cell 0, hMD.cell 1⟩ | exact ⟨(hMD.frame ((Step.refl [] _ _).alloc (.cells #[.int .i64 1] 3)) (by simp)).cell 0, (hMD.frame ((Step.refl [] _ _).alloc (.cells #[.int .i64 1] 3)) (by simp)).cell 1⟩)
                  (first
                    | (go_at_call 24; refine hbk.mono ?_; rintro e w9 ⟨rfl, o9, hdbD, s9⟩; replace hdwD := hdwD.frame s9 (by simp) (by simp) (by simp) (by simp); replace hMD := hMD.frame s9 (by simp); replace hBD := hBD.step s9 (by simp))
                    | (go_at_call 14; refine (hmkf _ _ _ hdbD).mono ?_; rintro e w10 ⟨rfl, s10⟩; replace hdbD := hdbD.frame s10 (by simp) (by simp) (by simp) (by simp); replace hdwD := hdwD.frame s10 (by simp) (by simp) (by simp) (by simp); replace hMD := hMD.frame s10 (by simp); replace hBD := hBD.step s10 (by simp))
                    | (go_at_call 19; refine (hcuf _ _ _ hdbD).mono ?_; rintro e w11 ⟨rfl, rfl⟩)
                    | (go_at_call 22; (first | (refine (hof _ _ _ hdbD).mono ?_; rintro e w12 ⟨v12, o12, rfl, hr12, s12⟩; replace hdbD := hdbD.frame s12 (by simp) (by simp) (by simp) (by simp); replace hdwD := hdwD.frame s12 (by simp) (by simp) (by simp) (by simp); replace hMD := hMD.frame s12 (by simp); replace hBD := hBD.step s12 (by simp)) | (refine (hof _ _ _ (hdbD.nil ((Step.refl [] _ _).alloc (.cells #[.int .i64 1] 3)))).mono ?_; rintro e w12 ⟨v12, o12, rfl, hr12, s12⟩; have hl := (Rd.fresh _ _ 1 3 #[.int .i64 1] 1 (by decide) rfl).frame s12 (by simp); replace s12 := Step.trans ((Step.refl [] _ _).alloc (.cells #[.int .i64 1] 3)) s12; replace hdbD := hdbD.frame s12 (by simp) (by simp) (by simp) (by simp); replace hdwD := hdwD.frame s12 (by simp) (by simp) (by simp) (by simp); replace hMD := hMD.frame s12 (by simp); replace hBD := hBD.step s12 (by simp))))
                    | (go_at_call 21; (first | (refine (ints_ok (l := [1]) (m := [1]) hr12.rd hl (by decide) (by decide)).mono ?_; rintro e w13 ⟨rfl, s13⟩; replace hdbD := hdbD.frame s13 (by simp) (by simp) (by simp) (by simp); replace hdwD := hdwD.frame s13 (by simp) (by simp) (by simp) (by simp); replace hMD := hMD.frame s13 (by simp); replace hBD := hBD.step s13 (by simp)) | (refine (ints_ok (l := [1]) (m := [1]) (hr12.frame ((Step.refl [] _ _).alloc (.cells #[.int .i64 1] 3)) (by simp)).rd (Rd.fresh _ _ 1 3 #[.int .i64 1] 1 (by decide) rfl) (by decide) (by decide)).mono ?_; rintro e w13 ⟨rfl, s13⟩; replace s13 := Step.trans ((Step.refl [] _ _).alloc (.cells #[.int .i64 1] 3)) s13; replace hdbD := hdbD.frame s13 (by simp) (by simp) (by simp) (by simp); replace hdwD := hdwD.frame s13 (by simp) (by simp) (by simp) (by simp); replace hMD := hMD.frame s13 (by simp); replace hBD := hBD.step s13 (by simp))))
                    | (go_at_call_of 13 (#[Value.pointer (some ⟨bw, 0, none⟩), Value.int IntKind.i64 1]); refine (hnw _ _ _ hdwD).mono ?_; rintro e w15 ⟨v15, o15, rfl, hr15, s15⟩; (try (replace hr14 := hr14.frame s15 (by simp))); replace hdbD := hdbD.frame s15 (by simp) (by simp) (by simp) (by simp); replace hdwD := hdwD.frame s15 (by simp) (by simp) (by simp) (by simp); replace hMD := hMD.frame s15 (by simp); replace hBD := hBD.step s15 (by simp))
                    | (go_at_call_of 13 (#[Value.pointer (some ⟨b, 0, none⟩), Value.int IntKind.i64 1]); refine (hnf _ _ _ hdbD).mono ?_; rintro e w14 ⟨v14, o14, rfl, hr14, s14⟩; (try (replace hr15 := hr15.frame s14 (by simp))); replace hdbD := hdbD.frame s14 (by simp) (by simp) (by simp) (by simp); replace hdwD := hdwD.frame s14 (by simp) (by simp) (by simp) (by simp); replace hMD := hMD.frame s14 (by simp); replace hBD := hBD.step s14 (by simp))
                    | (go_at_call 12; refine (texts_ok hr14.rd hr15.rd hRl hRl).mono ?_; rintro e w16 ⟨rfl, s16⟩; replace hdbD := hdbD.frame s16 (by simp) (by simp) (by simp) (by simp); replace hdwD := hdwD.frame s16 (by simp) (by simp) (by simp) (by simp); replace hMD := hMD.frame s16 (by simp); replace hBD := hBD.step s16 (by simp))
                    | (go_at_call_of 13 (#[Value.pointer (some ⟨b, 0, none⟩), Value.int IntKind.i64 2]); refine (hn2 _ _ _ hdbD).mono ?_; rintro e w17 ⟨v17, o17, rfl, hr17, s17⟩; obtain ⟨a17, c17, rfl, -, -⟩ := hr17.slice; replace hdbD := hdbD.frame s17 (by simp) (by simp) (by simp) (by simp); replace hdwD := hdwD.frame s17 (by simp) (by simp) (by simp) (by simp); replace hMD := hMD.frame s17 (by simp); replace hBD := hBD.step s17 (by simp)))
                all_goals go_wp2_with fail
                all_goals go_meet
                all_goals exact ⟨rfl, _, hdbD.mono (by omega), hdwD, hMD, hBD⟩
              case rest =>
                obtain ⟨rfl, o9, hdb9, hdw9, hM9, hB9⟩ := hcut
                clear hbk hdwD hMD hBD hmkf hcuf hof hnf hnw hn2 hRl
                go_wp2_with fail
                go_loopg [18, 19, 20, 21, 22, 154] L (fun g a18 a19 a20 a21 a22 a wy => ∃ (q : Nat) (o' : Owner), g = L - q ∧ q ≤ L ∧ a = .int .i64 q ∧ DB wy o' 10 b (sH ws) 3000 ∧ DB wy o' 30 bw (sH ws) 30 ∧ Blk wy o' 24 zM 31 #[.int .i64 N0, .int .i64 1] ∧ Base w wy o')
                case atStart => exact ⟨0, o9, rfl, Nat.zero_le _, rfl, hdb9, hdw9, hM9, hB9⟩
                case round =>
                  obtain ⟨q, o4, hg, hq, rfl, hdb4, hdw4, hM4, hB4⟩ := hrel
                  have HQ4 := Lib.hid hg
                  clear hg hdb9 hdw9 hM9 hB9
                  by_cases hlt2 : q < L
                  · have hqi : (q : Int) < L := by omega
                    obtain ⟨x, hx⟩ : ∃ x, z0[q]? = some x := ⟨_, List.getElem?_eq_getElem (by rw [HN.out]; omega)⟩
                    obtain ⟨b1, off1, rfl, hb1, ho1, hc1⟩ := HG.out (by omega)
                    have e1 := (World.cell?_of_block (a := ⟨b1, off1 + q, none⟩) (hB4.below.block b1 hb1)).trans (hc1 q (.string x) (by rw [List.getElem?_map, hx]; rfl))
                    obtain ⟨t, ht⟩ : ∃ t, x.extract 0 (min (x.size : Int) 40).toNat = t := ⟨_, rfl⟩
                    have ht40 : t.size ≤ 40 := by rw [← ht, ByteArray.size_extract]; omega
                    have hm1 : (0 : Int) ≤ min (x.size : Int) 40 := by omega
                    have hm2 : min (x.size : Int) 40 ≤ x.size := by omega
                    obtain ⟨E, hE⟩ : ∃ E, findD (sH ws) t = E := ⟨_, rfl⟩
                    have hfi := find_ok hdb4 t (by omega)
                    rw [hE, entV_eq] at hfi
                    obtain ⟨en, hen⟩ : ∃ en, nmO E = en := ⟨_, rfl⟩
                    obtain ⟨ex, hex⟩ : ∃ ex, xtO E = ex := ⟨_, rfl⟩
                    obtain ⟨ew, hew⟩ : ∃ ew, nwO E = ew := ⟨_, rfl⟩
                    obtain ⟨ei, hei⟩ : ∃ ei, E.isSome = ei := ⟨_, rfl⟩
                    have hEV : entV (findD (sH ws) t) = .tuple #[.agg #[.string en, .int .i64 ex, .bool ew], .bool ei] := by rw [hE, entV_eq, hen, hex, hew, hei]
                    rw [hen, hex, hew, hei] at hfi
                    have HEV := Lib.hid hEV
                    have hq1 : (en.toList == en.toList) = true := by simp
                    have hq2 : (ew == ew) = true := by simp
                    have hq3 : (ei == ei) = true := by simp
                    clear hE hen hex hew hei hEV hx hc1
                    go_wp2_with fail
                    refine hfi.mono ?_
                    rintro e w5 ⟨rfl, o5, s5⟩
                    have sA := s5.alloc (.cells #[.string en, .int .i64 ex, .bool ew] 34)
                    have E5 := E3.new w5 (.string en) (.int .i64 ex) (.bool ew)
                    have hfj := find_ok (hdw4.nil sA) t (by omega)
                    rw [show entV (findD (sH ws) t) = _ from HEV.out] at hfj
                    clear hfi
                    go_wp2_with fail
                    refine hfj.mono ?_
                    rintro e w6' ⟨rfl, o6, s6⟩
                    have sB := (Step.refl [] w6' o6).alloc (.cells #[.string en, .int .i64 ex, .bool ew] 34)
                    obtain ⟨x0, x1, x2, -⟩ := ((E5.nil s6).nil sB).cells
                    obtain ⟨y0, y1, y2, -⟩ := (E3.new w6' (.string en) (.int .i64 ex) (.bool ew)).cells
                    have S6 := (sA.trans s6).trans sB
                    clear hfj
                    go_wp2_with fail
                    go_roundg (L - (q + 1))
                    case measure => rw [HQ4.out]; omega
                    case rel => exact ⟨q + 1, _, rfl, by omega, by go_num, hdb4.nil S6, hdw4.nil S6, hM4.frame S6 (by simp), hB4.step S6 (by simp)⟩
                  · obtain rfl : L = q := by omega
                    have hls := list_ok hdb4 (by omega)
                    rw [(back_list ws).1, (back_list ws).2.1, (back_list ws).2.2] at hls
                    clear hlt2 hdb4
                    go_wp2_with fail
                    refine hls.mono ?_
                    rintro e w5 ⟨rfl, hdb5, s5⟩
                    replace hM4 := hM4.frame s5 (by simp)
                    replace hB4 := hB4.step s5 (by simp)
                    have hbm := back_ok hdb5 (by omega) ((ws.length : Int) + 1) 1
                    rw [(back_more ws).1, (back_more ws).2, HN0.out] at hbm
                    have m0 := hM4.cell 0
                    have m1 := hM4.cell 1
                    clear hls s5 hdb5
                    go_wp2_with fail
                    refine hbm.mono ?_
                    rintro e w6' ⟨rfl, o6, hdb6, s6⟩
                    replace hB4 := hB4.step s6 (by simp)
                    have hbn := back_ok hdb6 (by omega) 0 0
                    rw [(back_none ws).1, (back_none ws).2] at hbn
                    clear hbm s6 hdb6 m0 m1
                    go_wp2_with fail
                    refine hbn.mono ?_
                    rintro e w7 ⟨rfl, o7', hdb7, s7⟩
                    go_wp2_with fail
                    go_ret
                    exact ⟨rfl, (hB4.step s7 (by simp)).below⟩
end Go.Proofs.Ytaledmoakhlmgaa
