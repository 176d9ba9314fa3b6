/- DictOrders: the walk. -/
import Derived.Test.YtaledmoakhlmgaaDicX
import Derived.Test.YtaledmoakhlmgaaDicD
import Derived.Test.YtaledmoakhlmgaaShown09
import Derived.Test.YtaledmoakhlmgaaOrdersL
namespace Go.Proofs.Ytaledmoakhlmgaa
open Go Go.RowKit
set_option linter.unusedSimpArgs false
set_option linter.unusedVariables false

theorem mk9i (w : World) : (Instr.makeSlice 46 (.int .i64 9) (.int .i64 9)).run Try.prog w = .ok (.slice (some ⟨w.heap.size, 0, none⟩) 9 9) (w.alloc (.cells #[.int .i64 0, .int .i64 0, .int .i64 0, .int .i64 0, .int .i64 0, .int .i64 0, .int .i64 0, .int .i64 0, .int .i64 0] 3)) := by
  obtain ⟨inf, hi, hz, hsz, hby⟩ := info_parts infoI
  have := run_makeSlice (P := Try.prog) w 46 3 inf (.int .i64 0) Try.underlying46 hi hz .i64 .i64 9 9 (by decide) (by decide) (by rw [hsz]; decide) (by rw [hby]; decide) (by decide)
  have hmc : madeCells (Value.int .i64 0).cells (Int.toNat 9 * 1) = #[.int .i64 0, .int .i64 0, .int .i64 0, .int .i64 0, .int .i64 0, .int .i64 0, .int .i64 0, .int .i64 0, .int .i64 0] := by kernel_rfl
  rw [this, hsz, hmc]
  rfl

set_option maxRecDepth 100000 in
set_option maxHeartbeats 16000000 in
theorem orders_walk {w : World} {v0 v1 : Value} {z0 z1 : List Int} (h0 : Rd w (fun _ => 0) 0 1 v0 z0.length (z0.map (Value.int .u8))) (hz0 : ∀ n ∈ z0, 0 ≤ n ∧ n ≤ 255)
    (h1 : Rd w (fun _ => 0) 0 1 v1 z1.length (z1.map (Value.int .u8))) (hz1 : ∀ n ∈ z1, 0 ≤ n ∧ n ≤ 255) :
    Calls Try.prog 5 #[v0, v1] w fun e w' => e = .returned (.bool true) ∧ Below w.heap.size w w' := by
  obtain ⟨ao, ca, rfl, g1, g2, g3, g4⟩ := h0
  obtain ⟨bo, cb, rfl, k1, k2, k3, k4⟩ := h1
  obtain ⟨n, hn⟩ : ∃ n, z0.length = n := ⟨_, rfl⟩
  obtain ⟨m, hm⟩ : ∃ m, z1.length = m := ⟨_, rfl⟩
  rw [hn] at g1 g4
  rw [hm] at k1 k4
  rw [hn, hm]
  have HN := Lib.hid hn
  have HM := Lib.hid hm
  have HG := Lib.hid g4
  have HK := Lib.hid k4
  unfold maxLen at g2 k2
  clear g3 g4 k3 k4 hn hm
  have hmk := mk9i
  go_enter Try.func5, Try.ntmps5
  go_wp2_with fail
  refine (shown_ok w (fun _ => 0)).mono ?_
  rintro e w1 ⟨rfl, s1⟩
  go_wp2_with fail
  refine (new_ok w1 (fun _ => 0) 10).mono ?_
  rintro e w2 ⟨b, o2, rfl, h2, s2⟩
  have hB := ((Base.start w).step s1 (by decide)).step s2 (by decide)
  clear s1 s2
  go_wp2_with fail
  go_loopg [7, 8, 9, 27] 7 (fun g a7 a8 a9 a wy => ∃ (j : Nat) (o' : Owner), g = 7 - j ∧ j ≤ 7 ∧ a = .int .i64 j ∧ DB wy o' 10 b (dL j) (2 + j) ∧ Base w wy o')
  case atStart => exact ⟨0, o2, rfl, Nat.zero_le _, rfl, h2, hB⟩
  case round =>
    obtain ⟨j, o3, hg, hj, rfl, hdb, hB3⟩ := hrel
    have HQ := Lib.hid hg
    clear hg h2 hB
    by_cases hlt : j < 7
    · have hji : (j : Int) < 7 := by omega
      have hls := list_ok hdb (by omega)
      obtain ⟨hk1, hk2⟩ := dL_tell hlt
      rw [dL_list hlt, hk1, hk2] at hls
      clear hdb hk1 hk2
      go_wp2_with fail
      refine hls.mono ?_
      rintro e w4 ⟨rfl, hdb, s4⟩
      go_wp2_with fail
      go_roundg (7 - (j + 1))
      case measure => rw [HQ.out]; omega
      case rel => exact ⟨j + 1, o3, rfl, by omega, by go_num, hdb.mono (by omega), hB3.step s4 (by decide)⟩
    · obtain rfl : j = 7 := by omega
      rw [dL_end] at hdb
      have hls := list_ok hdb (by omega)
      rw [show listK (dA [] 1) = 0 from rfl, show listE (dA [] 1) = -49 from rfl, show listS (dA [] 1) = dA [] 1 from rfl] at hls
      clear hlt hdb
      go_wp2_with fail
      refine hls.mono ?_
      rintro e w4 ⟨rfl, hdb, s4⟩
      replace hB3 := hB3.step s4 (by decide)
      have s5 : Step [] w4 o3 (w4.alloc (.cells #[.int .i64 0, .int .i64 0, .int .i64 0, .int .i64 0, .int .i64 0, .int .i64 0, .int .i64 0, .int .i64 0, .int .i64 0] 3)) (o3.set w4.heap.size 20) := ((Step.refl _ _ _).alloc _).give (Nat.le_refl _) _
      have hrow : Rowx (w4.alloc (.cells #[.int .i64 0, .int .i64 0, .int .i64 0, .int .i64 0, .int .i64 0, .int .i64 0, .int .i64 0, .int .i64 0, .int .i64 0] 3)) (o3.set w4.heap.size 20) 20 3 1 w4.heap.size 9 9 (ints (wantL [])) :=
        ⟨rfl, Owner.set_self _ _ _, Nat.le_refl _, by decide, _, heap_alloc_new _ _, rfl, rfl⟩
      replace hdb := hdb.nil s5
      replace hB3 := hB3.step s5 (by decide)
      obtain ⟨z, hz⟩ : ∃ z, w4.heap.size = z := ⟨_, rfl⟩
      rw [hz] at hrow hdb hB3
      obtain ⟨L, hL⟩ : ∃ L : Nat, min (n : Int) 20 = (L : Int) := ⟨min n 20, by omega⟩
      have hLn : L ≤ n := by omega
      have hL20 : L ≤ 20 := by omega
      have hLc : (L : Int) ≤ ca := by omega
      have hL0 : (0 : Int) ≤ L := by omega
      clear s4 s5 hls
      go_wp2_with fail
      clear hz
      go_loopg [13, 14, 15, 56] L (fun g a13 a14 a15 a wy => ∃ (q : Nat) (ws : List Wd) (c : Int) (o' : Owner), g = L - q ∧ q ≤ L ∧ a = .int .i64 q ∧ Hid (ws.length ≤ q ∧ ∀ x ∈ ws, 1 ≤ x.xt) ∧ Rowx wy o' 20 3 1 z 9 9 (ints (wantL ws)) ∧ DB wy o' 10 b (dA ws c) (10 + q) ∧ Base w wy o')
      case atStart => exact ⟨0, [], 1, _, rfl, Nat.zero_le _, rfl, Lib.hid ⟨Nat.le_refl _, by simp⟩, hrow, hdb, hB3⟩
      case round =>
        obtain ⟨q, ws, c, o7, hg, hq, rfl, HWL, hrow7, hdb7, hB7⟩ := hrel
        have HQ7 := Lib.hid hg
        clear hg hrow hdb hB3
        by_cases hlt : q < L
        · have hqi : (q : Int) < L := by omega
          obtain ⟨y, hy⟩ : ∃ y, z0[q]? = some y := ⟨_, List.getElem?_eq_getElem (by rw [HN.out]; omega)⟩
          have hy2 := hz0 y (List.mem_of_getElem? hy)
          obtain ⟨b2, off2, rfl, hb2, ho2, hc2⟩ := HG.out (by omega)
          have e2 := (World.cell?_of_block (a := ⟨b2, off2 + q, none⟩) (hB7.below.block b2 hb2)).trans (hc2 q (.int .u8 y) (by rw [List.getElem?_map, hy]; rfl))
          obtain ⟨k, hk⟩ : ∃ k : Nat, y % 8 + 1 = (k : Int) := ⟨(y % 8 + 1).toNat, by omega⟩
          have hk1 : 1 ≤ k := by omega
          have hk8 : k ≤ 8 := by omega
          have hwl2 : ws.length < 2000 := by have := HWL.out.1; omega
          obtain ⟨hcE, hcS⟩ := lists_cur (ws := ws) (c := c) (k := k) (by omega) (by omega)
          obtain ⟨haE, haS⟩ := lists_add (ws := ws) (k := k) (n := ⟨#[110, 97, 109, 101]⟩) (by decide) (by decide) hwl2 ((q : Int) + 1)
          have hcur := cur_ok hdb7 k
          rw [hcE, hcS] at hcur
          have hki : (k : Int) < 9 := by omega
          have hk0 : (0 : Int) ≤ k := by omega
          have HA := Lib.hid (And.intro haE haS)
          clear hcE hcS haE haS hc2 hy
          go_wp2_with fail
          refine hcur.mono ?_
          rintro e w5 ⟨rfl, hdb5, s5⟩
          have hadd := add_ok hdb5 (by omega) ⟨#[110, 97, 109, 101]⟩ (by decide) ((q : Int) + 1)
          rw [HA.out.1, HA.out.2] at hadd
          replace hrow7 := hrow7.frame s5 (by simp)
          replace hB7 := hB7.step s5 (by simp)
          clear hcur hdb7 s5
          go_wp2_with fail
          refine hadd.mono ?_
          rintro e w6 ⟨rfl, o6, hdb6, s6⟩
          replace hrow7 := hrow7.frame s6 (by simp)
          replace hB7 := hB7.step s6 (by simp)
          have hcu := current_ok hdb6
          rw [show (dA (⟨⟨#[110, 97, 109, 101]⟩, (q : Int) + 1, false, k⟩ :: ws) k).cur = k from rfl] at hcu
          obtain ⟨e3, e4⟩ := hrow7.spare (j := k) (by omega)
          obtain ⟨ev, e3⟩ := Option.isSome_iff_exists.1 e3
          clear hadd hdb5 s6
          go_wp2_with fail
          refine hcu.mono ?_
          rintro e w8 ⟨rfl, rfl⟩
          clear hcu
          go_wp2_with fail
          go_roundg (L - (q + 1))
          case measure => rw [HQ7.out]; omega
          case rel =>
            have s7 : Step [20] w8 o6 (w8.setCell ⟨z, k, none⟩ (.int .i64 ((q : Int) + 1))) o6 := (Step.refl _ _ _).setCell (fun _ => by simp [hrow7.own]) _
            refine ⟨q + 1, ⟨⟨#[110, 97, 109, 101]⟩, (q : Int) + 1, false, k⟩ :: ws, k, o6, rfl, by omega, by go_num, Lib.hid ⟨by have := HWL.out.1; rw [List.length_cons]; omega, ?_⟩, ?_, (hdb6.frame s7 (by simp) (by simp) (by simp) (by simp)).mono (by omega), hB7.step s7 (by simp)⟩
            · intro x hx
              rcases List.mem_cons.1 hx with rfl | hx
              · show (1 : Int) ≤ (q : Int) + 1; omega
              · exact HWL.out.2 x hx
            · rw [wantL_cons]
              have := hrow7.setElem k (.int .i64 ((q : Int) + 1))
              rw [show ints ((wantL ws).set k ((q : Int) + 1)) = (ints (wantL ws)).set k (.int .i64 ((q : Int) + 1)) from List.map_set ..]
              exact this
        · obtain rfl : q = L := by omega
          clear hlt
          obtain ⟨L2, hL2⟩ : ∃ L2 : Nat, min (m : Int) 8 = (L2 : Int) := ⟨min m 8, by omega⟩
          have hL2n : L2 ≤ m := by omega
          have hL28 : L2 ≤ 8 := by omega
          have hL2c : (L2 : Int) ≤ cb := by omega
          have hL20' : (0 : Int) ≤ L2 := by omega
          go_wp2_with fail
          go_loopg [16, 17, 19, 20, 94] L2 (fun g a16 a17 a19 a20 a wy => ∃ (p : Nat) (l : List Int) (F : Int) (o' : Owner), g = L2 - p ∧ p ≤ L2 ∧ a = .int .i64 p ∧ a17 = .int .i64 F ∧ Hid (F = fstW ws l) ∧ Hid (l.length = p ∧ ∀ k ∈ l, 1 ≤ k ∧ k ≤ 8) ∧ Row wy o' 21 3 1 a16 p (ints l) ∧ Rowx wy o' 20 3 1 z 9 9 (ints (wantL ws)) ∧ DB wy o' 10 b (dA ws c) 30 ∧ Base w wy o')
          case atStart => exact ⟨0, [], 0, o7, rfl, Nat.zero_le _, rfl, rfl, Lib.hid rfl, Lib.hid ⟨rfl, by simp⟩, Row.nil _ _ _ _ _ none, hrow7, hdb7.mono (by omega), hB7⟩
          case round =>
            obtain ⟨p, l, F, o8, hg, hp, rfl, rfl, HF, HL, hl8, hrow8, hdb8, hB8⟩ := hrel
            have HQ8 := Lib.hid hg
            obtain ⟨a16, c16, rfl, hpc, -⟩ := hl8.slice
            clear hg hrow7 hdb7 hB7
            by_cases hlt : p < L2
            · have hpi : (p : Int) < L2 := by omega
              obtain ⟨y, hy⟩ : ∃ y, z1[p]? = some y := ⟨_, List.getElem?_eq_getElem (by rw [HM.out]; omega)⟩
              have hy2 := hz1 y (List.mem_of_getElem? hy)
              obtain ⟨b2, off2, rfl, hb2, ho2, hc2⟩ := HK.out (by omega)
              have e2 := (World.cell?_of_block (a := ⟨b2, off2 + p, none⟩) (hB8.below.block b2 hb2)).trans (hc2 p (.int .u8 y) (by rw [List.getElem?_map, hy]; rfl))
              obtain ⟨k, hk⟩ : ∃ k : Nat, y % 8 + 1 = (k : Int) := ⟨(y % 8 + 1).toNat, by omega⟩
              have hk1 : 1 ≤ k := by omega
              have hk8 : k ≤ 8 := by omega
              have hki : (k : Int) < 9 := by omega
              have hk0 : (0 : Int) ≤ k := by omega
              have hxB := fun cs => hl8.frame ((Step.refl [] wr o8).alloc (.cells cs 3)) (by simp)
              have hbig : p + 1 ≤ 9223372036854775807 := by omega
              have hbig2 : (p + 1) * 8 ≤ 140737488355328 := by omega
              clear hc2 hy
              go_wp2_with (at_builtin; refine wpList_app rfl (.tmp 102) (.tmp 104) 46 rfl Try.underlying46 infoI rfl rfl (hxB _) rfl (Rd.fresh wr o8 1 3 _ 1 (by decide) rfl) (by simp [Value.oneCell']) hbig hbig2 ?_)
              intro vx w6 o6 hx6 s6
              have S6 := ((Step.refl [21] wr o8).alloc (.cells #[.int .i64 k] 3)).trans s6
              replace hrow8 := hrow8.frame S6 (by simp)
              replace hdb8 := hdb8.frame S6 (by simp) (by simp) (by simp) (by simp)
              replace hB8 := hB8.step S6 (by simp)
              have hx7 : Row w6 o6 21 3 1 vx (p + 1) (ints (l ++ [(k : Int)])) := hx6.cast (by simp [ints])
              have hm7 : ∀ j ∈ l ++ [(k : Int)], 1 ≤ j ∧ j ≤ 8 := by
                intro j hj
                rcases List.mem_append.1 hj with hj | hj
                · exact HL.out.2 j hj
                · simp at hj; omega
              have hn7 : (l ++ [(k : Int)]).length = p + 1 := by rw [List.length_append, HL.out.1]; rfl
              have HM7 := Lib.hid (And.intro hn7 hm7)
              have hpush := fstW_push ws k l
              rw [← HF.out] at hpush
              have e5 := hrow8.cell (j := k) (u := .int .i64 (wantF ws k)) (by rw [List.getElem?_map, wantL_at _ (by omega)]; rfl)
              obtain ⟨F2, hF2⟩ : ∃ F2, wantF ws k = F2 := ⟨_, rfl⟩
              rw [hF2] at e5 hpush
              clear hxB hx6 hm7 hn7 hF2 hl8 s6 S6
              by_cases hF0 : F = 0
              · have hFb : (F == 0) = true := by simp [hF0]
                rw [if_pos hF0] at hpush
                have HP := Lib.hid hpush
                clear hpush hF0
                go_wp2_with fail
                go_roundg (L2 - (p + 1))
                case measure => rw [HQ8.out]; omega
                case rel => exact ⟨p + 1, l ++ [(k : Int)], F2, o6, rfl, by omega, by go_num, rfl, Lib.hid HP.out.symm, HM7, hx7, hrow8, hdb8, hB8⟩
              · have hFb : (F == 0) = false := by simp [hF0]
                rw [if_neg hF0] at hpush
                have HP := Lib.hid hpush
                clear hpush hF0
                go_wp2_with fail
                go_roundg (L2 - (p + 1))
                case measure => rw [HQ8.out]; omega
                case rel => exact ⟨p + 1, l ++ [(k : Int)], F, o6, rfl, by omega, by go_num, rfl, Lib.hid HP.out.symm, HM7, hx7, hrow8, hdb8, hB8⟩
            · obtain rfl : p = L2 := by omega
              clear hlt hrow8
              have hln := HL.out.1
              obtain ⟨hsE, hsS⟩ := orders_set (ws := ws) (c := c) (l := l) (by omega) HL.out.2
              have hso := setorder_ok hdb8 hl8.rd
              rw [hsE, hsS] at hso
              have HLN := Lib.hid hln
              clear hsE hsS hln
              go_wp2_with fail
              refine hso.mono ?_
              rintro e w5 ⟨rfl, o5, hdb5, s5⟩
              replace hl8 := hl8.frame s5 (by simp)
              replace hB8 := hB8.step s5 (by simp)
              have hor := order_ok hdb5 31
              clear hso hdb8 s5
              go_wp2_with fail
              refine hor.mono ?_
              rintro e w6 ⟨v6, o6, rfl, hr6, s6⟩
              replace hl8 := hl8.frame s6 (by simp)
              replace hdb5 := hdb5.nil s6
              replace hB8 := hB8.step s6 (by simp)
              have hl8' : Rd w6 o6 21 1 (.slice a16 p c16) l.length (ints l) := by rw [HLN.out]; exact hl8.rd
              have hin := ints_ok hr6.rd hl8' (by show l.length ≤ 1000000; rw [HLN.out]; omega) (by rw [HLN.out]; omega)
              clear hor hl8' s6 hr6
              go_wp2_with fail
              refine hin.mono ?_
              rintro e w8 ⟨rfl, s8⟩
              replace hl8 := hl8.frame s8 (by simp)
              replace hdb5 := hdb5.nil s8
              replace hB8 := hB8.step s8 (by simp)
              have hfi := find_ok hdb5 ⟨#[78, 65, 77, 69]⟩ (by decide)
              clear hin s8
              rcases orders_find HWL.out.2 (c := c) (l0 := l) HL.out.2 with ⟨hf1, hf2⟩ | ⟨x, hf1, hf2, hf3⟩
              · rw [show findD ⟨ws, 8, l, c⟩ ⟨#[78, 65, 77, 69]⟩ = none from hf1, show entV none = .tuple #[.agg #[.string ⟨#[]⟩, .int .i64 0, .bool false], .bool false] from rfl] at hfi
                obtain rfl : F = 0 := HF.out.trans hf2
                clear hf1 hf2
                go_wp2_with fail
                refine hfi.mono ?_
                rintro e w9 ⟨rfl, o9, s9⟩
                obtain ⟨x0, x1, x2, -⟩ := (E3.new w9 (.string ⟨#[]⟩) (.int .i64 0) (.bool false)).cells
                have sA := (s9.alloc (.cells #[.string ⟨#[]⟩, .int .i64 0, .bool false] 34))
                replace hdb5 := hdb5.nil sA
                replace hl8 := hl8.frame sA (by simp)
                replace hB8 := hB8.step sA (by simp)
                clear hfi s9
                have sB := (Step.refl [] (w9.alloc (.cells #[.string ⟨#[]⟩, .int .i64 0, .bool false] 34)) o9).alloc (.cells #[.int .i64 9] 3)
                have hB9 : Rd ((w9.alloc (.cells #[.string ⟨#[]⟩, .int .i64 0, .bool false] 34)).alloc (.cells #[.int .i64 9] 3)) o9 (o9 (w9.heap.size + 1)) 1 (.slice (some ⟨w9.heap.size + 1, 0, none⟩) 1 1) 1 (ints [9]) := by
                  have := Rd.fresh (w9.alloc (.cells #[.string ⟨#[]⟩, .int .i64 0, .bool false] 34)) o9 1 3 #[.int .i64 9] 1 (by decide) rfl
                  rw [World.size_alloc] at this
                  exact this
                have hs9 := setorder_ok (hdb5.nil sB) hB9
                rw [orders_nine.1, orders_nine.2] at hs9
                clear hB9
                go_wp2_with fail
                refine hs9.mono ?_
                rintro e w10 ⟨rfl, o10, hdb10, s10⟩
                replace hl8 := (hl8.frame sB (by simp)).frame s10 (by simp)
                replace hB8 := (hB8.step sB (by simp)).step s10 (by simp)
                have sC := (Step.refl [] w10 o10).alloc (.cells #[.int .i64 0, .int .i64 0, .int .i64 0, .int .i64 0, .int .i64 0, .int .i64 0, .int .i64 0, .int .i64 0, .int .i64 0] 3)
                have hC9 : Rd (w10.alloc (.cells #[.int .i64 0, .int .i64 0, .int .i64 0, .int .i64 0, .int .i64 0, .int .i64 0, .int .i64 0, .int .i64 0, .int .i64 0] 3)) o10 _ 1 (.slice (some ⟨w10.heap.size, 0, none⟩) 9 9) 9 (ints [0, 0, 0, 0, 0, 0, 0, 0, 0]) := Rd.fresh w10 o10 1 3 _ 9 (by decide) rfl
                have hsl := setorder_ok (hdb10.nil sC) hC9
                rw [orders_long.1, orders_long.2] at hsl
                clear hs9 hC9 hdb5 sA sB
                go_wp2_with fail
                refine hsl.mono ?_
                rintro e w11 ⟨rfl, o11, hdb11, s11⟩
                replace hl8 := (hl8.frame sC (by simp)).frame s11 (by simp)
                replace hB8 := (hB8.step sC (by simp)).step s11 (by simp)
                have hcz := cur_ok hdb11 0
                rw [orders_none.1, orders_none.2] at hcz
                clear hsl hdb10 sC
                go_wp2_with fail
                refine hcz.mono ?_
                rintro e w12 ⟨rfl, hdb12, s12⟩
                replace hl8 := hl8.frame s12 (by simp)
                replace hB8 := hB8.step s12 (by simp)
                have hor := order_ok hdb12 31
                clear hcz hdb11
                go_wp2_with fail
                refine hor.mono ?_
                rintro e w13 ⟨v13, o13, rfl, hr13, s13⟩
                replace hl8 := hl8.frame s13 (by simp)
                replace hB8 := hB8.step s13 (by simp)
                have hl8' : Rd w13 o13 21 1 (.slice a16 p c16) l.length (ints l) := by rw [HLN.out]; exact hl8.rd
                have hin := ints_ok hr13.rd hl8' (by show l.length ≤ 1000000; rw [HLN.out]; omega) (by rw [HLN.out]; omega)
                clear hor hl8' hr13
                go_wp2_with fail
                refine hin.mono ?_
                rintro e w14 ⟨rfl, s14⟩
                go_wp2_with fail
                go_ret
                exact ⟨rfl, (hB8.step s14 (by simp)).below⟩
              · have hxF : x.xt = F := hf2.trans HF.out.symm
                rw [show findD ⟨ws, 8, l, c⟩ ⟨#[78, 65, 77, 69]⟩ = some x from hf1, show entV (some x) = .tuple #[.agg #[.string x.nm, .int .i64 x.xt, .bool x.now], .bool true] from rfl, hxF] at hfi
                have hFp : decide (0 < F) = true := decide_eq_true (by omega)
                have hFe : (F == F) = true := by simp
                clear hf1 hf2 hf3 hxF
                go_wp2_with fail
                refine hfi.mono ?_
                rintro e w9 ⟨rfl, o9, s9⟩
                obtain ⟨x0, x1, x2, -⟩ := (E3.new w9 (.string x.nm) (.int .i64 F) (.bool x.now)).cells
                have sA := (s9.alloc (.cells #[.string x.nm, .int .i64 F, .bool x.now] 34))
                replace hdb5 := hdb5.nil sA
                replace hl8 := hl8.frame sA (by simp)
                replace hB8 := hB8.step sA (by simp)
                clear hfi s9
                have sB := (Step.refl [] (w9.alloc (.cells #[.string x.nm, .int .i64 F, .bool x.now] 34)) o9).alloc (.cells #[.int .i64 9] 3)
                have hB9 : Rd ((w9.alloc (.cells #[.string x.nm, .int .i64 F, .bool x.now] 34)).alloc (.cells #[.int .i64 9] 3)) o9 (o9 (w9.heap.size + 1)) 1 (.slice (some ⟨w9.heap.size + 1, 0, none⟩) 1 1) 1 (ints [9]) := by
                  have := Rd.fresh (w9.alloc (.cells #[.string x.nm, .int .i64 F, .bool x.now] 34)) o9 1 3 #[.int .i64 9] 1 (by decide) rfl
                  rw [World.size_alloc] at this
                  exact this
                have hs9 := setorder_ok (hdb5.nil sB) hB9
                rw [orders_nine.1, orders_nine.2] at hs9
                clear hB9
                go_wp2_with fail
                refine hs9.mono ?_
                rintro e w10 ⟨rfl, o10, hdb10, s10⟩
                replace hl8 := (hl8.frame sB (by simp)).frame s10 (by simp)
                replace hB8 := (hB8.step sB (by simp)).step s10 (by simp)
                have sC := (Step.refl [] w10 o10).alloc (.cells #[.int .i64 0, .int .i64 0, .int .i64 0, .int .i64 0, .int .i64 0, .int .i64 0, .int .i64 0, .int .i64 0, .int .i64 0] 3)
                have hC9 : Rd (w10.alloc (.cells #[.int .i64 0, .int .i64 0, .int .i64 0, .int .i64 0, .int .i64 0, .int .i64 0, .int .i64 0, .int .i64 0, .int .i64 0] 3)) o10 _ 1 (.slice (some ⟨w10.heap.size, 0, none⟩) 9 9) 9 (ints [0, 0, 0, 0, 0, 0, 0, 0, 0]) := Rd.fresh w10 o10 1 3 _ 9 (by decide) rfl
                have hsl := setorder_ok (hdb10.nil sC) hC9
                rw [orders_long.1, orders_long.2] at hsl
                clear hs9 hC9 hdb5 sA sB
                go_wp2_with fail
                refine hsl.mono ?_
                rintro e w11 ⟨rfl, o11, hdb11, s11⟩
                replace hl8 := (hl8.frame sC (by simp)).frame s11 (by simp)
                replace hB8 := (hB8.step sC (by simp)).step s11 (by simp)
                have hcz := cur_ok hdb11 0
                rw [orders_none.1, orders_none.2] at hcz
                clear hsl hdb10 sC
                go_wp2_with fail
                refine hcz.mono ?_
                rintro e w12 ⟨rfl, hdb12, s12⟩
                replace hl8 := hl8.frame s12 (by simp)
                replace hB8 := hB8.step s12 (by simp)
                have hor := order_ok hdb12 31
                clear hcz hdb11
                go_wp2_with fail
                refine hor.mono ?_
                rintro e w13 ⟨v13, o13, rfl, hr13, s13⟩
                replace hl8 := hl8.frame s13 (by simp)
                replace hB8 := hB8.step s13 (by simp)
                have hl8' : Rd w13 o13 21 1 (.slice a16 p c16) l.length (ints l) := by rw [HLN.out]; exact hl8.rd
                have hin := ints_ok hr13.rd hl8' (by show l.length ≤ 1000000; rw [HLN.out]; omega) (by rw [HLN.out]; omega)
                clear hor hl8' hr13
                go_wp2_with fail
                refine hin.mono ?_
                rintro e w14 ⟨rfl, s14⟩
                go_wp2_with fail
                go_ret
                exact ⟨rfl, (hB8.step s14 (by simp)).below⟩
end Go.Proofs.Ytaledmoakhlmgaa
