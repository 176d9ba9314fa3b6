/- InsBounds: the walk. -/
import Derived.Test.YtglchagfclafgaaDoorBoundsL
import Derived.Test.YtglchagfclafgaaDoorCalmA
import Derived.Deep.CutRange
namespace Go.Proofs.YtglchagfclafgaaDoor
open Go Go.RowKit
set_option linter.unusedSimpArgs false
set_option linter.unusedVariables false

theorem infoIns : (Tryd.prog.info? 36).map (fun i => (i.zero, i.size, i.bytes)) = some (some (.agg #[.int .u8 0, .int .i64 0, .int .i64 0]), 3, 24) := by kernel_rfl
theorem icells_set : ∀ (l : List In) (p : Nat) (x : In), (((icells l).set (p * 3) (.int .u8 x.op)).set (p * 3 + 1) (.int .i64 x.a)).set (p * 3 + 2) (.int .i64 x.w) = icells (l.set p x)
  | [], p, x => by simp [icells]
  | y :: r, 0, x => by simp [icells, In.cells]
  | y :: r, p + 1, x => by
    have ih := icells_set r p x
    have e : ∀ (z : In) (l : List In), icells (z :: l) = .int .u8 z.op :: .int .i64 z.a :: .int .i64 z.w :: icells l := fun z l => rfl
    rw [List.set_cons_succ, e, e, ← ih, show (p + 1) * 3 = p * 3 + 1 + 1 + 1 by omega]
    rfl
theorem zero_cells : (madeCells (Value.agg #[.int .u8 0, .int .i64 0, .int .i64 0]).cells 1503).toList = icells (List.replicate 501 ⟨0, 0, 0⟩) := by
  apply List.ext_getElem?
  intro i
  rcases Nat.lt_or_ge i 1503 with h | h
  · have hq : (List.replicate 501 (⟨0, 0, 0⟩ : In))[i / 3]? = some ⟨0, 0, 0⟩ := by rw [List.getElem?_replicate, if_pos (by omega)]
    have h1 := icells_at hq (j := i % 3) (by omega)
    rw [show 3 * (i / 3) + i % 3 = i by omega] at h1
    rw [h1]
    have h2 : (madeCells (Value.agg #[.int .u8 0, .int .i64 0, .int .i64 0]).cells 1503).toList[i]? = some ((Value.agg #[.int .u8 0, .int .i64 0, .int .i64 0]).cells[i % 3]!) := by
      rw [Array.getElem?_toList]
      unfold madeCells
      rw [Array.getElem?_map, Array.getElem?_range, if_pos h]
      rfl
    rw [h2]
    obtain h3 | h3 | h3 : i % 3 = 0 ∨ i % 3 = 1 ∨ i % 3 = 2 := by omega
    all_goals rw [h3]; rfl
  · rw [List.getElem?_eq_none (by rw [Array.length_toList, size_madeCells]; exact h), List.getElem?_eq_none (by rw [icells_len, List.length_replicate]; omega)]
theorem mkI (w : World) : ∃ Z : Array Value, Z.toList = icells (List.replicate 501 ⟨0, 0, 0⟩) ∧ ∀ w : World, (Instr.makeSlice 22 (.int .i64 501) (.int .i64 501)).run Tryd.prog w = .ok (.slice (some ⟨w.heap.size, 0, none⟩) 501 501) (w.alloc (.cells Z 36)) := by
  obtain ⟨inf, hi, hz, hsz, hby⟩ := info_parts infoIns
  refine ⟨_, zero_cells, fun w => ?_⟩
  have := run_makeSlice (P := Tryd.prog) w 22 36 inf (.agg #[.int .u8 0, .int .i64 0, .int .i64 0]) Tryd.underlying22 hi hz .i64 .i64 501 501 (by omega) (by omega) (by rw [hsz]; decide) (by rw [hby]; decide) (by omega)
  rw [this, hsz]
  rfl
theorem fresh_past (w : World) (o : Owner) (ob : Obj) (cs : Array Value) (hc : cs.size = 1 * 3) : Rd ((w.alloc ob).alloc (.cells cs 36)) o (o (w.heap.size + 1)) 3 (.slice (some ⟨w.heap.size + 1, 0, none⟩) 1 1) 1 cs.toList := by
  have := Rd.fresh (w.alloc ob) o 3 36 cs 1 (by decide) hc
  rw [World.size_alloc] at this
  exact this

set_option maxRecDepth 100000 in
set_option maxHeartbeats 16000000 in
theorem bounds_walk {w : World} (hwl : WL w Z0) {a0 a1 a2 : Int} (h0 : 0 ≤ a0 ∧ a0 ≤ 255) (h1 : 0 ≤ a1 ∧ a1 ≤ 255) (h2 : 0 ≤ a2 ∧ a2 ≤ 255) :
    Calls Tryd.prog 7 #[.int .u8 a0, .int .u8 a1, .int .u8 a2] w fun e w' => e = .returned (.bool true) ∧ Below w.heap.size w w' := by
  have hsh := shown_calm hwl
  obtain ⟨k, hk⟩ : ∃ k : Nat, a0 % 51 = k := ⟨(a0 % 51).toNat, by omega⟩
  have e51 : a0.tmod 51 = (k : Int) := by rw [Int.tmod_eq_emod_of_nonneg h0.1]; exact hk
  have hk50 : k ≤ 50 := by omega
  have wk : IntKind.i64.wrap (k : Int) = k := by simp [IntKind.wrap, IntKind.signed, IntKind.bits]; omega
  obtain ⟨h11, h12⟩ := h1
  obtain ⟨h21, h22⟩ := h2
  clear hk h0 hwl
  go_enter Tryd.func7, Tryd.ntmps7
  go_wp2_with fail
  refine hsh.mono ?_
  rintro e w2 ⟨rfl, s2⟩
  clear hsh
  go_wp2_with fail
  have s3 : Step [50] w Z0 (w2.alloc (.cells #[.int .u8 12, .int .i64 2, .int .i64 0] 36)) (Z0.set w2.heap.size 50) := (((s2 Z0).nil).alloc _).give (s2 Z0).size _
  have hT3 : Row (w2.alloc (.cells #[.int .u8 12, .int .i64 2, .int .i64 0] 36)) (Z0.set w2.heap.size 50) 50 36 3 (.slice (some ⟨w2.heap.size, 0, none⟩) 1 1) (0 + 1) (icells (headI 0)) := Row.made w2 Z0 50 36 3 #[.int .u8 12, .int .i64 2, .int .i64 0] 1 (by decide) rfl
  go_loopg [9, 21] (k + 1) (fun gm a9 a21 wr => ∃ (q : Nat) (O : Owner), Hid (gm = k + 1 - q) ∧ q ≤ k ∧ a21 = .int .i64 (q : Int) ∧ Row wr O 50 36 3 a9 (q + 1) (icells (headI q)) ∧ Step [50] w Z0 wr O)
  case atStart => exact ⟨0, _, Lib.hid (by omega), by omega, rfl, hT3, s3⟩
  case round =>
    clear hT3 s3
    obtain ⟨q, O, HGM, hq, rfl, hT, st⟩ := hrel
    obtain ⟨aT, cT, rfl, -, -⟩ := hT.slice
    rcases Nat.lt_or_ge q k with hqk | hqk
    · have hqi : (q : Int) < k := by omega
      obtain ⟨r, hr⟩ : ∃ r : Nat, q % 5 = r := ⟨_, rfl⟩
      have hr5 : r < 5 := by omega
      have e5 : (q : Int).tmod 5 = (r : Int) := by rw [Int.tmod_eq_emod_of_nonneg (by omega)]; omega
      have h63 : (q + 1) + 1 ≤ 9223372036854775807 := by omega
      have hby : ((q + 1) + 1) * 24 ≤ 140737488355328 := by omega
      have HR := Lib.hid hr
      have hn1 := fun (cs : Array Value) (hc : cs.size = 1 * 3) => fresh_past wr O (.cells #[.int .u8 1, .int .i64 0, .int .i64 (-3), .int .u8 2, .int .i64 4, .int .i64 0, .int .u8 13, .int .i64 1, .int .i64 0, .int .u8 14, .int .i64 0, .int .i64 0, .int .u8 11, .int .i64 0, .int .i64 0] 36) cs hc
      have hT1 := fun (cs : Array Value) => hT.frame (((Step.refl [] wr O).alloc (.cells #[.int .u8 1, .int .i64 0, .int .i64 (-3), .int .u8 2, .int .i64 4, .int .i64 0, .int .u8 13, .int .i64 1, .int .i64 0, .int .u8 14, .int .i64 0, .int .i64 0, .int .u8 11, .int .i64 0, .int .i64 0] 36)).alloc (.cells cs 36)) (by simp)
      clear hr
      obtain rfl | rfl | rfl | rfl | rfl : r = 0 ∨ r = 1 ∨ r = 2 ∨ r = 3 ∨ r = 4 := by omega
      · go_wp2_with (at_builtin; refine wpList_app rfl (.tmp 24) (.tmp 35) 22 rfl Tryd.underlying22 infoIns rfl rfl (hT1 _) rfl (hn1 _ rfl) (by simp [Value.oneCell']) h63 hby ?_)
        intro vx w6 o6 hx6 s6
        have hfv : fiveI q = ⟨1, 0, (-3)⟩ := by unfold fiveI; rw [HR.out]; rfl
        have hx7 : Row w6 o6 50 36 3 vx ((q + 1) + 1) (icells (headI (q + 1))) := by
          rw [headI_succ, icells_app, hfv]
          exact hx6
        have S6 := st.trans ((((Step.refl [50] wr O).alloc (.cells #[.int .u8 1, .int .i64 0, .int .i64 (-3), .int .u8 2, .int .i64 4, .int .i64 0, .int .u8 13, .int .i64 1, .int .i64 0, .int .u8 14, .int .i64 0, .int .i64 0, .int .u8 11, .int .i64 0, .int .i64 0] 36)).alloc (.cells #[.int .u8 1, .int .i64 0, .int .i64 (-3)] 36)).trans s6)
        clear hT hT1 hn1 hx6 s6 hfv
        go_wp2_with fail
        go_roundg (k + 1 - (q + 1))
        case measure => rw [HGM.out]; omega
        case rel => exact ⟨q + 1, o6, Lib.hid rfl, hqk, by go_num, hx7, S6⟩
      · go_wp2_with (at_builtin; refine wpList_app rfl (.tmp 24) (.tmp 35) 22 rfl Tryd.underlying22 infoIns rfl rfl (hT1 _) rfl (hn1 _ rfl) (by simp [Value.oneCell']) h63 hby ?_)
        intro vx w6 o6 hx6 s6
        have hfv : fiveI q = ⟨2, 4, 0⟩ := by unfold fiveI; rw [HR.out]; rfl
        have hx7 : Row w6 o6 50 36 3 vx ((q + 1) + 1) (icells (headI (q + 1))) := by
          rw [headI_succ, icells_app, hfv]
          exact hx6
        have S6 := st.trans ((((Step.refl [50] wr O).alloc (.cells #[.int .u8 1, .int .i64 0, .int .i64 (-3), .int .u8 2, .int .i64 4, .int .i64 0, .int .u8 13, .int .i64 1, .int .i64 0, .int .u8 14, .int .i64 0, .int .i64 0, .int .u8 11, .int .i64 0, .int .i64 0] 36)).alloc (.cells #[.int .u8 2, .int .i64 4, .int .i64 0] 36)).trans s6)
        clear hT hT1 hn1 hx6 s6 hfv
        go_wp2_with fail
        go_roundg (k + 1 - (q + 1))
        case measure => rw [HGM.out]; omega
        case rel => exact ⟨q + 1, o6, Lib.hid rfl, hqk, by go_num, hx7, S6⟩
      · go_wp2_with (at_builtin; refine wpList_app rfl (.tmp 24) (.tmp 35) 22 rfl Tryd.underlying22 infoIns rfl rfl (hT1 _) rfl (hn1 _ rfl) (by simp [Value.oneCell']) h63 hby ?_)
        intro vx w6 o6 hx6 s6
        have hfv : fiveI q = ⟨13, 1, 0⟩ := by unfold fiveI; rw [HR.out]; rfl
        have hx7 : Row w6 o6 50 36 3 vx ((q + 1) + 1) (icells (headI (q + 1))) := by
          rw [headI_succ, icells_app, hfv]
          exact hx6
        have S6 := st.trans ((((Step.refl [50] wr O).alloc (.cells #[.int .u8 1, .int .i64 0, .int .i64 (-3), .int .u8 2, .int .i64 4, .int .i64 0, .int .u8 13, .int .i64 1, .int .i64 0, .int .u8 14, .int .i64 0, .int .i64 0, .int .u8 11, .int .i64 0, .int .i64 0] 36)).alloc (.cells #[.int .u8 13, .int .i64 1, .int .i64 0] 36)).trans s6)
        clear hT hT1 hn1 hx6 s6 hfv
        go_wp2_with fail
        go_roundg (k + 1 - (q + 1))
        case measure => rw [HGM.out]; omega
        case rel => exact ⟨q + 1, o6, Lib.hid rfl, hqk, by go_num, hx7, S6⟩
      · go_wp2_with (at_builtin; refine wpList_app rfl (.tmp 24) (.tmp 35) 22 rfl Tryd.underlying22 infoIns rfl rfl (hT1 _) rfl (hn1 _ rfl) (by simp [Value.oneCell']) h63 hby ?_)
        intro vx w6 o6 hx6 s6
        have hfv : fiveI q = ⟨14, 0, 0⟩ := by unfold fiveI; rw [HR.out]; rfl
        have hx7 : Row w6 o6 50 36 3 vx ((q + 1) + 1) (icells (headI (q + 1))) := by
          rw [headI_succ, icells_app, hfv]
          exact hx6
        have S6 := st.trans ((((Step.refl [50] wr O).alloc (.cells #[.int .u8 1, .int .i64 0, .int .i64 (-3), .int .u8 2, .int .i64 4, .int .i64 0, .int .u8 13, .int .i64 1, .int .i64 0, .int .u8 14, .int .i64 0, .int .i64 0, .int .u8 11, .int .i64 0, .int .i64 0] 36)).alloc (.cells #[.int .u8 14, .int .i64 0, .int .i64 0] 36)).trans s6)
        clear hT hT1 hn1 hx6 s6 hfv
        go_wp2_with fail
        go_roundg (k + 1 - (q + 1))
        case measure => rw [HGM.out]; omega
        case rel => exact ⟨q + 1, o6, Lib.hid rfl, hqk, by go_num, hx7, S6⟩
      · go_wp2_with (at_builtin; refine wpList_app rfl (.tmp 24) (.tmp 35) 22 rfl Tryd.underlying22 infoIns rfl rfl (hT1 _) rfl (hn1 _ rfl) (by simp [Value.oneCell']) h63 hby ?_)
        intro vx w6 o6 hx6 s6
        have hfv : fiveI q = ⟨11, 0, 0⟩ := by unfold fiveI; rw [HR.out]; rfl
        have hx7 : Row w6 o6 50 36 3 vx ((q + 1) + 1) (icells (headI (q + 1))) := by
          rw [headI_succ, icells_app, hfv]
          exact hx6
        have S6 := st.trans ((((Step.refl [50] wr O).alloc (.cells #[.int .u8 1, .int .i64 0, .int .i64 (-3), .int .u8 2, .int .i64 4, .int .i64 0, .int .u8 13, .int .i64 1, .int .i64 0, .int .u8 14, .int .i64 0, .int .i64 0, .int .u8 11, .int .i64 0, .int .i64 0] 36)).alloc (.cells #[.int .u8 11, .int .i64 0, .int .i64 0] 36)).trans s6)
        clear hT hT1 hn1 hx6 s6 hfv
        go_wp2_with fail
        go_roundg (k + 1 - (q + 1))
        case measure => rw [HGM.out]; omega
        case rel => exact ⟨q + 1, o6, Lib.hid rfl, hqk, by go_num, hx7, S6⟩
    obtain rfl : q = k := by omega
    clear hq hqk HGM
    have hn1 := fun (cs : Array Value) (hc : cs.size = 1 * 3) => Rd.fresh wr O 3 36 cs 1 (by decide) hc
    have hT1 := fun (cs : Array Value) => hT.frame ((Step.refl [] wr O).alloc (.cells cs 36)) (by simp)
    have h63 : (q + 1) + 1 ≤ 9223372036854775807 := by omega
    have hby : ((q + 1) + 1) * 24 ≤ 140737488355328 := by omega
    go_upto_region 10 with (at_builtin; refine wpList_app rfl (.tmp 38) (.tmp 40) 22 rfl Tryd.underlying22 infoIns rfl rfl (hT1 _) rfl (hn1 _ rfl) (by simp [Value.oneCell']) h63 hby ?_; intro vx w6 o6 hx6 s6; have hx7 : Row w6 o6 50 36 3 vx (q + 2) (icells (wellI q)) := (by unfold wellI; rw [icells_app]; exact hx6); have S6 := st.trans (((Step.refl [50] wr O).alloc (.cells #[.int .u8 15, .int .i64 0, .int .i64 0] 36)).trans s6); obtain ⟨gT, cT2, rfl, hTx⟩ := hx7.rowx (by omega))
    clear hT hT1 hn1 hx6 s6 st h63 hby
    have hwl4 : mayB (wellI q) 4 = true := mayB_true.2 (wellI_may q (by omega))
    have hlen := wellI_len q
    have hTz : Rd w6 Z0 0 3 (.slice (some ⟨gT, 0, none⟩) (q + 2) cT2) (wellI q).length (icells (wellI q)) := by rw [hlen]; exact hx7.rd.zero
    have hM4 := fun W (h : Calm w6 W) => may_calm (words := 4) (hTz.calm h) (wellI_ok q) (by rw [hlen]; omega) ⟨by decide, by decide⟩
    have hM3 := fun W (h : Calm w6 W) => may_calm (words := 3) (hTz.calm h) (wellI_ok q) (by rw [hlen]; omega) ⟨by decide, by decide⟩
    rw [hwl4] at hM4
    go_cut [53] from 42 to 53 (fun c wx => c = .bool false ∧ Calm w6 wx)
    case first =>
      by_cases hk2 : q < 2
      · have hb3 : mayB (wellI q) 3 = true := mayB_true.2 ((wellI_less q (by omega)).2 hk2)
        rw [hb3] at hM3
        have hk3 : (q : Int) + 2 < 4 := by omega
        have t1 : True := trivial
        clear hb3 hk2 hTz hx7 hTx hwl4
        go_wp2_with (first
          | (go_at_call 13; have _t := t1; refine (hM4 _ (Calm.refl _)).mono ?_; rintro e w7 ⟨rfl, s7⟩; clear _t t1)
          | (go_at_call 13; refine (hM3 _ s7).mono ?_; rintro e w8 ⟨rfl, s8⟩))
        go_meet
        case rel => exact ⟨rfl, s7.trans s8⟩
      · have hb3 : mayB (wellI q) 3 = false := mayB_false.2 (fun h => hk2 ((wellI_less q (by omega)).1 h))
        rw [hb3] at hM3
        have hk3 : ¬ (q : Int) + 2 < 4 := by omega
        have t1 : True := trivial
        clear hb3 hk2 hTz hx7 hTx hwl4
        go_wp2_with (first
          | (go_at_call 13; have _t := t1; refine (hM4 _ (Calm.refl _)).mono ?_; rintro e w7 ⟨rfl, s7⟩; clear _t t1)
          | (go_at_call 13; refine (hM3 _ s7).mono ?_; rintro e w8 ⟨rfl, s8⟩))
        go_meet
        case rel => exact ⟨by simp; omega, s7.trans s8⟩
    case rest =>
      obtain ⟨rfl, sc⟩ := hcut
      have hTx2 := hTx.frame (sc o6) (by simp)
      have S7 := S6.trans (sc o6).nil
      clear hM4 hM3 hTz hwl4 hx7 hTx S6 sc
      go_upto_region 13 with (fail)
      obtain ⟨nn, hnn⟩ : ∃ nn : Int, (q : Int) + 2 = nn := ⟨_, rfl⟩
      have hnn2 : ((q + 2 : Nat) : Int) = nn := by omega
      have hBd := Rd.fresh wc Z0 3 36 #[.int .u8 0, .int .i64 0, .int .i64 0, .int .u8 16, .int .i64 0, .int .i64 0, .int .u8 255, .int .i64 0, .int .i64 0, .int .u8 2, .int .i64 0, .int .i64 0, .int .u8 2, .int .i64 5, .int .i64 0, .int .u8 3, .int .i64 nn, .int .i64 0, .int .u8 4, .int .i64 (-1), .int .i64 0, .int .u8 13, .int .i64 2, .int .i64 0, .int .u8 14, .int .i64 (-1), .int .i64 0, .int .u8 12, .int .i64 17, .int .i64 0, .int .u8 11, .int .i64 0, .int .i64 1, .int .u8 11, .int .i64 1, .int .i64 0, .int .u8 1, .int .i64 1, .int .i64 0, .int .u8 15, .int .i64 1, .int .i64 0] 14 (by decide) rfl
      have hBd2 : Rd _ Z0 0 3 (.slice (some ⟨wc.heap.size, 0, none⟩) 14 14) 14 (icells (bads nn)) := hBd
      rw [hnn]
      have sB : Step [] wc o6 (wc.alloc (.cells #[.int .u8 0, .int .i64 0, .int .i64 0, .int .u8 16, .int .i64 0, .int .i64 0, .int .u8 255, .int .i64 0, .int .i64 0, .int .u8 2, .int .i64 0, .int .i64 0, .int .u8 2, .int .i64 5, .int .i64 0, .int .u8 3, .int .i64 nn, .int .i64 0, .int .u8 4, .int .i64 (-1), .int .i64 0, .int .u8 13, .int .i64 2, .int .i64 0, .int .u8 14, .int .i64 (-1), .int .i64 0, .int .u8 12, .int .i64 17, .int .i64 0, .int .u8 11, .int .i64 0, .int .i64 1, .int .u8 11, .int .i64 1, .int .i64 0, .int .u8 1, .int .i64 1, .int .i64 0, .int .u8 15, .int .i64 1, .int .i64 0] 36)) o6 := (Step.refl _ _ _).alloc _
      have hTx3 := hTx2.frame sB (by simp)
      have S8 := S7.trans sB.nil
      generalize wc.alloc (.cells #[.int .u8 0, .int .i64 0, .int .i64 0, .int .u8 16, .int .i64 0, .int .i64 0, .int .u8 255, .int .i64 0, .int .i64 0, .int .u8 2, .int .i64 0, .int .i64 0, .int .u8 2, .int .i64 5, .int .i64 0, .int .u8 3, .int .i64 nn, .int .i64 0, .int .u8 4, .int .i64 (-1), .int .i64 0, .int .u8 13, .int .i64 2, .int .i64 0, .int .u8 14, .int .i64 (-1), .int .i64 0, .int .u8 12, .int .i64 17, .int .i64 0, .int .u8 11, .int .i64 0, .int .i64 1, .int .u8 11, .int .i64 1, .int .i64 0, .int .u8 1, .int .i64 1, .int .i64 0, .int .u8 15, .int .i64 1, .int .i64 0] 36) = Wb at *
      generalize wc.heap.size = gB at *
      have nn2 : 2 ≤ nn ∧ nn ≤ 52 := by omega
      obtain ⟨p, hp⟩ : ∃ p : Nat, a1 % nn = p := ⟨(a1 % nn).toNat, by have := Int.emod_nonneg a1 (by omega : nn ≠ 0); omega⟩
      have hpn : p < q + 2 := by have := Int.emod_lt_of_pos a1 (by omega : 0 < nn); omega
      have ep : a1.tmod nn = (p : Int) := by rw [Int.tmod_eq_emod_of_nonneg h11]; exact hp
      obtain ⟨j, hj⟩ : ∃ j : Nat, a2 % 14 = j := ⟨(a2 % 14).toNat, by omega⟩
      have hj14 : j < 14 := by omega
      have ej : a2.tmod 14 = (j : Int) := by rw [Int.tmod_eq_emod_of_nonneg h21]; exact hj
      have w1 : IntKind.i64.wrap a1 = a1 := by simp [IntKind.wrap, IntKind.signed, IntKind.bits]; omega
      have w2' : IntKind.i64.wrap a2 = a2 := by simp [IntKind.wrap, IntKind.signed, IntKind.bits]; omega
      have hnz : (nn == 0) = false := by rw [beq_eq_false_iff_ne]; omega
      obtain ⟨-, -, hcB⟩ := hBd2.at0 (by decide)
      obtain ⟨c0, c1, c2⟩ := hcB j _ (bads_at hj14)
      have hbok := badI_ok (n := nn) (by omega) j
      have HSP : Hid (¬ mayP ((wellI q).set p (badI nn j)) 4) := Lib.hid (by rw [← hnn2]; exact spoilt_not hpn)
      obtain ⟨bd, hbd⟩ : ∃ bd, badI nn j = bd := ⟨_, rfl⟩
      rw [hbd] at c0 c1 c2 HSP hbok
      have HBOK := Lib.hid hbok
      simp only [Nat.zero_add] at c0 c1 c2
      obtain ⟨xp, hxp⟩ : ∃ xp, (wellI q)[p]? = some xp := ⟨_, List.getElem?_eq_getElem (by rw [hlen]; exact hpn)⟩
      obtain ⟨-, -, hcT⟩ := hTx3.rd.at0 (by omega)
      obtain ⟨d0, d1, d2⟩ := hcT p xp hxp
      simp only [Nat.zero_add] at d0 d1 d2
      have hcl := hTx3.le
      have f0 := (hTx3.spare (j := p * 3) (by omega)).2
      have f1 := (hTx3.spare (j := p * 3 + 1) (by omega)).2
      have f2 := (hTx3.spare (j := p * 3 + 2) (by omega)).2
      have hpi : (p : Int) < nn := by omega
      have hji : (j : Int) < 14 := by omega
      have HPN := Lib.hid hpn
      have hpq : (p : Int) < (q + 2 : Nat) := by omega
      clear hcB hcT hBd hBd2 hbd hbok hp hj hTx2 S7 sB hxp
      have hT9 := ((hTx3.setElem (p * 3) (.int .u8 bd.op)).setElem (p * 3 + 1) (.int .i64 bd.a)).setElem (p * 3 + 2) (.int .i64 bd.w)
      rw [icells_set] at hT9
      have own9 := hTx3.own
      have S9 := ((S8.setCell (a := ⟨gT, p * 3, none⟩) (fun h => by have := S8.own gT h; rw [own9] at this; cases this) (.int .u8 bd.op)).setCell (a := ⟨gT, p * 3 + 1, none⟩) (fun h => by have := S8.own gT h; rw [own9] at this; cases this) (.int .i64 bd.a)).setCell (a := ⟨gT, p * 3 + 2, none⟩) (fun h => by have := S8.own gT h; rw [own9] at this; cases this) (.int .i64 bd.w)
      clear hTx3 own9 S8
      go_region
      generalize ((Wb.setCell ⟨gT, p * 3, none⟩ (.int .u8 bd.op)).setCell ⟨gT, p * 3 + 1, none⟩ (.int .i64 bd.a)).setCell ⟨gT, p * 3 + 2, none⟩ (.int .i64 bd.w) = Wc at *
      have hTd := (hT9.frame (Step.refl [] Wc o6).drew (by simp)).rd.zero
      have Sd := S9.drew
      clear c0 c1 c2 d0 d1 d2 f0 f1 f2 hT9 S9 hcl
      generalize Wc.drew = Wd at *
      have hl9 : ((wellI q).set p bd).length = q + 2 := by rw [List.length_set, hlen]
      have hok9 : ∀ x ∈ (wellI q).set p bd, x.ok := fun x hx => by
        rcases List.mem_or_eq_of_mem_set hx with h | h
        · exact wellI_ok q x h
        · rw [h]; exact HBOK.out
      have hTd9 : Rd Wd Z0 0 3 (.slice (some ⟨gT, 0, none⟩) (q + 2) cT2) ((wellI q).set p bd).length (icells ((wellI q).set p bd)) := by rw [hl9]; exact hTd
      have hM := may_calm (words := 4) hTd9 hok9 (by rw [hl9]; omega) ⟨by decide, by decide⟩
      rw [mayB_false.2 HSP.out] at hM
      have hM0 := fun W : World => may_calm (w := W) (v := .slice none 0 0) (l := []) (words := 4) (Rd.nil _ _ _ _ _ _ (by decide)) (by simp) (by decide) ⟨by decide, by decide⟩
      rw [mayB_false.2 (fun h => notGood_nil h.1)] at hM0
      obtain ⟨Z, hZ, hmk⟩ := mkI Wd
      have hZs : Z.size = 501 * 3 := by have := congrArg List.length hZ; rw [icells_len] at this; simpa using this
      have hM5 := fun W : World => may_calm (w := W.alloc (.cells Z 36)) (v := .slice (some ⟨W.heap.size, 0, none⟩) 501 501) (l := List.replicate 501 ⟨0, 0, 0⟩) (words := 4) (by
        have := Rd.fresh W Z0 3 36 Z 501 (by decide) hZs
        rw [hZ] at this
        rw [List.length_replicate]
        exact this) (fun x hx => by
          obtain rfl := (List.mem_replicate.1 hx).2
          exact ⟨⟨by decide, by decide⟩, ⟨by decide, by decide⟩, ⟨by decide, by decide⟩⟩) (by simp) ⟨by decide, by decide⟩
      rw [mayB_false.2 (fun h => by have := h.2.1; rw [List.length_replicate] at this; omega)] at hM5
      have t1 : True := trivial
      have t2 : True := trivial
      clear hTd hTd9 hok9 hl9 hZ hZs HSP HBOK
      go_wp2_with (first
        | (go_at_call 13; have _t := t1; refine hM.mono ?_; rintro e w7 ⟨rfl, s7⟩; clear _t t1)
        | (go_at_call 13; have _t := t2; refine (hM0 _).mono ?_; rintro e w8 ⟨rfl, s8⟩; clear _t t2)
        | (go_at_call 13; refine (hM5 _).mono ?_; rintro e w9 ⟨rfl, s9⟩))
      go_ret
      exact ⟨by simp, ((Base.start w).step (Sd.trans ((((s7 o6).trans (s8 o6)).alloc _).trans (s9 o6)).nil) (by decide)).below⟩
end Go.Proofs.YtglchagfclafgaaDoor
