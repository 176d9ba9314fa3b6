/- InsLoops: the walk. -/
import Derived.Test.YtglchagfclafgaaDoorNestL
import Derived.Test.YtglchagfclafgaaDoorCalmA
import Derived.Deep.CutRange
namespace Go.Proofs.YtglchagfclafgaaDoor
open Go Go.RowKit
set_option linter.unusedSimpArgs false
set_option linter.unusedVariables false

theorem infoIns : (Tryd.prog.info? 36).map (fun i => (i.zero, i.size, i.bytes)) = some (some (.agg #[.int .u8 0, .int .i64 0, .int .i64 0]), 3, 24) := by kernel_rfl
theorem icells_takeN (l : List In) (k : Nat) : (icells l).take (k * 3) = icells (l.take k) := icells_take l k
theorem pre_cut {w : World} {o : Owner} {gT r cT n : Nat} {asks : Bool} {s : List In} (h : Rowx w o 50 36 3 gT (r + 1) cT (icells (preL n asks r ++ s))) {k : Nat} (hk : k ≤ r) : Rd w o 50 3 (.slice (some ⟨gT, 0, none⟩) k cT) k (icells (preL n asks k)) := by
  have h1 := (h.cut (k := k) (by omega)).rd
  have e : (icells (preL n asks r ++ s)).take (k * 3) = icells (preL n asks k) := by
    rw [icells_takeN, preL_take hk]
  rwa [e] at h1
theorem Rd.one {w : World} {size n cap : Nat} {a : Option Addr} {xs : List Value} (h : Rd w Z0 0 size (.slice a n cap) n xs) (hn : 0 < n) : ∃ b off, a = some ⟨b, off, none⟩ ∧ ∀ j u, xs[j]? = some u → w.cell? ⟨b, off + j, none⟩ = some u := by
  obtain ⟨a', c', hv, h1, h2, h3, h4⟩ := h
  simp only [Value.slice.injEq, true_and] at hv
  obtain ⟨rfl, rfl⟩ := hv
  obtain ⟨b, off, ha, _, _, hc⟩ := h4 hn
  exact ⟨b, off, ha, hc⟩

set_option maxRecDepth 100000 in
set_option maxHeartbeats 16000000 in
theorem nest_walk {w : World} (hwl : WL w Z0) {a0 : Int} (h0 : 0 ≤ a0 ∧ a0 ≤ 255) (asks : Bool) :
    Calls Tryd.prog 6 #[.int .u8 a0, .bool asks] w fun e w' => e = .returned (.bool true) ∧ Below w.heap.size w w' := by
  have hsh := shown_calm hwl
  obtain ⟨k, hk⟩ : ∃ k : Nat, a0 % 20 = k := ⟨(a0 % 20).toNat, by omega⟩
  have e20 : a0.tmod 20 = (k : Int) := by rw [Int.tmod_eq_emod_of_nonneg h0.1]; exact hk
  have wk : IntKind.i64.wrap (k : Int) = k := by simp [IntKind.wrap, IntKind.signed, IntKind.bits]; omega
  obtain ⟨n, hn⟩ : ∃ n, k + 1 = n := ⟨_, rfl⟩
  have ekn : (k : Int) + 1 = (n : Int) := by omega
  have n1 : 1 ≤ n := by omega
  have n20 : n ≤ 20 := by omega
  clear hk h0 hwl hn
  go_enter Tryd.func6, Tryd.ntmps6
  go_wp2_with fail
  refine hsh.mono ?_
  rintro e w2 ⟨rfl, s2⟩
  clear hsh
  have st2 : Step [50] w Z0 w2 Z0 := (s2 Z0).nil
  clear s2
  go_wp2_with fail
  clear ekn
  go_loopg [7, 28] (n + 1) (fun gm a7 a28 wr => ∃ (q : Nat) (O : Owner), Hid (gm = n + 1 - q) ∧ q ≤ n ∧ a28 = .int .i64 (q : Int) ∧ Row wr O 50 36 3 a7 q (icells (preL n asks q)) ∧ Step [50] w Z0 wr O)
  case atStart => exact ⟨0, Z0, Lib.hid (by omega), by omega, rfl, Row.nil _ _ _ _ _ _, st2⟩
  case round =>
    clear st2
    obtain ⟨q, O, HGM, hq, rfl, hT, st⟩ := hrel
    obtain ⟨aT, cT, rfl, -, -⟩ := hT.slice
    rcases Nat.lt_or_ge q n with hqn | hqn
    · have hqi : (q : Int) < n := by omega
      obtain ⟨r, hr⟩ : ∃ r, 3 * n = r := ⟨_, rfl⟩
      have er : 3 * (n : Int) = (r : Int) := by omega
      obtain ⟨ri, hri⟩ : ∃ ri, 3 * n - q = ri := ⟨_, rfl⟩
      have eri : (r : Int) - (q : Int) = (ri : Int) := by omega
      have hb : bodyI n asks q = if asks then ⟨6, (ri : Int), 0⟩ else ⟨5, 0, 0⟩ := by unfold bodyI; rw [if_pos hqn, hri]
      have HB := Lib.hid hb
      have hn1 := fun (cs : Array Value) (hc : cs.size = 1 * 3) => Rd.fresh wr O 3 36 cs 1 (by decide) hc
      have hT1 := fun (cs : Array Value) => hT.frame ((Step.refl [] wr O).alloc (.cells cs 36)) (by simp)
      have h63 : q + 1 ≤ 9223372036854775807 := by omega
      have hby : (q + 1) * 24 ≤ 140737488355328 := by omega
      clear hr hri hb
      cases asks
      · skip
        go_wp2_with (at_builtin; refine wpList_app rfl (.tmp 36) (.tmp 40) 22 rfl Tryd.underlying22 infoIns rfl rfl (hT1 _) rfl (hn1 _ rfl) (by simp [Value.oneCell']) h63 hby ?_)
        intro vx w6 o6 hx6 s6
        have hx7 : Row w6 o6 50 36 3 vx (q + 1) (icells (preL n false (q + 1))) := by
          rw [preL_succ, icells_app, HB.out]
          exact hx6
        have S6 := st.trans (((Step.refl [50] wr O).alloc _).trans s6)
        clear hT hT1 hn1 hx6 s6
        go_wp2_with fail
        go_roundg (n + 1 - (q + 1))
        case measure => rw [HGM.out]; omega
        case rel => exact ⟨q + 1, o6, Lib.hid rfl, hqn, by go_num, hx7, S6⟩
      · skip
        go_wp2_with (at_builtin; refine wpList_app rfl (.tmp 36) (.tmp 40) 22 rfl Tryd.underlying22 infoIns rfl rfl (hT1 _) rfl (hn1 _ rfl) (by simp [Value.oneCell']) h63 hby ?_)
        intro vx w6 o6 hx6 s6
        have hx7 : Row w6 o6 50 36 3 vx (q + 1) (icells (preL n true (q + 1))) := by
          rw [preL_succ, icells_app, HB.out]
          exact hx6
        have S6 := st.trans (((Step.refl [50] wr O).alloc _).trans s6)
        clear hT hT1 hn1 hx6 s6
        go_wp2_with fail
        go_roundg (n + 1 - (q + 1))
        case measure => rw [HGM.out]; omega
        case rel => exact ⟨q + 1, o6, Lib.hid rfl, hqn, by go_num, hx7, S6⟩
    obtain rfl : q = n := by omega
    clear hq hqn HGM
    go_wp2_with fail
    go_loopg [7, 44] (q + 1) (fun gm a7 a44 wr => ∃ (j : Nat) (O : Owner), Hid (gm = q + 1 - j) ∧ j ≤ q ∧ a44 = .int .i64 (j : Int) ∧ Row wr O 50 36 3 a7 (q + j) (icells (preL q asks (q + j))) ∧ Step [50] w Z0 wr O)
    case atStart => exact ⟨0, O, Lib.hid (by omega), by omega, rfl, hT, st⟩
    case round =>
      clear hT st
      obtain ⟨j, O, HGM, hj, rfl, hT, st⟩ := hrel
      obtain ⟨aT2, cT2, rfl, -, -⟩ := hT.slice
      rcases Nat.lt_or_ge j q with hjq | hjq
      · have hji : (j : Int) < q := by omega
        have hb : bodyI q asks (q + j) = ⟨11, 0, 0⟩ := by unfold bodyI; rw [if_neg (by omega), if_pos (by omega)]
        have HB := Lib.hid hb
        have hn1 := fun (cs : Array Value) (hc : cs.size = 1 * 3) => Rd.fresh wr O 3 36 cs 1 (by decide) hc
        have hT1 := fun (cs : Array Value) => hT.frame ((Step.refl [] wr O).alloc (.cells cs 36)) (by simp)
        have h63 : (q + j) + 1 ≤ 9223372036854775807 := by omega
        have hby : ((q + j) + 1) * 24 ≤ 140737488355328 := by omega
        clear hb
        go_wp2_with (at_builtin; refine wpList_app rfl (.tmp 46) (.tmp 48) 22 rfl Tryd.underlying22 infoIns rfl rfl (hT1 _) rfl (hn1 _ rfl) (by simp [Value.oneCell']) h63 hby ?_)
        intro vx w6 o6 hx6 s6
        have hx7 : Row w6 o6 50 36 3 vx (q + (j + 1)) (icells (preL q asks (q + (j + 1)))) := by
          rw [← Nat.add_assoc, preL_succ, icells_app, HB.out]
          exact hx6
        have S6 := st.trans (((Step.refl [50] wr O).alloc _).trans s6)
        clear hT hT1 hn1 hx6 s6
        go_wp2_with fail
        go_roundg (q + 1 - (j + 1))
        case measure => rw [HGM.out]; omega
        case rel => exact ⟨j + 1, o6, Lib.hid rfl, hjq, by go_num, hx7, S6⟩
      obtain rfl : j = q := by omega
      clear hj hjq HGM
      go_wp2_with fail
      go_loopg [7, 52] (j + 1) (fun gm a7 a52 wr => ∃ (i : Nat) (O : Owner), Hid (gm = j + 1 - i) ∧ i ≤ j ∧ a52 = .int .i64 (i : Int) ∧ Row wr O 50 36 3 a7 (j + j + i) (icells (preL j asks (j + j + i))) ∧ Step [50] w Z0 wr O)
      case atStart => exact ⟨0, O, Lib.hid (by omega), by omega, rfl, hT, st⟩
      case round =>
        clear hT st
        obtain ⟨i, O, HGM, hi, rfl, hT, st⟩ := hrel
        obtain ⟨aT3, cT3, rfl, -, -⟩ := hT.slice
        rcases Nat.lt_or_ge i j with hij | hij
        · have hii : (i : Int) < j := by omega
          obtain ⟨ni, hni⟩ : ∃ ni, 3 * j - (j + j + i) = ni := ⟨_, rfl⟩
          have eni : (j : Int) - (i : Int) = (ni : Int) := by omega
          have hb : bodyI j asks (j + j + i) = ⟨7, (ni : Int), 0⟩ := by unfold bodyI; rw [if_neg (by omega), if_neg (by omega), hni]
          have HB := Lib.hid hb
          have hn1 := fun (cs : Array Value) (hc : cs.size = 1 * 3) => Rd.fresh wr O 3 36 cs 1 (by decide) hc
          have hT1 := fun (cs : Array Value) => hT.frame ((Step.refl [] wr O).alloc (.cells cs 36)) (by simp)
          have h63 : (j + j + i) + 1 ≤ 9223372036854775807 := by omega
          have hby : ((j + j + i) + 1) * 24 ≤ 140737488355328 := by omega
          clear hb hni
          go_wp2_with (at_builtin; refine wpList_app rfl (.tmp 55) (.tmp 60) 22 rfl Tryd.underlying22 infoIns rfl rfl (hT1 _) rfl (hn1 _ rfl) (by simp [Value.oneCell']) h63 hby ?_)
          intro vx w6 o6 hx6 s6
          have hx7 : Row w6 o6 50 36 3 vx (j + j + (i + 1)) (icells (preL j asks (j + j + (i + 1)))) := by
            rw [← Nat.add_assoc, preL_succ, icells_app, HB.out]
            exact hx6
          have S6 := st.trans (((Step.refl [50] wr O).alloc _).trans s6)
          clear hT hT1 hn1 hx6 s6
          go_wp2_with fail
          go_roundg (j + 1 - (i + 1))
          case measure => rw [HGM.out]; omega
          case rel => exact ⟨i + 1, o6, Lib.hid rfl, hij, by go_num, hx7, S6⟩
        obtain rfl : i = j := by omega
        clear hi hij HGM
        obtain ⟨r, hr⟩ : ∃ r, i + i + i = r := ⟨_, rfl⟩
        have hr3 : 3 * i = r := by omega
        rw [hr] at hT
        have HR3 := Lib.hid hr3
        have hn1 := fun (cs : Array Value) (hc : cs.size = 1 * 3) => Rd.fresh wr O 3 36 cs 1 (by decide) hc
        have hT1 := fun (cs : Array Value) => hT.frame ((Step.refl [] wr O).alloc (.cells cs 36)) (by simp)
        have h63 : r + 1 ≤ 9223372036854775807 := by omega
        have hby : (r + 1) * 24 ≤ 140737488355328 := by omega
        have r60 : r ≤ 60 ∧ 3 ≤ r := by omega
        obtain ⟨r60a, r60b⟩ := r60
        go_upto_region 22 with (fail)
        rw [hr]
        clear hr hr3
        go_upto_region 24 with (at_builtin; refine wpList_app rfl (.tmp 63) (.tmp 65) 22 rfl Tryd.underlying22 infoIns rfl rfl (hT1 _) rfl (hn1 _ rfl) (by simp [Value.oneCell']) h63 hby ?_; intro vx w6 o6 hx6 s6; have hx7 : Row w6 o6 50 36 3 vx (r + 1) (icells (nestL i asks)) := (by unfold nestL; rw [HR3.out, icells_app]; exact hx6); have S6 := st.trans (((Step.refl [50] wr O).alloc (.cells #[.int .u8 15, .int .i64 0, .int .i64 0] 36)).trans s6); obtain ⟨gT, cT, rfl, hTx⟩ := hx7.rowx (by omega))
        have hlen : (nestL i asks).length = r + 1 := by rw [nestL_len, HR3.out]
        have hok : ∀ x ∈ nestL i asks, x.ok := preL_ok i n20 asks _ _ (fun x hx => by rw [List.mem_singleton] at hx; subst hx; exact ⟨⟨by decide, by decide⟩, ⟨by decide, by decide⟩, ⟨by decide, by decide⟩⟩)
        have s7 : Step [] w6 o6 (w6.alloc (.cells #[.slice (some ⟨gT, 0, none⟩) (r + 1) cT] 24)) (o6.set w6.heap.size 78) := ((Step.refl _ _ _).alloc _).give (Nat.le_refl _) _
        have hbx := Blk.new w6 o6 78 24 #[.slice (some ⟨gT, 0, none⟩) (r + 1) cT]
        replace hTx := hTx.frame s7 (by simp)
        have S7 := S6.trans s7.nil
        clear hT hT1 hn1 hx6 s6 st h63 hby hx7 S6 s7
        generalize w6.alloc (.cells #[.slice (some ⟨gT, 0, none⟩) (r + 1) cT] 24) = wB at *
        generalize o6.set w6.heap.size 78 = oB at *
        generalize w6.heap.size = zB at *
        have hTz : Rd wB Z0 0 3 (.slice (some ⟨gT, 0, none⟩) (r + 1) cT) (nestL i asks).length (icells (nestL i asks)) := by rw [hlen]; exact hTx.rd.zero
        have hlo := loops_calm hTz hok (by rw [hlen]; omega)
        have hM := fun W (h : Calm wB W) => may_calm (words := 0) (hTz.calm h) hok (by rw [hlen]; omega) ⟨by decide, by decide⟩
        rw [mayB_true.2 (nest_may i ⟨by omega, n20⟩ asks)] at hM
        have HLEN := Lib.hid hlen
        have cb := hbx.cell0
        clear hlen hok
        go_wp2_with fail
        refine hlo.mono ?_
        rintro e w7 ⟨⟨hg, v7, rfl, hr7⟩ | ⟨hg, rfl⟩, s7⟩
        rotate_left
        · exact absurd (nest_good i asks) hg
        rw [HLEN.out] at hr7
        obtain ⟨a7, c7, rfl, j7, k7⟩ := hr7.form
        have cb7 := (hbx.frame (s7 oB) (by simp)).cell0
        have hM7 := hM w7 s7
        clear hlo hM hg hTz cb
        go_wp2_with (go_at_call 13; refine hM7.mono ?_; rintro e w8 ⟨rfl, s8⟩)
        have s78 := s7.trans s8
        have hr8 := hr7.calm s8
        have hTx8 := hTx.frame (s78 oB) (by simp)
        have S8 := S7.trans (s78 oB).nil
        clear hM7 cb7 hr7 hTx S7 hbx s7 s8 s78
        go_loopg [90] (r + 2) (fun gm a90 wr => ∃ p : Nat, Hid (gm = r + 2 - p) ∧ p ≤ r + 1 ∧ a90 = .int .i64 (p : Int) ∧ Calm w8 wr)
        case atStart => exact ⟨0, Lib.hid (by omega), by omega, rfl, Calm.refl _⟩
        case round =>
          obtain ⟨p, HGM, hp, rfl, sr⟩ := hrel
          have hr3 := HR3.out
          rcases Nat.lt_or_ge p (r + 1) with hpr | hpr
          · obtain ⟨b7, off7, rfl, h7⟩ := (hr8.calm sr).one (by omega)
            have d7 := h7 p (.int .i64 (labI i p : Int)) (by rw [List.getElem?_map, nest_labs (by omega)]; rfl)
            have hpi : (p : Int) < r + 1 := by omega
            obtain ⟨d, hd⟩ : ∃ d : Nat, 2 * i = d := ⟨_, rfl⟩
            have ed : 2 * (i : Int) = (d : Int) := by omega
            have er : 3 * (i : Int) = (r : Int) := by omega
            clear h7
            by_cases h1 : p ≤ i
            · have e1 : labI i p = p := by unfold labI; rw [if_pos h1]
              have em : min (p : Int) (i : Int) = (p : Int) := by omega
              have e2 : ¬ (d : Int) < p := by omega
              rw [e1] at d7
              clear e1 hd hr3
              go_wp2_with fail
              go_roundg (r + 2 - (p + 1))
              case measure => rw [HGM.out]; omega
              case rel => exact ⟨p + 1, Lib.hid rfl, hpr, by go_num, sr⟩
            have em : min (p : Int) (i : Int) = (i : Int) := by omega
            by_cases h2 : p ≤ d
            · have e1 : labI i p = i := by unfold labI; rw [if_neg h1, if_pos (by omega)]
              have e2 : ¬ (d : Int) < p := by omega
              rw [e1] at d7
              clear e1 hd hr3
              go_wp2_with fail
              go_roundg (r + 2 - (p + 1))
              case measure => rw [HGM.out]; omega
              case rel => exact ⟨p + 1, Lib.hid rfl, hpr, by go_num, sr⟩
            have e1 : labI i p = 3 * i - p := by unfold labI; rw [if_neg h1, if_neg (by omega)]
            obtain ⟨u, hu⟩ : ∃ u : Nat, 3 * i - p = u := ⟨_, rfl⟩
            have eu : (r : Int) - (p : Int) = (u : Int) := by omega
            have e2 : (d : Int) < p := by omega
            rw [e1, hu] at d7
            clear e1 hu hd hr3
            go_wp2_with fail
            go_roundg (r + 2 - (p + 1))
            case measure => rw [HGM.out]; omega
            case rel => exact ⟨p + 1, Lib.hid rfl, hpr, by go_num, sr⟩
          obtain rfl : p = r + 1 := by omega
          have hTx9 := hTx8.frame (sr oB) (by simp)
          have S9 := S8.trans (sr oB).nil
          clear hr8 hTx8 S8 sr hp hpr HGM
          go_upto_region 36 with (fail)
          have hcl := hTx9.le
          have hcl2 := hTx9.capl
          unfold maxLen at hcl2
          have hr3 := HR3.out
          obtain ⟨r1, hr1⟩ : ∃ r1, r1 + 1 = r := ⟨r - 1, by omega⟩
          have er : 3 * (i : Int) = (r : Int) := by omega
          have er1 : (r : Int) - 1 = (r1 : Int) := by omega
          have hcr : (r : Int) ≤ cT := by omega
          have hcr1 : (r1 : Int) ≤ cT := by omega
          have hTy : Rowx wr oB 50 36 3 gT (r + 1) cT (icells (preL i asks r ++ [⟨15, 0, 0⟩])) := by rw [← hr3]; rw [← hr3] at hTx9; exact hTx9
          have hE1 := fun (ob : Obj) => (pre_cut (hTy.frame ((Step.refl [] wr oB).alloc ob) (by simp)) (k := r1) (by omega))
          have h63 : r1 + 1 ≤ 9223372036854775807 := by omega
          have hby : (r1 + 1) * 24 ≤ 140737488355328 := by omega
          have h63a : r1 ≤ 9223372036854775807 := by omega
          have hbya : r1 * 24 ≤ 140737488355328 := by omega
          have h63b : r ≤ 9223372036854775807 := by omega
          have hbyb : r * 24 ≤ 140737488355328 := by omega
          have h63c : r + 2 ≤ 9223372036854775807 := by omega
          have hbyc : (r + 2) * 24 ≤ 140737488355328 := by omega
          have HR1 := Lib.hid hr1
          clear hr3 hr1 hTx9
          go_upto_region 38 with (first
            | (at_builtin; refine wpList_app0 rfl (.tmp 110) (.tmp 115) 22 rfl oB 51 Tryd.underlying22 infoIns rfl rfl rfl (hE1 _) h63a hbya ?_; intro va wa oa ra sa; have S1 := ((Step.refl [] wr oB).alloc (.cells #[] 36)).trans sa; have hTa := hTy.frame S1 (by simp); have hra := fun (cs : Array Value) => ra.frame ((Step.refl [] wa oa).alloc (.cells cs 36)) (by simp); have hrn := fun (cs : Array Value) (hc : cs.size = 1 * 3) => Rd.fresh wa oa 3 36 cs 1 (by decide) hc)
            | (at_builtin; refine wpList_app rfl (.tmp 116) (.tmp 118) 22 rfl Tryd.underlying22 infoIns rfl rfl (hra _) rfl (hrn _ rfl) (by simp [Value.oneCell']) h63 hby ?_; intro vb wb ob rb sb; have S2 := ((Step.refl [51] wa oa).alloc (.cells #[.int .u8 15, .int .i64 0, .int .i64 0] 36)).trans sb; have hTb := hTa.frame S2 (by simp); obtain ⟨ab, cb', rfl, jb, kb⟩ := rb.slice; have sB := ((Step.refl [] wb ob).alloc (.cells #[.slice ab (r1 + 1) cb'] 24)).give (Nat.le_refl _) 78; have hb18 := Blk.new wb ob 78 24 #[.slice ab (r1 + 1) cb']; have hTb2 := hTb.frame sB (by simp); have rb2 := rb.frame sB (by simp); generalize ob.set wb.heap.size 78 = o2 at sB hb18 hTb2 rb2; have hE2 := fun (oo : Obj) => (pre_cut (hTb2.frame ((Step.refl [] (wb.alloc (.cells #[.slice ab (r1 + 1) cb'] 24)) o2).alloc oo) (by simp)) (k := r) (by omega)))
            | (at_builtin; refine wpList_app0 rfl (.tmp 121) (.tmp 125) 22 rfl o2 52 Tryd.underlying22 infoIns rfl rfl rfl (hE2 _) h63b hbyb ?_; intro vc wc oc rc sc; have S3 := ((Step.refl [] (wb.alloc (.cells #[.slice ab (r1 + 1) cb'] 24)) o2).alloc (.cells #[] 36)).trans sc; have hb19 := hb18.frame S3 (by simp); have rb3 := rb2.frame S3 (by simp); have hrc := fun (cs : Array Value) => rc.frame ((Step.refl [] wc oc).alloc (.cells cs 36)) (by simp); have hrm := fun (cs : Array Value) (hc : cs.size = 2 * 3) => Rd.fresh wc oc 3 36 cs 2 (by decide) hc)
            | (at_builtin; refine wpList_app rfl (.tmp 126) (.tmp 129) 22 rfl Tryd.underlying22 infoIns rfl rfl (hrc _) rfl (hrm _ rfl) (by simp [Value.oneCell']) h63c hbyc ?_; intro vd wd od rd sd; have S4 := ((Step.refl [52] wc oc).alloc (.cells #[.int .u8 7, .int .i64 0, .int .i64 0, .int .u8 15, .int .i64 0, .int .i64 0] 36)).trans sd; have hb20 := hb19.frame S4 (by simp); have rb4 := rb3.frame S4 (by simp); obtain ⟨ad, cd', rfl, jd, kd⟩ := rd.slice))
          have ok15 : (⟨15, 0, 0⟩ : In).ok := ⟨⟨by decide, by decide⟩, ⟨by decide, by decide⟩, ⟨by decide, by decide⟩⟩
          have ok7 : (⟨7, 0, 0⟩ : In).ok := ⟨⟨by decide, by decide⟩, ⟨by decide, by decide⟩, ⟨by decide, by decide⟩⟩
          have sE := (Step.refl [] wd od).alloc (.cells #[.slice ad (r + 2) cd'] 24)
          have c18 := (hb20.frame sE (by simp)).cell0
          have c19 := (Blk.new wd od 78 24 #[.slice ad (r + 2) cd']).cell0
          have hL1 : (preL i asks r1 ++ [(⟨15, 0, 0⟩ : In)]).length = r1 + 1 := by rw [List.length_append, preL_len]; rfl
          have hL2 : (preL i asks r ++ [(⟨7, 0, 0⟩ : In), ⟨15, 0, 0⟩]).length = r + 2 := by rw [List.length_append, preL_len]; rfl
          have hr3 : 3 * i = r := HR3.out
          have hr1 : r1 = 3 * i - 1 := by have := HR1.out; omega
          have hd1 : Rd (wd.alloc (.cells #[.slice ad (r + 2) cd'] 24)) Z0 0 3 (.slice ab (r1 + 1) cb') (preL i asks r1 ++ [(⟨15, 0, 0⟩ : In)]).length (icells (preL i asks r1 ++ [(⟨15, 0, 0⟩ : In)])) := by
            rw [hL1, icells_app]
            exact (rb4.frame sE (by simp)).rd.zero
          have hd2 : Rd (wd.alloc (.cells #[.slice ad (r + 2) cd'] 24)) Z0 0 3 (.slice ad (r + 2) cd') (preL i asks r ++ [(⟨7, 0, 0⟩ : In), ⟨15, 0, 0⟩]).length (icells (preL i asks r ++ [(⟨7, 0, 0⟩ : In), ⟨15, 0, 0⟩])) := by
            rw [hL2, icells_app]
            exact (rd.frame sE (by simp)).rd.zero
          have hok1 := preL_ok i n20 asks r1 [(⟨15, 0, 0⟩ : In)] (fun x hx => by rw [List.mem_singleton] at hx; subst hx; exact ok15)
          have hok2 := preL_ok i n20 asks r [(⟨7, 0, 0⟩ : In), ⟨15, 0, 0⟩] (fun x hx => by
            rcases List.mem_cons.1 hx with rfl | hx
            · exact ok7
            · rw [List.mem_singleton] at hx; subst hx; exact ok15)
          have T1 : Step [50, 51, 52] w Z0 wr oB := S9.weaken (by simp)
          have T2 : Step [50, 51, 52] wr oB wb ob := (S1.weaken (by simp)).trans (S2.weaken (by simp))
          have T3 : Step [50, 51, 52] wb ob wd od := ((sB.weaken (by simp)).trans (S3.weaken (by simp))).trans (S4.weaken (by simp))
          have T4 : Step [50, 51, 52] w Z0 (wd.alloc (.cells #[.slice ad (r + 2) cd'] 24)) od := ((T1.trans T2).trans T3).trans sE.nil
          clear T1 T2 T3 S1 S2 S3 S4 sB sE hb20 hb19 hb18 rb4 rb3 rb2 rb rc rd sc sd hE1 hE2 hrc hrm hra hrn hTa hTb hTb2 hTy S9 ra sa sb ok15 ok7
          generalize wd.alloc (.cells #[.slice ad (r + 2) cd'] 24) = wE at *
          generalize wb.heap.size = z18 at *
          generalize wd.heap.size = z19 at *
          have hlo := loops_calm hd2 hok2 (by rw [hL2]; omega)
          have hM1 := fun W (h : Calm wE W) => may_calm (words := 0) (hd1.calm h) hok1 (by rw [hL1]; omega) ⟨by decide, by decide⟩
          have hM2 := fun W (h : Calm wE W) => may_calm (words := 0) (hd2.calm h) hok2 (by rw [hL2]; omega) ⟨by decide, by decide⟩
          have hng : ¬ Good (preL i asks r ++ [(⟨7, 0, 0⟩ : In), ⟨15, 0, 0⟩]) := by rw [← hr3]; exact twice_not i asks
          have hno : ¬ mayP (preL i asks r1 ++ [(⟨15, 0, 0⟩ : In)]) 0 := by rw [hr1]; exact open_not n1 asks
          rw [mayB_false.2 hno] at hM1
          rw [mayB_false.2 (fun h => hng h.1)] at hM2
          have C18 := fun W (h : Calm wE W) => (h.cell (a := ⟨z18, 0, none⟩) (World.block_lt_of_cell? wE _ c18)).trans c18
          have C19 := fun W (h : Calm wE W) => (h.cell (a := ⟨z19, 0, none⟩) (World.block_lt_of_cell? wE _ c19)).trans c19
          have HNG := Lib.hid hng
          clear hng hno hd1 hd2 hok1 hok2 hL1 hL2 hr3 hr1 c18
          go_wp2_with fail
          refine hlo.mono ?_
          rintro e w11 ⟨⟨hg, v11, rfl, hr11⟩ | ⟨hg, rfl⟩, s11⟩
          · exact absurd hg HNG.out
          have d18 := C18 w11 s11
          have hM3 := hM1 w11 s11
          have t1 : True := trivial
          clear hlo hM1 c19 hg
          go_wp2_with (first
            | (go_at_call 13; have _t := t1; refine hM3.mono ?_; rintro e w12 ⟨rfl, s12⟩; have d19 := C19 w12 (s11.trans s12); have hM4 := hM2 w12 (s11.trans s12); clear _t t1)
            | (go_at_call 13; refine hM4.mono ?_; rintro e w13 ⟨rfl, s13⟩))
          go_ret
          exact ⟨by simp, ((Base.start w).step (T4.trans (((s11 od).trans (s12 od)).trans (s13 od)).nil) (by decide)).below⟩
    end Go.Proofs.YtglchagfclafgaaDoor
