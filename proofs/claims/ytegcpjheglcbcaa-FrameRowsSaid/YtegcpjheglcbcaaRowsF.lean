/- FrameRows: the walk. -/
import Derived.Test.YtegcpjheglcbcaaArgsR
import Derived.Test.YtegcpjheglcbcaaLoops
namespace Go.Proofs.Ytegcpjheglcbcaa
open Go Go.RowKit Go.Shelf
set_option linter.unusedSimpArgs false
set_option linter.unusedVariables false

/-- A slice's first twenty. -/
def cutv : Value → Value
  | .slice a n c => .slice a (min n 20) c
  | v => v
def short (q : Fr × List Int) : Fr × List Int := ({ q.1 with lv := cutv q.1.lv }, q.2.take 20)
def key (q : Fr × List Int) : (Int × Int × Int × Int × Int) × List Int := ((q.1.k, q.1.a, q.1.b, q.1.x, q.1.y), q.2)

theorem short_rd {w : World} {o : Owner} {i : Nat} {q : Fr × List Int} (h : Rd w o i 1 q.1.lv q.2.length (cellsOf q.2)) : ∃ ao c, q.1.lv = .slice ao q.2.length c ∧ cutv q.1.lv = .slice ao (q.2.take 20).length c ∧ (min (q.2.length : Int) 20 = (q.2.take 20).length) ∧ ((q.2.take 20).length : Int) ≤ c ∧ (q.2.length : Int) ≤ c ∧ (c : Int) ≤ 9223372036854775807 ∧ Rd w o i 1 (short q).1.lv (short q).2.length (cellsOf (short q).2) := by
  obtain ⟨ao, c, e, h1, h2, _, _⟩ := id h
  unfold maxLen at h2
  rw [e] at h
  obtain ⟨x, hx, g1, g2, g3, g4, g5⟩ := h.few 20 (M := 20) rfl
  have hc : cutv q.1.lv = .slice ao (q.2.take 20).length c := by rw [e, cutv, List.length_take, Nat.min_comm]
  refine ⟨ao, c, e, hc, by rw [← hx]; exact g1, by rw [← hx]; exact g4, by omega, by omega, ?_⟩
  show Rd w o i 1 (cutv q.1.lv) (q.2.take 20).length (cellsOf (q.2.take 20))
  rw [hc, ← hx]
  exact g5

theorem top_none {w : World} {o : Owner} {i b : Nat} (hs : FStk w o i b []) : Calls Try.prog 20 #[.pointer (some ⟨b, 0, none⟩)] w fun e w' => e = .returned (.tuple #[Z6, .bool false]) ∧ Step [] w o w' o := by
  have sA : Step [] w o (ZB w) o := (Step.refl _ _ _).alloc _
  have hd := depth_ok (hs.frame sA (by simp) (by simp))
  go_enter Try.func20, Try.ntmps20
  go_wp2_with (go_at_call 17; refine hd.mono ?_; rintro e w' ⟨rfl, rfl⟩)
  simp [bodyPost, results, Try.results20, go_sem]
  exact sA

set_option maxRecDepth 100000 in
set_option maxHeartbeats 16000000 in
theorem rows_walk {w : World} {v0 : Value} {ps : List (Fr × List Int)} (h0 : Rd w (fun _ => 0) 0 6 v0 ps.length (frs (ps.map Prod.fst))) (hps : ∀ q ∈ ps, Rd w (fun _ => 0) 0 1 q.1.lv q.2.length (cellsOf q.2)) (a1 : Int) (ha1 : 0 ≤ a1 ∧ a1 ≤ 255) :
    Calls Try.prog 5 #[v0, .int .u8 a1] w fun e w' => e = .returned (.bool true) ∧ Below w.heap.size w w' := by
  have hB := Base.start w
  obtain ⟨a0, c0, rfl, p1, p2, _, _⟩ := id h0
  unfold maxLen at p2
  have HPS := Lib.hid hps
  clear hps
  go_enter Try.func5, Try.ntmps5
  go_wp2_with fail
  refine (shown_ok w (fun _ => 0)).mono ?_
  rintro e w1 ⟨rfl, s1⟩
  replace hB := hB.step s1 (by decide)
  have sW := s1
  clear s1
  go_wp2_with fail
  refine (new_ok w1 (fun _ => 0) 10).mono ?_
  rintro e w2 ⟨b, o2, rfl, hs, s1⟩
  replace hB := hB.step s1 (by decide)
  replace sW := sW.trans s1
  have hls := LS.ofBare hs
  clear s1 hs
  go_wp2_with fail
  go_loopg [7, 22] ps.length (fun g x v wr => ∃ (p : Nat) (o' : Owner) (fl : List (Fr × List Int)), g = ps.length - p ∧ p ≤ ps.length ∧ v = .int .i64 p ∧ fl.length = min p 60 ∧ fl.map key = ((ps.map short).take (min p 60)).map key ∧ LS wr o' 10 b fl ∧ Row wr o' 20 30 6 x (min p 60) (frs (((ps.map short).take (min p 60)).map Prod.fst)) ∧ Step [10, 11, 20] w2 o2 wr o')
  case atStart => exact ⟨0, o2, [], rfl, Nat.zero_le _, rfl, by simp, by simp, hls, by simpa [frs] using Row.nil _ _ _ _ _ none, Step.refl _ _ _⟩
  case round =>
    obtain ⟨p, o3, fl, hg, hp1, rfl, hfl, hkey, hls3, hx3, s3⟩ := hrel
    have HG := Lib.hid hg
    have HFL := Lib.hid hfl
    have HKEY := Lib.hid hkey
    have S3 := (sW.nil (S := [10, 11, 20])).trans s3
    obtain ⟨aox, cx, rfl, _, _⟩ := hx3.slice
    clear hg hls hfl hkey
    by_cases hlt : p < ps.length
    · have hpi : (p : Int) < ps.length := by omega
      obtain ⟨q, hq⟩ : ∃ q, ps[p] = q := ⟨_, rfl⟩
      have hr3 := h0.frame S3 (by decide)
      have hq3 := (HPS.out q (hq ▸ List.getElem_mem hlt)).frame S3 (by decide)
      obtain ⟨bo, off, rfl, hco⟩ : ∃ bo off, a0 = some ⟨bo, off, none⟩ ∧ ∀ r, r < 6 → wr.cell? ⟨bo, off + (p * 6 + r), none⟩ = (q.1.cells)[r]? := by
        obtain ⟨a, c, e, _, _, _, hh⟩ := hr3
        obtain ⟨bo, off, e2, _, _, hc⟩ := hh (by omega)
        simp only [Value.slice.injEq, true_and] at e
        obtain ⟨rfl, rfl⟩ := e
        refine ⟨bo, off, e2, fun r hr => ?_⟩
        have hg := frs_get (ps.map Prod.fst) p r (by simpa using hlt) hr
        simp only [List.getElem_map, hq] at hg
        have hlen : r < (q.1.cells).length := hr
        rw [List.getElem?_eq_getElem hlen] at hg ⊢
        exact hc _ _ hg
      have y0 : wr.cell? ⟨bo, off + p * 6, none⟩ = some (.int .i64 q.1.k) := hco 0 (by omega)
      have y1 : wr.cell? ⟨bo, off + p * 6 + 1, none⟩ = some (.int .i64 q.1.a) := hco 1 (by omega)
      have y2 : wr.cell? ⟨bo, off + p * 6 + 2, none⟩ = some (.int .i64 q.1.b) := hco 2 (by omega)
      have y3 : wr.cell? ⟨bo, off + p * 6 + 3, none⟩ = some (.int .i64 q.1.x) := hco 3 (by omega)
      have y4 : wr.cell? ⟨bo, off + p * 6 + 4, none⟩ = some (.int .i64 q.1.y) := hco 4 (by omega)
      obtain ⟨aq, cq, eq1, eq2, m1, m2, m3, m4, hsr⟩ := short_rd hq3
      have y5 : wr.cell? ⟨bo, off + p * 6 + 5, none⟩ = some (.slice aq q.2.length cq) := eq1 ▸ hco 5 (by omega)
      obtain ⟨lq, hlq⟩ : ∃ lq, q.2.take 20 = lq := ⟨_, rfl⟩
      rw [hlq] at eq2 m1 m2
      have hsr' : Rd wr o3 0 1 (.slice aq lq.length cq) lq.length (cellsOf lq) := by
        have := hsr
        simp only [short, eq2, hlq] at this
        exact this
      have hll : lq.length ≤ 20 := by rw [← hlq]; simp; omega
      have hsq0 : short q = (⟨q.1.k, q.1.a, q.1.b, q.1.x, q.1.y, .slice aq lq.length cq⟩, lq) := by simp only [short, eq2, hlq]
      have HSQ := Lib.hid hsq0
      have ht0 : (ps.map short).take (p + 1) = (ps.map short).take p ++ [short q] := by
        rw [List.take_succ_eq_append_getElem (by simpa using hlt)]
        simp [hq]
      have HT := Lib.hid ht0
      clear hco hq eq1 eq2 hr3 hsr hlq hq3 hsq0 ht0
      by_cases h60 : p < 60
      · have h60i : (p : Int) < 60 := by omega
        have hm : min p 60 = p := Nat.min_eq_left (by omega)
        have HM := Lib.hid (show min (p + 1) 60 = p + 1 from Nat.min_eq_left (by omega))
        rw [hm] at hx3
        obtain ⟨X3, hX3⟩ : ∃ X3, X3 = frs (((ps.map short).take p).map Prod.fst) := ⟨_, rfl⟩
        rw [← hX3] at hx3
        have HX3 := Lib.hid hX3
        clear hX3
        have hk2 : fl.map key = ((ps.map short).take p).map key := by have := HKEY.out; rwa [hm] at this
        have hf2 : fl.length = p := by rw [HFL.out, hm]
        have HKEY2 := Lib.hid hk2
        have HFL2 := Lib.hid hf2
        rw [hm]
        clear hm HKEY HFL hk2 hf2
        obtain ⟨wA, hwA⟩ : ∃ wA, wA = wr.alloc (.cells #[.int .i64 q.1.k, .int .i64 q.1.a, .int .i64 q.1.b, .int .i64 q.1.x, .int .i64 q.1.y, .slice aq lq.length cq] 30) := ⟨_, rfl⟩
        obtain ⟨oA, hoA⟩ : ∃ oA, oA = o3.set wr.heap.size 30 := ⟨_, rfl⟩
        have sA : Step [] wr o3 wA oA := by rw [hwA, hoA]; exact ((Step.refl _ _ _).alloc _).give (Nat.le_refl _) _
        have hX : Blk wA oA 30 wr.heap.size 30 #[.int .i64 q.1.k, .int .i64 q.1.a, .int .i64 q.1.b, .int .i64 q.1.x, .int .i64 q.1.y, .slice aq lq.length cq] := by rw [hwA, hoA]; exact Blk.new wr o3 30 30 _
        have hxA := hx3.frame sA (by decide)
        have hp := push_l (hls3.frame sA (by decide) (by decide) (by decide)) (by rw [HFL2.out]; omega) (hsr'.frame sA (by decide)) (by omega) q.1.k q.1.a q.1.b q.1.x q.1.y
        have SA := s3.trans sA.nil
        rw [hwA] at hp
        have HWA := Lib.hid hwA
        clear hwA hoA hls3 hx3 hsr' s3 S3
        go_wp2_with fail
        refine hp.mono ?_
        rintro e w4 ⟨o4, lv4, rfl, hls4, s4⟩
        rw [← HWA.out] at s4
        have hx4 := hxA.frame s4 (by decide)
        have hX4 := hX.frame s4 (by decide)
        have S4 := SA.trans (s4.weaken (by decide))
        obtain ⟨⟨x0, x1, x2, x3, x4, x5⟩, _⟩ := FB.facts (k := q.1.k) (a := q.1.a) (c := q.1.b) (x := q.1.x) (y := q.1.y) (lv := .slice aq lq.length cq) hX4.heap
        have sB : Step [] w4 o4 (w4.alloc (.cells #[.int .i64 q.1.k, .int .i64 q.1.a, .int .i64 q.1.b, .int .i64 q.1.x, .int .i64 q.1.y, .slice aq lq.length cq] 30)) o4 := (Step.refl _ _ _).alloc _
        have hxB := hx4.frame sB (by decide)
        have hlsB := hls4.frame sB (by decide) (by decide) (by decide)
        have S5 := S4.trans sB.nil
        clear hp hX hxA hls4 hx4 hX4 s4 sA SA S4 HWA y0 y1 y2 y3 y4 y5
        go_wp2_with (at_builtin; refine wpList_app rfl (.tmp 41) (.tmp 43) 38 rfl Try.underlying38 info30 rfl rfl hxB rfl (Rd.fresh w4 o4 6 30 #[.int .i64 q.1.k, .int .i64 q.1.a, .int .i64 q.1.b, .int .i64 q.1.x, .int .i64 q.1.y, .slice aq lq.length cq] 1 (by simp [maxLen]) (by simp)) (by simp [Value.oneCell']) (by omega) (by omega) ?_)
        intro vx w6 o6 hx6 s6
        obtain ⟨aox6, cx6, rfl, _, _⟩ := hx6.slice
        have hls6 := hlsB.frame s6 (by decide) (by decide) (by decide)
        have S6 := S5.trans (s6.weaken (by decide))
        clear hxB hlsB sB S5 x0 x1 x2 x3 x4 x5
        go_wp2_with fail
        go_roundg (ps.length - (p + 1))
        case measure => rw [HG.out]; omega
        case rel =>
          refine ⟨p + 1, o6, _, rfl, by omega, by go_num, ?_, ?_, hls6, ?_, S6⟩
          · rw [HM.out, List.length_append, HFL2.out]; rfl
          · rw [HM.out, HT.out, List.map_append, List.map_append, HKEY2.out, HSQ.out]; rfl
          · rw [HM.out, HT.out, List.map_append, frs_app, HSQ.out, ← HX3.out]
            exact hx6
      · have h60i : ¬ (p : Int) < 60 := by omega
        have HM := Lib.hid (show min (p + 1) 60 = min p 60 from (Nat.min_eq_right (by omega)).trans (Nat.min_eq_right (by omega)).symm)
        have sA : Step [] wr o3 (wr.alloc (.cells #[.int .i64 q.1.k, .int .i64 q.1.a, .int .i64 q.1.b, .int .i64 q.1.x, .int .i64 q.1.y, .slice aq q.2.length cq] 30)) o3 := (Step.refl _ _ _).alloc _
        have hls6 := hls3.frame sA (by decide) (by decide) (by decide)
        have hx6 := hx3.frame sA (by decide)
        have S6 := s3.trans sA.nil
        clear hls3 hx3 sA s3 S3 hsr'
        go_wp2_with fail
        go_roundg (ps.length - (p + 1))
        case measure => rw [HG.out]; omega
        case rel =>
          exact ⟨p + 1, o3, fl, rfl, by omega, by go_num, by rw [HM.out]; exact HFL.out, by rw [HM.out]; exact HKEY.out, hls6, by rw [HM.out]; exact hx6, S6⟩
    · obtain rfl : p = ps.length := by omega
      have hpi : ¬ (ps.length : Int) < ps.length := by omega
      replace hB := hB.step s3 (by decide)
      obtain ⟨m, hm⟩ : ∃ m, min ps.length 60 = m := ⟨_, rfl⟩
      obtain ⟨qs, hqs⟩ : ∃ qs, qs = (ps.map short).take m := ⟨_, rfl⟩
      have hrs : ∀ q ∈ qs, Rd wr o3 0 1 q.1.lv q.2.length (cellsOf q.2) ∧ q.2.length ≤ 20 := by
        intro q hq
        rw [hqs] at hq
        obtain ⟨q', hq', rfl⟩ := List.mem_map.1 (List.mem_of_mem_take hq)
        obtain ⟨_, _, _, _, _, _, _, _, h⟩ := short_rd (HPS.out q' hq')
        exact ⟨h.frame S3 (by decide), by simp [short]; omega⟩
      have hql : qs.length = m := by rw [hqs, List.length_take, List.length_map]; omega
      have hkey := HKEY.out
      have hfl := HFL.out
      rw [hm] at hx3 hkey hfl
      rw [hm]
      rw [← hqs] at hx3 hkey
      clear hqs h0 HPS HKEY HFL hlt HG s3 S3 hm
      obtain ⟨K, rfl⟩ : ∃ K : Nat, a1 = K := ⟨a1.toNat, by omega⟩
      obtain ⟨N, hN⟩ : ∃ N, min K m = N := ⟨_, rfl⟩
      have hNi : min (K : Int) m = N := by omega
      have hcut := cut_ok hls3.1 K
      obtain ⟨gl, hgl⟩ : ∃ gl, gl = fl.take K := ⟨_, rfl⟩
      have hgc : cutF (fl.map Prod.fst) K = gl.map Prod.fst := by rw [hgl, List.map_take]; simp [cutF]
      have hgn : gl.length = N := by rw [hgl, List.length_take, hfl, hN]
      have hgk : gl.map key = (qs.take K).map key := by rw [hgl, List.map_take, hkey, List.map_take]
      have hgs : ∀ q ∈ gl, q ∈ fl := fun q hq => List.mem_of_mem_take (hgl ▸ hq)
      rw [hgc] at hcut
      have HGN := Lib.hid hgn
      have HGK := Lib.hid hgk
      have HGS := Lib.hid hgs
      have HRS := Lib.hid hrs
      have HQL := Lib.hid hql
      have HNN := Lib.hid hN
      clear hgl hgc hgn hgk hgs hkey hfl hrs hql hN
      go_wp2_with fail
      refine hcut.mono ?_
      rintro e w4 ⟨rfl, hf4, s4⟩
      have hls4 : LS w4 o3 10 b gl := ⟨hf4, fun q hq => ⟨(hls3.2 q (HGS.out q hq)).1, (hls3.2 q (HGS.out q hq)).2.frame s4 (by decide)⟩⟩
      replace hB := hB.step s4 (by decide)
      have hx4 := hx3.frame s4 (by decide)
      have hd := depth_ok hls4.1
      have hdl : (((gl.map Prod.fst).length : Nat) : Int) = N := by rw [List.length_map, HGN.out]
      rw [hdl] at hd
      have S4 : Step [10] wr o3 w4 o3 := s4
      clear hcut hls3 hx3 hf4 s4 hdl
      go_wp2_with fail
      refine hd.mono ?_
      rintro e w5 ⟨rfl, rfl⟩
      clear hd
      go_wp2_with fail
      go_loopg [11] N (fun g v wr2 => ∃ (i : Nat) (o' : Owner), g = i ∧ i ≤ N ∧ v = .int .i64 ((i : Int) - 1) ∧ LS wr2 o' 10 b (gl.take i) ∧ Step [10] w5 o3 wr2 o')
      case atStart => exact ⟨N, o3, rfl, Nat.le_refl _, rfl, by rw [List.take_of_length_le (by rw [HGN.out]; omega)]; exact hls4, Step.refl _ _ _⟩
      case round =>
        obtain ⟨i, o6, hg, hi1, rfl, hls6, s6⟩ := hrel
        have HG := Lib.hid hg
        clear hg hls4
        by_cases hz : 0 < i
        · obtain ⟨j, rfl⟩ : ∃ j, i = j + 1 := ⟨i - 1, by omega⟩
          have hji : ((j + 1 : Nat) : Int) - 1 = j := by omega
          have hj0 : 0 ≤ (j : Int) := by omega
          have hjg : j < gl.length := by have := HGN.out; omega
          have hjq : j < qs.length := by have := HNN.out; have := HQL.out; omega
          have hjm : j < m := by have := HNN.out; omega
          have hjmi : (j : Int) < m := by omega
          have hkj : key gl[j] = key qs[j] := by
            have h := congrArg (fun l => l[j]?) HGK.out
            simp only [List.getElem?_map] at h
            rw [List.getElem?_eq_getElem hjg, List.getElem?_take_of_lt (by have := HNN.out; omega), List.getElem?_eq_getElem hjq] at h
            simpa using h
          obtain ⟨hrq, hrql⟩ := HRS.out qs[j] (List.getElem_mem hjq)
          have hfr : ∀ r, r < 6 → (frs (qs.map Prod.fst))[j * 6 + r]? = (qs[j].1.cells)[r]? := fun r hr => by
            have := frs_get (qs.map Prod.fst) j r (by simpa using hjq) hr
            simpa using this
          have htk : gl.take (j + 1) = gl.take j ++ [gl[j]] := List.take_succ_eq_append_getElem hjg
          rw [htk] at hls6
          generalize gl[j] = t at hls6 hkj
          generalize qs[j] = u at hkj hrq hrql hfr
          obtain ⟨⟨k, a, c, x, y, lv⟩, l⟩ := t
          obtain ⟨⟨k2, a2, c2, x2, y2, lvq⟩, l2⟩ := u
          simp only [key, Prod.mk.injEq] at hkj
          obtain ⟨⟨rfl, rfl, rfl, rfl, rfl⟩, rfl⟩ := hkj
          dsimp only at hrq hrql hfr
          obtain ⟨aq, cq, rfl, _, _, _, _⟩ := id hrq
          have hrq6 := (hrq.frame S4 (by decide)).frame s6 (by decide)
          have hx6 := hx4.frame s6 (by decide)
          obtain ⟨gx, cgx, hv, hxx⟩ := hx6.rowx (by omega)
          simp only [Value.slice.injEq, true_and] at hv
          obtain ⟨rfl, rfl⟩ := hv
          have q0 : wr.cell? ⟨gx, j * 6, none⟩ = some (.int .i64 k) := hxx.cell (hfr 0 (by omega))
          have hpo := pop_l hls6 22 (by decide)
          rw [hji]
          clear hls6 htk hz hji hrq
          go_wp2_with fail
          refine hpo.mono ?_
          rintro e w7 ⟨o7, lv7, rfl, hz7, hls7, s7⟩
          obtain ⟨az, cz, rfl, _, _⟩ := hz7.slice
          obtain ⟨w8, hw8⟩ : ∃ w8, w8 = w7.alloc (.cells #[.int .i64 k, .int .i64 a, .int .i64 c, .int .i64 x, .int .i64 y, .slice az l.length cz] 30) := ⟨_, rfl⟩
          obtain ⟨o8, ho8⟩ : ∃ o8, o8 = o7.set w7.heap.size 25 := ⟨_, rfl⟩
          have s8 : Step [] w7 o7 w8 o8 := by rw [hw8, ho8]; exact ((Step.refl _ _ _).alloc _).give (Nat.le_refl _) _
          have hX : Blk w8 o8 25 w7.heap.size 30 #[.int .i64 k, .int .i64 a, .int .i64 c, .int .i64 x, .int .i64 y, .slice az l.length cz] := by rw [hw8, ho8]; exact Blk.new w7 o7 25 30 _
          have hz8 := (hz7.frame s8 (by decide)).rd
          have hrq8 := (hrq6.frame s7 (by decide)).frame s8 (by decide)
          have hx8 := (hxx.frame s7 (by decide)).frame s8 (by decide)
          have hls8 := hls7.frame s8 (by decide) (by decide) (by decide)
          have S8 := (s6.trans s7).trans s8.nil
          have hjl : ((((gl.take j).map Prod.fst).length : Nat) : Int) = j := by simp only [List.length_map, List.length_take]; omega
          have HJL := Lib.hid hjl
          have HFR := Lib.hid hfr
          have HW8 := Lib.hid hw8
          clear hpo hls7 hz7 hrq6 hx6 hxx q0 s6 s7 s8 ho8 hjl hfr hw8
          go_wp2_with fail
          rw [← HW8.out]
          refine q_start (fun W => Calm w8 W) (by kernel_rfl) (Calm.refl _).drew ?_
          repeat (first
            | (refine q_off (by rfl) ?_; simp only [Act.put, List.setIfInBounds_toArray, List.set_cons_zero, List.set_cons_succ])
            | (refine q_on (by rfl) ?_; apply Exists.intro; refine ⟨fun W hW => ?_, ?_⟩; (have hXW := hX.frame (hW o8) (by simp); obtain ⟨⟨x0, x1, x2, x3, x4, x5⟩, _⟩ := FB.facts (k := k) (a := a) (c := c) (x := x) (y := y) (lv := .slice az l.length cz) hXW.heap; have hxW := hx8.frame (hW o8) (by simp); have z0 : W.cell? ⟨gx, j * 6, none⟩ = some (.int .i64 k) := hxW.cell (HFR.out 0 (by omega)); have z1 : W.cell? ⟨gx, j * 6 + 1, none⟩ = some (.int .i64 a) := hxW.cell (HFR.out 1 (by omega)); have z2 : W.cell? ⟨gx, j * 6 + 2, none⟩ = some (.int .i64 c) := hxW.cell (HFR.out 2 (by omega)); have z3 : W.cell? ⟨gx, j * 6 + 3, none⟩ = some (.int .i64 x) := hxW.cell (HFR.out 3 (by omega)); have z4 : W.cell? ⟨gx, j * 6 + 4, none⟩ = some (.int .i64 y) := hxW.cell (HFR.out 4 (by omega)); have z5 : W.cell? ⟨gx, j * 6 + 5, none⟩ = some (.slice aq l.length cq) := hxW.cell (HFR.out 5 (by omega)); go_simp; first | done | with_reducible rfl | (go_at_call 19; exact (one_l (hz8.frame (hW o8) (by simp)) (hrq8.frame (hW o8) (by simp)) (by omega) (fun _ => 0) k a c x y).mono fun e w' k => ⟨k.1, hW.trans (Calm.of k.2 (by simp))⟩) | (go_at_call 17; exact (depth_ok (hls8.1.frame (hW o8) (by simp) (by simp))).mono fun e w' k => ⟨k.1.trans (by rw [HJL.out]), k.2 ▸ hW⟩)); simp only [Act.put, List.setIfInBounds_toArray, List.set_cons_zero, List.set_cons_succ])
            | fail)
          refine q_end ?_
          intro w9 s9
          have hls9 := hls8.frame (s9 o8) (by decide) (by decide) (by decide)
          have S9 := S8.trans (s9 o8).nil
          clear hX hz8 hrq8 hx8 hls8 S8
          go_wp2_with fail
          go_roundg j
          case measure => rw [HG.out]; omega
          case rel => exact ⟨j, o8, rfl, by omega, by go_num, hls9, S9⟩
        · obtain rfl : i = 0 := by omega
          replace hB := hB.step s6 (by decide)
          have hs0 : FStk wr o6 10 b [] := by simpa using hls6.1
          have hto := top_none hs0
          have hpi : ((0 : Nat) : Int) - 1 = -1 := rfl
          rw [hpi]
          clear hpi hls6 s6 hs0
          go_wp2_with fail
          refine hto.mono ?_
          rintro e w7 ⟨rfl, s7⟩
          have s8 : Step [] w7 o6 (w7.alloc (.cells #[.int .i64 0, .int .i64 0, .int .i64 0, .int .i64 0, .int .i64 0, .slice none 0 0] 30)) o6 := (Step.refl _ _ _).alloc _
          replace hB := hB.step (s7.trans s8) (by decide)
          clear hto s7 s8
          go_wp2_with fail
          go_ret
          exact ⟨rfl, hB.below⟩
end Go.Proofs.Ytegcpjheglcbcaa
