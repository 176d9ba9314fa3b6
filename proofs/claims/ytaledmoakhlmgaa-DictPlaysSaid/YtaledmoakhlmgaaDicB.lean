/- A dictionary: the names of a list; a word of a list; a word of the lists in order. -/
import Derived.Test.YtaledmoakhlmgaaDicA
namespace Go.Proofs.Ytaledmoakhlmgaa
open Go Go.RowKit
set_option linter.unusedSimpArgs false
set_option linter.unusedVariables false

theorem infoStr : (Try.prog.info? 9).map (fun i => (i.zero, i.size, i.bytes)) = some (some (.string ByteArray.empty), 1, 16) := by kernel_rfl

/-- A word's cells, at its place. -/
theorem word_at {w : World} {o : Owner} {i : Nat} {hv : Value} {pre r : List Wd} {x : Wd} (h : Row w o i 72 6 hv (pre ++ x :: r).length (hcells (pre ++ x :: r))) :
    ∃ g cap, hv = .slice (some ⟨g, 0, none⟩) (pre ++ x :: r).length cap ∧ g < w.heap.size ∧ o g = i ∧ cap ≤ 9223372036854775807 ∧ (pre ++ x :: r).length ≤ cap ∧
      w.cell? ⟨g, r.length * 6, none⟩ = some (.string x.nm) ∧ w.cell? ⟨g, r.length * 6 + 1, none⟩ = some (.int .i64 x.xt) ∧ w.cell? ⟨g, r.length * 6 + 2, none⟩ = some (.bool x.now) ∧
      w.cell? ⟨g, r.length * 6 + 3, none⟩ = some (.string (low x.nm)) ∧ w.cell? ⟨g, r.length * 6 + 4, none⟩ = some (.int .i64 x.li) ∧ w.cell? ⟨g, r.length * 6 + 5, none⟩ = some (.int .i64 (ix x.li r)) := by
  obtain ⟨g, cap, rfl, hx⟩ := h.rowx (by simp; omega)
  have hc := fun j (hj : j < 6) => hcells_at (x := x) (r := r) hj pre
  have hlt : g < w.heap.size := by obtain ⟨cur, h1, _⟩ := hx.cells; exact (Array.getElem?_eq_some_iff.1 h1).1
  refine ⟨g, cap, rfl, hlt, hx.own, by have := hx.capl; simpa [maxLen] using this, hx.le, ?_, ?_, ?_, ?_, ?_, ?_⟩
  · exact hx.cell (by rw [show r.length * 6 = 6 * r.length + 0 by omega, hc 0 (by decide)]; rfl)
  · exact hx.cell (by rw [show r.length * 6 + 1 = 6 * r.length + 1 by omega, hc 1 (by decide)]; rfl)
  · exact hx.cell (by rw [show r.length * 6 + 2 = 6 * r.length + 2 by omega, hc 2 (by decide)]; rfl)
  · exact hx.cell (by rw [show r.length * 6 + 3 = 6 * r.length + 3 by omega, hc 3 (by decide)]; rfl)
  · exact hx.cell (by rw [show r.length * 6 + 4 = 6 * r.length + 4 by omega, hc 4 (by decide)]; rfl)
  · exact hx.cell (by rw [show r.length * 6 + 5 = 6 * r.length + 5 by omega, hc 5 (by decide)]; rfl)

set_option maxHeartbeats 4000000 in
theorem names_ok {w : World} {o : Owner} {i b N : Nat} {s : Dst} (h : DB w o i b s N) (k : Int) (hk : I64 k) (jn : Nat) (n0 : jn ≠ i) (n1 : jn ≠ i + 1) (n2 : jn ≠ i + 2) (n3 : jn ≠ i + 3) :
    Calls Try.prog 13 #[.pointer (some ⟨b, 0, none⟩), .int .i64 k] w fun e w' => ∃ v o', e = .returned v ∧ Row w' o' jn 9 1 v (namesD s k).length (strs (namesD s k)) ∧ Step [jn] w o w' o' := by
  have hkn := known_ok h k
  obtain ⟨R, hR⟩ : ∃ R, namesD s k = R := ⟨_, rfl⟩
  rw [hR]
  have HR := Lib.hid hR
  clear hR
  cases hB : knownB s k with
  | false =>
    rw [hB] at hkn
    have hRe : R = [] := by rw [← HR.out, namesD, hB]; rfl
    subst hRe
    go_enter Try.func13, Try.ntmps13
    go_wp2_with (go_at_call 31; refine hkn.mono ?_; rintro e w1 ⟨rfl, rfl⟩)
    go_ret
    exact ⟨_, o, rfl, Row.nil _ _ _ _ _ none, Step.refl _ _ _⟩
  | true =>
    rw [hB] at hkn
    have hRe : names k s.ws = R := by rw [← HR.out, namesD, hB]; rfl
    have hk12 : 1 ≤ k ∧ k ≤ s.lists := by simpa [knownB] using hB
    obtain ⟨ok, hv, mb, ov, hb, hr, hr2, hm⟩ := h
    obtain ⟨c0, c1, c2, c3, c4, -⟩ := hb.cells5
    have hlook := hm.look hk12.1 hk12.2 hk
    have hwl := ok.wl
    have HRE := Lib.hid hRe
    clear hRe hB ok hr2 hm
    go_enter Try.func13, Try.ntmps13
    go_wp2_with (go_at_call 31; refine hkn.mono ?_; rintro e w1 ⟨rfl, rfl⟩)
    go_loopg [5, 6] s.ws.length (fun g v a wr => ∃ (o' : Owner) (r : List Wd) (m : List ByteArray), g = r.length ∧ (∃ pre, s.ws = pre ++ r) ∧ a = .int .i64 (ix k r) ∧ Row wr o' jn 9 1 v m.length (strs m) ∧ Step [jn] w1 o wr o' ∧ Hid (m ++ names k r = R) ∧ m.length + r.length ≤ 2000)
    case atStart => exact ⟨o, s.ws, [], rfl, ⟨[], rfl⟩, rfl, Row.nil _ _ _ _ _ none, Step.refl _ _ _, Lib.hid HRE.out, by simpa using hwl⟩
    case round =>
      obtain ⟨o3, r, m, hg, ⟨pre2, hpre⟩, rfl, hrow, st, hinv, hml⟩ := hrel
      have HG := Lib.hid hg
      clear hg
      have hb3 := hb.frame st (by simp; omega)
      have hr3 := hr.frame st (by simp; omega)
      obtain ⟨d0, d1, d2, d3, d4, -⟩ := hb3.cells5
      obtain ⟨a5, cp5, rfl⟩ : ∃ ao c, _ = Value.slice ao m.length c := by
        obtain ⟨ao, c, hv, _⟩ := hrow.slice; exact ⟨ao, c, hv⟩
      by_cases hat : 0 ≤ ix k r
      · obtain ⟨pre, x, r', e1, e2, e3, e4, e5⟩ := ix_at k r hat
        have hws : s.ws = (pre2 ++ pre) ++ x :: r' := by rw [hpre, e1, List.append_assoc]
        rw [hws] at hr3
        obtain ⟨g, cap, rfl, hgl, hgo, hcap, hncap, y0, y1, y2, y3, y4, y5⟩ := word_at hr3
        rw [e2] at y5
        have hlen : r'.length < ((pre2 ++ pre) ++ x :: r').length := by simp; omega
        have hrl : r.length = pre.length + (r'.length + 1) := by rw [e1]; simp
        have hmw : m.length + 1 ≤ 2000 := by omega
        obtain ⟨q, hq⟩ : ∃ q, r'.length = q := ⟨_, rfl⟩
        obtain ⟨W, hW⟩ : ∃ W, ((pre2 ++ pre) ++ x :: r').length = W := ⟨_, rfl⟩
        rw [e3, hq]
        rw [hq, hW] at hlen
        have hWW := hW
        rw [hW] at d0 hncap
        rw [hq] at y0 y1 y2 y3 y4 y5
        have hqi : (q : Int) < W := by omega
        have hq0 : ((q : Int) == -1) = false := by rw [beq_eq_false_iff_ne]; omega
        have hWm : (W : Int) ≤ 9223372036854775807 := by omega
        have HQ := Lib.hid hq
        have HE5 := Lib.hid e5
        have HWS := Lib.hid hws
        have HRL := Lib.hid hrl
        obtain ⟨lk, hlk⟩ : ∃ lk, ix k r' = lk := ⟨_, rfl⟩
        rw [hlk] at y5
        have HLK := Lib.hid hlk
        have hbig : m.length + 1 ≤ 9223372036854775807 := by omega
        have hbig2 : (m.length + 1) * 16 ≤ 140737488355328 := by omega
        have hxB := fun cs => hrow.frame ((Step.refl [] wr o3).alloc (.cells cs 9)) (by simp)
        have hbA := (hb3.frame ((Step.refl [] wr o3).alloc (.cells #[.string x.nm] 9)) (by simp))
        clear hq hws hrl e1 e2 e3 e4 e5 hlk hW hr3 hat hpre hlook
        go_wp2_with (at_builtin; refine wpList_app rfl (.tmp 27) (.tmp 37) 22 rfl Try.underlying22 infoStr rfl rfl (hxB _) rfl (Rd.fresh wr o3 1 9 _ 1 (by decide) rfl) (by simp [Value.oneCell']) hbig hbig2 ?_)
        intro vx w6 o6 hx6 s6
        have S6 := (st.alloc (.cells #[.string x.nm] 9)).trans s6
        have sA := ((Step.refl [jn] wr o3).alloc (.cells #[.string x.nm] 9)).trans s6
        have z5 := (sA.cell (a := ⟨g, q * 6 + 5, none⟩) hgl (by show o3 g ∉ [jn]; rw [hgo]; simp; omega)).trans y5
        obtain ⟨f0, f1, f2, f3, f4, -⟩ := (hb3.frame sA (by simp; omega)).cells5
        rw [hWW] at f0
        have hx7 : Row w6 o6 jn 9 1 vx (m ++ [x.nm]).length (strs (m ++ [x.nm])) := by rw [List.length_append]; exact hx6.cast (by simp [strs])
        obtain ⟨a6, cp6, rfl⟩ : ∃ ao c, vx = Value.slice ao (m.length + 1) c := by
          obtain ⟨ao, c, hv, _⟩ := hx6.slice; exact ⟨ao, c, hv⟩
        clear hxB hbA hx6 hrow y0 y1 y2 y3 y4 y5 hWW
        go_wp2_with fail
        go_roundg q
        case measure => rw [HG.out, HRL.out, HQ.out]; omega
        case rel =>
          refine ⟨o6, r', m ++ [x.nm], HQ.out.symm, ⟨pre2 ++ pre ++ [x], by rw [HWS.out]; simp⟩, by rw [HLK.out], hx7, S6, Lib.hid ?_, ?_⟩
          · rw [← hinv.out, HE5.out]; simp
          · rw [List.length_append, HQ.out]; have := HRL.out; have := HQ.out; simp; omega
      · obtain ⟨g1, g2⟩ := ix_none k r (by omega)
        have hm1 : ix k r = -1 := by have := (ix_range k r).1; omega
        have hRm : R = m := by rw [← hinv.out, g2, List.append_nil]
        subst hRm
        rw [hm1]
        clear g1 g2 hm1 hinv hat
        go_wp2_with fail
        go_ret
        exact ⟨_, o3, rfl, hrow, st⟩

/-- A word, and whether there is one, as values. -/
def entV : Option Wd → Value
  | some x => .tuple #[.agg #[.string x.nm, .int .i64 x.xt, .bool x.now], .bool true]
  | none => .tuple #[.agg #[.string ByteArray.empty, .int .i64 0, .bool false], .bool false]

/-- Three cells in a block, whoever owns it. -/
def E3 (w : World) (z : Nat) (v0 v1 v2 : Value) : Prop := w.heap[z]? = some (.cells #[v0, v1, v2] 34 (0, 0))
theorem E3.step {w w' : World} {o o' : Owner} {S : List Nat} {z : Nat} {v0 v1 v2 : Value} (h : E3 w z v0 v1 v2) (st : Step S w o w' o') (hz : o z ∉ S) : E3 w' z v0 v1 v2 := st.obj h hz
theorem E3.nil {w w' : World} {o o' : Owner} {z : Nat} {v0 v1 v2 : Value} (h : E3 w z v0 v1 v2) (st : Step [] w o w' o') : E3 w' z v0 v1 v2 := st.obj h (by simp)
theorem E3.cells {w : World} {z : Nat} {v0 v1 v2 : Value} (h : E3 w z v0 v1 v2) : w.cell? ⟨z, 0, none⟩ = some v0 ∧ w.cell? ⟨z, 1, none⟩ = some v1 ∧ w.cell? ⟨z, 2, none⟩ = some v2 ∧ w.frozen? ⟨z, 0, none⟩ = false ∧ w.frozen? ⟨z, 1, none⟩ = false ∧ w.frozen? ⟨z, 2, none⟩ = false := by
  unfold E3 at h
  simp [World.cell?, World.frozen?, h]
theorem E3.set {w : World} {z : Nat} {v0 v1 v2 : Value} (h : E3 w z v0 v1 v2) (u0 u1 u2 : Value) : E3 (((w.setCell ⟨z, 0, none⟩ u0).setCell ⟨z, 1, none⟩ u1).setCell ⟨z, 2, none⟩ u2) z u0 u1 u2 := by
  unfold E3 at *
  rw [heap_setCell_same (heap_setCell_same (heap_setCell_same h _ _) _ _) _ _]
  rfl
theorem E3.new (w : World) (v0 v1 v2 : Value) : E3 (w.alloc (.cells #[v0, v1, v2] 34)) w.heap.size v0 v1 v2 := heap_alloc_new _ _
theorem Step.set3 {S : List Nat} {w w' : World} {o o' : Owner} (h : Step S w o w' o') {z : Nat} (hz : w.heap.size ≤ z) (u0 u1 u2 : Value) : Step S w o (((w'.setCell ⟨z, 0, none⟩ u0).setCell ⟨z, 1, none⟩ u1).setCell ⟨z, 2, none⟩ u2) o' :=
  ((h.setCell (a := ⟨z, 0, none⟩) (fun hb => absurd hb (by show ¬ z < _; omega)) u0).setCell (a := ⟨z, 1, none⟩) (fun hb => absurd hb (by show ¬ z < _; omega)) u1).setCell (a := ⟨z, 2, none⟩) (fun hb => absurd hb (by show ¬ z < _; omega)) u2

set_option maxHeartbeats 4000000 in
theorem in_ok {w : World} {o : Owner} {i b N : Nat} {s : Dst} (h : DB w o i b s N) (k : Int) (hk : I64 k) (nm : ByteArray) (hn : nm.size ≤ 9223372036854775807) :
    Calls Try.prog 18 #[.pointer (some ⟨b, 0, none⟩), .int .i64 k, .string nm] w fun e w' => e = .returned (entV (inD s k nm)) ∧ Step [] w o w' o := by
  have st0 := (Step.refl [] w o).alloc (.cells #[.string ByteArray.empty, .int .i64 0, .bool false] 34)
  have hE := E3.new w (.string ByteArray.empty) (.int .i64 0) (.bool false)
  have h1 := h.frame st0 (by simp) (by simp) (by simp) (by simp)
  have hkn := known_ok h1 k
  obtain ⟨V, hV⟩ : ∃ V, entV (inD s k nm) = V := ⟨_, rfl⟩
  rw [hV]
  have HV := Lib.hid hV
  clear hV
  have hbe : (ByteArray.empty : ByteArray) = ⟨#[]⟩ := rfl
  rw [hbe] at hE h1 hkn st0
  clear hbe
  cases hB : knownB s k with
  | false =>
    rw [hB] at hkn
    have hv : V = .tuple #[.agg #[.string ⟨#[]⟩, .int .i64 0, .bool false], .bool false] := by rw [← HV.out, inD, hB]; rfl
    subst hv
    go_enter Try.func18, Try.ntmps18
    go_wp2_with (go_at_call 31; refine hkn.mono ?_; rintro e w1 ⟨rfl, rfl⟩)
    simp [bodyPost, results, Try.results18, go_sem]
    exact st0
  | true =>
    rw [hB] at hkn
    have hk12 : 1 ≤ k ∧ k ≤ s.lists := by simpa [knownB] using hB
    obtain ⟨ok, hv, mb, ov, hb, hr, hr2, hm⟩ := h1
    obtain ⟨c0, c1, c2, c3, c4, -⟩ := hb.cells5
    have hfo := fun w => fold_ok nm hn w o
    have hinV : V = entV (find k (low nm) s.ws) := by rw [← HV.out, inD, hB]; rfl
    have HIV := Lib.hid hinV
    have hwl := ok.wl
    have hlook := fun w' (st : Step [] _ o w' o) => (hm.frame st (by simp)).look hk12.1 hk12.2 hk
    have HLOOK := Lib.hid hlook
    clear hinV hB ok hlook
    go_enter Try.func18, Try.ntmps18
    go_wp2_with (first
      | (go_at_call 31; refine hkn.mono ?_; rintro e w1 ⟨rfl, rfl⟩)
      | (go_at_call 30; refine (hfo _).mono ?_; rintro e w2 ⟨rfl, s2⟩; have hlk2 := HLOOK.out w2 s2; obtain ⟨c0, c1, c2, c3, c4, -⟩ := (hb.frame s2 (by simp)).cells5))
    go_loopg [9, 10] s.ws.length (fun g a p wr => ∃ r : List Wd, g = r.length ∧ (∃ pre, s.ws = pre ++ r) ∧ a = .int .i64 (ix k r) ∧ Step [] (w.alloc (.cells #[.string ⟨#[]⟩, .int .i64 0, .bool false] 34)) o wr o ∧ Hid (find k (low nm) s.ws = find k (low nm) r))
    case atStart => exact ⟨s.ws, rfl, ⟨[], rfl⟩, rfl, s2, Lib.hid rfl⟩
    case round =>
      obtain ⟨r, hg, ⟨pre2, hpre⟩, rfl, st, hinv⟩ := hrel
      have HG := Lib.hid hg
      clear hg hlk2 c0 c1 c2 c3 c4
      have hE3 := hE.nil st
      have hb3 := hb.frame st (by simp)
      have hr3 := hr.frame st (by simp)
      have hz : w.heap.size ≤ w.heap.size := Nat.le_refl _
      by_cases hat : 0 ≤ ix k r
      · obtain ⟨pre, x, r', e1, e2, e3, e4, e5⟩ := ix_at k r hat
        have hws : s.ws = (pre2 ++ pre) ++ x :: r' := by rw [hpre, e1, List.append_assoc]
        rw [hws] at hr3
        obtain ⟨g, cap, rfl, hgl, hgo, hcap, hncap, y0, y1, y2, y3, y4, y5⟩ := word_at hr3
        rw [e2] at y5
        have hlen : r'.length < ((pre2 ++ pre) ++ x :: r').length := by simp; omega
        have hrl : r.length = pre.length + (r'.length + 1) := by rw [e1]; simp
        obtain ⟨q, hq⟩ : ∃ q, r'.length = q := ⟨_, rfl⟩
        obtain ⟨W, hW⟩ : ∃ W, ((pre2 ++ pre) ++ x :: r').length = W := ⟨_, rfl⟩
        rw [e3, hq]
        rw [hq, hW] at hlen
        rw [← hws] at hW
        have hWl : W ≤ 2000 := by omega
        rw [hq] at y0 y1 y2 y3 y4 y5
        have hqi : (q : Int) < W := by omega
        have hq0 : ((q : Int) == -1) = false := by rw [beq_eq_false_iff_ne]; omega
        have hWm : (W : Int) ≤ 9223372036854775807 := by omega
        obtain ⟨lk, hlk⟩ : ∃ lk, ix k r' = lk := ⟨_, rfl⟩
        rw [hlk] at y5
        obtain ⟨d0, d1, d2, d3, d4, -⟩ := hb3.cells5
        have sA := (Step.refl [] wr o).alloc (.cells #[.string x.nm, .int .i64 x.xt, .bool x.now, .string (low x.nm), .int .i64 x.li, .int .i64 lk] 72)
        obtain ⟨f0, f1, f2, f3, f4, -⟩ := (hb3.frame sA (by simp)).cells5
        have z5 := (sA.cell (a := ⟨g, q * 6 + 5, none⟩) hgl (by simp)).trans y5
        have hE4 := hE3.nil sA
        obtain ⟨x0, x1, x2, x3, x4, x5⟩ := hE4.cells
        rw [← hws, hW] at d0 f0
        rw [← hws, hW] at hncap
        have htq := teq (low x.nm) (low nm)
        have HQ := Lib.hid hq
        have HE4 := Lib.hid (e4 (low nm))
        have HWS := Lib.hid hws
        have HRL := Lib.hid hrl
        have HLK := Lib.hid hlk
        by_cases heq : low x.nm = low nm
        · rw [decide_eq_true heq] at htq
          have hv : V = .tuple #[.agg #[.string x.nm, .int .i64 x.xt, .bool x.now], .bool true] := by rw [HIV.out, hinv.out, HE4.out, if_pos heq]; rfl
          subst hv
          obtain ⟨g0, g1, g2, -⟩ := (hE4.set (.string x.nm) (.int .i64 x.xt) (.bool x.now)).cells
          have stF := (((st0.trans st).alloc (.cells #[.string x.nm, .int .i64 x.xt, .bool x.now, .string (low x.nm), .int .i64 x.li, .int .i64 lk] 72))).set3 hz (.string x.nm) (.int .i64 x.xt) (.bool x.now)
          clear hq hws hrl e1 e2 e3 e4 e5 hlk hW hr3 hat hpre heq
          go_wp2_with fail
          refine bodyPost_ret (v := .tuple #[.agg #[.string x.nm, .int .i64 x.xt, .bool x.now], .bool true]) (by simp only [results, Try.results18]; simp [go_sem, g0, g1, g2]) rfl ⟨rfl, stF⟩
        · rw [decide_eq_false heq] at htq
          have stF := st.alloc (.cells #[.string x.nm, .int .i64 x.xt, .bool x.now, .string (low x.nm), .int .i64 x.li, .int .i64 lk] 72)
          have HNE := Lib.hid heq
          clear hq hws hrl e1 e2 e3 e4 e5 hlk hW hr3 hat hpre heq
          go_wp2_with fail
          go_roundg q
          case measure => rw [HG.out, HRL.out, HQ.out]; omega
          case rel =>
            refine ⟨r', HQ.out.symm, ⟨pre2 ++ pre ++ [x], by rw [HWS.out]; simp⟩, by rw [HLK.out], stF, Lib.hid ?_⟩
            rw [hinv.out, HE4.out, if_neg HNE.out]
      · obtain ⟨g1, g2⟩ := ix_none k r (by omega)
        have hm1 : ix k r = -1 := by have := (ix_range k r).1; omega
        have hv : V = .tuple #[.agg #[.string ⟨#[]⟩, .int .i64 0, .bool false], .bool false] := by rw [HIV.out, hinv.out, g1]; rfl
        subst hv
        rw [hm1]
        obtain ⟨x0, x1, x2, x3, x4, x5⟩ := hE3.cells
        obtain ⟨h0, h1, h2, -⟩ := (hE3.set (.string ⟨#[]⟩) (.int .i64 0) (.bool false)).cells
        have stF := (st0.trans st).set3 hz (.string ⟨#[]⟩) (.int .i64 0) (.bool false)
        clear g1 g2 hm1 hinv hat
        go_wp2_with fail
        refine bodyPost_ret (v := .tuple #[.agg #[.string ⟨#[]⟩, .int .i64 0, .bool false], .bool false]) (by simp only [results, Try.results18]; simp [go_sem, h0, h1, h2]) rfl ⟨rfl, stF⟩
end Go.Proofs.Ytaledmoakhlmgaa
