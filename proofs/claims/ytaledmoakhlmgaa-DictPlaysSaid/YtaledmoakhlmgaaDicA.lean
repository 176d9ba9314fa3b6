/- A dictionary in memory; what only reads, or makes, it. -/
import Derived.Test.YtaledmoakhlmgaaMapL
import Derived.Test.YtaledmoakhlmgaaRowx
import Derived.Great.Walk
import Derived.Lib.Strings
namespace Go.Proofs.Ytaledmoakhlmgaa
open Go Go.RowKit
set_option linter.unusedSimpArgs false
set_option linter.unusedVariables false

abbrev ints (l : List Int) : List Value := l.map (Value.int .i64)
theorem infoI : (Try.prog.info? 3).map (fun i => (i.zero, i.size, i.bytes)) = some (some (.int .i64 0), 1, 8) := by kernel_rfl

/-- Block b, of owner i, is a dictionary that stands as s; its words' row is of owner i + 1, its order's of i + 2, its map of i + 3. -/
structure DB (w : World) (o : Owner) (i b : Nat) (s : Dst) (N : Nat) : Prop where
  ok : s.Ok
  ex : ∃ hv mb ov, Blk w o i b 69 #[hv, .map (some mb), .int .i64 s.lists, ov, .int .i64 s.cur] ∧ Row w o (i + 1) 72 6 hv s.ws.length (hcells s.ws) ∧
    Row w o (i + 2) 3 1 ov s.order.length (ints s.order) ∧ MapL w o (i + 3) mb s.lists (fun k => ix k s.ws) N

theorem DB.frame {S : List Nat} {w w' : World} {o o' : Owner} {i b N : Nat} {s : Dst} (h : DB w o i b s N) (st : Step S w o w' o') (h0 : i ∉ S) (h1 : i + 1 ∉ S) (h2 : i + 2 ∉ S) (h3 : i + 3 ∉ S) : DB w' o' i b s N := by
  obtain ⟨ok, hv, mb, ov, hb, hr, hr2, hm⟩ := h
  exact ⟨ok, hv, mb, ov, hb.frame st h0, hr.frame st h1, hr2.frame st h2, hm.frame st h3⟩
theorem DB.mono {w : World} {o : Owner} {i b N N' : Nat} {s : Dst} (h : DB w o i b s N) (hN : N ≤ N') : DB w o i b s N' := by
  obtain ⟨ok, hv, mb, ov, hb, hr, hr2, hm⟩ := h
  exact ⟨ok, hv, mb, ov, hb, hr, hr2, hm.mono hN⟩

theorem Blk.cells5 {w : World} {o : Owner} {i b : Nat} {T : TypeId} {v0 v1 v2 v3 v4 : Value} (h : Blk w o i b T #[v0, v1, v2, v3, v4]) :
    w.cell? ⟨b, 0, none⟩ = some v0 ∧ w.cell? ⟨b, 1, none⟩ = some v1 ∧ w.cell? ⟨b, 2, none⟩ = some v2 ∧ w.cell? ⟨b, 3, none⟩ = some v3 ∧ w.cell? ⟨b, 4, none⟩ = some v4 ∧
      w.frozen? ⟨b, 0, none⟩ = false ∧ w.frozen? ⟨b, 1, none⟩ = false ∧ w.frozen? ⟨b, 2, none⟩ = false ∧ w.frozen? ⟨b, 3, none⟩ = false ∧ w.frozen? ⟨b, 4, none⟩ = false :=
  ⟨h.cell 0, h.cell 1, h.cell 2, h.cell 3, h.cell 4, h.frozen 0, h.frozen 1, h.frozen 2, h.frozen 3, h.frozen 4⟩

/-- A new block of n elements, owned. -/
theorem Row.made (w : World) (o : Owner) (j E size : Nat) (cs : Array Value) (n : Nat) (hn : n ≤ maxLen) (h : cs.size = n * size) :
    Row (w.alloc (.cells cs E)) (o.set w.heap.size j) j E size (.slice (some ⟨w.heap.size, 0, none⟩) n n) n cs.toList :=
  ⟨by simpa using h, .inr ⟨w.heap.size, n, cs, rfl, Owner.set_self _ _ _, heap_alloc_new _ _, Nat.le_refl _, hn, h, by rw [← h]; exact List.take_length⟩⟩

theorem new_ok (w : World) (o : Owner) (i : Nat) : Calls Try.prog 10 #[] w fun e w' => ∃ b o', e = .returned (.pointer (some ⟨b, 0, none⟩)) ∧ DB w' o' i b new0 2 ∧ Step [] w o w' o' := by
  have hmm := @run_makeMap Try.prog
  have h0 : MapL (w.alloc (.map #[] 0)) (Owner.set (fun _ => 0) w.heap.size 1) 1 w.heap.size 0 (fun _ => 0) 0 := ⟨Owner.set_self _ _ _, .map [], World.ownsMap_made _ _ _ _, Maps.isMap_empty, fun k k1 k2 => by omega⟩
  obtain ⟨w1, hrun, s1, hup⟩ := h0.update (by decide) (k := 1) (v := -1) ⟨by decide, by decide⟩ ⟨by decide, by decide⟩
  have hm1 := (hup 1 (fun k => ix k []) (.inr ⟨rfl, rfl⟩) (fun j j1 j2 => by rw [if_pos (show j = 1 by omega)]; rfl)).owner (o' := o.set w.heap.size (i + 3)) (Owner.set_self _ _ _)
  have st0 : Step [] w o (w.alloc (.map #[] 0)) (o.set w.heap.size (i + 3)) := ((Step.refl _ _ _).alloc _).give (Nat.le_refl _) _
  have st1 : Step [] w o w1 (o.set w.heap.size (i + 3)) := ⟨s1.os.trans st0.os, s1.tape.trans st0.tape, s1.output.trans st0.output, Nat.le_trans st0.size s1.size, st0.own,
    fun b hb hn => (s1.blk b (Nat.lt_of_lt_of_le hb st0.size) (by rw [Owner.set_ne _ _ (by omega)]; decide)).trans (st0.blk b hb hn)⟩
  have hlt := hm1.lt
  have R := Row.made w1 (o.set w.heap.size (i + 3)) (i + 2) 3 1 #[.int .i64 1] 1 (by decide) rfl
  have B := Blk.new (w1.alloc (.cells #[.int .i64 1] 3)) ((o.set w.heap.size (i + 3)).set w1.heap.size (i + 2)) i 69 #[.slice none 0 0, .map (some w.heap.size), .int .i64 1, .slice (some ⟨w1.heap.size, 0, none⟩) 1 1, .int .i64 1]
  have t1 : Step [] w1 (o.set w.heap.size (i + 3)) (w1.alloc (.cells #[.int .i64 1] 3)) ((o.set w.heap.size (i + 3)).set w1.heap.size (i + 2)) := ((Step.refl _ _ _).alloc _).give (Nat.le_refl _) _
  have t2 : Step [] (w1.alloc (.cells #[.int .i64 1] 3)) ((o.set w.heap.size (i + 3)).set w1.heap.size (i + 2)) ((w1.alloc (.cells #[.int .i64 1] 3)).alloc (.cells #[.slice none 0 0, .map (some w.heap.size), .int .i64 1, .slice (some ⟨w1.heap.size, 0, none⟩) 1 1, .int .i64 1] 69)) (((o.set w.heap.size (i + 3)).set w1.heap.size (i + 2)).set (w1.alloc (.cells #[.int .i64 1] 3)).heap.size i) := ((Step.refl _ _ _).alloc _).give (Nat.le_refl _) _
  have hm3 := (hm1.frame t1 (by simp)).frame t2 (by simp)
  have R3 := R.frame t2 (by simp)
  have st3 := (st1.trans t1).trans t2
  clear hup h0
  rw [World.size_alloc] at B hm3 R3 st3
  clear R t1 t2 st1 st0 s1
  go_enter Try.func10, Try.ntmps10
  go_wp2_with fail
  go_ret
  exact ⟨_, rfl, _, ⟨new0_ok, _, _, _, B, Row.nil _ _ _ _ _ _, R3, hm3.mono (by decide)⟩, st3⟩

theorem known_ok {w : World} {o : Owner} {i b N : Nat} {s : Dst} (h : DB w o i b s N) (k : Int) : Calls Try.prog 31 #[.pointer (some ⟨b, 0, none⟩), .int .i64 k] w fun e w' => e = .returned (.bool (knownB s k)) ∧ w' = w := by
  obtain ⟨ok, hv, mb, ov, hb, hr, hr2, hm⟩ := h
  obtain ⟨c0, c1, c2, c3, c4, -⟩ := hb.cells5
  unfold knownB
  clear hr hr2 hm hb ok
  by_cases h1 : 1 ≤ k
  · by_cases h2 : k ≤ s.lists
    · rw [decide_eq_true ⟨h1, h2⟩]
      go_enter Try.func31, Try.ntmps31
      go_wp2
      go_ret
      exact ⟨rfl, rfl⟩
    · rw [decide_eq_false fun h => h2 h.2]
      go_enter Try.func31, Try.ntmps31
      go_wp2
      go_ret
      exact ⟨rfl, rfl⟩
  · rw [decide_eq_false fun h => h1 h.1]
    go_enter Try.func31, Try.ntmps31
    go_wp2
    go_ret
    exact ⟨rfl, rfl⟩

theorem Row.slice {w : World} {o : Owner} {i E size : Nat} {v : Value} {n : Nat} {xs : List Value} (h : Row w o i E size v n xs) : ∃ ao cap, v = .slice ao n cap ∧ n ≤ cap ∧ cap ≤ 9223372036854775807 := by
  obtain ⟨_, ⟨ao, rfl, rfl⟩ | ⟨g, cap, cur, rfl, _, _, h1, h2, _⟩⟩ := h
  · exact ⟨ao, 0, rfl, Nat.le_refl _, by omega⟩
  · exact ⟨_, cap, rfl, h1, h2⟩

theorem mark_ok {w : World} {o : Owner} {i b N : Nat} {s : Dst} (h : DB w o i b s N) : Calls Try.prog 14 #[.pointer (some ⟨b, 0, none⟩)] w fun e w' => e = .returned (.agg #[.int .i64 s.ws.length, .int .i64 s.lists]) ∧ Step [] w o w' o := by
  obtain ⟨ok, hv, mb, ov, hb, hr, hr2, hm⟩ := h
  obtain ⟨c0, c1, c2, c3, c4, -⟩ := hb.cells5
  obtain ⟨ao, cap, rfl, g1, g2⟩ := hr.slice
  obtain ⟨e0, e1, e2, e3, e4, -⟩ := (hb.frame ((Step.refl [] w o).alloc (.cells #[.int .i64 0, .int .i64 0] 31)) (by simp)).cells5
  clear hr hr2 hm hb ok
  go_enter Try.func14, Try.ntmps14
  go_wp2_with fail
  go_region
  all_goals go_wp2_with fail
  all_goals simp [bodyPost, results, Try.results14, go_sem]
  all_goals exact ((Step.refl _ _ _).alloc _).drew

theorem current_ok {w : World} {o : Owner} {i b N : Nat} {s : Dst} (h : DB w o i b s N) : Calls Try.prog 19 #[.pointer (some ⟨b, 0, none⟩)] w fun e w' => e = .returned (.int .i64 s.cur) ∧ w' = w := by
  obtain ⟨ok, hv, mb, ov, hb, hr, hr2, hm⟩ := h
  obtain ⟨c0, c1, c2, c3, c4, -⟩ := hb.cells5
  clear hr hr2 hm hb ok
  go_enter Try.func19, Try.ntmps19
  go_wp2
  go_ret
  exact ⟨rfl, rfl⟩

@[go_sem] theorem eqlnil46 (w : World) (a : Option Addr) (n c : Nat) : (binOp .eql 46 (.slice a n c) (.slice none 0 0)).run Try.prog w = .ok (.bool a.isNone) w := Lib.run_eql_slice_nil w 46 3 a n c 0 0 Try.underlying46

theorem clone_ok {w : World} {o : Owner} {i n : Nat} {v : Value} {xs : List Value} (hr : Rd w o i 1 v n xs) (hn : n ≤ 1000000) (j : Nat) :
    Calls Try.prog 34 #[v] w fun e w' => ∃ v' o', e = .returned v' ∧ Row w' o' j 3 1 v' n xs ∧ Step [] w o w' o' := by
  have hr0 := hr
  obtain ⟨ao, cap, rfl, h1, h2, h3, h4⟩ := hr
  cases ao with
  | none =>
    have hn0 : n = 0 := by
      rcases Nat.eq_zero_or_pos n with h | h
      · exact h
      · obtain ⟨b, off, hb, _⟩ := h4 h; cases hb
    subst hn0
    obtain rfl : xs = [] := List.eq_nil_of_length_eq_zero (by simpa using h3)
    clear h4 hr0
    go_enter Try.func34, Try.ntmps34
    go_wp2
    go_ret
    exact ⟨_, o, rfl, Row.nil _ _ _ _ _ _, Step.refl _ _ _⟩
  | some a =>
    clear h4
    have hw := hr0.frame ((Step.refl [] w o).alloc (.cells #[] 3)) (by simp)
    go_enter Try.func34, Try.ntmps34
    go_wp2_with (at_builtin; refine wpList_app0 rfl (.tmp 5) (.tmp 6) 46 rfl o j Try.underlying46 infoI rfl rfl rfl hw (by omega) (by omega) ?_)
    intro v' w' o' hrow hst
    go_wp2
    go_ret
    exact ⟨_, o', rfl, hrow, ((Step.refl [] w o).alloc _).trans hst⟩

theorem order_ok {w : World} {o : Owner} {i b N : Nat} {s : Dst} (h : DB w o i b s N) (j : Nat) : Calls Try.prog 22 #[.pointer (some ⟨b, 0, none⟩)] w fun e w' => ∃ v o', e = .returned v ∧ Row w' o' j 3 1 v s.order.length (ints s.order) ∧ Step [] w o w' o' := by
  obtain ⟨ok, hv, mb, ov, hb, hr, hr2, hm⟩ := h
  obtain ⟨c0, c1, c2, c3, c4, -⟩ := hb.cells5
  have hrd := hr2.rd
  have hol := ok.ol
  clear hr hr2 hm hb ok
  go_enter Try.func22, Try.ntmps22
  go_wp2_with (go_at_call 34; refine (clone_ok hrd (by omega) j).mono ?_; rintro e w' ⟨v', o', rfl, hrow, hst⟩)
  go_ret
  exact ⟨v', o', rfl, hrow, hst⟩

abbrev strs (l : List ByteArray) : List Value := l.map Value.string
theorem teq (a b : ByteArray) : (a.toList == b.toList) = decide (a = b) := by
  rw [Lib.toList_data, Lib.toList_data]
  by_cases h : a = b
  · subst h
    rw [decide_eq_true rfl, beq_self_eq_true]
  · rw [decide_eq_false h, beq_eq_false_iff_ne]
    exact fun e => h (lst_inj e)

/-- Two rows of texts that read alike are alike. -/
theorem texts_ok {w : World} {o : Owner} {i j : Nat} {u v : Value} {l m : List ByteArray} (hu : Rd w o i 1 u l.length (strs l)) (hv : Rd w o j 1 v m.length (strs m)) (hl : l.length ≤ 1000000) (hm : m.length ≤ 1000000) :
    Calls Try.prog 12 #[u, v] w fun e w' => e = .returned (.bool (decide (l = m))) ∧ Step [] w o w' o := by
  obtain ⟨ao, ca, rfl, g1, g2, g3, g4⟩ := hu
  obtain ⟨bo, cb, rfl, k1, k2, k3, k4⟩ := hv
  by_cases hlen : l.length = m.length
  · obtain ⟨n, hn⟩ : ∃ n, l.length = n := ⟨_, rfl⟩
    have hmn : m.length = n := by rw [← hlen, hn]
    rw [hn, hmn]
    rw [hn] at g4
    rw [hmn] at k4
    have HN := Lib.hid hn
    have HM := Lib.hid hmn
    have hnm : n ≤ 1000000 := by omega
    clear g1 g2 g3 k1 k2 k3 hl hm hlen hn hmn
    have HG := Lib.hid g4
    have HK := Lib.hid k4
    obtain ⟨R, hR⟩ : ∃ R, decide (l = m) = R := ⟨_, rfl⟩
    rw [hR]
    have HR := Lib.hid hR
    clear g4 k4 hR
    go_enter Try.func12, Try.ntmps12
    go_wp2_with fail
    go_loopg [5, 13] n (fun g a5 a wr => ∃ q : Nat, g = n - q ∧ q ≤ n ∧ a = .int .i64 q ∧ Step [] w o wr o ∧ Hid (l.take q = m.take q))
    case atStart => exact ⟨0, rfl, Nat.zero_le _, rfl, Step.refl _ _ _, Lib.hid rfl⟩
    case round =>
      obtain ⟨q, hg, hq, rfl, st, hinv⟩ := hrel
      have HQ := Lib.hid hg
      clear hg
      by_cases hlt : q < n
      · have hqi : (q : Int) < n := by omega
        have hql : q < l.length := by rw [HN.out]; exact hlt
        have hqm : q < m.length := by rw [HM.out]; exact hlt
        obtain ⟨x, hx⟩ : ∃ x, l[q] = x := ⟨_, rfl⟩
        obtain ⟨y, hy⟩ : ∃ y, m[q] = y := ⟨_, rfl⟩
        obtain ⟨b1, off1, rfl, hb1, ho1, hc1⟩ := HG.out (by omega)
        obtain ⟨b2, off2, rfl, hb2, ho2, hc2⟩ := HK.out (by omega)
        have e1 := (st.cell (a := ⟨b1, off1 + q, none⟩) hb1 (by simp)).trans (hc1 q (.string x) (by rw [List.getElem?_map, List.getElem?_eq_getElem hql, hx]; rfl))
        have e2 := (st.cell (a := ⟨b2, off2 + q, none⟩) hb2 (by simp)).trans (hc2 q (.string y) (by rw [List.getElem?_map, List.getElem?_eq_getElem hqm, hy]; rfl))
        have t1 : l.take (q + 1) = l.take q ++ [x] := by rw [List.take_succ_eq_append_getElem hql, hx]
        have t2 : m.take (q + 1) = m.take q ++ [y] := by rw [List.take_succ_eq_append_getElem hqm, hy]
        have T1 := Lib.hid t1
        have T2 := Lib.hid t2
        have hxy := teq x y
        clear hc1 hc2 hx hy t1 t2
        by_cases hxe : x = y
        · subst hxe
          rw [decide_eq_true rfl] at hxy
          go_wp2_with fail
          go_region
          all_goals go_wp2_with fail
          all_goals go_roundg (n - (q + 1))
          case measure => rw [HQ.out]; omega
          case rel => exact ⟨q + 1, rfl, by omega, by go_num, st.drew, Lib.hid (by rw [T1.out, T2.out, hinv.out])⟩
        · rw [decide_eq_false hxe] at hxy
          have hne : l ≠ m := by
            intro h
            apply hxe
            have h1 := T1.out
            have h2 := T2.out
            rw [h] at h1
            rw [h1] at h2
            have := List.append_inj_right' h2 rfl
            simpa using this
          have hRf : R = false := by rw [← HR.out]; exact decide_eq_false hne
          subst hRf
          go_wp2_with fail
          go_region
          all_goals go_wp2_with fail
          all_goals go_ret
          all_goals exact ⟨rfl, st.drew⟩
      · obtain rfl : q = n := by omega
        have h := hinv.out
        rw [List.take_of_length_le (by rw [HN.out]; exact Nat.le_refl _), List.take_of_length_le (by rw [HM.out]; exact Nat.le_refl _)] at h
        have hqi : ¬ (q : Int) < q := by omega
        have hRt : R = true := by rw [← HR.out]; exact decide_eq_true h
        subst hRt
        clear h hinv
        go_wp2_with fail
        go_ret
        exact ⟨rfl, st⟩
  · have hne : l ≠ m := fun h => hlen (by rw [h])
    have hli : ¬ (l.length : Int) = (m.length : Int) := by omega
    have hlb : ((l.length : Int) == (m.length : Int)) = false := by rw [beq_eq_false_iff_ne]; exact hli
    rw [decide_eq_false hne]
    clear g4 k4
    go_enter Try.func12, Try.ntmps12
    go_wp2_with fail
    go_ret
    exact ⟨rfl, Step.refl _ _ _⟩
end Go.Proofs.Ytaledmoakhlmgaa
