/- The document's dictionary is made to stand as it did. -/
import Derived.Test.YtaledmoakhlmgaaRefE
namespace Go.Proofs.Ytaledmoakhlmgaa
open Go Go.RowKit
set_option linter.unusedSimpArgs false
set_option linter.unusedVariables false

theorem rback_bad {w : World} {o : Owner} {i b : Nat} {s : Dst} (h : RB w o i b s) (mw ml : Int) (hbad : mw < 0 ∨ (s.ws.length : Int) < mw ∨ ml < 1 ∨ s.lists < ml) :
    Calls Try.prog 46 #[.pointer (some ⟨b, 0, none⟩), .agg #[.int .i64 mw, .int .i64 ml]] w fun e w' => e = .returned (.int .i64 1) ∧ Step [] w o w' o := by
  have s0 := (Step.refl [] w o).alloc (.cells #[.int .i64 mw, .int .i64 ml] 31)
  have c5 : (w.alloc (.cells #[.int .i64 mw, .int .i64 ml] 31)).cell? ⟨w.heap.size, 0, none⟩ = some (.int .i64 mw) := (Blk.new w o 0 31 #[.int .i64 mw, .int .i64 ml]).cell 0
  have c6 : (w.alloc (.cells #[.int .i64 mw, .int .i64 ml] 31)).cell? ⟨w.heap.size, 1, none⟩ = some (.int .i64 ml) := (Blk.new w o 0 31 #[.int .i64 mw, .int .i64 ml]).cell 1
  obtain ⟨ok, lv, ov, jo, hjo, hb, hr, hr2⟩ := h
  obtain ⟨⟨c0, c1, c2, c3⟩, -⟩ := (hb.frame s0 (by simp)).cells4
  obtain ⟨ao, cap, rfl, g1, g2⟩ := hr.slice
  generalize hn : s.ws.length = n at hbad c0 g1
  clear hr hr2 hb ok hn
  by_cases h1 : mw < 0
  · have e1 : decide (mw < 0) = true := decide_eq_true h1
    clear hbad h1
    go_enter Try.func46, Try.ntmps46
    go_wp2_with fail
    go_quiet (fail)
    go_wp2_with fail
    go_ret
    exact ⟨rfl, s0.drewN _⟩
  · have e1 : decide (mw < 0) = false := decide_eq_false h1
    by_cases h3 : ml < 1
    · have e3 : decide (ml < 1) = true := decide_eq_true h3
      clear hbad h1 h3
      go_enter Try.func46, Try.ntmps46
      go_wp2_with fail
      go_quiet (fail)
      go_wp2_with fail
      go_ret
      exact ⟨rfl, s0.drewN _⟩
    · have e3 : decide (ml < 1) = false := decide_eq_false h3
      by_cases h2 : (n : Int) < mw
      · have e2 : decide ((n : Int) < mw) = true := decide_eq_true h2
        clear hbad h1 h2 h3
        go_enter Try.func46, Try.ntmps46
        go_wp2_with fail
        go_quiet (fail)
        go_wp2_with fail
        go_ret
        exact ⟨rfl, s0.drewN _⟩
      · have e2 : decide ((n : Int) < mw) = false := decide_eq_false h2
        have h4 : s.lists < ml := by omega
        have e4 : decide (s.lists < ml) = true := decide_eq_true h4
        clear hbad h1 h2 h3 h4
        go_enter Try.func46, Try.ntmps46
        go_wp2_with fail
        go_quiet (fail)
        go_wp2_with fail
        go_ret
        exact ⟨rfl, s0.drewN _⟩

/-- What Back goes by: the dictionary's own cells, and the box of what came in. -/
structure RK (w : World) (o : Owner) (i z b : Nat) (lv : Value) (L : Int) (ov : Value) (cur mw ml : Int) : Prop where
  d : Blk w o i b 64 #[lv, .int .i64 L, ov, .int .i64 cur]
  b1 : Blk w o (i + 4) z 31 #[.int .i64 mw, .int .i64 ml]
theorem RK.frame {S : List Nat} {w w' : World} {o o' : Owner} {i z b : Nat} {lv ov : Value} {L cur mw ml : Int} (h : RK w o i z b lv L ov cur mw ml) (st : Step S w o w' o') (h0 : i ∉ S) (h4 : i + 4 ∉ S) : RK w' o' i z b lv L ov cur mw ml :=
  ⟨h.d.frame st h0, h.b1.frame st h4⟩
theorem RK.facts {w : World} {o : Owner} {i z b : Nat} {lv ov : Value} {L cur mw ml : Int} (h : RK w o i z b lv L ov cur mw ml) :
    ((w.cell? ⟨b, 0, none⟩ = some lv ∧ w.cell? ⟨b, 1, none⟩ = some (.int .i64 L) ∧ w.cell? ⟨b, 2, none⟩ = some ov ∧ w.cell? ⟨b, 3, none⟩ = some (.int .i64 cur)) ∧
    (w.frozen? ⟨b, 0, none⟩ = false ∧ w.frozen? ⟨b, 1, none⟩ = false ∧ w.frozen? ⟨b, 2, none⟩ = false ∧ w.frozen? ⟨b, 3, none⟩ = false)) ∧
    (w.cell? ⟨z, 0, none⟩ = some (.int .i64 mw) ∧ w.cell? ⟨z, 1, none⟩ = some (.int .i64 ml)) := ⟨h.d.cells4, h.b1.cell 0, h.b1.cell 1⟩

theorem Row.rkept {w : World} {o : Owner} {i : Nat} {ao : Option Addr} {cap : Nat} {pre r : List Wd} (h : Row w o i 80 4 (.slice ao (pre ++ r).length cap) (pre ++ r).length (rcells (pre ++ r))) : Row w o i 80 4 (.slice ao r.length cap) r.length (rcells r) := by
  have := h.cut (k := r.length) (by simp)
  rw [rcells_take] at this
  exact this

set_option maxRecDepth 100000 in
set_option maxHeartbeats 40000000 in
theorem rback_good {w : World} {o : Owner} {i b : Nat} {s : Dst} (h : RB w o i b s) (m : Nat) (mw ml : Int) (hmw : mw = m) (h2 : m ≤ s.ws.length) (h3 : 1 ≤ ml) (h4 : ml ≤ s.lists) :
    Calls Try.prog 46 #[.pointer (some ⟨b, 0, none⟩), .agg #[.int .i64 mw, .int .i64 ml]] w fun e w' => e = .returned (.int .i64 (backE s mw ml)) ∧ ∃ o', RB w' o' i b (backS s mw ml) ∧ Step [i, i + 2, i + 3] w o w' o' := by
  have hmt : mw.toNat = m := by omega
  have hm0 : (0 : Int) ≤ mw := by omega
  have hokS := backS_ok h.ok mw ml
  have hwl := h.ok.wl
  have hol := h.ok.ol
  have h0 := h
  obtain ⟨ok, lv, ov, jo, hjo, hb, hr, hr2⟩ := h
  obtain ⟨ao, cap, rfl, g1, g2⟩ := hr.slice
  obtain ⟨n, hn⟩ : ∃ n, s.ws.length = n := ⟨_, rfl⟩
  obtain ⟨r0, hr0⟩ : ∃ r0, kept s mw = r0 := ⟨_, rfl⟩
  obtain ⟨pre0, hpre0⟩ : ∃ pre, s.ws = pre ++ r0 := ⟨s.ws.take (s.ws.length - mw.toNat), by rw [← hr0, kept, List.take_append_drop]⟩
  have hrl : r0.length = m := by rw [← hr0, kept, List.length_drop]; omega
  have hE : backE s mw ml = if r0.any (fun x => decide (ml < x.li)) then 1 else 0 := by
    unfold backE
    rw [if_neg (by omega), if_neg (by omega), if_neg (by omega), if_neg (by omega), hr0]
  have hS : backS s mw ml = if r0.any (fun x => decide (ml < x.li)) then s else ⟨r0, ml, s.order.filter (inL ml), curB s.cur ml⟩ := by
    unfold backS
    rw [hE, hr0]
    split <;> simp
  have e1 : decide (mw < 0) = false := decide_eq_false (by omega)
  have e2 : decide ((n : Int) < mw) = false := decide_eq_false (by omega)
  have e3 : decide (ml < 1) = false := decide_eq_false (by omega)
  have e4 : decide (s.lists < ml) = false := decide_eq_false (by omega)
  have hmn : m ≤ n := by omega
  have hmi : mw ≤ cap := by omega
  have s1 : Step [] w o (w.alloc (.cells #[.int .i64 mw, .int .i64 ml] 31)) (o.set w.heap.size (i + 4)) := ((Step.refl _ _ _).alloc _).give (Nat.le_refl _) _
  have hk : RK (w.alloc (.cells #[.int .i64 mw, .int .i64 ml] 31)) (o.set w.heap.size (i + 4)) i w.heap.size b (.slice ao s.ws.length cap) s.lists ov s.cur mw ml := ⟨hb.frame s1 (by simp), Blk.new _ _ _ _ _⟩
  replace hr := hr.frame s1 (by simp)
  replace hr2 := hr2.frame s1 (by simp)
  obtain ⟨W, hW⟩ : ∃ W, W = w.alloc (.cells #[.int .i64 mw, .int .i64 ml] 31) := ⟨_, rfl⟩
  generalize o.set w.heap.size (i + 4) = o2 at s1 hk hr hr2
  rw [hn] at hr hk g1
  obtain ⟨⟨⟨c0, c1, c2, c3⟩, -⟩, ⟨c5, c6⟩⟩ := hk.facts
  have HW := Lib.hid hW
  rw [← hW] at s1 hk hr hr2
  obtain ⟨z, hz⟩ : ∃ z, w.heap.size = z := ⟨_, rfl⟩
  rw [hz] at hk
  have HZ := Lib.hid hz
  have HN := Lib.hid hn
  have HP := Lib.hid hpre0
  have HRL := Lib.hid hrl
  have HMW := Lib.hid hmw
  obtain ⟨E, hEE⟩ : ∃ E, backE s mw ml = E := ⟨_, rfl⟩
  obtain ⟨T, hTT⟩ : ∃ T, backS s mw ml = T := ⟨_, rfl⟩
  rw [hEE, hTT]
  rw [hEE] at hE
  rw [hTT] at hS hokS
  have HE := Lib.hid hE
  have HS := Lib.hid hS
  have HOK := Lib.hid hokS
  have H0 := Lib.hid h0
  clear hE hS hokS hEE hTT hpre0 hr0 hn hrl hmw hW hz hb h0 ok
  go_enter Try.func46, Try.ntmps46
  go_wp2_with fail
  go_quiet (fail)
  have s5 : Step [] W o2 (W.drewN nq) o2 := (Step.refl _ _ _).drewN _
  rw [← HW.out, HZ.out]
  generalize W.drewN nq = W5 at s5 ⊢
  replace hk := hk.frame s5 (by simp) (by simp)
  replace hr := hr.frame s5 (by simp)
  replace hr2 := hr2.frame s5 (by simp)
  have S5 := s1.trans s5
  clear c0 c1 c2 c3 c5 c6 s1 s5 HW
  obtain ⟨⟨⟨c0, c1, c2, c3⟩, -⟩, ⟨c5, c6⟩⟩ := hk.facts
  go_wp2_with fail
  go_loopg [5] m (fun g a5 wr => ∃ q : Nat, g = m - q ∧ q ≤ m ∧ a5 = .int .i64 q ∧ Step [] W5 o2 wr o2 ∧ Hid (∀ x ∈ s.ws.drop (n - q), decide (ml < x.li) = false))
  case atStart => exact ⟨0, rfl, Nat.zero_le _, rfl, Step.refl _ _ _, Lib.hid (by intro x hx; rw [List.drop_of_length_le (by rw [HN.out]; omega)] at hx; cases hx)⟩
  case round =>
    obtain ⟨q, hg, hq, rfl, st, A⟩ := hrel
    have HQ := Lib.hid hg
    clear hg c0 c1 c2 c3 c5 c6
    have hkr := hk.frame st (by simp) (by simp)
    obtain ⟨⟨⟨c0, c1, c2, c3⟩, ⟨f0, f1, f2, f3⟩⟩, ⟨c5, c6⟩⟩ := hkr.facts
    have hrr := hr.frame st (by simp)
    by_cases hlt : q < m
    · have hqi : (q : Int) < mw := by have := HMW.out; omega
      have hjl : n - q - 1 < s.ws.length := by rw [HN.out]; omega
      obtain ⟨pre, x, r, hws, hrl⟩ : ∃ pre x r, s.ws = pre ++ x :: r ∧ r.length = q :=
        ⟨s.ws.take (n - q - 1), s.ws[n - q - 1], s.ws.drop (n - q - 1 + 1), by rw [List.getElem_cons_drop, List.take_append_drop], by rw [List.length_drop, HN.out]; omega⟩
      have hrx := hrr
      rw [← HN.out, hws] at hrx
      obtain ⟨g, cap', hsl, hgl, hgo, hcap, hncap, y0, y1, y2, y3⟩ := rword_at hrx
      rw [← hws, HN.out] at hsl
      simp only [Value.slice.injEq, true_and] at hsl
      obtain ⟨rfl, rfl⟩ := hsl
      rw [hrl] at y0 y1 y2 y3
      have hqn : (q : Int) < n := by omega
      have hd1 : s.ws.drop (n - (q + 1)) = x :: r := by
        have hpl : n - (q + 1) = pre.length := by have := congrArg List.length hws; rw [HN.out, List.length_append, List.length_cons] at this; omega
        rw [hpl, hws, List.drop_left]
      have hd0 : s.ws.drop (n - q) = r := by
        have e : n - q = (n - (q + 1)) + 1 := by omega
        rw [e, ← List.drop_drop, hd1]
        rfl
      have HD0 := Lib.hid hd0
      have HD1 := Lib.hid hd1
      have HRLL := Lib.hid hrl
      obtain ⟨xl, hxl⟩ : ∃ xl, x.li = xl := ⟨_, rfl⟩
      rw [hxl] at y3
      have HXL := Lib.hid hxl
      have HWS := Lib.hid hws
      clear hrx hws hrl hd0 hd1 hxl hrr
      by_cases hx : ml < xl
      · have hxb : decide (ml < xl) = true := decide_eq_true hx
        have hany : r0.any (fun x => decide (ml < x.li)) = true := by
          refine List.any_eq_true.2 ⟨x, ?_, by rw [HXL.out]; exact hxb⟩
          have e := HP.out
          have hmem : x ∈ s.ws.drop (n - m) := by
            have h7 : s.ws.drop (n - (q + 1)) = (s.ws.drop (n - m)).drop (m - (q + 1)) := by rw [List.drop_drop]; congr 1; omega
            have : x ∈ s.ws.drop (n - (q + 1)) := by rw [HD1.out]; simp
            rw [h7] at this
            exact List.mem_of_mem_drop this
          have h8 : n - m = pre0.length := by have := congrArg List.length e; rw [HN.out, List.length_append, HRL.out] at this; omega
          rw [h8, e, List.drop_left] at hmem
          exact hmem
        have hEv : E = 1 := by rw [HE.out, if_pos hany]
        have hTv : T = s := by rw [HS.out, if_pos hany]
        have H0' := H0.out
        subst hEv
        subst hTv
        clear hany hx
        go_wp2_with fail
        go_region
        all_goals go_wp2_with fail
        all_goals go_ret
        all_goals exact ⟨rfl, o2, H0'.nil (S5.trans st.drew), (S5.trans st.drew).nil⟩
      · have hxb : decide (ml < xl) = false := decide_eq_false hx
        have HX := Lib.hid hxb
        clear hx
        go_wp2_with fail
        go_region
        all_goals go_wp2_with fail
        all_goals go_roundg (m - (q + 1))
        case measure => rw [HQ.out]; omega
        case rel =>
          refine ⟨q + 1, rfl, by omega, by go_num, st.drew, Lib.hid fun y hy => ?_⟩
          rw [HD1.out] at hy
          rcases List.mem_cons.1 hy with rfl | hy
          · rw [HXL.out]; exact HX.out
          · exact A.out y (by rw [HD0.out]; exact hy)
    · have hqm : m = q := by omega
      subst hqm
      have hqi : ¬ ((m : Int) < mw) := by have := HMW.out; omega
      have hany : r0.any (fun x => decide (ml < x.li)) = false := by
        have h8 : n - m = pre0.length := by have := congrArg List.length HP.out; rw [HN.out, List.length_append, HRL.out] at this; omega
        have h9 := A.out
        rw [h8, HP.out, List.drop_left] at h9
        cases hh : r0.any (fun x => decide (ml < x.li)) with
        | false => rfl
        | true =>
          obtain ⟨x, h1, h2⟩ := List.any_eq_true.1 hh
          rw [h9 x h1] at h2
          cases h2
      have hEv : E = 0 := by rw [HE.out, hany]; rfl
      have hTv : T = ⟨r0, ml, s.order.filter (inL ml), curB s.cur ml⟩ := by rw [HS.out, hany]; rfl
      subst hEv
      subst hTv
      have hrk := hrr
      rw [← HN.out, HP.out] at hrk
      replace hrk := hrk.rkept
      rw [HRL.out] at hrk
      have hr21 := hr2.frame st (by simp)
      obtain ⟨ao2, cap2, rfl, hnc2, -⟩ := hr21.slice
      obtain ⟨nn, hnn⟩ : ∃ nn, s.order.length = nn := ⟨_, rfl⟩
      rw [hnn] at hr21 hkr c2 hol hnc2
      have HNN := Lib.hid hnn
      -- the words are cut
      have t1 := (hkr.d.sstep 0 (.slice ao m cap)).drew
      have tdr : Step [] (wr.setCell ⟨b, 0, none⟩ (.slice ao m cap)) o2 (wr.setCell ⟨b, 0, none⟩ (.slice ao m cap)).drew o2 := (Step.refl _ _ _).drew
      have hkA : RK (wr.setCell ⟨b, 0, none⟩ (.slice ao m cap)).drew o2 i z b (.slice ao m cap) s.lists (.slice ao2 nn cap2) s.cur mw ml := ⟨Blk.frame (cs := #[.slice ao m cap, .int .i64 s.lists, .slice ao2 nn cap2, .int .i64 s.cur]) (hkr.d.set 0 _) tdr (by simp), hkr.b1.frame t1 (by simp)⟩
      replace hrk := hrk.frame t1 (by simp)
      replace hr21 := hr21.frame t1 (by simp; omega)
      have S7 : Step [i] w o (wr.setCell ⟨b, 0, none⟩ (.slice ao m cap)).drew o2 := (S5.trans st).nil.trans t1
      clear t1 tdr hrr hnn hany hlt hkr
      go_wp2_with fail
      go_region
      clear c0 c1 c2 c3 c5 c6 f0 f1 f2 f3
      generalize (wr.setCell ⟨b, 0, none⟩ (.slice ao m cap)).drew = V1 at hkA hrk hr21 S7 ⊢
      obtain ⟨⟨⟨c0, c1, c2, c3⟩, ⟨f0, f1, f2, f3⟩⟩, ⟨c5, c6⟩⟩ := hkA.facts
      have t2 := hkA.d.sstep 1 (.int .i64 ml)
      have hkB : RK (V1.setCell ⟨b, 1, none⟩ (.int .i64 ml)) o2 i z b (.slice ao m cap) ml (.slice ao2 nn cap2) s.cur mw ml := ⟨hkA.d.set 1 _, hkA.b1.frame t2 (by simp)⟩
      replace hrk := hrk.frame t2 (by simp)
      replace hr21 := hr21.frame t2 (by simp; omega)
      replace S7 := S7.trans t2
      clear hkA t2
      go_wp2_with fail
      clear c0 c1 c2 c3 c5 c6 f0 f1 f2 f3
      generalize V1.setCell ⟨b, 1, none⟩ (.int .i64 ml) = V2 at hkB hrk hr21 S7 ⊢
      obtain ⟨jn, hjn, hjne⟩ : ∃ jn, (jn = i + 2 ∨ jn = i + 3) ∧ jn ≠ jo := by
        rcases hjo with rfl | rfl
        · exact ⟨i + 3, .inr rfl, by omega⟩
        · exact ⟨i + 2, .inl rfl, by omega⟩
      have hrd2 := hr21.rd
      obtain ⟨ao', cap', hsl, -, -, -, g4⟩ := hrd2
      simp only [Value.slice.injEq, true_and] at hsl
      obtain ⟨rfl, rfl⟩ := hsl
      have HG := Lib.hid g4
      clear g4
      go_loopg [6, 7] nn (fun g a6 a7 wy => ∃ (q : Nat) (l : List Int) (oy : Owner), g = nn - q ∧ q ≤ nn ∧ a7 = .int .i64 q ∧ Row wy oy jn 3 1 a6 l.length (ints l) ∧ Hid (l = (s.order.take q).filter (inL ml) ∧ l.length ≤ q) ∧ Step [jn] V2 o2 wy oy)
      case atStart => exact ⟨0, [], o2, rfl, Nat.zero_le _, rfl, Row.nil _ _ _ _ _ none, Lib.hid ⟨rfl, Nat.le_refl _⟩, Step.refl _ _ _⟩
      case round =>
        obtain ⟨q, l, oy, hg, hq, rfl, hrow, HLL, sy⟩ := hrel
        have HQ2 := Lib.hid hg
        have hkY := hkB.frame sy (by simp; omega) (by simp; omega)
        obtain ⟨⟨⟨c0, c1, c2, c3⟩, ⟨f0, f1, f2, f3⟩⟩, -⟩ := hkY.facts
        obtain ⟨av, cv, rfl, -, -⟩ := hrow.slice
        have hllen := HLL.out.2
        clear hg
        by_cases hlt2 : q < nn
        · have hqi : (q : Int) < nn := by omega
          have hql : q < s.order.length := by rw [HNN.out]; exact hlt2
          obtain ⟨k, hkel⟩ : ∃ k, s.order[q] = k := ⟨_, rfl⟩
          obtain ⟨b1, off1, rfl, hb1, ho1, hc1⟩ := HG.out (by omega)
          have e5 := (sy.cell (a := ⟨b1, off1 + q, none⟩) hb1 (by show o2 b1 ∉ [jn]; rw [ho1]; simp; omega)).trans (hc1 q (.int .i64 k) (by rw [List.getElem?_map, List.getElem?_eq_getElem hql, hkel]; rfl))
          have htk : s.order.take (q + 1) = s.order.take q ++ [k] := by rw [List.take_succ_eq_append_getElem hql, hkel]
          have hkn := rknown_ok hkY.d k
          rw [show decide (1 ≤ k ∧ k ≤ ml) = inL ml k from rfl] at hkn
          have HTK := Lib.hid htk
          clear hkel hc1 htk
          cases hB : inL ml k with
          | true =>
            rw [hB] at hkn
            have HB := Lib.hid hB
            have hxB := fun cs => hrow.frame ((Step.refl [] wr oy).alloc (.cells cs 3)) (by simp)
            have hbig : l.length + 1 ≤ 9223372036854775807 := by omega
            have hbig2 : (l.length + 1) * 8 ≤ 140737488355328 := by omega
            clear hB
            go_wp2_with (first | (go_at_call 50; refine hkn.mono ?_; rintro e w3 ⟨rfl, rfl⟩) | (at_builtin; refine wpList_app rfl (.tmp 85) (.tmp 93) 46 rfl Try.underlying46 infoI rfl rfl (hxB _) rfl (Rd.fresh _ oy 1 3 _ 1 (by decide) rfl) (by simp [Value.oneCell']) hbig hbig2 ?_))
            intro vx w6 o6 hx6 s6
            have S6 := (sy.alloc (.cells #[.int .i64 k] 3)).trans s6
            have hx7 : Row w6 o6 jn 3 1 vx (l ++ [k]).length (ints (l ++ [k])) := by rw [List.length_append]; exact hx6.cast (by simp [ints])
            obtain ⟨a6, cp6, rfl⟩ : ∃ ao c, vx = Value.slice ao (l.length + 1) c := by
              obtain ⟨ao, c, hv, _⟩ := hx6.slice; exact ⟨ao, c, hv⟩
            clear hxB hx6 hrow
            go_wp2_with fail
            go_roundg (nn - (q + 1))
            case measure => rw [HQ2.out]; omega
            case rel =>
              refine ⟨q + 1, l ++ [k], o6, rfl, by omega, by go_num, hx7, Lib.hid ⟨?_, by rw [List.length_append]; simp; omega⟩, S6⟩
              rw [HTK.out, List.filter_append, ← HLL.out.1, List.filter_cons_of_pos HB.out]
              rfl
          | false =>
            rw [hB] at hkn
            have HB := Lib.hid hB
            clear hB
            go_wp2_with (go_at_call 50; refine hkn.mono ?_; rintro e w3 ⟨rfl, rfl⟩)
            go_roundg (nn - (q + 1))
            case measure => rw [HQ2.out]; omega
            case rel =>
              refine ⟨q + 1, l, oy, rfl, by omega, by go_num, hrow, Lib.hid ⟨?_, by omega⟩, sy⟩
              rw [HTK.out, List.filter_append, ← HLL.out.1, List.filter_cons_of_neg (by rw [HB.out]; decide)]
              simp
        · have hqn : nn = q := by omega
          subst hqn
          have hlf : s.order.filter (inL ml) = l := by
            rw [HLL.out.1, List.take_of_length_le (by rw [HNN.out]; exact Nat.le_refl _)]
          replace hrk := hrk.frame sy (by simp; omega)
          have t3 := hkY.d.sstep 2 (.slice av l.length cv)
          have hkC : RK (wr.setCell ⟨b, 2, none⟩ (.slice av l.length cv)) oy i z b (.slice ao m cap) ml (.slice av l.length cv) s.cur mw ml := ⟨hkY.d.set 2 _, hkY.b1.frame t3 (by simp)⟩
          replace hrk := hrk.frame t3 (by simp)
          have hrow3 := hrow.frame t3 (by simp; omega)
          have S8 : Step [i, i + 2, i + 3] w o (wr.setCell ⟨b, 2, none⟩ (.slice av l.length cv)) oy := ((S7.weaken (by simp)).trans (sy.weaken (by simp; omega))).trans (t3.weaken (by simp))
          have HLF := Lib.hid hlf
          clear hlf hlt2
          obtain ⟨⟨⟨d0, d1, d2, d3⟩, ⟨k0, k1, k2, k3⟩⟩, -⟩ := hkC.facts
          have hkn := rknown_ok hkC.d s.cur
          have hrkl : r0.length = m := HRL.out
          have HRK := Lib.hid hrkl
          clear hrkl
          by_cases hc : 1 ≤ s.cur ∧ s.cur ≤ ml
          · rw [decide_eq_true hc] at hkn
            have hcb : curB s.cur ml = s.cur := if_pos hc
            have HC := Lib.hid hcb
            have hok := HOK.out
            rw [hcb, HLF.out] at hok
            have HOK2 := Lib.hid hok
            clear hc hcb hok
            go_wp2_with (go_at_call 50; refine hkn.mono ?_; rintro e w3 ⟨rfl, rfl⟩)
            go_ret
            refine ⟨rfl, oy, ?_, S8⟩
            rw [HLF.out, HC.out]
            refine ⟨HOK2.out, .slice ao m cap, .slice av l.length cv, jn, hjn, hkC.d, ?_, hrow3⟩
            show Row _ oy (i + 1) 80 4 _ r0.length (rcells r0)
            rw [HRK.out]
            exact hrk
          · rw [decide_eq_false hc] at hkn
            have hcb : curB s.cur ml = 1 := if_neg hc
            have HC := Lib.hid hcb
            have hok := HOK.out
            rw [hcb, HLF.out] at hok
            have HOK2 := Lib.hid hok
            clear hc hcb hok
            go_wp2_with (go_at_call 50; refine hkn.mono ?_; rintro e w3 ⟨rfl, rfl⟩)
            go_ret
            have t4 := hkC.d.sstep 3 (.int .i64 1)
            refine ⟨rfl, oy, ?_, S8.trans (t4.weaken (by simp))⟩
            rw [HLF.out, HC.out]
            refine ⟨HOK2.out, .slice ao m cap, .slice av l.length cv, jn, hjn, hkC.d.set 3 _, ?_, hrow3.frame t4 (by simp; omega)⟩
            show Row _ oy (i + 1) 80 4 _ r0.length (rcells r0)
            rw [HRK.out]
            exact hrk.frame t4 (by simp)

theorem rback_ok {w : World} {o : Owner} {i b : Nat} {s : Dst} (h : RB w o i b s) (mw ml : Int) :
    Calls Try.prog 46 #[.pointer (some ⟨b, 0, none⟩), .agg #[.int .i64 mw, .int .i64 ml]] w fun e w' => e = .returned (.int .i64 (backE s mw ml)) ∧ ∃ o', RB w' o' i b (backS s mw ml) ∧ Step [i, i + 2, i + 3] w o w' o' := by
  by_cases hbad : mw < 0 ∨ (s.ws.length : Int) < mw ∨ ml < 1 ∨ s.lists < ml
  · have hE : backE s mw ml = 1 := by
      unfold backE
      by_cases h1 : mw < 0
      · rw [if_pos h1]
      by_cases h2 : (s.ws.length : Int) < mw
      · rw [if_neg h1, if_pos h2]
      by_cases h3 : ml < 1
      · rw [if_neg h1, if_neg h2, if_pos h3]
      rw [if_neg h1, if_neg h2, if_neg h3, if_pos (by omega)]
    have hS : backS s mw ml = s := by unfold backS; rw [hE, if_neg (by decide)]
    rw [hE, hS]
    exact (rback_bad h mw ml hbad).mono fun e w' ⟨h1, h2⟩ => ⟨h1, o, h.nil h2, h2.nil⟩
  · exact rback_good h mw.toNat mw ml (by omega) (by omega) (by omega) (by omega)
end Go.Proofs.Ytaledmoakhlmgaa
