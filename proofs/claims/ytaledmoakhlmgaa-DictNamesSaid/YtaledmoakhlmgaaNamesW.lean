/- DictNames: the walk. -/
import Derived.Test.YtaledmoakhlmgaaDicD
import Derived.Test.YtaledmoakhlmgaaShown09
import Derived.Test.YtaledmoakhlmgaaNamesL
import Derived.Deep.CutRange
namespace Go.Proofs.Ytaledmoakhlmgaa
open Go Go.RowKit
set_option linter.unusedSimpArgs false
set_option linter.unusedVariables false

theorem find_none {k : Int} {s : ByteArray} : ∀ {l : List Wd}, (∀ x ∈ l, low x.nm ≠ s) → find k s l = none
  | [], _ => rfl
  | x :: r, h => by
    rw [find_cons, if_neg (fun hx => h x (by simp) hx.2)]
    exact find_none fun y hy => h y (by simp [hy])
theorem findO_miss {s : Dst} {nm : ByteArray} (h : ∀ x ∈ s.ws, low x.nm ≠ low nm) : ∀ l : List Int, findO s nm l = none
  | [] => rfl
  | k :: r => by
    unfold findO
    rw [show inD s k nm = none from by unfold inD; split; exact find_none h; rfl]
    exact findO_miss h r
theorem find_empty {s : Dst} (h : s.Ok) : findD s ⟨#[]⟩ = none :=
  findO_miss (fun x hx e => by
    have h1 := (h.w x hx).2.2.1
    have h2 := congrArg lst e
    rw [low_lst, low_lst] at h2
    have h3 := congrArg List.length h2
    rw [List.length_map, List.length_map] at h3
    have h4 : (lst x.nm).length = x.nm.size := rfl
    have h5 : (lst (⟨#[]⟩ : ByteArray)).length = 0 := rfl
    omega) _

set_option maxRecDepth 100000 in
set_option maxHeartbeats 8000000 in
theorem names_walk {w : World} {v0 : Value} {z0 : List ByteArray} (h0 : Rd w (fun _ => 0) 0 1 v0 z0.length (strs z0)) :
    Calls Try.prog 3 #[v0] w fun e w' => e = .returned (.bool true) ∧ Below w.heap.size w w' := by
  obtain ⟨ao, ca, rfl, g1, g2, g3, g4⟩ := h0
  obtain ⟨n, hn⟩ : ∃ n, z0.length = n := ⟨_, rfl⟩
  rw [hn] at g1 g4
  rw [hn]
  have HN := Lib.hid hn
  have HG := Lib.hid g4
  unfold maxLen at g2
  clear g3 g4 hn
  go_enter Try.func3, Try.ntmps3
  go_wp2_with fail
  refine (shown_ok w (fun _ => 0)).mono ?_
  rintro e w1 ⟨rfl, s1⟩
  go_wp2_with fail
  refine (new_ok w1 (fun _ => 0) 10).mono ?_
  rintro e w2 ⟨b, o2, rfl, h2, s2⟩
  replace s1 := s1.trans s2
  clear s2
  go_wp2_with fail
  go_loopg [5, 6, 7, 8, 22] n (fun g a5 a6 a7 a8 a wr => ∃ (q : Nat) (hs : List ByteArray) (o' : Owner), g = n - q ∧ q ≤ n ∧ a = .int .i64 q ∧ Row wr o' 20 9 1 a5 hs.length (strs hs) ∧ DB wr o' 10 b (dS hs) (hs.length + 2) ∧ Step [10, 11, 13, 20] w (fun _ => 0) wr o' ∧ hs.length ≤ min q 30 ∧ Hid (∀ s ∈ hs, s.size ≤ 31))
  case atStart => exact ⟨0, [], o2, rfl, Nat.zero_le _, rfl, Row.nil _ _ _ _ _ none, h2, s1.nil, by simp, Lib.hid (by simp)⟩
  case round =>
    obtain ⟨q, hs, o3, hg, hq, rfl, hrow, hdb, st, hlen, hsz⟩ := hrel
    have HQ := Lib.hid hg
    clear hg h2 s1
    obtain ⟨a5, c5, rfl, -, -⟩ := hrow.slice
    by_cases hlt : q < n
    · have hqi : (q : Int) < n := by omega
      have hql : q < z0.length := by rw [HN.out]; exact hlt
      obtain ⟨x, hx⟩ : ∃ x, z0[q] = x := ⟨_, rfl⟩
      obtain ⟨b1, off1, rfl, hb1, ho1, hc1⟩ := HG.out (by omega)
      have e1 := (st.cell (a := ⟨b1, off1 + q, none⟩) hb1 (by simp)).trans (hc1 q (.string x) (by rw [List.getElem?_map, List.getElem?_eq_getElem hql, hx]; rfl))
      obtain ⟨t, ht⟩ : ∃ t, x.extract 0 (min (x.size : Int) 31).toNat = t := ⟨_, rfl⟩
      have ht31 : t.size ≤ 31 := by rw [← ht]; exact cut31_size x
      have hm1 : (0 : Int) ≤ min (x.size : Int) 31 := by omega
      have hm2 : min (x.size : Int) 31 ≤ x.size := by omega
      have hem := em_nm t
      clear hc1 hx
      have hl63 : hs.length ≤ 30 := by omega
      by_cases hin : q < 30 ∧ t.size ≠ 0
      · obtain ⟨hq30, ht0⟩ := hin
        have hq30i : (q : Int) < 30 := by omega
        rw [decide_eq_false ht0] at hem
        obtain ⟨hE, hS⟩ := dS_add ht0 ht31 (show hs.length < 2000 by omega)
        have hadd := add_ok hdb (by omega) t (by omega) hs.length
        rw [hE, hS] at hadd
        clear hE hS hdb
        go_wp2_with fail
        refine hadd.mono ?_
        rintro e w5 ⟨rfl, o5, hdb, s5⟩
        have hrow5 := hrow.frame s5 (by simp)
        clear hadd hrow
        have S5 := st.trans (s5.weaken (by simp))
        have sA : Step [] w5 o5 (w5.alloc (.cells #[.string t] 9)) (o5.set w5.heap.size 20) := ((Step.refl _ _ _).alloc _).give (Nat.le_refl _) _
        have hR := Row.made w5 o5 20 9 1 #[.string t] 1 (by decide) rfl
        have hrA := (hrow5.frame sA (by simp)).rd
        go_wp2_with (at_builtin; refine wpList_app rfl (.tmp 45) (.tmp 46) 22 rfl Try.underlying22 infoStr rfl rfl hR rfl hrA (by simp [strs, Value.oneCell']) (by omega) (by omega) ?_)
        intro v7 w7 o7 hr7 s7
        obtain ⟨a7, c7, rfl, -, -⟩ := hr7.slice
        go_wp2_with fail
        go_roundg (n - (q + 1))
        case measure => rw [HQ.out]; omega
        case rel =>
          refine ⟨q + 1, t :: hs, o7, rfl, by omega, by go_num, ?_, ((hdb.frame sA (by simp) (by simp) (by simp) (by simp)).frame s7 (by simp) (by simp) (by simp) (by simp)), (S5.trans sA.nil).trans (s7.weaken (by simp)), by rw [List.length_cons]; omega, Lib.hid fun s h => by
            rcases List.mem_cons.1 h with rfl | h
            · exact ht31
            · exact hsz.out s h⟩
          rw [List.length_cons, Nat.add_comm hs.length 1]
          exact hr7
      · have hqs : step31 q x hs = hs := by
          unfold step31
          rw [if_neg]
          show ¬ (q < 30 ∧ (x.extract 0 (min (x.size : Int) 31).toNat).size ≠ 0)
          rw [ht]
          exact hin
        clear hqs
        by_cases hq30 : q < 30
        · have hq30i : (q : Int) < 30 := by omega
          have ht0 : t.size = 0 := by omega
          rw [decide_eq_true ht0] at hem
          clear ht0 hin
          go_wp2_with fail
          go_roundg (n - (q + 1))
          case measure => rw [HQ.out]; omega
          case rel => exact ⟨q + 1, hs, o3, rfl, by omega, by go_num, hrow, hdb, st, by omega, hsz⟩
        · have hq30i : ¬ (q : Int) < 30 := by omega
          clear hin
          go_wp2_with fail
          go_roundg (n - (q + 1))
          case measure => rw [HQ.out]; omega
          case rel => exact ⟨q + 1, hs, o3, rfl, by omega, by go_num, hrow, hdb, st, by omega, hsz⟩
    · have hqn : q = n := by omega
      subst hqn
      have hl30 : hs.length ≤ 30 := by omega
      clear hlt
      go_wp2_with fail
      refine (names_ok hdb 1 ⟨by decide, by decide⟩ 21 (by decide) (by decide) (by decide) (by decide)).mono ?_
      rintro e w4 ⟨v4, o4, rfl, hr4, s4⟩
      rw [dS_names] at hr4
      replace hdb := hdb.frame s4 (by decide) (by decide) (by decide) (by decide)
      replace hrow := hrow.frame s4 (by decide)
      replace st : Step [10, 11, 13, 20, 21, 22, 23] _ _ _ _ := (st.weaken (by simp)).trans (s4.weaken (by simp))
      clear s4
      go_wp2_with fail
      refine (texts_ok hr4.rd hrow.rd (by omega) (by omega)).mono ?_
      rintro e w5 ⟨rfl, s5⟩
      rw [decide_eq_true rfl]
      replace hdb := hdb.frame s5 (by decide) (by decide) (by decide) (by decide)
      replace hrow := hrow.frame s5 (by decide)
      replace st := st.trans s5.nil
      clear s5 hr4
      go_wp2_with fail
      refine (mark_ok hdb).mono ?_
      rintro e w6 ⟨rfl, s6⟩
      rw [dS_len, show (dS hs).lists = 1 from rfl]
      replace hdb := hdb.frame s6 (by decide) (by decide) (by decide) (by decide)
      replace hrow := hrow.frame s6 (by decide)
      replace st := st.trans s6.nil
      clear s6
      go_wp2_with fail
      refine (names_ok hdb 0 ⟨by decide, by decide⟩ 22 (by decide) (by decide) (by decide) (by decide)).mono ?_
      rintro e w7 ⟨v7, o7, rfl, hr7, s7⟩
      rw [dS_names0] at hr7
      obtain ⟨a7, c7, rfl, -, -⟩ := hr7.slice
      replace hdb := hdb.frame s7 (by decide) (by decide) (by decide) (by decide)
      replace hrow := hrow.frame s7 (by decide)
      replace st := st.trans (s7.weaken (by simp))
      clear s7 hr7
      go_wp2_with fail
      refine (names_ok hdb 2 ⟨by decide, by decide⟩ 23 (by decide) (by decide) (by decide) (by decide)).mono ?_
      rintro e w8 ⟨v8, o8, rfl, hr8, s8⟩
      rw [dS_names2] at hr8
      obtain ⟨a8, c8, rfl, -, -⟩ := hr8.slice
      replace hdb := hdb.frame s8 (by decide) (by decide) (by decide) (by decide)
      replace hrow := hrow.frame s8 (by decide)
      replace st := st.trans (s8.weaken (by simp))
      clear s8 hr8
      go_wp2_with fail
      go_loopg [9, 10, 11, 12, 13, 76] hs.length (fun g a9 a10 a11 a12 a13 a wr => ∃ (p : Nat) (o' : Owner), g = hs.length - p ∧ p ≤ hs.length ∧ a = .int .i64 p ∧ Step [10, 11, 13, 20, 21, 22, 23] w (fun _ => 0) wr o' ∧ DB wr o' 10 b (dS hs) (hs.length + 2) ∧ Row wr o' 20 9 1 (.slice a5 hs.length c5) hs.length (strs hs))
      case atStart => exact ⟨0, o8, rfl, Nat.zero_le _, rfl, st, hdb, hrow⟩
      case round =>
        obtain ⟨p, o9, hg2, hp, rfl, st9, hdb9, hrow9⟩ := hrel
        have HQ2 := Lib.hid hg2
        clear hg2 st hdb hrow
        by_cases hpl : p < hs.length
        · obtain ⟨t, ht⟩ : ∃ t, hs[p] = t := ⟨_, rfl⟩
          have hspl : hs.take p ++ t :: hs.drop (p + 1) = hs := by rw [← ht, List.getElem_cons_drop, List.take_append_drop]
          have ht31 : t.size ≤ 31 := by rw [← ht]; exact hsz.out _ (List.getElem_mem _)
          obtain ⟨x, pp, r', hf, hsp, hxs, hrr⟩ := dS_find (hs.take p) t (hs.drop (p + 1))
          rw [hspl] at hf hsp
          have hL : hs.length = pp.length + 1 + r'.length := by rw [hsp]; simp; omega
          have hrl : hs.length - (p + 1) ≤ r'.length := by rw [List.length_drop] at hrr; exact hrr
          have hfo := find_ok hdb9 t (by omega)
          rw [hf] at hfo
          obtain ⟨_, _, hv, -, -, -, g4⟩ := hrow9.rd
          simp only [Value.slice.injEq, true_and] at hv
          obtain ⟨rfl, rfl⟩ := hv
          obtain ⟨b5, f5, rfl, hb5, ho5, hc5⟩ := g4 (by omega)
          have e5 := hc5 p (.string t) (by rw [strs, List.getElem?_map, List.getElem?_eq_getElem hpl, ht]; rfl)
          have e6 := hc5 pp.length (.string x) (by rw [strs, List.getElem?_map, hsp]; simp)
          have hxi : (x.size : Int) = t.size := by omega
          obtain ⟨K, hK⟩ : ∃ K, pp.length = K := ⟨_, rfl⟩
          obtain ⟨R, hR⟩ : ∃ R, r'.length = R := ⟨_, rfl⟩
          rw [hK] at e6 hL
          rw [hR] at hL hrl hfo
          have hk1 : (hs.length : Int) - 1 - R = K := by omega
          have hnl : decide ((R : Int) < (hs.length : Int) - 1 - p) = false := decide_eq_false (by omega)
          have hpi : (p : Int) < hs.length := by omega
          have hKL : (K : Int) < hs.length := by omega
          rw [show entV (some ⟨x, (R : Int), false, 1⟩) = .tuple #[.agg #[.string x, .int .i64 R, .bool false], .bool true] from rfl] at hfo
          clear hc5 hsp hspl hf ht hK hR hrr g4 hxs hL
          go_wp2_with fail
          refine hfo.mono ?_
          rintro e w10 ⟨rfl, o10, s10⟩
          have e7 := (s10.cell (a := ⟨b5, f5 + K, none⟩) hb5 (by simp)).trans e6
          have sE := (Step.refl [] w10 o10).alloc (.cells #[.string x, .int .i64 R, .bool false] 34)
          have e8 := (sE.cell (a := ⟨b5, f5 + K, none⟩) (Nat.lt_of_lt_of_le hb5 s10.size) (by simp)).trans e7
          obtain ⟨k0, k1, k2, -⟩ := (E3.new w10 (.string x) (.int .i64 R) (.bool false)).cells
          have hxy := teq x x
          rw [decide_eq_true rfl] at hxy
          have sT : Step [] _ _ _ _ := s10.trans sE
          clear hfo
          go_wp2_with fail
          go_region
          all_goals go_wp2_with fail
          all_goals go_roundg (hs.length - (p + 1))
          case measure => rw [HQ2.out]; omega
          case rel => exact ⟨p + 1, o10, rfl, by omega, by go_num, st9.trans (sT.drew).nil, hdb9.frame sT.drew (by simp) (by simp) (by simp) (by simp), hrow9.frame sT.drew (by simp)⟩
        · have hpe : p = hs.length := by omega
          have hnn : ¬ ((p : Int) < hs.length) := by omega
          have hfo := find_ok hdb9 ⟨#[]⟩ (by decide)
          rw [find_empty hdb9.ok, show entV none = .tuple #[.agg #[.string ⟨#[]⟩, .int .i64 0, .bool false], .bool false] from rfl] at hfo
          clear hpe
          go_wp2_with fail
          refine hfo.mono ?_
          rintro e w10 ⟨rfl, o10, s10⟩
          go_wp2_with fail
          go_ret
          exact ⟨rfl, ((Base.start w).step ((st9.trans s10.nil).alloc _) (by decide)).below⟩
end Go.Proofs.Ytaledmoakhlmgaa
