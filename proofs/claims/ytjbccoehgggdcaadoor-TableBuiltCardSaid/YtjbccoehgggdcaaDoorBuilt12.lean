/- TableBuilt: the walk. -/
import Derived.Test.YtjbccoehgggdcaaDoorPlays12
namespace Go.Proofs.YtjbccoehgggdcaaDoor
open Go Go.RowKit Go.Shelf
set_option linter.unusedSimpArgs false
set_option linter.unusedVariables false

theorem words_all2 : (built.all fun b => lst (nameOf b.k b.n) == lst b.name && (decide (1 ≤ b.n) && (decide (b.k ≠ 2) || b.only == decide (b.n < 7)))) = true := by kernel_rfl
theorem word_facts2 {j : Nat} {b : B} (h : built[j]? = some b) : nameOf b.k b.n = b.name ∧ 1 ≤ b.n ∧ (b.k ≠ 2 ∨ b.only = decide (b.n < 7)) := by
  have := List.all_eq_true.1 words_all2 b (List.mem_of_getElem? h)
  simp only [Bool.and_eq_true, Bool.or_eq_true, decide_eq_true_eq] at this
  obtain ⟨h1, h2, h3⟩ := this
  exact ⟨lst_inj (eq_of_beq h1), h2, h3.imp id eq_of_beq⟩

/-- No two words have the same kind and number. -/
def allKN : List B → Bool
  | [] => true
  | b :: l => l.all (fun c => !(c.k == b.k && c.n == b.n)) && allKN l
theorem kn_of : ∀ {l : List B}, allKN l = true → ∀ {i j : Nat} (hi : i < l.length) (hj : j < l.length), l[i].k = l[j].k → l[i].n = l[j].n → i = j
  | [], _, i, _, hi, _, _, _ => absurd hi (by simp)
  | b :: l, h, i, j, hi, hj, e, e' => by
    rw [allKN, Bool.and_eq_true, List.all_eq_true] at h
    obtain ⟨h1, h2⟩ := h
    match i, j, hi, hj, e, e' with
    | 0, 0, _, _, _, _ => rfl
    | 0, j + 1, _, hj, e, e' =>
      have hj' : j < l.length := by simpa using hj
      have := h1 l[j] (List.getElem_mem hj')
      simp only [List.getElem_cons_zero, List.getElem_cons_succ] at e e'
      rw [e, e'] at this
      simp at this
    | i + 1, 0, hi, _, e, e' =>
      have hi' : i < l.length := by simpa using hi
      have := h1 l[i] (List.getElem_mem hi')
      simp only [List.getElem_cons_zero, List.getElem_cons_succ] at e e'
      rw [e, e'] at this
      simp at this
    | i + 1, j + 1, hi, hj, e, e' => rw [kn_of h2 (by simpa using hi) (by simpa using hj) e e']
theorem built_kn : allKN built = true := by kernel_rfl

theorem sizes_all : (built.all fun b => decide (b.name.size ≤ 1000000)) = true := by kernel_rfl
theorem lows_all : (built.all fun b => (lst b.name).map lowc == lst b.name) = true := by kernel_rfl

/-- Where the words of each kind stand in the table. -/
def startOf (k : Nat) : Nat := if k = 1 then 0 else if k = 2 then 107 else if k = 3 then 116 else 133
theorem places_all : ((List.range 5).all fun k => (List.range (nm (k : Int)).length).all fun i =>
    match built[startOf k + i]? with
    | some b => lst b.name == lst ((nm (k : Int)).getD i ByteArray.empty) && (b.k == k && b.n == i + 1)
    | none => false) = true := by kernel_rfl

/-- A name that is there is that of a word of the kind and number. -/
theorem name_word {k n : Int} (h : nameOf k n ≠ ByteArray.empty) : ∃ (j : Nat) (b : B), built[j]? = some b ∧ b.name = nameOf k n ∧ (b.k : Int) = k ∧ (b.n : Int) = n := by
  unfold nameOf at h ⊢
  by_cases hn : 1 ≤ n ∧ n ≤ (nm k).length
  · rw [if_pos hn]
    have hk : 1 ≤ k ∧ k ≤ 4 := by
      by_cases e1 : k = 1
      · omega
      by_cases e2 : k = 2
      · omega
      by_cases e3 : k = 3
      · omega
      by_cases e4 : k = 4
      · omega
      have : (nm k).length = 0 := by unfold nm; rw [if_neg e1, if_neg e2, if_neg e3, if_neg e4]; rfl
      omega
    obtain ⟨K, rfl⟩ : ∃ K : Nat, k = K := ⟨k.toNat, by omega⟩
    obtain ⟨i, rfl⟩ : ∃ i : Nat, n = ((i + 1 : Nat) : Int) := ⟨(n - 1).toNat, by omega⟩
    have hi : i < (nm (K : Int)).length := by omega
    have := List.all_eq_true.1 (List.all_eq_true.1 places_all K (List.mem_range.2 (by omega))) i (List.mem_range.2 hi)
    cases hb : built[startOf K + i]? with
    | none => rw [hb] at this; cases this
    | some b =>
      rw [hb] at this
      simp only [Bool.and_eq_true, beq_iff_eq] at this
      obtain ⟨h1, h2, h3⟩ := this
      refine ⟨_, b, hb, ?_, by rw [h2], by rw [h3]⟩
      rw [show (((i + 1 : Nat) : Int) - 1).toNat = i by omega]
      exact lst_inj h1
  · rw [if_neg hn] at h
    exact absurd rfl h

set_option maxRecDepth 100000 in
set_option maxHeartbeats 8000000 in
theorem built12_walk (a0 a1 a2 : Int) (h0 : 0 ≤ a0 ∧ a0 ≤ 65535) {w : World} (hm0 : ∃ m, w.cell? ⟨0, 0, none⟩ = some (.int .i64 m)) :
    Calls Tryd.prog 6 #[.int .u16 a0, .int .i64 a1, .int .i64 a2] w fun e w' => e = .returned (.bool true) ∧ Below w.heap.size w w' := by
  have hm : ML w (fun _ => 0) := ⟨hm0, rfl⟩
  have hsh := shown_ok hm
  obtain ⟨K, hK⟩ : ∃ K : Nat, a0.toNat % 180 = K := ⟨_, rfl⟩
  have hK180 : K < 180 := by omega
  have hrem : a0.tmod 180 = (K : Int) := by rw [Int.tmod_eq_emod_of_nonneg h0.1]; omega
  have hrem2 : a0 % 180 = (K : Int) := by omega
  obtain ⟨b, hb⟩ : ∃ b, built[K]? = some b := ⟨_, List.getElem?_eq_getElem (by rw [built_length]; exact hK180)⟩
  have HB := Lib.hid hb
  clear hm0 hb hK
  go_enter Tryd.func6, Tryd.ntmps6
  go_wp2_with fail
  refine hsh.mono ?_
  rintro e w1 ⟨rfl, o1, s1⟩
  have hal := all_ok (hm.frame s1 (by simp)) 95
  clear hsh
  go_wp2_with fail
  refine hal.mono ?_
  rintro e w2 ⟨v2, o2, rfl, hx2, s2⟩
  obtain ⟨g, cap, rfl, hg2⟩ := hx2.rowx (by decide)
  have hm2 := (hm.frame s1 (by simp)).frame s2 (by simp)
  have S2 := s1.trans s2
  obtain ⟨y0, y1, y2, y3, y4⟩ := word_atb hg2 HB.out
  have hKi : (K : Int) < 180 := by omega
  obtain ⟨w3, hw3⟩ : ∃ w3, w3 = w2.alloc (.cells #[.string b.name, .int .i64 b.k, .int .i64 b.n, .bool b.now, .bool b.only] 24) := ⟨_, rfl⟩
  obtain ⟨o3, ho3⟩ : ∃ o3, o3 = o2.set w2.heap.size 97 := ⟨_, rfl⟩
  have s3 : Step [] w2 o2 w3 o3 := by rw [hw3, ho3]; exact ((Step.refl _ _ _).alloc _).give (Nat.le_refl _) _
  have hX3 : Blk w3 o3 97 w2.heap.size 24 #[.string b.name, .int .i64 b.k, .int .i64 b.n, .bool b.now, .bool b.only] := by rw [hw3, ho3]; exact Blk.new w2 o2 97 _ _
  have hg3 := hg2.frame s3 (by simp)
  have hm3 := hm2.frame s3 (by simp)
  have S3 := S2.trans s3
  obtain ⟨p, hp⟩ : ∃ p, w2.heap.size = p := ⟨_, rfl⟩
  rw [hp] at hX3
  have HP := Lib.hid hp
  have HW3 := Lib.hid hw3
  have hn := name_ok a1 a2 hm3
  rw [hw3] at hn
  obtain ⟨t, ht⟩ : ∃ t, nameOf a1 a2 = t := ⟨_, rfl⟩
  rw [ht] at hn
  have HT := Lib.hid ht
  clear hal hx2 hm s1 s2 s3 hw3 ho3 hg2 hm2 S2 hp ht
  go_wp2_with fail
  rw [HP.out]
  refine hn.mono ?_
  rintro e w4 ⟨rfl, o4, s4⟩
  rw [← HW3.out] at s4
  have hX4 := hX3.frame s4 (by simp)
  have hg4 := hg3.frame s4 (by simp)
  have hm4 := hm3.frame s4 (by simp)
  have S4 := S3.trans s4
  clear hn hX3 hg3 hm3 s4 S3 y0 y1 y2 y3 y4 HW3
  by_cases hte : t = ByteArray.empty
  · have htne : t.toList.isEmpty = true := by rw [hte, Lib.toList_data]; rfl
    clear hte
    go_wp2_with fail
    go_loopg [13, 61] 180 (fun gg x v wr => ∃ i : Nat, gg = 180 - i ∧ i ≤ 180 ∧ x = .int .i64 (if K < i then 1 else 0) ∧ v = .int .i64 i ∧ Step [] w4 o4 wr o4)
    case atStart => exact ⟨0, rfl, by decide, by rw [if_neg (by omega)], rfl, Step.refl _ _ _⟩
    case round =>
      obtain ⟨i, hgg, hi, rfl, rfl, st⟩ := hrel
      have HG2 := Lib.hid hgg
      clear hgg
      obtain ⟨⟨x0, x1, x2, x3, x4⟩, _⟩ := box_facts (hX4.frame st (by simp))
      have hpl := (hX4.frame st (by simp)).lt
      have hpn : p ≠ wr.heap.size := by omega
      by_cases hlt2 : i < 180
      · have hii : (i : Int) < 180 := by omega
        obtain ⟨d, hd⟩ : ∃ d, built[i]? = some d := ⟨_, List.getElem?_eq_getElem (by rw [built_length]; exact hlt2)⟩
        obtain ⟨y0, y1, y2, y3, y4⟩ := word_atb (hg4.frame st (by simp)) hd
        by_cases hik : i = K
        · obtain rfl : d = b := by
            have := HB.out
            rw [← hik, hd] at this
            exact Option.some.inj this
          rw [if_neg (by omega)]
          clear hd
          subst hik
          go_wp2_with fail
          go_roundg (180 - (i + 1))
          case measure => rw [HG2.out]; omega
          case rel => exact ⟨i + 1, rfl, by omega, by first | rw [if_pos (by omega)] | (rw [if_pos (by omega)]; go_num), by go_num, st.alloc _⟩
        · have hq : ((d.k : Int) == b.k) = false ∨ ((d.k : Int) == b.k) = true ∧ ((d.n : Int) == b.n) = false := by
            obtain ⟨h1, e1⟩ := List.getElem?_eq_some_iff.1 hd
            obtain ⟨h2, e2⟩ := List.getElem?_eq_some_iff.1 HB.out
            by_cases ek : d.k = b.k
            · refine .inr ⟨by simp [ek], ?_⟩
              have : d.n ≠ b.n := fun en => hik (kn_of built_kn h1 h2 (by rw [e1, e2, ek]) (by rw [e1, e2, en]))
              simp; omega
            · left; simp; omega
          clear hd
          have hx : ∃ c : Int, (if K < i then 1 else 0 : Int) = c ∧ (if K < i + 1 then 1 else 0 : Int) = c := by
            by_cases hlk : K < i
            · exact ⟨1, if_pos hlk, if_pos (by omega)⟩
            · exact ⟨0, if_neg hlk, if_neg (by omega)⟩
          obtain ⟨cc, hcc, hcc2⟩ := hx
          rw [hcc]
          have HCC := Lib.hid hcc2
          clear hcc hcc2
          rcases hq with hq | ⟨hq, hq'⟩
          · go_wp2_with fail
            go_roundg (180 - (i + 1))
            case measure => rw [HG2.out]; omega
            case rel => exact ⟨i + 1, rfl, by omega, by rw [HCC.out], by go_num, st.alloc _⟩
          · go_wp2_with fail
            go_roundg (180 - (i + 1))
            case measure => rw [HG2.out]; omega
            case rel => exact ⟨i + 1, rfl, by omega, by rw [HCC.out], by go_num, st.alloc _⟩
      · obtain rfl : i = 180 := by omega
        have hii : ¬ ((180 : Nat) : Int) < 180 := by omega
        rw [if_pos hK180]
        have hX9 := hX4.frame st (by simp)
        have hm9 := hm4.frame st (by simp)
        have S9 := S4.trans st
        obtain ⟨hno, hn1, ho7⟩ := word_facts2 HB.out
        have HNO := Lib.hid hno
        have HO7 := Lib.hid ho7
        have hge : decide ((1 : Int) ≤ b.n) = true := decide_eq_true (by omega)
        clear st HG2 hpl hpn hno ho7 hn1
        have hk2 : ((b.k : Int) != 2) = true ∨ ((b.k : Int) != 2) = false ∧ (b.only == decide ((b.n : Int) < 7)) = true := by
          rcases HO7.out with h | h
          · left; simp; omega
          · by_cases e : (b.k : Int) = 2
            · right
              refine ⟨by simp [e], ?_⟩
              rw [h, beq_iff_eq]
              exact decide_eq_decide.2 (by omega)
            · left; simp; exact e
        go_wp2_with fail
        rcases hk2 with hk2 | ⟨hk2, hol⟩
        all_goals
          refine q_start (fun W => ∃ o', Step [] wr o4 W o') (by kernel_rfl) ⟨_, (Step.refl _ _ _).drew⟩ ?_
          repeat (first
            | (refine q_off (by rfl) ?_; simp only [Act.put, List.setIfInBounds_toArray, List.set_cons_zero, List.set_cons_succ])
            | (refine q_on (by rfl) ?_; apply Exists.intro; refine ⟨fun W hW => ?_, ?_⟩; (obtain ⟨oW, sW⟩ := hW; obtain ⟨⟨x0, x1, x2, x3, x4⟩, _⟩ := box_facts (hX9.frame sW (by simp)); go_simp; first | done | with_reducible rfl | (go_at_call 12; exact (name_ok _ _ (hm9.frame sW (by simp))).mono fun e w' k => ⟨k.1.trans (by rw [HNO.out]), k.2.elim fun o2 st => ⟨o2, sW.trans st⟩⟩)); simp only [Act.put, List.setIfInBounds_toArray, List.set_cons_zero, List.set_cons_succ])
            | fail)
          refine q_end ?_
          rintro wz ⟨oz, sz⟩
          go_wp2_with fail
          go_ret
          exact ⟨rfl, ((Base.start w).step (S9.trans sz) (by decide)).below⟩
  · obtain ⟨j, c, hc, hc1, hc2, hc3⟩ := name_word (k := a1) (n := a2) (by rw [HT.out]; exact hte)
    rw [HT.out] at hc1
    have htne : t.toList.isEmpty = false := by
      rw [Lib.toList_data]
      cases h : t.data.toList with
      | nil => exact absurd (lst_inj (a := t) (b := ByteArray.empty) h) hte
      | cons _ _ => rfl
    clear hte
    have hcs : t.size ≤ 1000000 := by
      have := (List.all_eq_true.1 sizes_all c (List.mem_of_getElem? hc))
      rw [← hc1]
      simpa using this
    have hlo : low t = t := by
      rw [← hc1]
      apply lst_inj
      rw [low_lst]
      have := (List.all_eq_true.1 lows_all c (List.mem_of_getElem? hc))
      exact eq_of_beq this
    have hfi := find_ok t hcs hm4
    have hfv : findV t = .tuple #[.agg #[.string t, .int .i64 a1, .int .i64 a2, .bool c.now, .bool c.only], .bool true] := by
      obtain ⟨hk, e⟩ := List.getElem?_eq_some_iff.1 hc
      have := findV_at (t := t) hk (by rw [e]; exact hc1)
      rw [e, B.val, hc1, hc2, hc3] at this
      exact this
    rw [hlo, hfv] at hfi
    clear hlo hfv hc hc1 hc2 hc3 hcs
    go_wp2_with fail
    refine hfi.mono ?_
    rintro e w6 ⟨rfl, o6, s6⟩
    have hX6 := hX4.frame s6 (by simp)
    have hg6 := hg4.frame s6 (by simp)
    have hm6 := hm4.frame s6 (by simp)
    obtain ⟨w7, hw7⟩ : ∃ w7, w7 = w6.alloc (.cells #[.string t, .int .i64 a1, .int .i64 a2, .bool c.now, .bool c.only] 24) := ⟨_, rfl⟩
    have s7 : Step [] w6 o6 w7 o6 := by rw [hw7]; exact (Step.refl _ _ _).alloc _
    have hX7 := hX6.frame s7 (by simp)
    have hg7 := hg6.frame s7 (by simp)
    have hm7 := hm6.frame s7 (by simp)
    have S7 := (S4.trans s6).trans s7
    have HW7 := Lib.hid hw7
    clear hfi hX4 hg4 hm4 S4 hX6 hg6 hm6 s6 s7 hw7
    go_wp2_with fail
    rw [← HW7.out]
    go_loopg [13, 61] 180 (fun gg x v wr => ∃ i : Nat, gg = 180 - i ∧ i ≤ 180 ∧ x = .int .i64 (if K < i then 1 else 0) ∧ v = .int .i64 i ∧ Step [] w7 o6 wr o6)
    case atStart => exact ⟨0, rfl, by decide, by rw [if_neg (by omega)], rfl, Step.refl _ _ _⟩
    case round =>
      obtain ⟨i, hgg, hi, rfl, rfl, st⟩ := hrel
      have HG2 := Lib.hid hgg
      clear hgg
      obtain ⟨⟨x0, x1, x2, x3, x4⟩, _⟩ := box_facts (hX7.frame st (by simp))
      have hpl := (hX7.frame st (by simp)).lt
      have hpn : p ≠ wr.heap.size := by omega
      by_cases hlt2 : i < 180
      · have hii : (i : Int) < 180 := by omega
        obtain ⟨d, hd⟩ : ∃ d, built[i]? = some d := ⟨_, List.getElem?_eq_getElem (by rw [built_length]; exact hlt2)⟩
        obtain ⟨y0, y1, y2, y3, y4⟩ := word_atb (hg7.frame st (by simp)) hd
        by_cases hik : i = K
        · obtain rfl : d = b := by
            have := HB.out
            rw [← hik, hd] at this
            exact Option.some.inj this
          rw [if_neg (by omega)]
          clear hd
          subst hik
          go_wp2_with fail
          go_roundg (180 - (i + 1))
          case measure => rw [HG2.out]; omega
          case rel => exact ⟨i + 1, rfl, by omega, by first | rw [if_pos (by omega)] | (rw [if_pos (by omega)]; go_num), by go_num, st.alloc _⟩
        · have hq : ((d.k : Int) == b.k) = false ∨ ((d.k : Int) == b.k) = true ∧ ((d.n : Int) == b.n) = false := by
            obtain ⟨h1, e1⟩ := List.getElem?_eq_some_iff.1 hd
            obtain ⟨h2, e2⟩ := List.getElem?_eq_some_iff.1 HB.out
            by_cases ek : d.k = b.k
            · refine .inr ⟨by simp [ek], ?_⟩
              have : d.n ≠ b.n := fun en => hik (kn_of built_kn h1 h2 (by rw [e1, e2, ek]) (by rw [e1, e2, en]))
              simp; omega
            · left; simp; omega
          clear hd
          have hx : ∃ c : Int, (if K < i then 1 else 0 : Int) = c ∧ (if K < i + 1 then 1 else 0 : Int) = c := by
            by_cases hlk : K < i
            · exact ⟨1, if_pos hlk, if_pos (by omega)⟩
            · exact ⟨0, if_neg hlk, if_neg (by omega)⟩
          obtain ⟨cc, hcc, hcc2⟩ := hx
          rw [hcc]
          have HCC := Lib.hid hcc2
          clear hcc hcc2
          rcases hq with hq | ⟨hq, hq'⟩
          · go_wp2_with fail
            go_roundg (180 - (i + 1))
            case measure => rw [HG2.out]; omega
            case rel => exact ⟨i + 1, rfl, by omega, by rw [HCC.out], by go_num, st.alloc _⟩
          · go_wp2_with fail
            go_roundg (180 - (i + 1))
            case measure => rw [HG2.out]; omega
            case rel => exact ⟨i + 1, rfl, by omega, by rw [HCC.out], by go_num, st.alloc _⟩
      · obtain rfl : i = 180 := by omega
        have hii : ¬ ((180 : Nat) : Int) < 180 := by omega
        rw [if_pos hK180]
        have hX9 := hX7.frame st (by simp)
        have hm9 := hm7.frame st (by simp)
        have S9 := S7.trans st
        obtain ⟨hno, hn1, ho7⟩ := word_facts2 HB.out
        have HNO := Lib.hid hno
        have HO7 := Lib.hid ho7
        have hge : decide ((1 : Int) ≤ b.n) = true := decide_eq_true (by omega)
        clear st HG2 hpl hpn hno ho7 hn1
        have hk2 : ((b.k : Int) != 2) = true ∨ ((b.k : Int) != 2) = false ∧ (b.only == decide ((b.n : Int) < 7)) = true := by
          rcases HO7.out with h | h
          · left; simp; omega
          · by_cases e : (b.k : Int) = 2
            · right
              refine ⟨by simp [e], ?_⟩
              rw [h, beq_iff_eq]
              exact decide_eq_decide.2 (by omega)
            · left; simp; exact e
        go_wp2_with fail
        rcases hk2 with hk2 | ⟨hk2, hol⟩
        all_goals
          refine q_start (fun W => ∃ o', Step [] wr o6 W o') (by kernel_rfl) ⟨_, (Step.refl _ _ _).drew⟩ ?_
          repeat (first
            | (refine q_off (by rfl) ?_; simp only [Act.put, List.setIfInBounds_toArray, List.set_cons_zero, List.set_cons_succ])
            | (refine q_on (by rfl) ?_; apply Exists.intro; refine ⟨fun W hW => ?_, ?_⟩; (obtain ⟨oW, sW⟩ := hW; obtain ⟨⟨x0, x1, x2, x3, x4⟩, _⟩ := box_facts (hX9.frame sW (by simp)); go_simp; first | done | with_reducible rfl | (go_at_call 12; exact (name_ok _ _ (hm9.frame sW (by simp))).mono fun e w' k => ⟨k.1.trans (by rw [HNO.out]), k.2.elim fun o2 st => ⟨o2, sW.trans st⟩⟩)); simp only [Act.put, List.setIfInBounds_toArray, List.set_cons_zero, List.set_cons_succ])
            | fail)
          refine q_end ?_
          rintro wz ⟨oz, sz⟩
          go_wp2_with fail
          go_ret
          exact ⟨rfl, ((Base.start w).step (S9.trans sz) (by decide)).below⟩
end Go.Proofs.YtjbccoehgggdcaaDoor
