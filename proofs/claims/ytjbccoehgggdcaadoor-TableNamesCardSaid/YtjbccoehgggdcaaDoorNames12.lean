/- TableNames: the walk. -/
import Derived.Test.YtjbccoehgggdcaaDoorPlays12
import Derived.Laws.Concat
import Derived.Deep.CutRange
namespace Go.Proofs.YtjbccoehgggdcaaDoor
open Go Go.RowKit Go.Shelf
set_option linter.unusedSimpArgs false
set_option linter.unusedVariables false

theorem words_all : (built.all fun b => lst (nameOf b.k b.n) == lst b.name && (decide (0 < (lst b.name).length) && (decide ((lst b.name).length ≤ 31) && (lst b.name).all fun c => lowc c == c))) = true := by kernel_rfl
theorem word_facts {j : Nat} {b : B} (h : built[j]? = some b) : nameOf b.k b.n = b.name ∧ 0 < b.name.size ∧ b.name.size ≤ 31 ∧ ∀ c ∈ lst b.name, lowc c = c := by
  have := List.all_eq_true.1 words_all b (List.mem_of_getElem? h)
  simp only [Bool.and_eq_true, decide_eq_true_eq, List.all_eq_true] at this
  obtain ⟨h1, h2, h3, h4⟩ := this
  exact ⟨lst_inj (eq_of_beq h1), h2, h3, fun c hc => eq_of_beq (h4 c hc)⟩
theorem low_name {j : Nat} {b : B} (h : built[j]? = some b) : low b.name = b.name := by
  apply lst_inj
  rw [low_lst]
  obtain ⟨_, _, _, h4⟩ := word_facts h
  exact (List.map_congr_left h4).trans (List.map_id _)

theorem up_low {c : UInt8} (h : 97 ≤ c.toNat ∧ c.toNat ≤ 122) : lowc (UInt8.ofNat (c.toNat - 32)) = lowc c := by
  have e : (UInt8.ofNat (c.toNat - 32)).toNat = c.toNat - 32 := by simp; omega
  rw [lowc_no (c := c) (by omega)]
  apply UInt8.toNat_inj.1
  rw [lowc_up (by omega), e]
  omega
theorem set_low {l : List UInt8} {j : Nat} (hj : j < l.length) (c' : UInt8) (h : lowc c' = lowc l[j]) : (l.set j c').map lowc = l.map lowc := by
  rw [List.map_set, h]
  apply List.ext_getElem?
  intro i
  rw [List.getElem?_set]
  by_cases e : j = i
  · subst e
    rw [if_pos rfl, if_pos (by simpa using hj), List.getElem?_map, List.getElem?_eq_getElem hj]
    rfl
  · rw [if_neg e]

/-- What stands behind the last look: the word that was found, or none, in a new block. -/
structure CutN (w : World) (p : Nat) (b : B) (x : ByteArray) (n1 n2 : Int) (b3 b4 ok : Bool) (c18 c19 : Value) (wx : World) : Prop where
  ex : ∃ (pA : Nat) (oA : Owner), c18 = .pointer (some ⟨pA, 0, none⟩) ∧ c19 = .bool ok ∧ Step [98] w (fun _ => 0) wx oA ∧ Blk wx oA 97 p 24 #[.string b.name, .int .i64 b.k, .int .i64 b.n, .bool b.now, .bool b.only] ∧
    (wx.cell? ⟨pA, 0, none⟩ = some (.string x) ∧ wx.cell? ⟨pA, 1, none⟩ = some (.int .i64 n1) ∧ wx.cell? ⟨pA, 2, none⟩ = some (.int .i64 n2) ∧ wx.cell? ⟨pA, 3, none⟩ = some (.bool b3) ∧ wx.cell? ⟨pA, 4, none⟩ = some (.bool b4))

theorem cutN_1 {w wr w' : World} {o8 oA : Owner} {p : Nat} {b : B} {x : ByteArray} {n1 n2 : Int} {b3 b4 ok : Bool} (S9 : Step [98] w (fun _ => 0) wr o8) (SA : Step [] wr o8 w' oA)
    (hXA : Blk w' oA 97 p 24 #[.string b.name, .int .i64 b.k, .int .i64 b.n, .bool b.now, .bool b.only]) :
    CutN w p b x n1 n2 b3 b4 ok (.pointer (some ⟨w'.heap.size, 0, none⟩)) (.bool ok) (w'.alloc (.cells #[.string x, .int .i64 n1, .int .i64 n2, .bool b3, .bool b4] 24)) :=
  ⟨w'.heap.size, oA, rfl, rfl, (S9.trans SA.nil).alloc _, hXA.frame ((Step.refl [] w' oA).alloc _) (by simp), (box_facts (Blk.new w' oA 100 24 _)).1⟩

theorem cutN_2 {w wr w' : World} {o8 oA : Owner} {p : Nat} {b : B} {x : ByteArray} {n1 n2 : Int} {b3 b4 ok : Bool} (S9 : Step [98] w (fun _ => 0) wr o8) (SA : Step [] wr o8 w' oA)
    (hXA : Blk w' oA 97 p 24 #[.string b.name, .int .i64 b.k, .int .i64 b.n, .bool b.now, .bool b.only]) (hpn : p ≠ wr.heap.size)
    (hZA : Blk w' oA 100 wr.heap.size 24 #[.string ByteArray.empty, .int .i64 0, .int .i64 0, .bool false, .bool false]) :
    CutN w p b x n1 n2 b3 b4 ok (.pointer (some ⟨wr.heap.size, 0, none⟩)) (.bool ok)
      (((((w'.setCell ⟨wr.heap.size, 0, none⟩ (.string x)).setCell ⟨wr.heap.size, 1, none⟩ (.int .i64 n1)).setCell ⟨wr.heap.size, 2, none⟩ (.int .i64 n2)).setCell ⟨wr.heap.size, 3, none⟩ (.bool b3)).setCell ⟨wr.heap.size, 4, none⟩ (.bool b4)) := by
  have hn : ∀ j, (⟨wr.heap.size, j, none⟩ : Addr).block < w.heap.size → (fun _ => 0 : Owner) wr.heap.size ∈ [98] := fun j h => absurd h (by have := S9.size; show ¬ wr.heap.size < w.heap.size; omega)
  have h5 := ((((hZA.set 0 (.string x)).set 1 (.int .i64 n1)).set 2 (.int .i64 n2)).set 3 (.bool b3)).set 4 (.bool b4)
  exact ⟨wr.heap.size, oA, rfl, rfl, (((((S9.trans SA.nil).setCell (hn 0) _).setCell (hn 1) _).setCell (hn 2) _).setCell (hn 3) _).setCell (hn 4) _,
    ((((hXA.setOther hpn 0 _).setOther hpn 1 _).setOther hpn 2 _).setOther hpn 3 _).setOther hpn 4 _, (box_facts (v0 := .string x) (v1 := .int .i64 n1) (v2 := .int .i64 n2) (v3 := .bool b3) (v4 := .bool b4) h5).1⟩

set_option maxRecDepth 100000 in
set_option maxHeartbeats 8000000 in
theorem names12_walk (a0 a1 : Int) (a2 : ByteArray) (h0 : 0 ≤ a0 ∧ a0 ≤ 65535) {w : World} (hm0 : ∃ m, w.cell? ⟨0, 0, none⟩ = some (.int .i64 m)) :
    Calls Tryd.prog 4 #[.int .u16 a0, .int .u32 a1, .string a2] w fun e w' => e = .returned (.bool true) ∧ Below w.heap.size w w' := by
  have hm : ML w (fun _ => 0) := ⟨hm0, rfl⟩
  have hsh := shown_ok hm
  obtain ⟨K, hK⟩ : ∃ K : Nat, a0.toNat % 180 = K := ⟨_, rfl⟩
  have hK180 : K < 180 := by omega
  have hrem : a0.tmod 180 = (K : Int) := by rw [Int.tmod_eq_emod_of_nonneg h0.1]; omega
  have hrem2 : a0 % 180 = (K : Int) := by omega
  obtain ⟨b, hb⟩ : ∃ b, built[K]? = some b := ⟨_, List.getElem?_eq_getElem (by rw [built_length]; exact hK180)⟩
  have HB := Lib.hid hb
  clear hm0 hb hK
  go_enter Tryd.func4, Tryd.ntmps4
  go_wp2_with fail
  refine hsh.mono ?_
  rintro e w1 ⟨rfl, o1, s1⟩
  have hal := all_ok (hm.frame s1 (by simp)) 95
  clear hsh
  go_wp2_with fail
  refine hal.mono ?_
  rintro e w2 ⟨v2, o2, rfl, hx2, s2⟩
  obtain ⟨g, cap, rfl, hg2⟩ := hx2.rowx (by decide)
  have hm2 := (hm.frame s1 (by simp)).frame s2 (by simp)
  have S2 := s1.trans s2
  obtain ⟨y0, y1, y2, y3, y4⟩ := word_atb hg2 HB.out
  have hKi : (K : Int) < 180 := by omega
  obtain ⟨w3, hw3⟩ : ∃ w3, w3 = w2.alloc (.cells #[.string b.name, .int .i64 b.k, .int .i64 b.n, .bool b.now, .bool b.only] 24) := ⟨_, rfl⟩
  obtain ⟨o3, ho3⟩ : ∃ o3, o3 = o2.set w2.heap.size 97 := ⟨_, rfl⟩
  have s3 : Step [] w2 o2 w3 o3 := by rw [hw3, ho3]; exact ((Step.refl _ _ _).alloc _).give (Nat.le_refl _) _
  have hX3 : Blk w3 o3 97 w2.heap.size 24 #[.string b.name, .int .i64 b.k, .int .i64 b.n, .bool b.now, .bool b.only] := by rw [hw3, ho3]; exact Blk.new w2 o2 97 _ _
  obtain ⟨w4, cap4, kc, hbr, s4⟩ := br_new w3 b.name
  replace s4 := (s4 o3).give (Nat.le_refl _) 98
  obtain ⟨o4, ho4⟩ : ∃ o4, o4 = o3.set w3.heap.size 98 := ⟨_, rfl⟩
  have hoq : o4 w3.heap.size = 98 := by rw [ho4]; exact Owner.set_self _ _ _
  rw [← ho4] at s4
  have hX4 := hX3.frame s4 (by simp)
  have hg4 := (hg2.frame s3 (by simp)).frame s4 (by simp)
  have hm4 := (hm2.frame s3 (by simp)).frame s4 (by simp)
  have S4 := (S2.trans s3).trans s4
  obtain ⟨hno, hpos, h31, hlow⟩ := word_facts HB.out
  obtain ⟨N, hN⟩ : ∃ N, b.name.size = N := ⟨_, rfl⟩
  have hlen : (lst b.name).length = N := hN
  obtain ⟨p, hp⟩ : ∃ p, w2.heap.size = p := ⟨_, rfl⟩
  obtain ⟨q, hq⟩ : ∃ q, w3.heap.size = q := ⟨_, rfl⟩
  have hqw : w.heap.size ≤ q := by rw [← hq]; exact (S2.trans s3).size
  rw [hp] at hX4
  rw [hq] at hbr kc hoq
  rw [hN] at kc hpos h31
  rw [hw3] at kc
  have HP := Lib.hid hp
  have HNO := Lib.hid hno
  have HLOW := Lib.hid hlow
  have HLEN := Lib.hid hlen
  have HPOS := Lib.hid hpos
  have HN := Lib.hid hN
  clear hal hx2 hm s1 s2 s3 s4 hw3 ho3 ho4 hX3 hg2 hm2 S2 hno hlow hlen hpos hN hp hq
  go_wp2_with fail
  rw [HP.out]
  go_loopg [38] N (fun gg v wr => ∃ (j : Nat) (l : List UInt8), gg = N - j ∧ j ≤ N ∧ v = .int .i64 j ∧ BR wr q l ∧ l.map lowc = lst b.name ∧ Step [98] w4 o4 wr o4)
  case atStart => exact ⟨0, _, rfl, Nat.zero_le _, rfl, hbr, (congrArg lst (low_name HB.out)).symm ▸ (low_lst b.name).symm, Step.refl _ _ _⟩
  case round =>
    obtain ⟨j, l, hg, hj, rfl, hr, hl1, st⟩ := hrel
    have HG := Lib.hid hg
    have HL1 := Lib.hid hl1
    have hll : l.length = N := by
      have := congrArg List.length hl1
      rw [List.length_map, HLEN.out] at this
      exact this
    have HLL := Lib.hid hll
    clear hg hl1 kc hbr hll
    by_cases hlt : j < N
    · have hji : (j : Int) < N := by omega
      have h32 : (j : Int) < 32 := by omega
      have hjl : j < l.length := by rw [HLL.out]; exact hlt
      obtain ⟨y, f⟩ := hr.at hjl
      obtain ⟨c, hc⟩ : ∃ c, l[j] = c := ⟨_, rfl⟩
      rw [hc] at y
      have HC := Lib.hid hc
      obtain ⟨d, hd⟩ : ∃ d, c.toNat = d := ⟨_, rfl⟩
      rw [hd] at y
      have HD := Lib.hid hd
      clear hc hd
      by_cases h97 : 97 ≤ d
      · have h97i : (97 : Int) ≤ d := by omega
        by_cases h122 : d ≤ 122
        · have h122i : (d : Int) ≤ 122 := by omega
          go_wp2_with fail
          · go_roundg (N - (j + 1))
            case measure => rw [HG.out]; omega
            case rel =>
              refine ⟨j + 1, l.set j (UInt8.ofNat (d - 32)), rfl, by omega, by go_num, hr.set j _ _ (by simp; omega), ?_, st.setCell (fun _ => by rw [hoq]; simp) _⟩
              rw [set_low hjl _ (by rw [HC.out, ← HD.out]; exact up_low (by rw [HD.out]; exact ⟨h97, h122⟩)), HL1.out]
          · go_roundg (N - (j + 1))
            case measure => rw [HG.out]; omega
            case rel => exact ⟨j + 1, l, rfl, by omega, by go_num, hr, HL1.out, st⟩
        · have h122i : ¬ (d : Int) ≤ 122 := by omega
          go_wp2_with fail
          all_goals
            go_roundg (N - (j + 1))
            case measure => rw [HG.out]; omega
            case rel => exact ⟨j + 1, l, rfl, by omega, by go_num, hr, HL1.out, st⟩
      · have h97i : ¬ (97 : Int) ≤ d := by omega
        go_wp2_with fail
        all_goals
          go_roundg (N - (j + 1))
          case measure => rw [HG.out]; omega
          case rel => exact ⟨j + 1, l, rfl, by omega, by go_num, hr, HL1.out, st⟩
    · obtain rfl : j = N := by omega
      have hji : ¬ (j : Int) < j := by omega
      have hX5 := hX4.frame st (by decide)
      have hg5 := hg4.frame st (by decide)
      have hm5 := hm4.frame st (by decide)
      have S5 := (S4.nil (S := [98])).trans st
      have kb := br_back hr j cap4 HLL.out.symm
      have hlw : low ⟨l.toArray⟩ = b.name := by apply lst_inj; rw [low_lst]; exact HL1.out
      have hfi := find_ok ⟨l.toArray⟩ (by show l.toArray.size ≤ _; rw [List.size_toArray, HLL.out]; omega) hm5
      have hfv : findV b.name = .tuple #[b.val, .bool true] := by
        obtain ⟨hk, e⟩ := List.getElem?_eq_some_iff.1 HB.out
        have := findV_at (t := b.name) hk (by rw [e])
        rwa [e] at this
      rw [hlw, hfv] at hfi
      obtain ⟨T, hT⟩ : ∃ T : ByteArray, ⟨l.toArray⟩ = T := ⟨_, rfl⟩
      rw [hT] at kb hfi
      clear hX4 hg4 hm4 S4 st hr hlw hfv hT
      unfold B.val at hfi
      go_wp2_with fail
      refine hfi.mono ?_
      rintro e w6 ⟨rfl, o6, s6⟩
      have hX6 := hX5.frame s6 (by simp)
      have hg6 := hg5.frame s6 (by simp)
      have hm6 := hm5.frame s6 (by simp)
      obtain ⟨w7, hw7⟩ : ∃ w7, w7 = w6.alloc (.cells #[.string b.name, .int .i64 b.k, .int .i64 b.n, .bool b.now, .bool b.only] 24) := ⟨_, rfl⟩
      obtain ⟨o7, ho7⟩ : ∃ o7, o7 = o6.set w6.heap.size 99 := ⟨_, rfl⟩
      have s7 : Step [] w6 o6 w7 o7 := by rw [hw7, ho7]; exact ((Step.refl _ _ _).alloc _).give (Nat.le_refl _) _
      have hF7 : Blk w7 o7 99 w6.heap.size 24 #[.string b.name, .int .i64 b.k, .int .i64 b.n, .bool b.now, .bool b.only] := by rw [hw7, ho7]; exact Blk.new w6 o6 99 _ _
      have hX7 := hX6.frame s7 (by simp)
      have hg7 := hg6.frame s7 (by simp)
      have hm7 := hm6.frame s7 (by simp)
      obtain ⟨p2, hp2⟩ : ∃ p2, w6.heap.size = p2 := ⟨_, rfl⟩
      rw [hp2] at hF7
      have S7 := (S5.trans s6.nil).trans s7.nil
      have HW7 := Lib.hid hw7
      have HP2 := Lib.hid hp2
      have hse : b.name.toList.isEmpty = false := by
        rw [Lib.toList_data]
        cases h : b.name.data.toList with
        | nil => have := HLEN.out; have h2 := HPOS.out; unfold lst at this; rw [h] at this; simp at this; omega
        | cons _ _ => rfl
      have hgt : decide ((31 : Int) < b.name.size) = false := decide_eq_false (by rw [HN.out]; omega)
      clear hfi hX5 hg5 hm5 hX6 hg6 hm6 s6 s7 hw7 ho7 S5 hp2 kb y0 y1 y2 y3 y4
      go_wp2_with fail
      rw [HP2.out, ← HW7.out]
      refine q_start (fun W => ∃ o', Step [] w7 o7 W o') (by kernel_rfl) ⟨_, (Step.refl _ _ _).drew⟩ ?_
      repeat (first
        | (refine q_off (by rfl) ?_; simp only [Act.put, List.setIfInBounds_toArray, List.set_cons_zero, List.set_cons_succ])
        | (refine q_on (by rfl) ?_; apply Exists.intro; refine ⟨fun W hW => ?_, ?_⟩; (obtain ⟨oW, sW⟩ := hW; obtain ⟨⟨x0, x1, x2, x3, x4⟩, _⟩ := box_facts (hX7.frame sW (by simp)); obtain ⟨⟨z0, z1, z2, z3, z4⟩, _⟩ := box_facts (hF7.frame sW (by simp)); go_simp; first | done | with_reducible rfl | (go_at_call 12; exact (name_ok _ _ (hm7.frame sW (by simp))).mono fun e w' k => ⟨k.1.trans (by rw [HNO.out]), k.2.elim fun o2 st => ⟨o2, sW.trans st⟩⟩)); simp only [Act.put, List.setIfInBounds_toArray, List.set_cons_zero, List.set_cons_succ])
        | fail)
      refine q_end ?_
      rintro w8 ⟨o8, s8⟩
      have hX8 := hX7.frame s8 (by simp)
      have hg8 := hg7.frame s8 (by simp)
      have hm8 := hm7.frame s8 (by simp)
      have S8 := S7.trans s8.nil
      clear hX7 hF7 hg7 hm7 S7 s8
      go_wp2_with fail
      go_loopg [15, 102] 180 (fun gg x v wr => ∃ i : Nat, gg = 180 - i ∧ i ≤ 180 ∧ x = .int .i64 (if K < i then 1 else 0) ∧ v = .int .i64 i ∧ Step [] w8 o8 wr o8)
      case atStart => exact ⟨0, rfl, by decide, by rw [if_neg (by omega)], rfl, Step.refl _ _ _⟩
      case round =>
        obtain ⟨i, hg, hi, rfl, rfl, st⟩ := hrel
        have HG2 := Lib.hid hg
        clear hg
        obtain ⟨⟨x0, x1, x2, x3, x4⟩, _⟩ := box_facts (hX8.frame st (by simp))
        have hpl := (hX8.frame st (by simp)).lt
        have hpn : p ≠ wr.heap.size := by omega
        by_cases hlt2 : i < 180
        · have hii : (i : Int) < 180 := by omega
          obtain ⟨c, hc⟩ : ∃ c, built[i]? = some c := ⟨_, List.getElem?_eq_getElem (by rw [built_length]; exact hlt2)⟩
          obtain ⟨y0, y1, y2, y3, y4⟩ := word_atb (hg8.frame st (by simp)) hc
          by_cases hik : i = K
          · obtain rfl : c = b := by
              have := HB.out
              rw [← hik, hc] at this
              exact Option.some.inj this
            rw [if_neg (by omega)]
            clear hc
            subst hik
            go_wp2_with fail
            go_roundg (180 - (i + 1))
            case measure => rw [HG2.out]; omega
            case rel => exact ⟨i + 1, rfl, by omega, by first | rw [if_pos (by omega)] | (rw [if_pos (by omega)]; go_num) | rw [if_neg (by omega)], by go_num, st.alloc _⟩
          · have hq : (c.name.toList == b.name.toList) = false := by
              rw [teq, decide_eq_false]
              intro e
              obtain ⟨h1, e1⟩ := List.getElem?_eq_some_iff.1 hc
              obtain ⟨h2, e2⟩ := List.getElem?_eq_some_iff.1 HB.out
              exact hik (name_inj h1 h2 (by rw [e1, e2, e]))
            clear hc
            by_cases hlk : K < i
            · rw [if_pos hlk]
              go_wp2_with fail
              go_roundg (180 - (i + 1))
              case measure => rw [HG2.out]; omega
              case rel => exact ⟨i + 1, rfl, by omega, by first | rw [if_pos (by omega)] | (rw [if_pos (by omega)]; go_num) | rw [if_neg (by omega)], by go_num, st.alloc _⟩
            · rw [if_neg hlk]
              go_wp2_with fail
              go_roundg (180 - (i + 1))
              case measure => rw [HG2.out]; omega
              case rel => exact ⟨i + 1, rfl, by omega, by first | rw [if_pos (by omega)] | (rw [if_pos (by omega)]; go_num) | rw [if_neg (by omega)], by go_num, st.alloc _⟩
        · obtain rfl : i = 180 := by omega
          have hii : ¬ ((180 : Nat) : Int) < 180 := by omega
          rw [if_pos hK180]
          have hX9 := hX8.frame st (by simp)
          have hm9 := hm8.frame st (by simp)
          have S9 := S8.trans st.nil
          clear hX8 hg8 hm8 S8 st HG2
          obtain ⟨⟨x0, x1, x2, x3, x4⟩, _⟩ := box_facts hX9
          obtain ⟨t2, ht2⟩ : ∃ t, a2.extract 0 (min (a2.size : Int) 20).toNat = t := ⟨_, rfl⟩
          have hs2 : t2.size ≤ 20 ∧ (a2.size ≠ 0 → 0 < t2.size) := by rw [← ht2, ByteArray.size_extract]; omega
          have hN31 : b.name.size ≤ 31 := by rw [HN.out]; exact h31
          have hsz : (b.name ++ t2).size = b.name.size + t2.size := ByteArray.size_append
          have hfn := fun (W : World) (oW : Owner) (hW : ML W oW) => find_ok (b.name ++ t2) (by rw [hsz]; omega) hW
          obtain ⟨x0', n1, n2, b3, b4, ok, hfv⟩ := findV_form (low (b.name ++ t2))
          have hdiff : a2.size = 0 ∨ (a2.size ≠ 0 ∧ ok = false) ∨ (a2.size ≠ 0 ∧ ok = true ∧ (x0'.toList == b.name.toList) = false) := by
            by_cases hz : a2.size = 0
            · exact .inl hz
            rcases seek_casesb (low (b.name ++ t2)) with ⟨j', b', hb', _, _, hn', hf'⟩ | ⟨_, hf', _⟩
            · refine .inr (.inr ⟨hz, ?_⟩)
              rw [hf'] at hfv
              simp only [B.val, Value.tuple.injEq, Array.mk.injEq, List.cons.injEq, Value.agg.injEq, Value.string.injEq, Value.bool.injEq] at hfv
              refine ⟨hfv.2.1.symm, ?_⟩
              have hx : x0' = b'.name := hfv.1.1.symm
              rw [teq, decide_eq_false]
              intro e
              have h1 : (low (b.name ++ t2)).size = b.name.size := by rw [← hn', ← hx, e]
              rw [low_size, hsz] at h1
              have := hs2.2 hz
              omega
            · refine .inr (.inl ⟨hz, ?_⟩)
              rw [hf'] at hfv
              simp only [ZB, Value.tuple.injEq, Array.mk.injEq, List.cons.injEq, Value.bool.injEq] at hfv
              exact hfv.2.1.symm
          simp only [hfv] at hfn
          have hsum : ¬ (9223372036854775807 : Int) < (b.name.size : Int) + t2.size := by omega
          have sD : Step [] wr o8 wr.drew o8 := (Step.refl _ _ _).drew
          obtain ⟨oB, hoB⟩ : ∃ oB, oB = o8.set wr.heap.size 100 := ⟨_, rfl⟩
          have sB : Step [] wr o8 (wr.alloc (.cells #[.string ByteArray.empty, .int .i64 0, .int .i64 0, .bool false, .bool false] 24)).drew oB := by rw [hoB]; exact (((Step.refl _ _ _).alloc _).give (Nat.le_refl _) _).drew
          have hZ0 : Blk (wr.alloc (.cells #[.string ByteArray.empty, .int .i64 0, .int .i64 0, .bool false, .bool false] 24)) oB 100 wr.heap.size 24 #[.string ByteArray.empty, .int .i64 0, .int .i64 0, .bool false, .bool false] := by rw [hoB]; exact Blk.new wr o8 100 _ _
          have hZ := hZ0.frame (S := []) (o' := oB) (w' := (wr.alloc (.cells #[.string ByteArray.empty, .int .i64 0, .int .i64 0, .bool false, .bool false] 24)).drew) (Step.refl _ _ _).drew (by simp)
          have hmD := hm9.frame sD (by simp)
          have hmB := hm9.frame sB (by simp)
          have hXD := hX9.frame sD (by simp)
          have hXB := hX9.frame sB (by simp)
          have hpl := hX9.lt
          have hpn : p ≠ wr.heap.size := by omega
          clear hfv hX9 hZ0 hoB hm9
          go_upto_region 23 with fail
          go_cut [18, 19] from 114 to 125 (fun c18 c19 wx => CutN w p b x0' n1 n2 b3 b4 ok c18 c19 wx)
          case first =>
            go_region_with (go_at_call 8; first
              | (refine (hfn _ _ hmD).mono ?_; rintro e w' ⟨rfl, oA, sA⟩; obtain ⟨⟨X0, X1, X2, X3, X4⟩, _⟩ := box_facts (hXD.frame sA (by simp)); have hpl' := (hXD.frame sA (by simp)).lt; have hpn' : p ≠ w'.heap.size := (by omega); have SA := sD.trans sA; have hXA := hXD.frame sA (by simp))
              | (refine (hfn _ _ hmB).mono ?_; rintro e w' ⟨rfl, oA, sA⟩; obtain ⟨⟨X0, X1, X2, X3, X4⟩, _⟩ := box_facts (hXB.frame sA (by simp)); obtain ⟨⟨Z0, Z1, Z2, Z3, Z4⟩, F0, F1, F2, F3, F4⟩ := box_facts (hZ.frame sA (by simp)); have SA := sB.trans sA; have hXA := hXB.frame sA (by simp); have hZA := hZ.frame sA (by simp)))
            all_goals (go_wp2_with fail; go_meet)
            all_goals (first | exact cutN_2 S9 SA hXA hpn hZA | exact cutN_1 S9 SA hXA)
          case rest =>
            obtain ⟨pA, oA, rfl, rfl, SA, hXA, z0, z1, z2, z3, z4⟩ := hcut.ex
            obtain ⟨⟨X0, X1, X2, X3, X4⟩, _⟩ := box_facts hXA
            clear hXA hZ hXD hXB hmD hmB hfn
            rcases hdiff with h | ⟨h, rfl⟩ | ⟨h, rfl, hq⟩
            · have hzi : (a2.size : Int) = 0 := by omega
              go_wp2_with fail
              go_ret
              exact ⟨rfl, ((Base.start w).step SA (by decide)).below⟩
            · have hzi : ¬ (a2.size : Int) = 0 := by omega
              go_wp2_with fail
              go_ret
              exact ⟨rfl, ((Base.start w).step SA (by decide)).below⟩
            · have hzi : ¬ (a2.size : Int) = 0 := by omega
              go_wp2_with fail
              go_ret
              exact ⟨rfl, ((Base.start w).step SA (by decide)).below⟩
end Go.Proofs.YtjbccoehgggdcaaDoor
