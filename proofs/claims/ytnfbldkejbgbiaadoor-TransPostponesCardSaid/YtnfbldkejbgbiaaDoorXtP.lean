/- Contracts: slices.IndexFunc at the table with the closure of Xt; the numbers of words (both ways); which may only be compiled (both ways). -/
import Derived.Test.YtnfbldkejbgbiaaDoorSeek
import Derived.Test.YtnfbldkejbgbiaaDoorQuietC
import Derived.Lib.Strings
import Derived.Shelf.Abstract
namespace Go.Proofs.YtnfbldkejbgbiaaDoor
open Go Go.RowKit Go.Shelf
set_option linter.unusedSimpArgs false
set_option linter.unusedVariables false

theorem teq (a b : ByteArray) : (a.toList == b.toList) = decide (a = b) := by
  rw [Lib.toList_data, Lib.toList_data]
  by_cases h : a = b
  · subst h
    rw [decide_eq_true rfl, beq_self_eq_true]
  · rw [decide_eq_false h, beq_eq_false_iff_ne]
    exact fun e => h (lst_inj e)

theorem cl_ok (t : ByteArray) (c : Nat) (b : B) (W : World) (o : Owner) (hc : W.cell? ⟨c, 0, none⟩ = some (.string t)) :
    Calls Tryd.prog 30 #[.agg #[.string b.name, .int .i64 b.k, .int .i64 b.n, .bool b.now, .bool b.only], .pointer (some ⟨c, 0, none⟩)] W fun e w' => e = .returned (.bool (decide (b.name = t))) ∧ Step [] W o w' o := by
  have hb : c < W.heap.size := World.block_lt_of_cell? W _ hc
  have hne : c ≠ W.heap.size := by omega
  go_enter Tryd.func30, Tryd.ntmps30
  go_wp2_with fail
  go_ret
  exact ⟨by rw [teq]; rfl, (Step.refl _ _ _).alloc _⟩

set_option maxHeartbeats 4000000 in
theorem ixf_ok {w : World} {o : Owner} {i g cap c ic : Nat} {t : ByteArray} (hx : Rowx w o i 49 5 g 180 cap (bcells built)) (hc : Blk w o ic c 9 #[.string t]) :
    Calls Tryd.prog 28 #[.slice (some ⟨g, 0, none⟩) 180 cap, .func (.func 30) #[] #[.pointer (some ⟨c, 0, none⟩)]] w fun e w' => e = .returned (.int .i64 (seekI t)) ∧ Step [] w o w' o := by
  have eg : ∀ args w, (callFunc 30 args).run Tryd.prog w = .ok (.enter 30 args) w := enters_of Tryd.func30 (by kernel_rfl) rfl
  have hbl := built_length
  go_enter Tryd.func28, Tryd.ntmps28
  go_wp2_with fail
  go_loopg [8] 180 (fun gg v wr => ∃ j : Nat, gg = 180 - j ∧ j ≤ 180 ∧ v = .int .i64 j ∧ Step [] w o wr o ∧ Aside (∀ q (hq : q < built.length), q < j → built[q].name ≠ t))
  case atStart => exact ⟨0, rfl, by decide, rfl, Step.refl _ _ _, fun q _ hq => absurd hq (by omega)⟩
  case round =>
    obtain ⟨j, hg, hj, rfl, st, A⟩ := hrel
    have HG := Lib.hid hg
    have HBL := Lib.hid hbl
    clear hg hbl
    by_cases hlt : j < 180
    · have hji : (j : Int) < 180 := by omega
      have hjb : j < built.length := by rw [HBL.out]; exact hlt
      obtain ⟨y0, y1, y2, y3, y4⟩ := word_at (hx.frame st (by simp)) hjb
      have hcl := cl_ok t c built[j] wr o ((hc.frame st (by simp)).cell0)
      obtain ⟨b, hb⟩ : ∃ b, built[j] = b := ⟨_, rfl⟩
      rw [hb] at y0 y1 y2 y3 y4 hcl
      have HB := Lib.hid hb
      clear hb
      by_cases e : b.name = t
      · rw [decide_eq_true e] at hcl
        have HE := Lib.hid e
        clear e
        go_wp2_with (go_at_call 30; refine hcl.mono ?_; rintro e w' ⟨rfl, s2⟩)
        go_ret
        exact ⟨by rw [seek_at hjb ((congrArg B.name HB.out).trans HE.out)]; rfl, st.trans s2⟩
      · rw [decide_eq_false e] at hcl
        have HE := Lib.hid e
        clear e
        go_wp2_with (go_at_call 30; refine hcl.mono ?_; rintro e w' ⟨rfl, s2⟩)
        go_roundg (180 - (j + 1))
        case measure => rw [HG.out]; omega
        case rel =>
          refine ⟨j + 1, rfl, by omega, by go_num, st.trans s2, (show Aside _ from fun q hq hlt => ?_)⟩
          by_cases hqj : q = j
          · subst hqj
            rw [HB.out]
            exact HE.out
          · exact A.out q hq (by omega)
    · obtain rfl : j = 180 := by omega
      have hji : ¬ ((180 : Nat) : Int) < 180 := by omega
      go_wp2_with fail
      go_ret
      exact ⟨by rw [seek_miss (fun q hq => A.out q hq (by rw [HBL.out] at hq; exact hq))]; rfl, st⟩

set_option maxRecDepth 100000 in
set_option maxHeartbeats 4000000 in
theorem xt_ok (s : ByteArray) (hs : s.size ≤ 1000000) {w : World} {o : Owner} (hm : ML w o) :
    Calls Tryd.prog 13 #[.string s] w fun e w' => e = .returned (.int .i64 (seekI (low s) + 1)) ∧ ∃ o', Step [] w o w' o' := by
  have hf := fold_ok s hs w o
  have hsk : seekI (low s) = -1 ∨ ∃ j : Nat, j < 180 ∧ seekI (low s) = j := by
    rcases seek_casesb (low s) with ⟨j, b, _, hj, h, _⟩ | ⟨h, _⟩
    · exact .inr ⟨j, hj, h⟩
    · exact .inl h
  obtain ⟨t, ht⟩ : ∃ t, low s = t := ⟨_, rfl⟩
  rw [ht] at hf hsk ⊢
  have HSK := Lib.hid hsk
  clear ht hsk
  go_enter Tryd.func13, Tryd.ntmps13
  go_wp2_with fail
  refine hf.mono ?_
  rintro e w2 ⟨rfl, s2⟩
  obtain ⟨w3, hw3⟩ : ∃ w3, w3 = w2.alloc (.cells #[.string t] 9) := ⟨_, rfl⟩
  have s3 : Step [] w2 o w3 (o.set w2.heap.size 92) := by rw [hw3]; exact ((Step.refl _ _ _).alloc _).give (Nat.le_refl _) _
  have hC : Blk w3 (o.set w2.heap.size 92) 92 w2.heap.size 9 #[.string t] := by rw [hw3]; exact Blk.new w2 o 92 _ _
  have hall := all_ok ((hm.frame s2 (by simp)).frame s3 (by simp)) 91
  obtain ⟨c, hc⟩ : ∃ c, w2.heap.size = c := ⟨_, rfl⟩
  rw [hc] at hC s3 hall
  have S3 := s2.trans s3
  have HW3 := Lib.hid hw3
  have HC := Lib.hid hc
  rw [hw3] at hall
  clear hf hw3 hc s2 s3
  go_wp2_with fail
  rw [HC.out]
  refine hall.mono ?_
  rintro e w4 ⟨v, o4, rfl, hx4, s4⟩
  rw [← HW3.out] at s4
  obtain ⟨g, cap, rfl, hg4⟩ := hx4.rowx (by decide)
  have hix := ixf_ok hg4 (hC.frame s4 (by simp))
  have S4 := S3.trans s4
  obtain ⟨r, hr⟩ : ∃ r, seekI t = r := ⟨_, rfl⟩
  rw [hr] at hix
  have hsk := HSK.out
  rw [hr] at hsk
  have hwr : wrap64 (r + 1) = r + 1 := by
    unfold wrap64
    rcases hsk with rfl | ⟨j, hj, rfl⟩ <;> omega
  have HR := Lib.hid hr
  have HWR := Lib.hid hwr
  clear hall hC hx4 hg4 s4 S3 HSK hsk hr hwr
  go_wp2_with fail
  refine hix.mono ?_
  rintro e w5 ⟨rfl, s5⟩
  go_wp2_with fail
  go_ret
  exact ⟨by rw [HR.out]; exact congrArg (fun z => Ending.returned (Value.int .i64 z)) HWR.out, _, S4.trans s5⟩

set_option maxRecDepth 100000 in
set_option maxHeartbeats 4000000 in
theorem rxt_ok (s : ByteArray) (hs : s.size ≤ 1000000) (w : World) (o : Owner) :
    Calls Tryd.prog 14 #[.string s] w fun e w' => e = .returned (.int .i64 (seekI (low s) + 1)) ∧ ∃ o', Step [] w o w' o' := by
  have hall := rall_ok w o 91
  obtain ⟨t, ht⟩ : ∃ t, low s = t := ⟨_, rfl⟩
  have HT := Lib.hid ht
  have hbl := built_length
  have HBL := Lib.hid hbl
  clear ht hbl
  go_enter Tryd.func14, Tryd.ntmps14
  go_wp2_with fail
  refine hall.mono ?_
  rintro e w1 ⟨v, o1, rfl, hx1, s1⟩
  obtain ⟨g, cap, rfl, hg1⟩ := hx1.rowx (by decide)
  clear hall hx1
  go_wp2_with fail
  go_loopg [4] 180 (fun gg v wr => ∃ (j : Nat) (o' : Owner), gg = 180 - j ∧ j ≤ 180 ∧ v = .int .i64 j ∧ Step [] w1 o1 wr o' ∧ Aside (∀ q (hq : q < built.length), q < j → built[q].name ≠ t))
  case atStart => exact ⟨0, o1, rfl, by decide, rfl, Step.refl _ _ _, fun q _ hq => absurd hq (by omega)⟩
  case round =>
    obtain ⟨j, o3, hg, hj, rfl, st, A⟩ := hrel
    have HG := Lib.hid hg
    clear hg
    by_cases hlt : j < 180
    · have hji : (j : Int) < 180 := by omega
      have hjb : j < built.length := by rw [HBL.out]; exact hlt
      obtain ⟨b, hb⟩ : ∃ b, built[j]? = some b := ⟨_, List.getElem?_eq_getElem hjb⟩
      have hbn : built[j].name = b.name := by rw [List.getElem?_eq_getElem hjb] at hb; exact congrArg B.name (Option.some.inj hb)
      have HBN := Lib.hid hbn
      have hg3 := hg1.frame st (by simp)
      have HB := Lib.hid hb
      clear hbn hb
      by_cases e : b.name = t
      · have HE := Lib.hid e
        have hq : (b.name.toList == t.toList) = true := by rw [teq, decide_eq_true e]
        clear e
        go_wp2_with fail
        refine q_start (fun W => ∃ o', Step [] wr o3 W o') (by kernel_rfl) ⟨_, (Step.refl _ _ _).drew⟩ ?_
        repeat (first
          | (refine q_off (by rfl) ?_; simp only [Act.put, List.setIfInBounds_toArray, List.set_cons_zero, List.set_cons_succ])
          | (refine q_on (by rfl) ?_; apply Exists.intro; refine ⟨fun W hW => ?_, ?_⟩; (obtain ⟨oW, sW⟩ := hW; obtain ⟨y0, y1, y2, y3, y4⟩ := word_atb (hg3.frame sW (by simp)) HB.out; go_simp; first | done | with_reducible rfl | (go_at_call 31; exact (rfold_ok s hs W oW).mono fun e w' k => ⟨k.1.trans (by rw [HT.out]), k.2.elim fun o2 st => ⟨o2, sW.trans st⟩⟩)); simp only [Act.put, List.setIfInBounds_toArray, List.set_cons_zero, List.set_cons_succ])
          | fail)
        refine q_end ?_
        rintro w5 ⟨o5, s5⟩
        have S5 := (s1.trans st).trans s5
        have hwj : wrap64 ((j : Int) + 1) = (j : Int) + 1 := by unfold wrap64; omega
        clear hg1 hg3 s1 st s5 hq
        go_wp2_with fail
        go_ret
        exact ⟨by rw [HT.out, seek_at hjb (HBN.out.trans HE.out)]; rfl, _, S5⟩
      · have HE := Lib.hid e
        have hq : (b.name.toList == t.toList) = false := by rw [teq, decide_eq_false e]
        clear e
        go_wp2_with fail
        refine q_start (fun W => ∃ o', Step [] wr o3 W o') (by kernel_rfl) ⟨_, (Step.refl _ _ _).drew⟩ ?_
        repeat (first
          | (refine q_off (by rfl) ?_; simp only [Act.put, List.setIfInBounds_toArray, List.set_cons_zero, List.set_cons_succ])
          | (refine q_on (by rfl) ?_; apply Exists.intro; refine ⟨fun W hW => ?_, ?_⟩; (obtain ⟨oW, sW⟩ := hW; obtain ⟨y0, y1, y2, y3, y4⟩ := word_atb (hg3.frame sW (by simp)) HB.out; go_simp; first | done | with_reducible rfl | (go_at_call 31; exact (rfold_ok s hs W oW).mono fun e w' k => ⟨k.1.trans (by rw [HT.out]), k.2.elim fun o2 st => ⟨o2, sW.trans st⟩⟩)); simp only [Act.put, List.setIfInBounds_toArray, List.set_cons_zero, List.set_cons_succ])
          | fail)
        refine q_end ?_
        rintro w5 ⟨o5, s5⟩
        have S5 := st.trans s5
        clear hg1 hg3 st s5 hq
        go_wp2_with fail
        go_roundg (180 - (j + 1))
        case measure => rw [HG.out]; omega
        case rel =>
          refine ⟨j + 1, o5, rfl, by omega, by go_num, S5, (show Aside _ from fun q hq hlt => ?_)⟩
          by_cases hqj : q = j
          · subst hqj
            rw [HBN.out]
            exact HE.out
          · exact A.out q hq (by omega)
    · obtain rfl : j = 180 := by omega
      have hji : ¬ ((180 : Nat) : Int) < 180 := by omega
      have hfv := seek_miss (t := t) (fun q hq => A.out q hq (by rw [HBL.out] at hq; exact hq))
      have HFV := Lib.hid hfv
      clear hg1 hfv
      go_wp2_with fail
      go_ret
      exact ⟨by rw [HT.out, HFV.out]; rfl, _, s1.trans st⟩

/-- May the word of a number only be compiled? -/
def onlyAt (xt : Int) : Bool := if 1 ≤ xt ∧ xt ≤ 180 then (match built[(xt - 1).toNat]? with | some b => b.only | none => false) else false

set_option maxRecDepth 100000 in
set_option maxHeartbeats 4000000 in
theorem only_ok (xt : Int) {w : World} {o : Owner} (hm : ML w o) :
    Calls Tryd.prog 15 #[.int .i64 xt] w fun e w' => e = .returned (.bool (onlyAt xt)) ∧ ∃ o', Step [] w o w' o' := by
  have hall := all_ok hm 91
  unfold onlyAt
  by_cases h : 1 ≤ xt ∧ xt ≤ 180
  · rw [if_pos h]
    obtain ⟨j, hj⟩ : ∃ j : Nat, xt - 1 = j := ⟨(xt - 1).toNat, by omega⟩
    obtain ⟨b, hb⟩ : ∃ b, built[j]? = some b := ⟨_, List.getElem?_eq_getElem (by rw [built_length]; omega)⟩
    rw [show (xt - 1).toNat = j by omega, hb]
    have HB := Lib.hid hb
    have h1 : 0 < xt := by omega
    have h1' : 1 ≤ xt := by omega
    have h2 : xt ≤ 180 := h.2
    have hw : wrap64 (xt - 1) = j := by unfold wrap64; omega
    have hji : (j : Int) < 180 := by omega
    clear hb h
    go_enter Tryd.func15, Tryd.ntmps15
    go_wp2_with fail
    refine hall.mono ?_
    rintro e w1 ⟨v, o1, rfl, hx1, s1⟩
    obtain ⟨g, cap, rfl, hg1⟩ := hx1.rowx (by decide)
    obtain ⟨y0, y1, y2, y3, y4⟩ := word_atb hg1 HB.out
    clear hall hx1 hg1
    go_wp2_with fail
    go_ret
    exact ⟨rfl, _, s1⟩
  · rw [if_neg h]
    by_cases h1 : xt < 1
    · have h1a : ¬ 0 < xt := by omega
      have h1b : ¬ 1 ≤ xt := by omega
      go_enter Tryd.func15, Tryd.ntmps15
      go_wp2_with fail
      refine hall.mono ?_
      rintro e w1 ⟨v, o1, rfl, hx1, s1⟩
      obtain ⟨g, cap, rfl, hg1⟩ := hx1.rowx (by decide)
      clear hall hx1 hg1
      go_wp2_with fail
      go_ret
      exact ⟨rfl, _, s1⟩
    · have h1a : 0 < xt := by omega
      have h1b : 1 ≤ xt := by omega
      have h2 : ¬ xt ≤ 180 := by omega
      clear h1 h
      go_enter Tryd.func15, Tryd.ntmps15
      go_wp2_with fail
      refine hall.mono ?_
      rintro e w1 ⟨v, o1, rfl, hx1, s1⟩
      obtain ⟨g, cap, rfl, hg1⟩ := hx1.rowx (by decide)
      clear hall hx1 hg1
      go_wp2_with fail
      go_ret
      exact ⟨rfl, _, s1⟩

set_option maxRecDepth 100000 in
set_option maxHeartbeats 4000000 in
theorem ronlyx_ok (xt : Int) (w : World) (o : Owner) :
    Calls Tryd.prog 16 #[.int .i64 xt] w fun e w' => e = .returned (.bool (onlyAt xt)) ∧ ∃ o', Step [] w o w' o' := by
  have hall := rall_ok w o 91
  unfold onlyAt
  by_cases h : 1 ≤ xt ∧ xt ≤ 180
  · rw [if_pos h]
    obtain ⟨j, hj⟩ : ∃ j : Nat, xt - 1 = j := ⟨(xt - 1).toNat, by omega⟩
    obtain ⟨b, hb⟩ : ∃ b, built[j]? = some b := ⟨_, List.getElem?_eq_getElem (by rw [built_length]; omega)⟩
    rw [show (xt - 1).toNat = j by omega, hb]
    have HB := Lib.hid hb
    have h1 : 0 < xt := by omega
    have h1' : 1 ≤ xt := by omega
    have h2 : xt ≤ 180 := h.2
    have hw : wrap64 (xt - 1) = j := by unfold wrap64; omega
    have hji : (j : Int) < 180 := by omega
    clear hb h
    go_enter Tryd.func16, Tryd.ntmps16
    go_wp2_with fail
    refine hall.mono ?_
    rintro e w1 ⟨v, o1, rfl, hx1, s1⟩
    obtain ⟨g, cap, rfl, hg1⟩ := hx1.rowx (by decide)
    obtain ⟨y0, y1, y2, y3, y4⟩ := word_atb hg1 HB.out
    clear hall hx1 hg1
    go_wp2_with fail
    go_ret
    exact ⟨rfl, _, s1⟩
  · rw [if_neg h]
    by_cases h1 : xt < 1
    · have h1a : ¬ 0 < xt := by omega
      have h1b : ¬ 1 ≤ xt := by omega
      go_enter Tryd.func16, Tryd.ntmps16
      go_wp2_with fail
      refine hall.mono ?_
      rintro e w1 ⟨v, o1, rfl, hx1, s1⟩
      obtain ⟨g, cap, rfl, hg1⟩ := hx1.rowx (by decide)
      clear hall hx1 hg1
      go_wp2_with fail
      go_ret
      exact ⟨rfl, _, s1⟩
    · have h1a : 0 < xt := by omega
      have h1b : 1 ≤ xt := by omega
      have h2 : ¬ xt ≤ 180 := by omega
      clear h1 h
      go_enter Tryd.func16, Tryd.ntmps16
      go_wp2_with fail
      refine hall.mono ?_
      rintro e w1 ⟨v, o1, rfl, hx1, s1⟩
      obtain ⟨g, cap, rfl, hg1⟩ := hx1.rowx (by decide)
      clear hall hx1 hg1
      go_wp2_with fail
      go_ret
      exact ⟨rfl, _, s1⟩

end Go.Proofs.YtnfbldkejbgbiaaDoor
