/- Contract: the reference's Find. -/
import Derived.Test.YtjbccoehgggdcaaDoorFindP
import Derived.Test.YtjbccoehgggdcaaDoorQuietC
namespace Go.Proofs.YtjbccoehgggdcaaDoor
open Go Go.RowKit Go.Shelf
set_option linter.unusedSimpArgs false
set_option linter.unusedVariables false

set_option maxRecDepth 100000 in
set_option maxHeartbeats 4000000 in
theorem rfind_ok (s : ByteArray) (hs : s.size ≤ 1000000) (w : World) (o : Owner) :
    Calls Tryd.prog 9 #[.string s] w fun e w' => e = .returned (findV (low s)) ∧ ∃ o', Step [] w o w' o' := by
  obtain ⟨w0, hw0⟩ : ∃ w0, w0 = w.alloc (.cells #[.string ByteArray.empty, .int .i64 0, .int .i64 0, .bool false, .bool false] 24) := ⟨_, rfl⟩
  have s0 : Step [] w o w0 (o.set w.heap.size 90) := by rw [hw0]; exact ((Step.refl _ _ _).alloc _).give (Nat.le_refl _) _
  have hR : Blk w0 (o.set w.heap.size 90) 90 w.heap.size 24 #[.string ByteArray.empty, .int .i64 0, .int .i64 0, .bool false, .bool false] := by rw [hw0]; exact Blk.new w o 90 _ _
  have hall := rall_ok w0 (o.set w.heap.size 90) 91
  rw [hw0] at hall
  have HW0 := Lib.hid hw0
  clear hw0
  obtain ⟨t, ht⟩ : ∃ t, low s = t := ⟨_, rfl⟩
  have HT := Lib.hid ht
  have hbl := built_length
  have HBL := Lib.hid hbl
  clear ht hbl
  go_enter Tryd.func9, Tryd.ntmps9
  go_wp2_with fail
  refine hall.mono ?_
  rintro e w1 ⟨v, o1, rfl, hx1, s1⟩
  rw [← HW0.out] at s1
  have hR1 := hR.frame s1 (by simp)
  obtain ⟨g, cap, rfl, hg1⟩ := hx1.rowx (by decide)
  have S1 := s0.trans s1
  clear hall hR hx1 s0 s1 HW0
  obtain ⟨b0, hb0⟩ : ∃ b0, w.heap.size = b0 := ⟨_, rfl⟩
  rw [hb0] at hR1 ⊢
  have HB0 := Lib.hid hb0
  clear hb0
  go_wp2_with fail
  go_loopg [5] 180 (fun gg v wr => ∃ (j : Nat) (o' : Owner), gg = 180 - j ∧ j ≤ 180 ∧ v = .int .i64 j ∧ Step [] w1 o1 wr o' ∧ Aside (∀ q (hq : q < built.length), q < j → built[q].name ≠ t))
  case atStart => exact ⟨0, o1, rfl, by decide, rfl, Step.refl _ _ _, fun q _ hq => absurd hq (by omega)⟩
  case round =>
    obtain ⟨j, o3, hg, hj, rfl, st, A⟩ := hrel
    have HG := Lib.hid hg
    clear hg
    by_cases hlt : j < 180
    · have hji : (j : Int) < 180 := by omega
      have hjb : j < built.length := by rw [HBL.out]; exact hlt
      obtain ⟨b, hb⟩ : ∃ b, built[j]? = some b := ⟨_, List.getElem?_eq_getElem hjb⟩
      have hbn : built[j].name = b.name := by rw [List.getElem?_eq_getElem hjb] at hb; exact congrArg B.name (Option.some.inj hb)
      have HBN := Lib.hid hbn
      have hg3 := hg1.frame st (by simp)
      have HT' := HT
      clear hbn
      by_cases e : b.name = t
      · have hfv : findV t = .tuple #[b.val, .bool true] := by
          have := findV_at hjb (HBN.out.trans e)
          rw [List.getElem?_eq_getElem hjb] at hb
          rw [Option.some.inj hb] at this
          exact this
        have HFV := Lib.hid hfv
        have HB := Lib.hid hb
        have hq : (b.name.toList == t.toList) = true := by rw [teq, decide_eq_true e]
        clear e hfv hb
        go_wp2_with fail
        refine q_start (fun W => ∃ o', Step [] wr o3 W o') (by kernel_rfl) ⟨_, (Step.refl _ _ _).drew⟩ ?_
        repeat (first
          | (refine q_off (by rfl) ?_; simp only [Act.put, List.setIfInBounds_toArray, List.set_cons_zero, List.set_cons_succ])
          | (refine q_on (by rfl) ?_; apply Exists.intro; refine ⟨fun W hW => ?_, ?_⟩; (obtain ⟨oW, sW⟩ := hW; obtain ⟨y0, y1, y2, y3, y4⟩ := word_atb (hg3.frame sW (by simp)) HB.out; go_simp; first | done | with_reducible rfl | (go_at_call 17; exact (rfold_ok s hs W oW).mono fun e w' k => ⟨k.1.trans (by rw [HT.out]), k.2.elim fun o2 st => ⟨o2, sW.trans st⟩⟩)); simp only [Act.put, List.setIfInBounds_toArray, List.set_cons_zero, List.set_cons_succ])
          | fail)
        refine q_end ?_
        rintro w5 ⟨o5, s5⟩
        obtain ⟨⟨r0, r1, r2, r3, r4⟩, f0, f1, f2, f3, f4⟩ := box_facts ((hR1.frame st (by simp)).frame s5 (by simp))
        have S5 := (S1.trans st).trans s5
        obtain ⟨y0, y1, y2, y3, y4⟩ := word_atb (hg3.frame s5 (by simp)) HB.out
        clear hR1 hg1 hg3 S1 st s5 hq
        go_wp2_with fail
        simp [bodyPost, results, Tryd.results9, go_sem, r0, r1, r2, r3, r4, f0, f1, f2, f3, f4]
        have hn : ∀ j, (⟨b0, j, none⟩ : Addr).block < w.heap.size → o b0 ∈ ([] : List Nat) := fun j h => absurd h (by show ¬ b0 < w.heap.size; rw [HB0.out]; omega)
        refine ⟨?_, _, ((((S5.setCell (hn 0) _).setCell (hn 1) _).setCell (hn 2) _).setCell (hn 3) _).setCell (hn 4) _⟩
        rw [HT.out, HFV.out]
        rfl
      · have HE := Lib.hid e
        have HB := Lib.hid hb
        have hq : (b.name.toList == t.toList) = false := by rw [teq, decide_eq_false e]
        clear e hb
        go_wp2_with fail
        refine q_start (fun W => ∃ o', Step [] wr o3 W o') (by kernel_rfl) ⟨_, (Step.refl _ _ _).drew⟩ ?_
        repeat (first
          | (refine q_off (by rfl) ?_; simp only [Act.put, List.setIfInBounds_toArray, List.set_cons_zero, List.set_cons_succ])
          | (refine q_on (by rfl) ?_; apply Exists.intro; refine ⟨fun W hW => ?_, ?_⟩; (obtain ⟨oW, sW⟩ := hW; obtain ⟨y0, y1, y2, y3, y4⟩ := word_atb (hg3.frame sW (by simp)) HB.out; go_simp; first | done | with_reducible rfl | (go_at_call 17; exact (rfold_ok s hs W oW).mono fun e w' k => ⟨k.1.trans (by rw [HT.out]), k.2.elim fun o2 st => ⟨o2, sW.trans st⟩⟩)); simp only [Act.put, List.setIfInBounds_toArray, List.set_cons_zero, List.set_cons_succ])
          | fail)
        refine q_end ?_
        rintro w5 ⟨o5, s5⟩
        have S5 := st.trans s5
        clear hR1 hg1 hg3 S1 st s5 hq
        go_wp2_with fail
        go_roundg (180 - (j + 1))
        case measure => rw [HG.out]; omega
        case rel =>
          refine ⟨j + 1, o5, rfl, by omega, by go_num, S5, (show Aside _ from fun q hq hlt => ?_)⟩
          by_cases hqj : q = j
          · subst hqj
            rw [HBN.out]
            exact HE.out
          · exact A.out q hq (by omega)
    · obtain rfl : j = 180 := by omega
      have hji : ¬ ((180 : Nat) : Int) < 180 := by omega
      obtain ⟨⟨r0, r1, r2, r3, r4⟩, f0, f1, f2, f3, f4⟩ := box_facts (hR1.frame st (by simp))
      have S5 := S1.trans st
      have hfv := findV_miss (t := t) (fun q hq => A.out q hq (by rw [HBL.out] at hq; exact hq))
      have HFV := Lib.hid hfv
      clear hR1 hg1 S1 st hfv
      go_wp2_with fail
      simp [bodyPost, results, Tryd.results9, go_sem, r0, r1, r2, r3, r4, f0, f1, f2, f3, f4]
      have hn : ∀ j, (⟨b0, j, none⟩ : Addr).block < w.heap.size → o b0 ∈ ([] : List Nat) := fun j h => absurd h (by show ¬ b0 < w.heap.size; rw [HB0.out]; omega)
      refine ⟨?_, _, ((((S5.setCell (hn 0) _).setCell (hn 1) _).setCell (hn 2) _).setCell (hn 3) _).setCell (hn 4) _⟩
      rw [HT.out, HFV.out]
      rfl
end Go.Proofs.YtjbccoehgggdcaaDoor
