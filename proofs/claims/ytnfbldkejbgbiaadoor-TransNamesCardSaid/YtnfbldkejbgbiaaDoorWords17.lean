/- TransWords: the walk. -/
import Derived.Test.YtnfbldkejbgbiaaDoorSame17
namespace Go.Proofs.YtnfbldkejbgbiaaDoor
open Go Go.RowKit Go.Shelf
set_option linter.unusedSimpArgs false
set_option linter.unusedVariables false

theorem only_word {K : Nat} {b : B} (h : built[K]? = some b) (hK : K < 180) : onlyAt ((K : Int) + 1) = b.only := by
  unfold onlyAt
  rw [if_pos (by omega), show ((K : Int) + 1 - 1).toNat = K by omega, h]

set_option maxRecDepth 100000 in
set_option maxHeartbeats 16000000 in
theorem words17_walk (a0 : Int) (h0 : 0 ≤ a0 ∧ a0 ≤ 65535) {w : World} (hm0 : ∃ m, w.cell? ⟨0, 0, none⟩ = some (.int .i64 m)) :
    Calls Tryd.prog 7 #[.int .u16 a0] w fun e w' => e = .returned (.bool true) ∧ Below w.heap.size w w' := by
  have hm : ML w (fun _ => 0) := ⟨hm0, rfl⟩
  have hsh := shown17_ok hm
  obtain ⟨K, hK⟩ : ∃ K : Nat, a0.toNat % 180 = K := ⟨_, rfl⟩
  have hK180 : K < 180 := by omega
  have hKi : (K : Int) < 180 := by omega
  have hrem : a0.tmod 180 = (K : Int) := by rw [Int.tmod_eq_emod_of_nonneg h0.1]; omega
  have hrem2 : a0 % 180 = (K : Int) := by omega
  have hwk : wrap64 ((K : Int) + 1) = (K : Int) + 1 := by unfold wrap64; omega
  obtain ⟨b, hb⟩ : ∃ b, built[K]? = some b := ⟨_, List.getElem?_eq_getElem (by rw [built_length]; exact hK180)⟩
  have hon := only_word hb hK180
  obtain ⟨nmb, bk, bn, now, only⟩ := b
  dsimp only at hon
  have HB := Lib.hid hb
  clear hm0 hb hK
  go_enter Tryd.func7, Tryd.ntmps7
  go_wp2_with fail
  refine hsh.mono ?_
  rintro e w1 ⟨rfl, o1, S⟩
  replace hm := hm.frame S (by simp)
  have hal := rall_ok w1 o1 95
  clear hsh
  go_wp2_with fail
  refine hal.mono ?_
  rintro e w2 ⟨v2, o2, rfl, hx2, s2⟩
  obtain ⟨g, cap, rfl, hg⟩ := hx2.rowx (by decide)
  replace hm := hm.frame s2 (by simp)
  replace S := S.trans s2
  obtain ⟨y0, y1, y2, y3, y4⟩ := word_atb hg HB.out
  dsimp only at y0 y1 y2 y3 y4
  clear hal hx2 s2
  obtain ⟨w3, o3, hw3, s3, hX⟩ := boxed (w := w2) o2 40 24 (.int .i64 1) (.int .i64 ((K : Int) + 1)) (.bool now) (.int .i64 0) (.int .i64 0)
  replace hm := hm.frame s3 (by simp)
  replace hg := hg.frame s3 (by simp)
  replace S := S.trans s3
  obtain ⟨p, hp⟩ : ∃ p, w2.heap.size = p := ⟨_, rfl⟩
  rw [hp] at hX
  have HW := Lib.hid hw3
  have HP := Lib.hid hp
  clear hw3 hp s3
  cases now
  · cases only
    · have HON := Lib.hid hon
      clear hon
      have hc := plan_ok hm 41 1 ((K : Int) + 1) false 0 0 1
      rw [show planF 1 ((K : Int) + 1) false 0 0 1 = ([tExec ((K : Int) + 1)], 0) by unfold planF nameF; rw [HON.out]; rfl, HW.out] at hc
      go_wp2_with fail
      rw [HP.out]
      refine hc.mono ?_
      clear hc y0 y1 y2 y3 y4
      rintro e w4 ⟨v4, o4, rfl, r4, s4⟩
      rw [← HW.out] at s4
      obtain ⟨a4, c4, rfl⟩ := r4.slice'
      replace hm := hm.frame s4 (by simp)
      replace hg := hg.frame s4 (by simp)
      replace hX := hX.frame s4 (by simp)
      replace S := S.trans s4
      clear s4
      obtain ⟨⟨x0, x1, x2, x3, x4⟩, _⟩ := cells5 hX
      have hc := plan_ok hm 42 1 ((K : Int) + 1) false 0 0 2
      rw [show planF 1 ((K : Int) + 1) false 0 0 2 = ([tCall ((K : Int) + 1)], 0) from rfl] at hc
      go_wp2_with fail
      refine hc.mono ?_
      clear hc x0 x1 x2 x3 x4
      rintro e w5 ⟨v5, o5, rfl, r5, s5⟩
      obtain ⟨a5, c5, rfl⟩ := r5.slice'
      replace hm := hm.frame s5 (by simp)
      replace hg := hg.frame s5 (by simp)
      replace hX := hX.frame s5 (by simp)
      replace r4 := r4.frame s5 (by simp)
      replace S := S.trans s5
      clear s5
      obtain ⟨⟨x0, x1, x2, x3, x4⟩, _⟩ := cells5 hX
      have hc := plan_ok hm 43 1 ((K : Int) + 1) false 0 0 3
      rw [show planF 1 ((K : Int) + 1) false 0 0 3 = ([tLit ((K : Int) + 1), tCall xtComp], 0) from rfl] at hc
      go_wp2_with fail
      refine hc.mono ?_
      clear hc x0 x1 x2 x3 x4
      rintro e w6 ⟨v6, o6, rfl, r6, s6⟩
      obtain ⟨a6, c6, rfl⟩ := r6.slice'
      replace hg := hg.frame s6 (by simp)
      replace r4 := r4.frame s6 (by simp)
      replace r5 := r5.frame s6 (by simp)
      replace S := S.trans s6
      clear s6 hX hm
      obtain ⟨y0, y1, y2, y3, y4⟩ := word_atb hg HB.out
      dsimp only at y0 y1 y2 y3 y4
      obtain ⟨b4, f4, rfl, _, d0, d1, d2, d3, d4⟩ := r4.rd.todo (j := 0) rfl
      dsimp only [tExec] at d0 d1 d2 d3 d4
      simp only [Nat.zero_mul, Nat.add_zero] at d0 d1 d2 d3 d4
      obtain ⟨b5, f5, rfl, _, l0, l1, l2, l3, l4⟩ := r5.rd.todo (j := 0) rfl
      dsimp only [tExec, tCall] at l0 l1 l2 l3 l4
      simp only [Nat.zero_mul, Nat.add_zero] at l0 l1 l2 l3 l4
      obtain ⟨b6, f6, rfl, _, p0, p1, p2, p3, p4⟩ := r6.rd.todo (j := 0) rfl
      dsimp only [tLit, tCall] at p0 p1 p2 p3 p4
      simp only [Nat.zero_mul, Nat.add_zero] at p0 p1 p2 p3 p4
      clear r4 r5 r6 hg
      go_wp2_with fail
      go_ret
      exact ⟨rfl, ((Base.start w).step S (by decide)).below⟩
    · have HON := Lib.hid hon
      clear hon
      have hc := plan_ok hm 41 1 ((K : Int) + 1) false 0 0 1
      rw [show planF 1 ((K : Int) + 1) false 0 0 1 = ([], -14) by unfold planF nameF; rw [HON.out]; rfl, HW.out] at hc
      go_wp2_with fail
      rw [HP.out]
      refine hc.mono ?_
      clear hc y0 y1 y2 y3 y4
      rintro e w4 ⟨v4, o4, rfl, r4, s4⟩
      rw [← HW.out] at s4
      obtain ⟨a4, c4, rfl⟩ := r4.slice'
      replace hm := hm.frame s4 (by simp)
      replace hg := hg.frame s4 (by simp)
      replace hX := hX.frame s4 (by simp)
      replace S := S.trans s4
      clear s4
      obtain ⟨⟨x0, x1, x2, x3, x4⟩, _⟩ := cells5 hX
      have hc := plan_ok hm 42 1 ((K : Int) + 1) false 0 0 2
      rw [show planF 1 ((K : Int) + 1) false 0 0 2 = ([tCall ((K : Int) + 1)], 0) from rfl] at hc
      go_wp2_with fail
      refine hc.mono ?_
      clear hc x0 x1 x2 x3 x4
      rintro e w5 ⟨v5, o5, rfl, r5, s5⟩
      obtain ⟨a5, c5, rfl⟩ := r5.slice'
      replace hm := hm.frame s5 (by simp)
      replace hg := hg.frame s5 (by simp)
      replace hX := hX.frame s5 (by simp)
      replace r4 := r4.frame s5 (by simp)
      replace S := S.trans s5
      clear s5
      obtain ⟨⟨x0, x1, x2, x3, x4⟩, _⟩ := cells5 hX
      have hc := plan_ok hm 43 1 ((K : Int) + 1) false 0 0 3
      rw [show planF 1 ((K : Int) + 1) false 0 0 3 = ([tLit ((K : Int) + 1), tCall xtComp], 0) from rfl] at hc
      go_wp2_with fail
      refine hc.mono ?_
      clear hc x0 x1 x2 x3 x4
      rintro e w6 ⟨v6, o6, rfl, r6, s6⟩
      obtain ⟨a6, c6, rfl⟩ := r6.slice'
      replace hg := hg.frame s6 (by simp)
      replace r4 := r4.frame s6 (by simp)
      replace r5 := r5.frame s6 (by simp)
      replace S := S.trans s6
      clear s6 hX hm
      obtain ⟨y0, y1, y2, y3, y4⟩ := word_atb hg HB.out
      dsimp only at y0 y1 y2 y3 y4
      obtain ⟨b5, f5, rfl, _, l0, l1, l2, l3, l4⟩ := r5.rd.todo (j := 0) rfl
      dsimp only [tExec, tCall] at l0 l1 l2 l3 l4
      simp only [Nat.zero_mul, Nat.add_zero] at l0 l1 l2 l3 l4
      obtain ⟨b6, f6, rfl, _, p0, p1, p2, p3, p4⟩ := r6.rd.todo (j := 0) rfl
      dsimp only [tLit, tCall] at p0 p1 p2 p3 p4
      simp only [Nat.zero_mul, Nat.add_zero] at p0 p1 p2 p3 p4
      clear r4 r5 r6 hg
      go_wp2_with fail
      go_ret
      exact ⟨rfl, ((Base.start w).step S (by decide)).below⟩
  · cases only
    · have HON := Lib.hid hon
      clear hon
      have hc := plan_ok hm 41 1 ((K : Int) + 1) true 0 0 1
      rw [show planF 1 ((K : Int) + 1) true 0 0 1 = ([tExec ((K : Int) + 1)], 0) by unfold planF nameF; rw [HON.out]; rfl, HW.out] at hc
      go_wp2_with fail
      rw [HP.out]
      refine hc.mono ?_
      clear hc y0 y1 y2 y3 y4
      rintro e w4 ⟨v4, o4, rfl, r4, s4⟩
      rw [← HW.out] at s4
      obtain ⟨a4, c4, rfl⟩ := r4.slice'
      replace hm := hm.frame s4 (by simp)
      replace hg := hg.frame s4 (by simp)
      replace hX := hX.frame s4 (by simp)
      replace S := S.trans s4
      clear s4
      obtain ⟨⟨x0, x1, x2, x3, x4⟩, _⟩ := cells5 hX
      have hc := plan_ok hm 42 1 ((K : Int) + 1) true 0 0 2
      rw [show planF 1 ((K : Int) + 1) true 0 0 2 = ([tExec ((K : Int) + 1)], 0) from rfl] at hc
      go_wp2_with fail
      refine hc.mono ?_
      clear hc x0 x1 x2 x3 x4
      rintro e w5 ⟨v5, o5, rfl, r5, s5⟩
      obtain ⟨a5, c5, rfl⟩ := r5.slice'
      replace hm := hm.frame s5 (by simp)
      replace hg := hg.frame s5 (by simp)
      replace hX := hX.frame s5 (by simp)
      replace r4 := r4.frame s5 (by simp)
      replace S := S.trans s5
      clear s5
      obtain ⟨⟨x0, x1, x2, x3, x4⟩, _⟩ := cells5 hX
      have hc := plan_ok hm 43 1 ((K : Int) + 1) true 0 0 3
      rw [show planF 1 ((K : Int) + 1) true 0 0 3 = ([tCall ((K : Int) + 1)], 0) from rfl] at hc
      go_wp2_with fail
      refine hc.mono ?_
      clear hc x0 x1 x2 x3 x4
      rintro e w6 ⟨v6, o6, rfl, r6, s6⟩
      obtain ⟨a6, c6, rfl⟩ := r6.slice'
      replace hg := hg.frame s6 (by simp)
      replace r4 := r4.frame s6 (by simp)
      replace r5 := r5.frame s6 (by simp)
      replace S := S.trans s6
      clear s6 hX hm
      obtain ⟨y0, y1, y2, y3, y4⟩ := word_atb hg HB.out
      dsimp only at y0 y1 y2 y3 y4
      obtain ⟨b4, f4, rfl, _, d0, d1, d2, d3, d4⟩ := r4.rd.todo (j := 0) rfl
      dsimp only [tExec] at d0 d1 d2 d3 d4
      simp only [Nat.zero_mul, Nat.add_zero] at d0 d1 d2 d3 d4
      obtain ⟨b5, f5, rfl, _, l0, l1, l2, l3, l4⟩ := r5.rd.todo (j := 0) rfl
      dsimp only [tExec, tCall] at l0 l1 l2 l3 l4
      simp only [Nat.zero_mul, Nat.add_zero] at l0 l1 l2 l3 l4
      obtain ⟨b6, f6, rfl, _, p0, p1, p2, p3, p4⟩ := r6.rd.todo (j := 0) rfl
      dsimp only [tLit, tCall] at p0 p1 p2 p3 p4
      simp only [Nat.zero_mul, Nat.add_zero] at p0 p1 p2 p3 p4
      clear r4 r5 r6 hg
      go_wp2_with fail
      go_ret
      exact ⟨rfl, ((Base.start w).step S (by decide)).below⟩
    · have HON := Lib.hid hon
      clear hon
      have hc := plan_ok hm 41 1 ((K : Int) + 1) true 0 0 1
      rw [show planF 1 ((K : Int) + 1) true 0 0 1 = ([], -14) by unfold planF nameF; rw [HON.out]; rfl, HW.out] at hc
      go_wp2_with fail
      rw [HP.out]
      refine hc.mono ?_
      clear hc y0 y1 y2 y3 y4
      rintro e w4 ⟨v4, o4, rfl, r4, s4⟩
      rw [← HW.out] at s4
      obtain ⟨a4, c4, rfl⟩ := r4.slice'
      replace hm := hm.frame s4 (by simp)
      replace hg := hg.frame s4 (by simp)
      replace hX := hX.frame s4 (by simp)
      replace S := S.trans s4
      clear s4
      obtain ⟨⟨x0, x1, x2, x3, x4⟩, _⟩ := cells5 hX
      have hc := plan_ok hm 42 1 ((K : Int) + 1) true 0 0 2
      rw [show planF 1 ((K : Int) + 1) true 0 0 2 = ([tExec ((K : Int) + 1)], 0) from rfl] at hc
      go_wp2_with fail
      refine hc.mono ?_
      clear hc x0 x1 x2 x3 x4
      rintro e w5 ⟨v5, o5, rfl, r5, s5⟩
      obtain ⟨a5, c5, rfl⟩ := r5.slice'
      replace hm := hm.frame s5 (by simp)
      replace hg := hg.frame s5 (by simp)
      replace hX := hX.frame s5 (by simp)
      replace r4 := r4.frame s5 (by simp)
      replace S := S.trans s5
      clear s5
      obtain ⟨⟨x0, x1, x2, x3, x4⟩, _⟩ := cells5 hX
      have hc := plan_ok hm 43 1 ((K : Int) + 1) true 0 0 3
      rw [show planF 1 ((K : Int) + 1) true 0 0 3 = ([tCall ((K : Int) + 1)], 0) from rfl] at hc
      go_wp2_with fail
      refine hc.mono ?_
      clear hc x0 x1 x2 x3 x4
      rintro e w6 ⟨v6, o6, rfl, r6, s6⟩
      obtain ⟨a6, c6, rfl⟩ := r6.slice'
      replace hg := hg.frame s6 (by simp)
      replace r4 := r4.frame s6 (by simp)
      replace r5 := r5.frame s6 (by simp)
      replace S := S.trans s6
      clear s6 hX hm
      obtain ⟨y0, y1, y2, y3, y4⟩ := word_atb hg HB.out
      dsimp only at y0 y1 y2 y3 y4
      obtain ⟨b5, f5, rfl, _, l0, l1, l2, l3, l4⟩ := r5.rd.todo (j := 0) rfl
      dsimp only [tExec, tCall] at l0 l1 l2 l3 l4
      simp only [Nat.zero_mul, Nat.add_zero] at l0 l1 l2 l3 l4
      obtain ⟨b6, f6, rfl, _, p0, p1, p2, p3, p4⟩ := r6.rd.todo (j := 0) rfl
      dsimp only [tLit, tCall] at p0 p1 p2 p3 p4
      simp only [Nat.zero_mul, Nat.add_zero] at p0 p1 p2 p3 p4
      clear r4 r5 r6 hg
      go_wp2_with fail
      go_ret
      exact ⟨rfl, ((Base.start w).step S (by decide)).below⟩
end Go.Proofs.YtnfbldkejbgbiaaDoor
