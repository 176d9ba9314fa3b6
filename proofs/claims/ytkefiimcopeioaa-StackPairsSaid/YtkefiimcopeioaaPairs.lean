/- StackPairs: the closure. -/
import Derived.Test.YtkefiimcopeioaaShown
import Derived.Test.YtkefiimcopeioaaPairsLaw
namespace Go.Proofs.Ytkefiimcopeioaa
open Go Go.RowKit
set_option linter.unusedSimpArgs false
set_option linter.unusedVariables false

theorem fitsL {l y : List Int} (h : l.length + y.length ≤ 128) : putL l y = l ++ y := by rw [putL, if_pos h]
theorem fitsE {l y : List Int} (h : l.length + y.length ≤ 128) : putE l y = 0 := by rw [putE, if_pos h]

set_option maxHeartbeats 2000000 in
theorem pair_ok {w : World} {bx : Nat} {x ops : List Int} {vx vo : Value} (hbx : Blk w (fun _ => 0) 0 bx 22 #[vx]) (hx : Rd w (fun _ => 0) 0 1 vx x.length (ints x)) (hops : Rd w (fun _ => 0) 0 1 vo ops.length (ints ops))
    (hxl : x.length ≤ 60) (hw : ∀ u ∈ x, I64 u) (hok : ∀ u ∈ ops, -100 ≤ u ∧ u ≤ 100) (c : Int) (hp : PairOf x c ops) :
    Calls Try.prog 19 #[.int .i64 c, vo, .pointer (some ⟨bx, 0, none⟩)] w fun e w' => e = .returned (.bool true) ∧ Step [] w (fun _ => 0) w' (fun _ => 0) := by
  have hol := hops.le
  unfold maxLen at hol
  obtain ⟨ao, cap, rfl, _, _, _, _⟩ := id hops
  obtain ⟨m, hp1, hp2⟩ := hp
  have HR := Lib.hid hp2
  have HOK := Lib.hid hok
  have HW := Lib.hid hw
  clear hp2 hok hw
  go_enter Try.func19, Try.ntmps19
  go_wp2_with fail
  refine (new_ok w (fun _ => 0) 10).mono ?_
  rintro e w1 ⟨a, o1, rfl, hs, s1⟩
  go_wp2_with fail
  refine (new_ok w1 o1 20).mono ?_
  rintro e w2 ⟨b, o2, rfl, ht, s2⟩
  replace hs := hs.frame s2 (by decide) (by decide)
  have st : Step [10, 11, 20, 21] w (fun _ => 0) w2 o2 := (s1.trans s2).nil
  clear s1 s2
  have hcx := (hbx.frame st (by decide)).cell0
  go_wp2_with fail
  refine (put_ok hs (hx.frame st (by decide))).mono ?_
  rintro e w3 ⟨o3, rfl, hs, s1⟩
  rw [fitsL (by simp; omega), List.nil_append] at hs
  replace ht := ht.frame s1 (by decide) (by decide)
  replace st := st.trans (s1.weaken (by decide))
  clear s1
  replace hcx := (hbx.frame st (by decide)).cell0
  go_wp2_with fail
  refine (put_ok ht (hx.frame st (by decide))).mono ?_
  rintro e w4 ⟨o4, rfl, ht, s1⟩
  rw [fitsL (by simp; omega), List.nil_append] at ht
  replace hs := hs.frame s1 (by decide) (by decide)
  replace st := st.trans (s1.weaken (by decide))
  clear s1 hcx
  have hd := do_ok hs (by decide) HW.out c
  rw [hp1] at hd
  go_wp2_with fail
  refine hd.mono ?_
  rintro e w5 ⟨o5, rfl, hs, s1⟩
  replace ht := ht.frame s1 (by decide) (by decide)
  replace st := st.trans (s1.weaken (by decide))
  clear s1 hd hp1
  go_wp2_with fail
  go_loopg [24] ops.length (fun g v wr => ∃ (p : Nat) (o' : Owner) (lp : List Int), g = ops.length - p ∧ p ≤ ops.length ∧ v = .int .i64 p ∧ Hid (runP lp (ops.drop p) = some m) ∧ Hid (∀ u ∈ lp, I64 u) ∧ Stk 55 wr o' 20 b lp ∧ Stk 55 wr o' 10 a m ∧ Step [10, 11, 20, 21] w (fun _ => 0) wr o')
  case atStart => exact ⟨0, o5, x, rfl, Nat.zero_le _, rfl, HR, HW, ht, hs, st⟩
  case round =>
    obtain ⟨p, o6, lp, hg2, hpl, rfl, hr2, hw2, ht2, hs2, st2⟩ := hrel
    have HG2 := Lib.hid hg2
    clear hg2 hs ht st HR
    by_cases hlt2 : p < ops.length
    · obtain ⟨bo, off, rfl, hco⟩ := (hops.frame st2 (by decide)).cellInt (by omega)
      have ho := hco p hlt2
      have hpi : (p : Int) < ops.length := by omega
      have hstep := hr2.out
      have hmem := HOK.out _ (List.getElem_mem hlt2)
      rw [List.drop_eq_getElem_cons hlt2] at hstep
      generalize ops[p] = op at ho hstep hmem
      obtain ⟨m1, m2⟩ := hmem
      by_cases hneg : op < 0
      · obtain ⟨h0, h1⟩ := runP_neg hneg hstep
        have hd := push_ok ht2 (-op - 1)
        rw [fitsL (by simp; omega), fitsE (by simp; omega)] at hd
        have hw3 : Hid (∀ u ∈ lp ++ [-op - 1], I64 u) := Lib.hid (by
          intro u hu
          rcases List.mem_append.1 hu with hu | hu
          · exact hw2.out u hu
          · rw [List.mem_singleton] at hu; subst hu; constructor <;> omega)
        have H1 := Lib.hid h1
        clear h1 h0 hstep hr2 hw2 ht2 hco
        go_wp2_with fail
        refine hd.mono ?_
        rintro e w6 ⟨o7, rfl, ht3, st3⟩
        replace hs2 := hs2.frame st3 (by decide) (by decide)
        replace st2 := st2.trans (st3.weaken (by decide))
        clear st3 hd
        go_wp2_with fail
        go_roundg (ops.length - (p + 1))
        case measure => rw [HG2.out]; omega
        case rel => exact ⟨p + 1, o7, _, rfl, by omega, by go_num, H1, hw3, ht3, hs2, st2⟩
      · obtain ⟨h0, h1⟩ := runP_pos hneg hstep
        have hd := do_ok ht2 (by decide) hw2.out op
        rw [h0] at hd
        have hw3 := Lib.hid (doS_wf lp ht2.1 hw2.out op)
        have H1 := Lib.hid h1
        clear h1 h0 hstep hr2 hw2 ht2 hco
        go_wp2_with fail
        refine hd.mono ?_
        rintro e w6 ⟨o7, rfl, ht3, st3⟩
        replace hs2 := hs2.frame st3 (by decide) (by decide)
        replace st2 := st2.trans (st3.weaken (by decide))
        clear st3 hd
        go_wp2_with fail
        go_roundg (ops.length - (p + 1))
        case measure => rw [HG2.out]; omega
        case rel => exact ⟨p + 1, o7, _, rfl, by omega, by go_num, H1, hw3, ht3, hs2, st2⟩
    · obtain rfl : lp = m := by
        have := hr2.out
        rw [List.drop_eq_nil_of_le (by omega)] at this
        simpa [runP] using this
      clear hr2 hw2 HG2
      have hpi : ¬ ((p : Int) < ops.length) := by omega
      go_wp2_with (first | (go_at_call_of 14 a; refine (all_ok hs2 0).mono ?_; rintro e w4 ⟨u, o8, rfl, hu, st4⟩; replace ht2 := ht2.frame st4 (by decide) (by decide); replace st2 := st2.trans st4.nil) | (go_at_call_of 14 b; refine (all_ok ht2 0).mono ?_; rintro e w5 ⟨v, o9, rfl, hv, st5⟩; replace hu := hu.frame st5 (by decide); replace st2 := st2.trans st5.nil) | (go_at_call 15; refine (same_ok hu.rd hv.rd).mono ?_; rintro e w6 ⟨rfl, n2, rfl⟩; rw [show sameB lp lp = true by simp [sameB]]))
      go_ret
      exact ⟨rfl, (st2.drewN n2).rebase (by decide) _⟩

theorem pair_lit {w : World} {bx : Nat} {x : List Int} {vx : Value} (hbx : Blk w (fun _ => 0) 0 bx 22 #[vx]) (hx : Rd w (fun _ => 0) 0 1 vx x.length (ints x)) (hxl : x.length ≤ 60) (hw : ∀ u ∈ x, I64 u)
    (ops : List Int) (hl : ops.length ≤ 1000) (hok : ∀ u ∈ ops, -100 ≤ u ∧ u ≤ 100) (c : Int) (hp : PairOf x c ops) {B : Nat} (hBe : B = w.heap.size) :
    Calls Try.prog 19 #[.int .i64 c, .slice (some ⟨B, 0, none⟩) ops.length ops.length, .pointer (some ⟨bx, 0, none⟩)] (w.alloc (.cells (ints ops).toArray 3)) fun e w' => e = .returned (.bool true) ∧ Step [] w (fun _ => 0) w' (fun _ => 0) := by
  subst hBe
  have st : Step [] w (fun _ => 0) (w.alloc (.cells (ints ops).toArray 3)) (Owner.set (fun _ => 0) w.heap.size 0) := ((Step.refl _ _ _).alloc _).give (Nat.le_refl _) _
  have hr := Rd.fresh w (Owner.set (fun _ => 0) w.heap.size 0) 1 3 (ints ops).toArray ops.length (by simp [maxLen]; omega) (by simp)
  have e0 : Owner.set (fun _ => 0) w.heap.size 0 = (fun _ => 0) := by funext b; simp [Owner.set]
  rw [Owner.set_self, e0] at hr
  rw [e0] at st
  refine (pair_ok (hbx.frame st (by decide)) (hx.frame st (by decide)) hr hxl hw hok c hp).mono ?_
  rintro e w' ⟨rfl, h2⟩
  exact ⟨rfl, st.trans h2⟩
end Go.Proofs.Ytkefiimcopeioaa
