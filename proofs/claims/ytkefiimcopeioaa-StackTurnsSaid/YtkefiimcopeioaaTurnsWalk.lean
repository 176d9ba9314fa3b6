/- StackTurns: the walk. -/
import Derived.Test.YtkefiimcopeioaaTurnsLaw
namespace Go.Proofs.Ytkefiimcopeioaa
open Go Go.RowKit
set_option linter.unusedSimpArgs false
set_option linter.unusedVariables false

theorem putL_fits {l y : List Int} (h : l.length + y.length ≤ 128) : putL l y = l ++ y := by rw [putL, if_pos h]
theorem putE_fits {l y : List Int} (h : l.length + y.length ≤ 128) : putE l y = 0 := by rw [putE, if_pos h]

set_option maxHeartbeats 8000000 in
theorem turns_walk {w : World} {v0 : Value} {z0 : List Int} (h0 : Rd w (fun _ => 0) 0 1 v0 z0.length (ints z0)) (hz0 : ∀ x ∈ z0, I64 x) :
    Calls Try.prog 4 #[v0] w fun e w' => e = .returned (.bool true) ∧ Below w.heap.size w w' := by
  have hB := Base.start w
  obtain ⟨a0, c0, rfl, p1, p2, _, _⟩ := id h0
  unfold maxLen at p2
  obtain ⟨x, hxz, hN, hN1, hN2, hN3, h0⟩ := h0.few 60 (M := 60) rfl
  have hxw : ∀ u ∈ x, I64 u := fun u hu => hz0 _ (List.mem_of_mem_take (hxz ▸ hu))
  have XW := Lib.hid hxw
  clear hxz hxw hz0
  go_enter Try.func4, Try.ntmps4
  go_wp2_with fail
  refine (shown_ok w (fun _ => 0)).mono ?_
  rintro e w1 ⟨rfl, s1⟩
  replace hB := hB.step s1 (by decide)
  replace h0 := h0.frame s1 (by decide)
  clear s1
  go_wp2_with fail
  have hbx := Blk.new w1 (fun _ => 0) 0 22 #[.slice a0 x.length c0]
  have s1 : Step [] w1 (fun _ => 0) (w1.alloc (.cells #[.slice a0 x.length c0] 22)) (Owner.set (fun _ => 0) w1.heap.size 0) := ((Step.refl _ _ _).alloc _).give (Nat.le_refl _) _
  replace hB := hB.step s1 (by decide)
  replace h0 := h0.frame s1 (by decide)
  clear s1
  refine (new_ok _ (Owner.set (fun _ => 0) w1.heap.size 0) 10).mono ?_
  rintro e w2 ⟨b, o2, rfl, hs, s1⟩
  have s2 : Step [] w2 o2 (w2.alloc (.cells #[.pointer (some ⟨b, 0, none⟩)] 24)) (o2.set w2.heap.size 0) := ((Step.refl _ _ _).alloc _).give (Nat.le_refl _) _
  replace hB := hB.step (s1.trans s2) (by decide)
  replace h0 := h0.frame (s1.trans s2) (by decide)
  replace hbx := hbx.frame (s1.trans s2) (by decide)
  have hsz := s1.size
  simp only [World.size_alloc] at hsz
  replace hs := hs.frame s2 (by decide) (by decide)
  have hbs := Blk.new w2 o2 0 24 #[.pointer (some ⟨b, 0, none⟩)]
  have hcs := hbs.cell0
  have hcx := hbx.cell0
  clear s1 s2
  go_wp2_with fail
  refine (put_ok hs h0).mono ?_
  rintro e w3 ⟨o3, rfl, hs, s1⟩
  rw [putL_fits (by simp; omega), List.nil_append] at hs
  rw [putE_fits (by simp; omega)]
  replace hB := hB.step s1 (by decide)
  replace h0 := h0.frame s1 (by decide)
  replace hbs := hbs.frame s1 (by decide)
  replace hbx := hbx.frame s1 (by decide)
  replace hcs := hbs.cell0
  replace hcx := hbx.cell0
  clear s1
  by_cases h4 : x.length < 4
  · have hd := do_ok hs (by decide) XW.out 38
    rw [T_small x h4] at hd
    go_wp2_with fail
    refine hd.mono ?_
    rintro e w4 ⟨o4, rfl, hs, s1⟩
    replace hB := hB.step s1 (by decide)
    replace h0 := h0.frame s1 (by decide)
    replace hbs := hbs.frame s1 (by decide)
    replace hbx := hbx.frame s1 (by decide)
    clear s1 hd
    go_wp2_with fail
    refine (again_ok (ops := []) hbs hbx hs h0 (Rd.nil _ _ _ _ _ _ (by simp [maxLen])) XW.out 0 (by omega) rfl).mono ?_
    rintro e w5 ⟨o5, rfl, hs, s1⟩
    rw [show sameB x x = true by simp [sameB]]
    replace hB := hB.step s1 (by decide)
    go_wp2_with fail
    go_ret
    exact ⟨rfl, hB.below⟩
  · replace h4 : 4 ≤ x.length := by omega
    go_wp2_with fail
    go_loopg [39] x.length (fun g v wr => ∃ (i : Nat) (o' : Owner), g = x.length - i ∧ i ≤ x.length ∧ v = .int .i64 i ∧ Stk 55 wr o' 10 b (x.drop i ++ x.take i) ∧ Step [10, 11] w3 o3 wr o')
    case atStart => exact ⟨0, o3, rfl, Nat.zero_le _, rfl, by simpa using hs, Step.refl _ _ _⟩
    case round =>
      obtain ⟨i, o4, hg, hi, rfl, hs4, s4⟩ := hrel
      have HG := Lib.hid hg
      clear hg hs
      replace hB := hB.step s4 (by decide)
      replace h0 := h0.frame s4 (by decide)
      replace hbs := hbs.frame s4 (by decide)
      replace hbx := hbx.frame s4 (by decide)
      replace hcs := hbs.cell0
      replace hcx := hbx.cell0
      by_cases hlt : i < x.length
      · have hii : (i : Int) < x.length := by omega
        have hlen : (x.drop i ++ x.take i).length = x.length := by simp; omega
        have hroll := turns_roll x i hlt
        have hmem : ∀ u ∈ (x.drop i ++ x.take i) ++ [(x.length : Int) - 1], I64 u := by
          intro u hu
          simp only [List.mem_append, List.mem_singleton] at hu
          rcases hu with (hu | hu) | rfl
          · exact XW.out u (List.mem_of_mem_drop hu)
          · exact XW.out u (List.mem_of_mem_take hu)
          · constructor <;> omega
        have hp := push_ok hs4 ((x.length : Int) - 1)
        rw [putE_fits (by rw [hlen]; simp; omega), putL_fits (by rw [hlen]; simp; omega)] at hp
        clear hs4
        go_wp2_with fail
        refine hp.mono ?_
        rintro e w5 ⟨o5, rfl, hs5, s5⟩
        have hd := do_ok hs5 (by decide) hmem 41
        rw [hroll] at hd
        replace hcs := (hbs.frame s5 (by decide)).cell0
        clear hp hmem hroll hlen hs5
        go_wp2_with fail
        refine hd.mono ?_
        rintro e w6 ⟨o6, rfl, hs6, s6⟩
        clear hd
        go_wp2_with fail
        go_roundg (x.length - (i + 1))
        case measure => rw [HG.out]; omega
        case rel => exact ⟨i + 1, o6, rfl, by omega, by go_num, hs6, (s4.trans s5).trans s6⟩
      · have hs : Stk 55 wr o4 10 b x := by
          have e : x.drop i ++ x.take i = x := by rw [List.drop_eq_nil_of_le (by omega), List.take_of_length_le (by omega)]; rfl
          rwa [e] at hs4
        clear hs4 s4
        go_wp2_with fail
        refine (again_lit hbs hbx hs h0 XW.out [30] (by decide) 2 rfl (by omega) (T_swap x h4 hN2)).mono ?_
        rintro e v0 ⟨p0, rfl, hs, s1⟩
        rw [show sameB x x = true by simp [sameB]]
        replace hB := hB.step s1 (by decide)
        replace h0 := h0.frame s1 (by decide)
        replace hbs := hbs.frame s1 (by decide)
        replace hbx := hbx.frame s1 (by decide)
        replace hcs := hbs.cell0
        replace hcx := hbx.cell0
        clear s1
        go_wp2_with fail
        refine (again_lit hbs hbx hs h0 XW.out [32] (by decide) 3 rfl (by omega) (T_rot x h4 hN2)).mono ?_
        rintro e v1 ⟨p1, rfl, hs, s1⟩
        rw [show sameB x x = true by simp [sameB]]
        replace hB := hB.step s1 (by decide)
        replace h0 := h0.frame s1 (by decide)
        replace hbs := hbs.frame s1 (by decide)
        replace hbx := hbx.frame s1 (by decide)
        replace hcs := hbs.cell0
        replace hcx := hbx.cell0
        clear s1
        go_wp2_with fail
        refine (again_lit hbs hbx hs h0 XW.out [38] (by decide) 2 rfl (by omega) (T_swap2 x h4 hN2)).mono ?_
        rintro e v2 ⟨p2, rfl, hs, s1⟩
        rw [show sameB x x = true by simp [sameB]]
        replace hB := hB.step s1 (by decide)
        replace h0 := h0.frame s1 (by decide)
        replace hbs := hbs.frame s1 (by decide)
        replace hbx := hbx.frame s1 (by decide)
        replace hcs := hbs.cell0
        replace hcx := hbx.cell0
        clear s1
        go_wp2_with fail
        refine (again_lit hbs hbx hs h0 XW.out [28, 29] (by decide) 1 rfl (by omega) (T_dup x h4 hN2)).mono ?_
        rintro e v3 ⟨p3, rfl, hs, s1⟩
        rw [show sameB x x = true by simp [sameB]]
        replace hB := hB.step s1 (by decide)
        replace h0 := h0.frame s1 (by decide)
        replace hbs := hbs.frame s1 (by decide)
        replace hbx := hbx.frame s1 (by decide)
        replace hcs := hbs.cell0
        replace hcx := hbx.cell0
        clear s1
        go_wp2_with fail
        refine (again_lit hbs hbx hs h0 XW.out [31, 29] (by decide) 1 rfl (by omega) (T_over x h4 hN2)).mono ?_
        rintro e v4 ⟨p4, rfl, hs, s1⟩
        rw [show sameB x x = true by simp [sameB]]
        replace hB := hB.step s1 (by decide)
        replace h0 := h0.frame s1 (by decide)
        replace hbs := hbs.frame s1 (by decide)
        replace hbx := hbx.frame s1 (by decide)
        replace hcs := hbs.cell0
        replace hcx := hbx.cell0
        clear s1
        go_wp2_with fail
        refine (again_lit hbs hbx hs h0 XW.out [36, 37] (by decide) 1 rfl (by omega) (T_dup2 x h4 hN2)).mono ?_
        rintro e v5 ⟨p5, rfl, hs, s1⟩
        rw [show sameB x x = true by simp [sameB]]
        replace hB := hB.step s1 (by decide)
        replace h0 := h0.frame s1 (by decide)
        replace hbs := hbs.frame s1 (by decide)
        replace hbx := hbx.frame s1 (by decide)
        replace hcs := hbs.cell0
        replace hcx := hbx.cell0
        clear s1
        go_wp2_with fail
        refine (again_lit hbs hbx hs h0 XW.out [39, 37] (by decide) 1 rfl (by omega) (T_over2 x h4 hN2)).mono ?_
        rintro e v6 ⟨p6, rfl, hs, s1⟩
        rw [show sameB x x = true by simp [sameB]]
        replace hB := hB.step s1 (by decide)
        replace h0 := h0.frame s1 (by decide)
        replace hbs := hbs.frame s1 (by decide)
        replace hbx := hbx.frame s1 (by decide)
        replace hcs := hbs.cell0
        replace hcx := hbx.cell0
        clear s1
        go_wp2_with fail
        refine (again_lit hbs hbx hs h0 XW.out [34, 29, 30] (by decide) 1 rfl (by omega) (T_tuck x h4 hN2)).mono ?_
        rintro e v7 ⟨p7, rfl, hs, s1⟩
        rw [show sameB x x = true by simp [sameB]]
        replace hB := hB.step s1 (by decide)
        replace h0 := h0.frame s1 (by decide)
        replace hbs := hbs.frame s1 (by decide)
        replace hbx := hbx.frame s1 (by decide)
        replace hcs := hbs.cell0
        replace hcx := hbx.cell0
        clear s1
        go_wp2_with fail
        refine (again_lit hbs hbx hs h0 XW.out [28, 33] (by decide) 1 rfl (by omega) (T_nip x h4 hN2)).mono ?_
        rintro e v8 ⟨p8, rfl, hs, s1⟩
        rw [show sameB x x = true by simp [sameB]]
        replace hB := hB.step s1 (by decide)
        replace h0 := h0.frame s1 (by decide)
        replace hbs := hbs.frame s1 (by decide)
        replace hbx := hbx.frame s1 (by decide)
        replace hcs := hbs.cell0
        replace hcx := hbx.cell0
        clear s1
        go_wp2_with fail
        refine (again_lit hbs hbx hs h0 XW.out [42, 29] (by decide) 1 rfl (by omega) (T_depth x h4 hN2)).mono ?_
        rintro e v9 ⟨p9, rfl, hs, s1⟩
        rw [show sameB x x = true by simp [sameB]]
        replace hB := hB.step s1 (by decide)
        replace h0 := h0.frame s1 (by decide)
        replace hbs := hbs.frame s1 (by decide)
        replace hbx := hbx.frame s1 (by decide)
        replace hcs := hbs.cell0
        replace hcx := hbx.cell0
        clear s1
        go_wp2_with fail
        go_ret
        exact ⟨rfl, hB.below⟩
end Go.Proofs.Ytkefiimcopeioaa
