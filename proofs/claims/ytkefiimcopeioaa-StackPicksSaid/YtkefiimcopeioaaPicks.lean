/- StackPicks: the walk. -/
import Derived.Test.YtkefiimcopeioaaShown
import Derived.Test.YtkefiimcopeioaaDoLaws
import Derived.Deep.RegionHeld3
import Derived.KernelRfl
namespace Go.Proofs.Ytkefiimcopeioaa
open Go Go.RowKit
set_option linter.unusedSimpArgs false
set_option linter.unusedVariables false

theorem putL_fits' {l y : List Int} (h : l.length + y.length ≤ 128) : putL l y = l ++ y := by rw [putL, if_pos h]
theorem putE_fits' {l y : List Int} (h : l.length + y.length ≤ 128) : putE l y = 0 := by rw [putE, if_pos h]

theorem S_out (x : List Int) (k op : Int) (hop : op = 40 ∨ op = 41) (h : x.length ≤ k) : doS (x ++ [k]) op = (-4, x ++ [k]) := by
  rw [doS, if_pos hop, farS_cc, farM, if_pos (.inr h)]

theorem all_st {w0 w : World} {o0 o : Owner} {i b : Nat} {l : List Int} (hs : Stk 55 w0 o0 i b l) (hi : i ≠ 0) (st : Step [] w0 o0 w o) (j : Nat) :
    Calls Try.prog 14 #[.pointer (some ⟨b, 0, none⟩)] w fun e w' => ∃ v o', e = .returned v ∧ Row w' o' j 35 1 v l.length (ints l) ∧ Step [] w o w' o' ∧ Step [] w0 o0 w' o' := by
  refine (all_ok (hs.frame st (by simp) (by simp)) j).mono ?_
  rintro e w' ⟨v, o', rfl, h1, h2⟩
  exact ⟨v, o', rfl, h1, h2, st.trans h2⟩

theorem ints_snoc (l : List Int) (y : Int) : ints l ++ [.int .i64 y] = ints (l ++ [y]) := by simp [ints]

theorem want_a {w : World} {o : Owner} {i : Nat} {v : Value} {l m : List Int} {y : Int} (h : Row w o i 35 1 v (l.length + (m.length + 1) + 1) (ints (l ++ y :: m) ++ [.int .i64 y])) :
    Rd w o i 1 v (l ++ y :: (m ++ [y])).length (ints (l ++ y :: (m ++ [y]))) := by
  have h1 := h.rd
  have e1 : l.length + (m.length + 1) + 1 = (l ++ y :: (m ++ [y])).length := by simp; omega
  have e2 : ints (l ++ y :: m) ++ [.int .i64 y] = ints (l ++ y :: (m ++ [y])) := by simp [ints]
  rw [e1, e2] at h1
  exact h1

theorem want_b {w : World} {o : Owner} {i : Nat} {v : Value} {l m : List Int} {y : Int} (h : Row w o i 35 1 v (l.length + m.length + 1) (ints l ++ ints m ++ [.int .i64 y])) :
    Rd w o i 1 v (l ++ (m ++ [y])).length (ints (l ++ (m ++ [y]))) := by
  have h1 := h.rd
  have e1 : l.length + m.length + 1 = (l ++ (m ++ [y])).length := by simp; omega
  have e2 : ints l ++ ints m ++ [.int .i64 y] = ints (l ++ (m ++ [y])) := by simp [ints]
  rw [e1, e2] at h1
  exact h1

theorem same_self {w : World} {o1 o2 : Owner} {i1 i2 : Nat} {v1 v2 : Value} {x : List Int} (h1 : Rd w o1 i1 1 v1 x.length (ints x)) (h2 : Rd w o2 i2 1 v2 x.length (ints x)) :
    Calls Try.prog 15 #[v1, v2] w fun e w' => e = .returned (.bool true) ∧ ∃ n, w' = w.drewN n := by
  have := same_ok h1 h2
  rw [show sameB x x = true by rw [sameB]; simp] at this
  exact this

theorem Rd.fresh1 {X : World} {o : Owner} {y : Int} {n : Nat} (hn : n = X.heap.size) : Rd (X.alloc (.cells #[.int .i64 y] 35)) o (o n) 1 (.slice (some ⟨n, 0, none⟩) 1 1) 1 (ints [y]) := by
  subst hn
  exact Rd.fresh _ _ 1 35 #[.int .i64 y] 1 (by simp [maxLen]) (by simp)

theorem Rd.mid {w : World} {o : Owner} {b off c n : Nat} {l m : List Int} {y : Int} (h : Rd w o 0 1 (.slice (some ⟨b, off, none⟩) n c) n (ints (l ++ y :: m))) : w.cell? ⟨b, off + l.length, none⟩ = some (.int .i64 y) := by
  have hl := h.len
  simp at hl
  obtain ⟨b1, off1, h1, h2⟩ := Rd.cellInt h (by omega)
  simp only [Option.some.injEq, Addr.mk.injEq, and_true] at h1
  obtain ⟨rfl, rfl⟩ := h1
  have := h2 l.length (by simp)
  rw [this]
  simp

set_option maxHeartbeats 40000000 in
theorem picks_walk {w : World} {v0 : Value} {z0 : List Int} {at_ : Int} (h0 : Rd w (fun _ => 0) 0 1 v0 z0.length (ints z0)) (hz0 : ∀ x ∈ z0, I64 x) (hat : 0 ≤ at_ ∧ at_ ≤ 255) :
    Calls Try.prog 5 #[v0, .int .u8 at_] w fun e w' => e = .returned (.bool true) ∧ Below w.heap.size w w' := by
  have hB := Base.start w
  obtain ⟨a0, c0, rfl, p1, p2, _, _⟩ := id h0
  unfold maxLen at p2
  obtain ⟨x, hxz, hN, hN1, hN2, hN3, h0⟩ := h0.few 60 (M := 60) rfl
  have hxw : ∀ u ∈ x, I64 u := fun u hu => hz0 _ (List.mem_of_mem_take (hxz ▸ hu))
  have hxw2 : ∀ u ∈ x ++ [at_], I64 u := by
    intro u hu
    rcases List.mem_append.1 hu with hu | hu
    · exact hxw u hu
    · rw [List.mem_singleton] at hu; subst hu; constructor <;> omega
  have XW := Lib.hid hxw2
  clear hxz hxw hz0 hxw2
  obtain ⟨ha0, ha1⟩ := hat
  go_enter Try.func5, Try.ntmps5
  go_wp2_with fail
  refine (shown_ok w (fun _ => 0)).mono ?_
  rintro e w1 ⟨rfl, s1⟩
  replace hB := hB.step s1 (by decide)
  replace h0 := h0.frame s1 (by decide)
  clear s1
  go_wp2_with fail
  refine (new_ok w1 (fun _ => 0) 10).mono ?_
  rintro e w2 ⟨s, o2, rfl, hs, s1⟩
  replace hB := hB.step s1 (by decide)
  replace h0 := h0.frame s1 (by decide)
  clear s1
  go_wp2_with fail
  refine (new_ok w2 o2 20).mono ?_
  rintro e w3 ⟨t, o3, rfl, ht, s1⟩
  replace hB := hB.step s1 (by decide)
  replace h0 := h0.frame s1 (by decide)
  replace hs := hs.frame s1 (by decide) (by decide)
  clear s1
  go_wp2_with fail
  refine (put_ok hs h0).mono ?_
  rintro e w4 ⟨o4, rfl, hs, s1⟩
  rw [putL_fits' (by simp; omega), List.nil_append] at hs
  rw [putE_fits' (by simp; omega)]
  replace hB := hB.step s1 (by decide)
  replace h0 := h0.frame s1 (by decide)
  replace ht := ht.frame s1 (by decide) (by decide)
  clear s1
  go_wp2_with fail
  refine (put_ok ht h0).mono ?_
  rintro e w5 ⟨o5, rfl, ht, s1⟩
  rw [putL_fits' (by simp; omega), List.nil_append] at ht
  rw [putE_fits' (by simp; omega)]
  replace hB := hB.step s1 (by decide)
  replace h0 := h0.frame s1 (by decide)
  replace hs := hs.frame s1 (by decide) (by decide)
  clear s1
  go_wp2_with fail
  refine (push_ok hs at_).mono ?_
  rintro e w6 ⟨o6, rfl, hs, s1⟩
  rw [putL_fits' (by simp; omega)] at hs
  rw [putE_fits' (by simp; omega)]
  replace hB := hB.step s1 (by decide)
  replace h0 := h0.frame s1 (by decide)
  replace ht := ht.frame s1 (by decide) (by decide)
  clear s1
  go_wp2_with fail
  refine (push_ok ht at_).mono ?_
  rintro e w7 ⟨o7, rfl, ht, s1⟩
  rw [putL_fits' (by simp; omega)] at ht
  rw [putE_fits' (by simp; omega)]
  replace hB := hB.step s1 (by decide)
  replace h0 := h0.frame s1 (by decide)
  replace hs := hs.frame s1 (by decide) (by decide)
  clear s1
  have hd1 := do_ok hs (by decide) XW.out 40
  have hd2 : ∀ {w : World} {o : Owner}, Stk 55 w o 20 t (x ++ [at_]) → _ := fun {w o} h => do_ok h (by decide) XW.out 41
  by_cases hge : x.length ≤ at_
  · rw [S_out x at_ 40 (.inl rfl) hge] at hd1
    have hd3 : ∀ {w : World} {o : Owner}, Stk 55 w o 20 t (x ++ [at_]) → _ := fun {w o} h => by
      have := hd2 h
      rw [S_out x at_ 41 (.inr rfl) hge] at this
      exact this
    clear hd2
    go_wp2_with fail
    refine hd1.mono ?_
    rintro e w8 ⟨o8, rfl, hs, s1⟩
    replace hB := hB.step s1 (by decide)
    replace ht := ht.frame s1 (by decide) (by decide)
    have hd4 := hd3 ht
    clear s1 hd1 hd3
    go_wp2_with fail
    refine hd4.mono ?_
    rintro e w9 ⟨o9, rfl, ht, s1⟩
    replace hB := hB.step s1 (by decide)
    replace hs := hs.frame s1 (by decide) (by decide)
    clear s1 hd4 ht h0
    go_wp2_with (go_at_call 18; refine (depth_ok hs).mono ?_; rintro e w10 ⟨rfl, rfl⟩)
    go_ret
    exact ⟨by simp, hB.below⟩
  · obtain ⟨n, rfl⟩ := Int.eq_ofNat_of_zero_le ha0
    obtain ⟨l, y, m, rfl, rfl, hl⟩ := split_at x n (by omega)
    have ex : (l ++ y :: m) ++ [(m.length : Int)] = l ++ y :: (m ++ [(m.length : Int)]) := by simp
    rw [ex] at hs ht hd1
    have hd3 : ∀ {w : World} {o : Owner}, Stk 55 w o 20 t (l ++ y :: (m ++ [(m.length : Int)])) → _ := fun {w o} h => by
      have := hd2 (by rw [ex]; exact h)
      rw [ex, S_roll] at this
      exact this
    rw [S_pick] at hd1
    clear hd2 hl ex
    simp only [List.length_append, List.length_cons] at hge hN2
    have hge' : (m.length : Int) < l.length + (m.length + 1) := by omega
    go_wp2_with fail
    refine hd1.mono ?_
    rintro e w8 ⟨o8, rfl, hs, s1⟩
    replace hB := hB.step s1 (by decide)
    replace h0 := h0.frame s1 (by decide)
    replace ht := ht.frame s1 (by decide) (by decide)
    have hd4 := hd3 ht
    clear s1 hd1 hd3 ht
    go_wp2_with fail
    refine hd4.mono ?_
    rintro e w9 ⟨o9, rfl, ht, s1⟩
    replace hB := hB.step s1 (by decide)
    replace h0 := h0.frame s1 (by decide)
    replace hs := hs.frame s1 (by decide) (by decide)
    clear s1 hd4
    have ek : (l.length : Int) + (m.length + 1) - 1 - m.length = l.length := by omega
    have hN3' : (l.length : Int) ≤ c0 := by simp only [List.length_append, List.length_cons] at hN3; omega
    have q1 : (l.length : Int) + 1 ≤ l.length + (m.length + 1) := by omega
    have h1 : Rd w9 o9 0 1 (.slice a0 l.length c0) l.length (ints l) := h0.pre
    have e1 : l.length + (m.length + 1) - (l.length + 1) = m.length := by omega
    have h2 : Rd w9 o9 0 1 (.slice (adr a0 (l.length + 1) c0 1) (l.length + (m.length + 1) - (l.length + 1)) (c0 - (l.length + 1))) (l.length + (m.length + 1) - (l.length + 1)) (ints m) := by
      have := Rd.suf (x := l ++ [y]) (r := m) (by simpa using h0)
      rw [e1]
      simpa using this
    have E1 := Lib.hid e1
    clear e1
    simp only [List.length_append, List.length_cons] at h0
    go_wp2_with (at_builtin; refine wpList_app0 rfl (.tmp 85) (.tmp 88) 22 rfl o9 30 Try.underlying22 info35 rfl rfl rfl h1 (by omega) (by omega) ?_)
    intro r w10 o10 hr s1
    replace hB := hB.step s1 (by decide)
    replace h0 := h0.frame s1 (by decide)
    replace h2 := h2.frame s1 (by decide)
    replace hs := hs.frame s1 (by decide) (by decide)
    replace ht := ht.frame s1 (by decide) (by decide)
    clear s1 h1
    go_wp2_with (at_builtin; refine wpList_app rfl (.tmp 90) (.tmp 94) 22 rfl Try.underlying22 info35 rfl rfl hr rfl h2 (ints_one _ _) (by omega) (by omega) ?_)
    intro r2 w11 o11 hr2 s1
    rw [E1.out] at hr2
    replace hB := hB.step s1 (by decide)
    replace h0 := h0.frame s1 (by decide)
    replace hs := hs.frame s1 (by decide) (by decide)
    replace ht := ht.frame s1 (by decide) (by decide)
    clear s1 h2 hr E1
    obtain ⟨bx, off, rfl, _⟩ := h0.cellInt (by omega)
    have hcy := h0.mid
    have i1 : (0 : Int) ≤ l.length := by omega
    have i2 : (l.length : Int) < l.length + (m.length + 1) := by omega
    go_wp2_with fail
    have sd : Step [] w11 o11 w11.drew o11 := (Step.refl _ _ _).drew
    replace h0 := h0.frame sd (by decide)
    replace hs := hs.frame sd (by decide) (by decide)
    replace ht := ht.frame sd (by decide) (by decide)
    replace hr2 := hr2.frame sd (by decide)
    replace hB := hB.step sd (by decide)
    replace hcy := h0.mid
    clear sd
    go_region_held3 (fun W => W.cell? ⟨bx, off + l.length, none⟩ = some (.int .i64 y)) (first | assumption | exact (h0.frame ((Step.refl [] _ _).alloc _) (by decide)).mid | exact (h0.frame (((Step.refl [] _ _).alloc _).alloc _) (by decide)).mid)
      (first
        | (go_at_call_of 14 (Value.pointer (some ⟨s, 0, none⟩)); refine (all_st hs (by decide) (by first | exact Step.refl _ _ _ | exact (Step.refl _ _ _).alloc _ | exact ((Step.refl _ _ _).alloc _).alloc _) 40).mono ?_; rintro e W1 ⟨v1, q1, rfl, hv1, sL, s1⟩; (try (first | (have hl := (Rd.fresh w11.drew o11 1 35 #[.int .i64 y] 1 (by simp [maxLen]) (by simp)).frame sL List.not_mem_nil) | (have hl := (Rd.fresh (w11.drew.alloc (.cells #[] 35)) o11 1 35 #[.int .i64 y] 1 (by simp [maxLen]) (by simp)).frame sL List.not_mem_nil) | (have hl := (Rd.fresh w11.drew o11 1 35 #[.int .i64 y] 1 (by simp [maxLen]) (by simp)).frame (((Step.refl _ _ _).alloc (.cells #[] 35)).trans sL) List.not_mem_nil) | (have hl := (Rd.fresh _ _ 1 35 #[.int .i64 y] 1 (by simp [maxLen]) (by simp)).frame sL List.not_mem_nil) | (have hl := (Rd.fresh _ _ 1 35 #[.int .i64 y] 1 (by simp [maxLen]) (by simp)).frame (((Step.refl _ _ _).alloc _).trans sL) List.not_mem_nil))); (try (simp only [World.size_alloc] at hl)); replace h0 := h0.frame s1 (by decide); replace hs := hs.frame s1 (by decide) (by decide); replace ht := ht.frame s1 (by decide) (by decide); replace hr2 := hr2.frame s1 (by decide); replace hB := hB.step s1 (by decide); have hcy := h0.mid; clear s1 sL)
        | (go_at_call_of 14 (Value.pointer (some ⟨t, 0, none⟩)); refine (all_st ht (by decide) (by first | exact Step.refl _ _ _ | exact (Step.refl _ _ _).alloc _ | exact ((Step.refl _ _ _).alloc _).alloc _) 42).mono ?_; rintro e W4 ⟨v4, q4, rfl, hv4, sL, s1⟩; (try (first | (have hl := (Rd.fresh _ _ 1 35 #[.int .i64 y] 1 (by simp [maxLen]) (by simp)).frame sL List.not_mem_nil) | (have hl := (Rd.fresh _ _ 1 35 #[.int .i64 y] 1 (by simp [maxLen]) (by simp)).frame (((Step.refl _ _ _).alloc _).trans sL) List.not_mem_nil))); (try (simp only [World.size_alloc] at hl)); replace h0 := h0.frame s1 (by decide); replace hs := hs.frame s1 (by decide) (by decide); replace ht := ht.frame s1 (by decide) (by decide); replace hr2 := hr2.frame s1 (by decide); replace hB := hB.step s1 (by decide); have hcy := h0.mid; clear s1 sL)
        | (refine step_app0 (.tmp 108) (.tmp 109) 22 rfl q1 41 Try.underlying22 info35 rfl (by kernel_rfl) (by rfl) (by rfl) (h0.frame (S := []) (by first | exact Step.refl _ _ _ | exact (Step.refl _ _ _).alloc _ | exact ((Step.refl _ _ _).alloc _).alloc _) List.not_mem_nil) (by omega) (by omega) ?_; intro v2 W2 q2 hv2 sL; have s1 : Step [] W1 q1 W2 q2 := Step.trans (by first | exact Step.refl _ _ _ | exact (Step.refl _ _ _).alloc _ | exact ((Step.refl _ _ _).alloc _).alloc _) sL; (try (replace hl := hl.frame s1 List.not_mem_nil)); (try (first | (have hl := (Rd.fresh _ _ 1 35 #[.int .i64 y] 1 (by simp [maxLen]) (by simp)).frame sL List.not_mem_nil) | (have hl := (Rd.fresh _ _ 1 35 #[.int .i64 y] 1 (by simp [maxLen]) (by simp)).frame (((Step.refl _ _ _).alloc _).trans sL) List.not_mem_nil))); (try (simp only [World.size_alloc] at hl)); replace hv1 := hv1.frame s1 (by decide); replace h0 := h0.frame s1 (by decide); replace hs := hs.frame s1 (by decide) (by decide); replace ht := ht.frame s1 (by decide) (by decide); replace hr2 := hr2.frame s1 (by decide); replace hB := hB.step s1 (by decide); have hcy := h0.mid; clear s1 sL)
        | (refine step_app (.tmp 110) (.tmp 115) 22 rfl Try.underlying22 info35 rfl (by kernel_rfl) (by rfl) (hv2.frame (S := []) (by first | exact Step.refl _ _ _ | exact (Step.refl _ _ _).alloc _ | exact ((Step.refl _ _ _).alloc _).alloc _) List.not_mem_nil) (by rfl) (by first | exact hl | exact Rd.fresh1 (o := q2) (by simp)) (ints_one _ [y]) (by omega) (by omega) ?_; intro v3 W3 q3 hv3 sL; have s1 : Step [41] W2 q2 W3 q3 := Step.trans (by first | exact Step.refl _ _ _ | exact (Step.refl _ _ _).alloc _ | exact ((Step.refl _ _ _).alloc _).alloc _) sL; replace hv1 := hv1.frame s1 (by decide); replace h0 := h0.frame s1 (by decide); replace hs := hs.frame s1 (by decide) (by decide); replace ht := ht.frame s1 (by decide) (by decide); replace hr2 := hr2.frame s1 (by decide); replace hB := hB.step s1 (by decide); have hcy := h0.mid; clear s1 sL)
        | (go_at_call 15; refine (same_self hv1.rd (want_a hv3)).mono ?_; rintro e W ⟨rfl, nn, rfl⟩; have s1 : Step [] W3 q3 (W3.drewN nn) q3 := (Step.refl _ _ _).drewN nn; replace hr2 := hr2.frame s1 (by decide); replace h0 := h0.frame s1 (by decide); replace hs := hs.frame s1 (by decide) (by decide); replace ht := ht.frame s1 (by decide) (by decide); replace hB := hB.step s1 (by decide); have hcy := h0.mid; clear hv1 hv2 hv3 s1; (try clear hl))
        | (refine step_app (.tmp 122) (.tmp 127) 22 rfl Try.underlying22 info35 rfl (by kernel_rfl) (by rfl) (hr2.frame (S := []) (by first | exact Step.refl _ _ _ | exact (Step.refl _ _ _).alloc _ | exact ((Step.refl _ _ _).alloc _).alloc _) List.not_mem_nil) (by rfl) (by first | exact hl | exact Rd.fresh1 (o := q4) (by simp)) (ints_one _ [y]) (by omega) (by omega) ?_; intro v5 W5 q5 hv5 sL; have s1 : Step [30] W4 q4 W5 q5 := Step.trans (Step.nil (by first | exact Step.refl _ _ _ | exact (Step.refl _ _ _).alloc _ | exact ((Step.refl _ _ _).alloc _).alloc _)) sL; replace hv4 := hv4.frame s1 (by decide); replace h0 := h0.frame s1 (by decide); replace hs := hs.frame s1 (by decide) (by decide); replace ht := ht.frame s1 (by decide) (by decide); replace hB := hB.step s1 (by decide); have hcy := h0.mid; clear s1 sL hr2)
        | (go_at_call 15; refine (same_self hv4.rd (want_b hv5)).mono ?_; rintro e W ⟨rfl, nn, rfl⟩; have s1 : Step [] W5 q5 (W5.drewN nn) q5 := (Step.refl _ _ _).drewN nn; replace h0 := h0.frame s1 (by decide); replace hs := hs.frame s1 (by decide) (by decide); replace ht := ht.frame s1 (by decide) (by decide); replace hB := hB.step s1 (by decide); have hcy := h0.mid; clear hv4 hv5 s1))
    all_goals go_wp2_with fail
    all_goals go_ret
    all_goals exact ⟨by simp, hB.below⟩
end Go.Proofs.Ytkefiimcopeioaa
