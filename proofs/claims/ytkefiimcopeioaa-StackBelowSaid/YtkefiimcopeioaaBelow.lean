/- StackBelow: the walk. -/
import Derived.Test.YtkefiimcopeioaaShown
namespace Go.Proofs.Ytkefiimcopeioaa
open Go Go.RowKit
set_option linter.unusedSimpArgs false
set_option linter.unusedVariables false

theorem putL_fits {l y : List Int} (h : l.length + y.length ≤ 128) : putL l y = l ++ y := by rw [putL, if_pos h]
theorem putE_fits {l y : List Int} (h : l.length + y.length ≤ 128) : putE l y = 0 := by rw [putE, if_pos h]

theorem farS_concat (m : List Int) (k op : Int) : farS (m ++ [k]) op = farM m k op := by simp [farS, List.getLastD_eq_getLast?]
theorem farM_fst (m : List Int) (k op : Int) : (farM m k op).1 = 0 ∨ (farM m k op).1 = -4 := by
  unfold farM; split
  · exact .inr rfl
  · split <;> exact .inl rfl
theorem farS_fst (l : List Int) (op : Int) : (farS l op).1 = 0 ∨ (farS l op).1 = -4 := by
  rcases List.eq_nil_or_concat l with rfl | ⟨m, k, rfl⟩
  · exact .inr rfl
  · rw [List.concat_eq_append, farS_concat]; exact farM_fst _ _ _

theorem tabS_fst (l : List Int) (j : Nat) (hj : j < 12) (hl : l.length ≤ 120) : (tabS l j).1 = 0 ∨ (tabS l j).1 = -4 := by
  have h12 : j = 0 ∨ j = 1 ∨ j = 2 ∨ j = 3 ∨ j = 4 ∨ j = 5 ∨ j = 6 ∨ j = 7 ∨ j = 8 ∨ j = 9 ∨ j = 10 ∨ j = 11 := by omega
  have hp : (shP j).length ≤ 6 := (shP_le j hj).1
  unfold tabS
  split
  · exact .inr rfl
  · split
    · exact .inl rfl
    · split
      · omega
      · exact .inl rfl

theorem below_law (x y : List Int) (hx : x.length ≤ 60) (hy : y.length ≤ 60) (op : Int) (h42 : op ≠ 42) :
    ((doS y op).1 = -4 ∧ ((doS (x ++ y) op).1 = 0 ∨ (doS (x ++ y) op).1 = -4)) ∨ ((doS y op).1 ≠ -4 ∧ (doS (x ++ y) op).1 = (doS y op).1 ∧ (doS (x ++ y) op).2 = x ++ (doS y op).2) := by
  unfold doS
  by_cases h1 : op = 40 ∨ op = 41
  · simp only [if_pos h1]
    rcases List.eq_nil_or_concat y with rfl | ⟨m, k, rfl⟩
    · exact .inl ⟨rfl, farS_fst _ _⟩
    · rw [List.concat_eq_append, ← List.append_assoc, farS_concat, farS_concat]
      by_cases hc : k < 0 ∨ m.length ≤ k
      · exact .inl ⟨by rw [farM, if_pos hc], farM_fst _ _ _⟩
      · have hc' : ¬ (k < 0 ∨ ((x ++ m).length : Int) ≤ k) := by simp; omega
        have e1 : (x ++ m).length - 1 - k.toNat = x.length + (m.length - 1 - k.toNat) := by simp; omega
        have e2 : (x ++ m).getD (x.length + (m.length - 1 - k.toNat)) 0 = m.getD (m.length - 1 - k.toNat) 0 := by
          simp [List.getD, List.getElem?_append_right]
        have e3 : (x ++ m).eraseIdx (x.length + (m.length - 1 - k.toNat)) = x ++ m.eraseIdx (m.length - 1 - k.toNat) := by
          rw [List.eraseIdx_append_of_length_le (by omega)]
          simp
        refine .inr ?_
        rw [farM, farM, if_neg hc, if_neg hc', e1, e2, e3]
        split <;> simp
  · simp only [if_neg h1, if_neg h42]
    by_cases h3 : 28 ≤ op ∧ op < 40
    · simp only [if_pos h3]
      have hj : (op - 28).toNat < 12 := by omega
      generalize (op - 28).toNat = j at hj
      have hp : (shP j).length ≤ 6 := (shP_le j hj).1
      by_cases hc : y.length < shT j
      · exact .inl ⟨by rw [tabS, if_pos hc], tabS_fst _ _ hj (by simp; omega)⟩
      · refine .inr ?_
        have hk := (shP_le j hj).2.2.2.2
        have hyn : y ≠ [] := by rintro rfl; simp at hc; omega
        have hc' : ¬ (x ++ y).length < shT j := by simp; omega
        have hlast : (x ++ y).getLastD 0 = y.getLastD 0 := by
          simp [List.getLastD_eq_getLast?, List.getLast?_append, hyn]
          cases h : y.getLast? with
          | none => simp [hyn] at h
          | some z => simp
        have h128 : ¬ 128 < y.length - shT j + (shP j).length := by omega
        have h128' : ¬ 128 < (x ++ y).length - shT j + (shP j).length := by simp; omega
        have e1 : (x ++ y).length - shT j = x.length + (y.length - shT j) := by simp; omega
        rw [tabS, tabS, if_neg hc, if_neg hc', hlast]
        by_cases h7 : j = 7 ∧ y.getLastD 0 = 0
        · rw [if_pos h7, if_pos h7]; simp
        · rw [if_neg h7, if_neg h7, if_neg h128, if_neg h128', e1]
          simp [List.take_append, List.drop_append, List.take_of_length_le, List.drop_eq_nil_of_le]
    · simp only [if_neg h3]
      exact .inr (by simp)
set_option maxHeartbeats 4000000 in
theorem below_walk {w : World} {v0 v1 : Value} {z0 z1 : List Int} {op : Int} (h0 : Rd w (fun _ => 0) 0 1 v0 z0.length (ints z0)) (h1 : Rd w (fun _ => 0) 0 1 v1 z1.length (ints z1)) (hz0 : ∀ x ∈ z0, I64 x) (hz1 : ∀ x ∈ z1, I64 x) :
    Calls Try.prog 3 #[v0, v1, .int .i64 op] w fun e w' => e = .returned (.bool true) ∧ Below w.heap.size w w' := by
  have hB := Base.start w
  obtain ⟨a0, c0, rfl, p1, p2, _, _⟩ := id h0
  obtain ⟨a1, c1, rfl, q1, q2, _, _⟩ := id h1
  unfold maxLen at p2 q2
  obtain ⟨x, hxz, hN, hN1, hN2, hN3, h0⟩ := h0.few 60 (M := 60) rfl
  obtain ⟨y, hyz, hM, hM1, hM2, hM3, h1⟩ := h1.few 60 (M := 60) rfl
  have hxw : ∀ u ∈ x ++ y, I64 u := by
    intro u hu
    rcases List.mem_append.1 hu with hu | hu
    · exact hz0 _ (List.mem_of_mem_take (hxz ▸ hu))
    · exact hz1 _ (List.mem_of_mem_take (hyz ▸ hu))
  have hyw : ∀ u ∈ y, I64 u := fun u hu => hxw u (by simp [hu])
  have hXW := Lib.hid hxw
  have hYW := Lib.hid hyw
  clear hxz hyz hxw hyw hz0 hz1
  go_enter Try.func3, Try.ntmps3
  go_wp2_with fail
  refine (shown_ok w (fun _ => 0)).mono ?_
  rintro e w1 ⟨rfl, s1⟩
  replace hB := hB.step s1 (by decide)
  replace h0 := h0.frame s1 (by decide)
  replace h1 := h1.frame s1 (by decide)
  clear s1
  go_wp2_with fail
  refine (new_ok w1 (fun _ => 0) 10).mono ?_
  rintro e w2 ⟨a, o2, rfl, ha, s1⟩
  replace hB := hB.step s1 (by decide)
  replace h0 := h0.frame s1 (by decide)
  replace h1 := h1.frame s1 (by decide)
  clear s1
  go_wp2_with fail
  refine (new_ok w2 o2 20).mono ?_
  rintro e w3 ⟨b, o3, rfl, hb, s1⟩
  replace hB := hB.step s1 (by decide)
  replace h0 := h0.frame s1 (by decide)
  replace h1 := h1.frame s1 (by decide)
  replace ha := ha.frame s1 (by decide) (by decide)
  clear s1
  by_cases h42 : op = 42
  · subst h42
    go_wp2_with fail
    go_ret
    exact ⟨rfl, hB.below⟩
  · have hq : (op == 42) = false := by rw [beq_eq_false_iff_ne]; exact h42
    go_wp2_with fail
    go_quiet (fail)
    have s1 : Step [] w3 o3 (w3.drewN nq) o3 := (Step.refl _ _ _).drewN _
    replace hB := hB.step s1 (by decide)
    replace h0 := h0.frame s1 (by decide)
    replace h1 := h1.frame s1 (by decide)
    replace ha := ha.frame s1 (by decide) (by decide)
    replace hb := hb.frame s1 (by decide) (by decide)
    clear s1
    go_wp2_with fail
    refine (put_ok ha h0).mono ?_
    rintro e w4 ⟨o4, rfl, ha, s1⟩
    rw [putL_fits (by simp; omega), List.nil_append] at ha
    replace hB := hB.step s1 (by decide)
    replace h0 := h0.frame s1 (by decide)
    replace h1 := h1.frame s1 (by decide)
    replace hb := hb.frame s1 (by decide) (by decide)
    clear s1
    go_wp2_with fail
    refine (put_ok ha h1).mono ?_
    rintro e w5 ⟨o5, rfl, ha, s1⟩
    rw [putL_fits (by omega)] at ha
    replace hB := hB.step s1 (by decide)
    replace h0 := h0.frame s1 (by decide)
    replace h1 := h1.frame s1 (by decide)
    replace hb := hb.frame s1 (by decide) (by decide)
    clear s1
    go_wp2_with fail
    refine (put_ok hb h1).mono ?_
    rintro e w6 ⟨o6, rfl, hb, s1⟩
    rw [putL_fits (by simp; omega), List.nil_append] at hb
    replace hB := hB.step s1 (by decide)
    replace h0 := h0.frame s1 (by decide)
    replace ha := ha.frame s1 (by decide) (by decide)
    clear s1 h1
    go_wp2_with fail
    refine (do_ok ha (by decide) hXW.out op).mono ?_
    rintro e w7 ⟨o7, rfl, ha, s1⟩
    replace hB := hB.step s1 (by decide)
    replace h0 := h0.frame s1 (by decide)
    replace hb := hb.frame s1 (by decide) (by decide)
    clear s1
    go_wp2_with fail
    refine (do_ok hb (by decide) hYW.out op).mono ?_
    rintro e w8 ⟨o8, rfl, hb, s1⟩
    replace hB := hB.step s1 (by decide)
    replace h0 := h0.frame s1 (by decide)
    replace ha := ha.frame s1 (by decide) (by decide)
    clear s1
    have hlaw := below_law x y hN2 hM2 op h42
    generalize (doS (x ++ y) op).1 = E at hlaw ⊢
    generalize (doS (x ++ y) op).2 = la at hlaw ha
    generalize (doS y op).1 = F at hlaw ⊢
    generalize (doS y op).2 = lb at hlaw hb
    rcases hlaw with ⟨rfl, rfl | rfl⟩ | ⟨hF, rfl, rfl⟩
    · go_wp2_with fail
      go_ret
      exact ⟨rfl, hB.below⟩
    · go_wp2_with fail
      go_ret
      exact ⟨rfl, hB.below⟩
    · have hq2 : (E == -4) = false := by rw [beq_eq_false_iff_ne]; exact hF
      have hq3 : (E != E) = false := by simp
      go_wp2_with fail
      refine (all_ok ha 0).mono ?_
      rintro e w9 ⟨v, o9, rfl, hv, s1⟩
      replace hB := hB.step s1 (by decide)
      replace h0 := h0.frame s1 (by decide)
      replace hb := hb.frame s1 (by decide) (by decide)
      clear s1 ha
      replace hv := hv.rd
      obtain ⟨av, cv, rfl, v1, v2, v3, v4⟩ := id hv
      rw [List.length_append] at v1
      have v5 : (x.length : Int) ≤ cv := by omega
      have v6 : ((x.length : Int) + lb.length < x.length) = False := by simp; omega
      go_wp2_with fail
      refine (same_ok hv.pre h0).mono ?_
      rintro e w10 ⟨rfl, n, rfl⟩
      have s1 : Step [] w9 o9 ((w9.drewN n).drew) o9 := ((Step.refl _ _ _).drewN _).drew
      replace hB := hB.step s1 (by decide)
      replace hv := (hv.frame s1 (by decide)).suf
      replace hb := hb.frame s1 (by decide) (by decide)
      rw [show sameB x x = true by simp [sameB]]
      clear s1 h0
      go_wp2_with fail
      go_region_with (first | (go_at_call 14; refine (all_ok hb 0).mono ?_; rintro e w11 ⟨u, o11, rfl, hu, s1⟩) | (go_at_call 15; refine (same_ok (hv.frame s1 (by decide)) hu.rd).mono ?_; rintro e w12 ⟨rfl, n2, rfl⟩))
      all_goals
        rw [show sameB lb lb = true by simp [sameB]]
        replace hB := (hB.step s1 (by decide)).step ((Step.refl [] w11 o11).drewN n2) (by decide)
        clear s1 hu hb hv
        go_wp2_with fail
        go_ret
        exact ⟨rfl, hB.below⟩
end Go.Proofs.Ytkefiimcopeioaa
