/- TableOnly: the walk. -/
import Derived.Test.YtjbccoehgggdcaaDoorPlays12
namespace Go.Proofs.YtjbccoehgggdcaaDoor
open Go Go.RowKit Go.Shelf
set_option linter.unusedSimpArgs false
set_option linter.unusedVariables false

/-- How many of the first j words are of kind k. -/
def manyOf (k j : Nat) : Nat := ((built.take j).filter fun b => b.k == k).length
theorem only_all : ((List.range 180).all fun j => match built[j]? with
    | some b => decide (1 ≤ b.k) && (decide (b.k ≤ 4) && ((b.k != 3 || (b.now && b.only)) && ((decide (2 < b.k) || !b.now) && ((b.k != 1 || !b.only) && ((List.range 5).all fun k => manyOf k (j + 1) == if b.k == k then manyOf k j + 1 else manyOf k j) && b.n == manyOf b.k (j + 1)))))
    | none => false) = true := by kernel_rfl
theorem only_facts {j : Nat} {b : B} (h : built[j]? = some b) (hj : j < 180) : 1 ≤ b.k ∧ b.k ≤ 4 ∧ (b.k ≠ 3 ∨ (b.now = true ∧ b.only = true)) ∧ (2 < b.k ∨ b.now = false) ∧ (b.k ≠ 1 ∨ b.only = false) ∧
    (∀ k, k < 5 → manyOf k (j + 1) = if b.k = k then manyOf k j + 1 else manyOf k j) ∧ b.n = manyOf b.k (j + 1) := by
  have := List.all_eq_true.1 only_all j (List.mem_range.2 hj)
  rw [h] at this
  simp only [Bool.and_eq_true, Bool.or_eq_true, decide_eq_true_eq, bne_iff_ne, Bool.not_eq_true', beq_iff_eq, List.all_eq_true] at this
  obtain ⟨h1, h2, h3, h4, ⟨h5, h6⟩, h7⟩ := this
  exact ⟨h1, h2, h3, h4, h5, fun k hk => h6 k (List.mem_range.2 hk), h7⟩
theorem many_zero (k : Nat) : manyOf k 0 = 0 := rfl
theorem many_all : manyOf 1 180 = 107 ∧ manyOf 2 180 = 9 ∧ manyOf 3 180 = 17 ∧ manyOf 4 180 = 47 := by refine ⟨?_, ?_, ?_, ?_⟩ <;> kernel_rfl
theorem nm_many (k : Nat) (h : 1 ≤ k ∧ k ≤ 4) : (nm (k : Int)).length = manyOf k 180 := by
  obtain ⟨h1, h2, h3, h4⟩ := many_all
  obtain ⟨g1, g2, g3, g4⟩ := nm_lengths
  match k, h with
  | 1, _ => rw [h1]; exact g1
  | 2, _ => rw [h2]; exact g2
  | 3, _ => rw [h3]; exact g3
  | 4, _ => rw [h4]; exact g4
theorem nm_none {k : Int} (h : k < 1 ∨ 4 < k) : nm k = [] := by
  unfold nm
  rw [if_neg (by omega), if_neg (by omega), if_neg (by omega), if_neg (by omega)]
theorem texts_all : ((List.range 5).all fun k => (nm (k : Int)).all fun s => !(lst s).isEmpty) = true := by kernel_rfl

theorem name_empty (k n : Int) : (nameOf k n).toList.isEmpty = decide (n < 1 ∨ ((nm k).length : Int) < n) := by
  unfold nameOf
  by_cases h : 1 ≤ n ∧ n ≤ (nm k).length
  · rw [if_pos h, decide_eq_false (by omega), Lib.toList_data]
    have hk : 1 ≤ k ∧ k ≤ 4 := by
      by_cases e : k < 1 ∨ 4 < k
      · rw [nm_none e] at h; simp at h; omega
      · omega
    obtain ⟨K, rfl⟩ : ∃ K : Nat, k = K := ⟨k.toNat, by omega⟩
    have hi : (n - 1).toNat < (nm (K : Int)).length := by omega
    have := List.all_eq_true.1 (List.all_eq_true.1 texts_all K (List.mem_range.2 (by omega))) _ (List.getElem_mem hi)
    rw [List.getD_eq_getElem?_getD, List.getElem?_eq_getElem hi]
    simpa [lst] using this
  · rw [if_neg h, decide_eq_true (by omega), Lib.toList_data]
    rfl
set_option maxRecDepth 100000 in
set_option maxHeartbeats 8000000 in
theorem only12_walk (a0 a1 : Int) (h0 : 0 ≤ a0 ∧ a0 ≤ 255) {w : World} (hm0 : ∃ m, w.cell? ⟨0, 0, none⟩ = some (.int .i64 m)) :
    Calls Tryd.prog 5 #[.int .u8 a0, .int .i64 a1] w fun e w' => e = .returned (.bool true) ∧ Below w.heap.size w w' := by
  have hm : ML w (fun _ => 0) := ⟨hm0, rfl⟩
  have hsh := shown_ok hm
  obtain ⟨K, hK⟩ : ∃ K : Nat, a0.toNat % 4 + 1 = K := ⟨_, rfl⟩
  have hK4 : 1 ≤ K ∧ K ≤ 4 := by omega
  have hrem : a0.tmod 4 = ((K : Int) - 1) := by rw [Int.tmod_eq_emod_of_nonneg h0.1]; omega
  have hrem2 : a0 % 4 = ((K : Int) - 1) := by omega
  clear hm0 hK
  go_enter Tryd.func5, Tryd.ntmps5
  go_wp2_with fail
  refine hsh.mono ?_
  rintro e w1 ⟨rfl, o1, s1⟩
  have hm1 := hm.frame s1 (by simp)
  have hal := all_ok hm1 95
  clear hsh
  go_wp2_with fail
  refine hal.mono ?_
  rintro e w2 ⟨v2, o2, rfl, hx2, s2⟩
  obtain ⟨g, cap, rfl, hg2⟩ := hx2.rowx (by decide)
  have hm2 := hm1.frame s2 (by simp)
  have S2 := s1.trans s2
  clear hal hx2 hm hm1 s1 s2
  go_wp2_with fail
  go_loopg [7, 18] 180 (fun gg x v wr => ∃ j : Nat, gg = 180 - j ∧ j ≤ 180 ∧ x = .int .i64 (manyOf K j : Nat) ∧ v = .int .i64 j ∧ Step [] w2 o2 wr o2)
  case atStart => exact ⟨0, rfl, by decide, rfl, rfl, Step.refl _ _ _⟩
  case round =>
    obtain ⟨j, hgg, hj, rfl, rfl, st⟩ := hrel
    have HG := Lib.hid hgg
    clear hgg
    by_cases hlt : j < 180
    · have hji : (j : Int) < 180 := by omega
      obtain ⟨b, hb⟩ : ∃ b, built[j]? = some b := ⟨_, List.getElem?_eq_getElem (by rw [built_length]; exact hlt)⟩
      obtain ⟨y0, y1, y2, y3, y4⟩ := word_atb (hg2.frame st (by simp)) hb
      obtain ⟨f1, f2, f3, f4, f5, f6, f7⟩ := only_facts hb hlt
      have f8 := f6 K (by omega)
      obtain ⟨M, hM⟩ : ∃ M, manyOf K j = M := ⟨_, rfl⟩
      have hML : M ≤ 180 := by
        rw [← hM]
        refine Nat.le_trans (List.length_filter_le _ _) ?_
        rw [List.length_take]
        omega
      rw [hM] at f8 ⊢
      have f9 : b.k = K → b.n = M + 1 := fun e => by rw [f7, e, f8, if_pos e]
      have f10 : b.k ≠ K → manyOf K (j + 1) = M := fun e => by rw [f8, if_neg e]
      have f11 : b.k = K → manyOf K (j + 1) = M + 1 := fun e => by rw [f8, if_pos e]
      obtain ⟨nm, k, n, now, only⟩ := b
      dsimp only at y0 y1 y2 y3 y4 f1 f2 f3 f4 f5 f9 f10 f11
      have F9 := Lib.hid f9
      have F10 := Lib.hid f10
      have F11 := Lib.hid f11
      clear hb f6 f7 f8 f9 f10 f11 hM
      have hcases : (k = 1 ∧ now = false ∧ only = false) ∨ (k = 2 ∧ now = false) ∨ (k = 3 ∧ now = true ∧ only = true) ∨ k = 4 := by
        rcases (show k = 1 ∨ k = 2 ∨ k = 3 ∨ k = 4 by omega) with rfl | rfl | rfl | rfl
        · exact .inl ⟨rfl, by simpa using f4, by simpa using f5⟩
        · exact .inr (.inl ⟨rfl, by simpa using f4⟩)
        · exact .inr (.inr (.inl ⟨rfl, by simpa using f3⟩))
        · exact .inr (.inr (.inr rfl))
      clear f1 f2 f3 f4 f5
      by_cases hkK : k = K
      · have hn := F9.out hkK
        have hmn := F11.out hkK
        have HMN := Lib.hid hmn
        have hni : wrap64 ((M : Int) + 1) = ((M + 1 : Nat) : Int) := by unfold wrap64; omega
        subst hkK
        subst hn
        clear hmn
        rcases hcases with ⟨rfl, rfl, rfl⟩ | ⟨rfl, rfl⟩ | ⟨rfl, rfl, rfl⟩ | rfl
        all_goals
          go_wp2_with fail
          go_roundg (180 - (j + 1))
          case measure => rw [HG.out]; omega
          case rel => exact ⟨j + 1, rfl, by omega, by rw [HMN.out]; go_num, by go_num, st.alloc _⟩
      · have hmn := F10.out hkK
        have HMN := Lib.hid hmn
        have hkb : ((k : Int) == (K : Int)) = false := by rw [beq_eq_false_iff_ne]; omega
        clear hmn hkK
        rcases hcases with ⟨rfl, rfl, rfl⟩ | ⟨rfl, rfl⟩ | ⟨rfl, rfl, rfl⟩ | rfl
        all_goals
          go_wp2_with fail
          go_roundg (180 - (j + 1))
          case measure => rw [HG.out]; omega
          case rel => exact ⟨j + 1, rfl, by omega, by rw [HMN.out], by go_num, st.alloc _⟩
    · obtain rfl : j = 180 := by omega
      have hji : ¬ ((180 : Nat) : Int) < 180 := by omega
      have hm3 := hm2.frame st (by simp)
      have S3 := S2.trans st
      have hK : K = 1 ∨ K = 2 ∨ K = 3 ∨ K = 4 := by omega
      have hz0 : (nameOf 0 a1).toList.isEmpty = true := by rw [name_empty, nm_none (.inl (by decide))]; simp; omega
      clear hm2 S2 st HG hg2
      rcases hK with rfl | rfl | rfl | rfl
      · have hmn : manyOf 1 180 = 107 := many_all.1
        have he : (nameOf 1 a1).toList.isEmpty = decide (a1 < 1 ∨ (107 : Int) < a1) := by
          rw [name_empty, show (nm 1).length = 107 from (nm_many 1 (by decide)).trans many_all.1]
          rfl
        have hz1 : (nameOf 5 a1).toList.isEmpty = true := by rw [name_empty, nm_none (.inr (by decide))]; simp; omega
        have c1 := fun (W : World) (O : Owner) (h : ML W O) => name_ok 1 a1 h
        have c2 := fun (W : World) (O : Owner) (h : ML W O) => name_ok 5 a1 h
        have c3 := fun (W : World) (O : Owner) (h : ML W O) => name_ok 0 a1 h
        obtain ⟨t1, ht1⟩ : ∃ t, nameOf 1 a1 = t := ⟨_, rfl⟩
        obtain ⟨t2, ht2⟩ : ∃ t, nameOf 5 a1 = t := ⟨_, rfl⟩
        obtain ⟨t3, ht3⟩ : ∃ t, nameOf 0 a1 = t := ⟨_, rfl⟩
        rw [ht1] at he
        rw [ht2] at hz1
        rw [ht3] at hz0
        simp only [ht1] at c1
        simp only [ht2] at c2
        simp only [ht3] at c3
        rw [hmn]
        have hcase : (a1 < 1 ∧ t1.toList.isEmpty = true) ∨ (¬ a1 < 1 ∧ (107 : Int) < a1 ∧ t1.toList.isEmpty = true) ∨ (¬ a1 < 1 ∧ ¬ (107 : Int) < a1 ∧ t1.toList.isEmpty = false) := by
          rw [he]
          by_cases e1 : a1 < 1
          · exact .inl ⟨e1, decide_eq_true (.inl e1)⟩
          · by_cases e2 : (107 : Int) < a1
            · exact .inr (.inl ⟨e1, e2, decide_eq_true (.inr e2)⟩)
            · exact .inr (.inr ⟨e1, e2, decide_eq_false (by omega)⟩)
        clear ht1 ht2 ht3 he hmn
        rcases hcase with ⟨e1, et⟩ | ⟨e1, e2, et⟩ | ⟨e1, e2, et⟩
        all_goals
          go_wp2_with fail
          refine (c1 _ o2 (hm3.frame ((Step.refl [] wr o2).alloc _) (by simp))).mono ?_
          rintro e w8 ⟨rfl, o8, s8⟩
          have S8 := (S3.alloc _).trans s8
          have hm8 := (hm3.frame ((Step.refl [] wr o2).alloc _) (by simp)).frame s8 (by simp)
          go_wp2_with fail
          refine (c2 _ _ hm8).mono ?_
          rintro e w9 ⟨rfl, o9, s9⟩
          have hm9 := hm8.frame s9 (by simp)
          go_wp2_with fail
          refine (c3 _ _ hm9).mono ?_
          rintro e w10 ⟨rfl, o10, s10⟩
          go_wp2_with fail
          go_ret
          exact ⟨by first | rfl | (show Ending.returned (Value.bool (!decide (a1 < 1) && !decide ((107 : Int) < a1))) = _; rw [decide_eq_false (p := a1 < 1) (by omega), decide_eq_false (by omega)]; rfl), ((Base.start w).step ((S8.trans s9).trans s10) (by decide)).below⟩
      · have hmn : manyOf 2 180 = 9 := many_all.2.1
        have he : (nameOf 2 a1).toList.isEmpty = decide (a1 < 1 ∨ (9 : Int) < a1) := by
          rw [name_empty, show (nm 2).length = 9 from (nm_many 2 (by decide)).trans many_all.2.1]
          rfl
        have hz1 : (nameOf 6 a1).toList.isEmpty = true := by rw [name_empty, nm_none (.inr (by decide))]; simp; omega
        have c1 := fun (W : World) (O : Owner) (h : ML W O) => name_ok 2 a1 h
        have c2 := fun (W : World) (O : Owner) (h : ML W O) => name_ok 6 a1 h
        have c3 := fun (W : World) (O : Owner) (h : ML W O) => name_ok 0 a1 h
        obtain ⟨t1, ht1⟩ : ∃ t, nameOf 2 a1 = t := ⟨_, rfl⟩
        obtain ⟨t2, ht2⟩ : ∃ t, nameOf 6 a1 = t := ⟨_, rfl⟩
        obtain ⟨t3, ht3⟩ : ∃ t, nameOf 0 a1 = t := ⟨_, rfl⟩
        rw [ht1] at he
        rw [ht2] at hz1
        rw [ht3] at hz0
        simp only [ht1] at c1
        simp only [ht2] at c2
        simp only [ht3] at c3
        rw [hmn]
        have hcase : (a1 < 1 ∧ t1.toList.isEmpty = true) ∨ (¬ a1 < 1 ∧ (9 : Int) < a1 ∧ t1.toList.isEmpty = true) ∨ (¬ a1 < 1 ∧ ¬ (9 : Int) < a1 ∧ t1.toList.isEmpty = false) := by
          rw [he]
          by_cases e1 : a1 < 1
          · exact .inl ⟨e1, decide_eq_true (.inl e1)⟩
          · by_cases e2 : (9 : Int) < a1
            · exact .inr (.inl ⟨e1, e2, decide_eq_true (.inr e2)⟩)
            · exact .inr (.inr ⟨e1, e2, decide_eq_false (by omega)⟩)
        clear ht1 ht2 ht3 he hmn
        rcases hcase with ⟨e1, et⟩ | ⟨e1, e2, et⟩ | ⟨e1, e2, et⟩
        all_goals
          go_wp2_with fail
          refine (c1 _ o2 (hm3.frame ((Step.refl [] wr o2).alloc _) (by simp))).mono ?_
          rintro e w8 ⟨rfl, o8, s8⟩
          have S8 := (S3.alloc _).trans s8
          have hm8 := (hm3.frame ((Step.refl [] wr o2).alloc _) (by simp)).frame s8 (by simp)
          go_wp2_with fail
          refine (c2 _ _ hm8).mono ?_
          rintro e w9 ⟨rfl, o9, s9⟩
          have hm9 := hm8.frame s9 (by simp)
          go_wp2_with fail
          refine (c3 _ _ hm9).mono ?_
          rintro e w10 ⟨rfl, o10, s10⟩
          go_wp2_with fail
          go_ret
          exact ⟨by first | rfl | (show Ending.returned (Value.bool (!decide (a1 < 1) && !decide ((9 : Int) < a1))) = _; rw [decide_eq_false (p := a1 < 1) (by omega), decide_eq_false (by omega)]; rfl), ((Base.start w).step ((S8.trans s9).trans s10) (by decide)).below⟩
      · have hmn : manyOf 3 180 = 17 := many_all.2.2.1
        have he : (nameOf 3 a1).toList.isEmpty = decide (a1 < 1 ∨ (17 : Int) < a1) := by
          rw [name_empty, show (nm 3).length = 17 from (nm_many 3 (by decide)).trans many_all.2.2.1]
          rfl
        have hz1 : (nameOf 7 a1).toList.isEmpty = true := by rw [name_empty, nm_none (.inr (by decide))]; simp; omega
        have c1 := fun (W : World) (O : Owner) (h : ML W O) => name_ok 3 a1 h
        have c2 := fun (W : World) (O : Owner) (h : ML W O) => name_ok 7 a1 h
        have c3 := fun (W : World) (O : Owner) (h : ML W O) => name_ok 0 a1 h
        obtain ⟨t1, ht1⟩ : ∃ t, nameOf 3 a1 = t := ⟨_, rfl⟩
        obtain ⟨t2, ht2⟩ : ∃ t, nameOf 7 a1 = t := ⟨_, rfl⟩
        obtain ⟨t3, ht3⟩ : ∃ t, nameOf 0 a1 = t := ⟨_, rfl⟩
        rw [ht1] at he
        rw [ht2] at hz1
        rw [ht3] at hz0
        simp only [ht1] at c1
        simp only [ht2] at c2
        simp only [ht3] at c3
        rw [hmn]
        have hcase : (a1 < 1 ∧ t1.toList.isEmpty = true) ∨ (¬ a1 < 1 ∧ (17 : Int) < a1 ∧ t1.toList.isEmpty = true) ∨ (¬ a1 < 1 ∧ ¬ (17 : Int) < a1 ∧ t1.toList.isEmpty = false) := by
          rw [he]
          by_cases e1 : a1 < 1
          · exact .inl ⟨e1, decide_eq_true (.inl e1)⟩
          · by_cases e2 : (17 : Int) < a1
            · exact .inr (.inl ⟨e1, e2, decide_eq_true (.inr e2)⟩)
            · exact .inr (.inr ⟨e1, e2, decide_eq_false (by omega)⟩)
        clear ht1 ht2 ht3 he hmn
        rcases hcase with ⟨e1, et⟩ | ⟨e1, e2, et⟩ | ⟨e1, e2, et⟩
        all_goals
          go_wp2_with fail
          refine (c1 _ o2 (hm3.frame ((Step.refl [] wr o2).alloc _) (by simp))).mono ?_
          rintro e w8 ⟨rfl, o8, s8⟩
          have S8 := (S3.alloc _).trans s8
          have hm8 := (hm3.frame ((Step.refl [] wr o2).alloc _) (by simp)).frame s8 (by simp)
          go_wp2_with fail
          refine (c2 _ _ hm8).mono ?_
          rintro e w9 ⟨rfl, o9, s9⟩
          have hm9 := hm8.frame s9 (by simp)
          go_wp2_with fail
          refine (c3 _ _ hm9).mono ?_
          rintro e w10 ⟨rfl, o10, s10⟩
          go_wp2_with fail
          go_ret
          exact ⟨by first | rfl | (show Ending.returned (Value.bool (!decide (a1 < 1) && !decide ((17 : Int) < a1))) = _; rw [decide_eq_false (p := a1 < 1) (by omega), decide_eq_false (by omega)]; rfl), ((Base.start w).step ((S8.trans s9).trans s10) (by decide)).below⟩
      · have hmn : manyOf 4 180 = 47 := many_all.2.2.2
        have he : (nameOf 4 a1).toList.isEmpty = decide (a1 < 1 ∨ (47 : Int) < a1) := by
          rw [name_empty, show (nm 4).length = 47 from (nm_many 4 (by decide)).trans many_all.2.2.2]
          rfl
        have hz1 : (nameOf 8 a1).toList.isEmpty = true := by rw [name_empty, nm_none (.inr (by decide))]; simp; omega
        have c1 := fun (W : World) (O : Owner) (h : ML W O) => name_ok 4 a1 h
        have c2 := fun (W : World) (O : Owner) (h : ML W O) => name_ok 8 a1 h
        have c3 := fun (W : World) (O : Owner) (h : ML W O) => name_ok 0 a1 h
        obtain ⟨t1, ht1⟩ : ∃ t, nameOf 4 a1 = t := ⟨_, rfl⟩
        obtain ⟨t2, ht2⟩ : ∃ t, nameOf 8 a1 = t := ⟨_, rfl⟩
        obtain ⟨t3, ht3⟩ : ∃ t, nameOf 0 a1 = t := ⟨_, rfl⟩
        rw [ht1] at he
        rw [ht2] at hz1
        rw [ht3] at hz0
        simp only [ht1] at c1
        simp only [ht2] at c2
        simp only [ht3] at c3
        rw [hmn]
        have hcase : (a1 < 1 ∧ t1.toList.isEmpty = true) ∨ (¬ a1 < 1 ∧ (47 : Int) < a1 ∧ t1.toList.isEmpty = true) ∨ (¬ a1 < 1 ∧ ¬ (47 : Int) < a1 ∧ t1.toList.isEmpty = false) := by
          rw [he]
          by_cases e1 : a1 < 1
          · exact .inl ⟨e1, decide_eq_true (.inl e1)⟩
          · by_cases e2 : (47 : Int) < a1
            · exact .inr (.inl ⟨e1, e2, decide_eq_true (.inr e2)⟩)
            · exact .inr (.inr ⟨e1, e2, decide_eq_false (by omega)⟩)
        clear ht1 ht2 ht3 he hmn
        rcases hcase with ⟨e1, et⟩ | ⟨e1, e2, et⟩ | ⟨e1, e2, et⟩
        all_goals
          go_wp2_with fail
          refine (c1 _ o2 (hm3.frame ((Step.refl [] wr o2).alloc _) (by simp))).mono ?_
          rintro e w8 ⟨rfl, o8, s8⟩
          have S8 := (S3.alloc _).trans s8
          have hm8 := (hm3.frame ((Step.refl [] wr o2).alloc _) (by simp)).frame s8 (by simp)
          go_wp2_with fail
          refine (c2 _ _ hm8).mono ?_
          rintro e w9 ⟨rfl, o9, s9⟩
          have hm9 := hm8.frame s9 (by simp)
          go_wp2_with fail
          refine (c3 _ _ hm9).mono ?_
          rintro e w10 ⟨rfl, o10, s10⟩
          go_wp2_with fail
          go_ret
          exact ⟨by first | rfl | (show Ending.returned (Value.bool (!decide (a1 < 1) && !decide ((47 : Int) < a1))) = _; rw [decide_eq_false (p := a1 < 1) (by omega), decide_eq_false (by omega)]; rfl), ((Base.start w).step ((S8.trans s9).trans s10) (by decide)).below⟩
end Go.Proofs.YtjbccoehgggdcaaDoor
