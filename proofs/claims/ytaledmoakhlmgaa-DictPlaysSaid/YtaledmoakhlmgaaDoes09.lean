/- An act, done to the dictionary and to the document's: the answers are the same. -/
import Derived.Test.YtaledmoakhlmgaaRefF
import Derived.Test.YtaledmoakhlmgaaRefD
import Derived.Test.YtaledmoakhlmgaaDicD
import Derived.Test.YtaledmoakhlmgaaHidesL
import Derived.Deep.RegionHeld3
namespace Go.Proofs.Ytaledmoakhlmgaa
open Go Go.RowKit
set_option linter.unusedSimpArgs false
set_option linter.unusedVariables false

/-- What is done: its kind, a text, a number, a row of numbers (as a value), a mark. -/
structure Ac where
  y : Int
  S : ByteArray
  X : Int
  lv : Value
  mw : Int
  ml : Int
def Ac.arr (a : Ac) : Array Value := #[.int .u8 a.y, .string a.S, .int .i64 a.X, a.lv, .int .i64 a.mw, .int .i64 a.ml]
theorem dnames_len (k : Int) : ∀ l : List Wd, (names k l).length ≤ l.length
  | [] => Nat.le_refl _
  | x :: r => by
    have := dnames_len k r
    rw [names_cons]
    split <;> simp <;> omega
theorem dnamesD_len (s : Dst) (k : Int) : (namesD s k).length ≤ s.ws.length := by
  unfold namesD
  split
  · exact dnames_len _ _
  · simp

/-- Both dictionaries, alike. -/
def Both (w : World) (o : Owner) (b c : Nat) (s : Dst) (N : Nat) : Prop := DB w o 10 b s N ∧ RB w o 30 c s
theorem Both.frame {S : List Nat} {w w' : World} {o o' : Owner} {b c N : Nat} {s : Dst} (h : Both w o b c s N) (st : Step S w o w' o') (hS : ∀ x ∈ S, 34 ≤ x) : Both w' o' b c s N :=
  ⟨h.1.frame st (fun hx => by have := hS _ hx; omega) (fun hx => by have := hS _ hx; omega) (fun hx => by have := hS _ hx; omega) (fun hx => by have := hS _ hx; omega),
   h.2.frame st (fun hx => by have := hS _ hx; omega) (fun hx => by have := hS _ hx; omega) (fun hx => by have := hS _ hx; omega) (fun hx => by have := hS _ hx; omega)⟩

set_option maxRecDepth 100000 in
set_option maxHeartbeats 40000000 in
theorem does_ok {w : World} {o : Owner} {b c N n : Nat} {s : Dst} {l : List Int} (a : Ac) (h : Both w o b c s N) (hN : N < 800000000) (hy : 0 ≤ a.y ∧ a.y ≤ 255) (hS : a.S.size ≤ 40) (hX : I64 a.X) (hl : Rd w o 0 1 a.lv n (ints l)) :
    Calls Try.prog 27 #[.pointer (some ⟨b, 0, none⟩), .pointer (some ⟨c, 0, none⟩), .agg a.arr] w fun e w' => e = .returned (.bool true) ∧ ∃ o' s', Both w' o' b c s' (N + 2000) ∧ Step [10, 11, 12, 13, 30, 31, 32, 33, 40, 41] w o w' o' := by
  obtain ⟨y, S, X, lv, mw, ml⟩ := a
  simp only [Ac.arr] at *
  obtain ⟨ao, cap, rfl, gl1, gl2⟩ : ∃ ao cap, lv = .slice ao n cap ∧ n ≤ cap ∧ cap ≤ maxLen := by
    obtain ⟨ao, cap, h1, h2, h3, -⟩ := hl; exact ⟨ao, cap, h1, h2, h3⟩
  have s1 : Step [] w o (w.alloc (.cells #[.int .u8 y, .string S, .int .i64 X, .slice ao n cap, .int .i64 mw, .int .i64 ml] 60)) (o.set w.heap.size 50) := ((Step.refl _ _ _).alloc _).give (Nat.le_refl _) _
  have hbx := Blk.new w o 50 60 #[.int .u8 y, .string S, .int .i64 X, .slice ao n cap, .int .i64 mw, .int .i64 ml]
  replace h := h.frame s1 (by simp)
  replace hl := hl.frame s1 (by simp)
  generalize o.set w.heap.size 50 = o1 at s1 h hl hbx
  obtain ⟨z, hz⟩ : ∃ z, w.heap.size = z := ⟨_, rfl⟩
  rw [hz] at hbx
  obtain ⟨W1, hW1⟩ : ∃ W1, w.alloc (.cells #[.int .u8 y, .string S, .int .i64 X, .slice ao n cap, .int .i64 mw, .int .i64 ml] 60) = W1 := ⟨_, rfl⟩
  rw [hW1] at s1 h hl hbx
  have hcells : ∀ W o', Step [] W1 o1 W o' → W.cell? ⟨z, 0, none⟩ = some (.int .u8 y) ∧ W.cell? ⟨z, 1, none⟩ = some (.string S) ∧ W.cell? ⟨z, 2, none⟩ = some (.int .i64 X) ∧ W.cell? ⟨z, 3, none⟩ = some (.slice ao n cap) ∧ W.cell? ⟨z, 4, none⟩ = some (.int .i64 mw) ∧ W.cell? ⟨z, 5, none⟩ = some (.int .i64 ml) := fun W o' st =>
    ⟨(hbx.frame st (by simp)).cell 0, (hbx.frame st (by simp)).cell 1, (hbx.frame st (by simp)).cell 2, (hbx.frame st (by simp)).cell 3, (hbx.frame st (by simp)).cell 4, (hbx.frame st (by simp)).cell 5⟩
  obtain ⟨c0, c1, c2, c3, c4, c5⟩ := hcells _ _ (Step.refl _ _ _)
  rw [← hW1] at c0 c1 c2 c3 c4 c5
  have HW1 := Lib.hid hW1
  have hwl := h.1.ok.wl
  obtain ⟨kk, hkk⟩ : ∃ kk, y % 9 = kk := ⟨_, rfl⟩
  have hk9 : kk = 0 ∨ kk = 1 ∨ kk = 2 ∨ kk = 3 ∨ kk = 4 ∨ kk = 5 ∨ kk = 6 ∨ kk = 7 ∨ kk = 8 := by omega
  clear hW1
  rcases hk9 with rfl | rfl | rfl | rfl | rfl | rfl | rfl | rfl | rfl
  · -- Add
    obtain ⟨E, hE⟩ : ∃ E, addE s S = E := ⟨_, rfl⟩
    go_enter Try.func27, Try.ntmps27
    go_wp2_with fail
    have sd : Step [] W1 o1 W1.drew o1 := (Step.refl _ _ _).drew
    have hd := h.frame sd (by simp)
    have hld := hl.frame sd (by simp)
    have hbd := hbx.frame sd (by simp)
    have S0 := s1.trans sd
    obtain ⟨d0, d1, d2, d3, d4, d5⟩ := hcells _ _ sd
    rw [HW1.out]
    clear c0 c1 c2 c3 c4 c5
    have hA1 : ∀ W oW, Step [30, 31, 32, 33] W1.drew o1 W oW → Calls Try.prog 11 #[.pointer (some ⟨b, 0, none⟩), .string S, .int .i64 X] W fun e w' => e = .returned (.int .i64 E) ∧ ∃ o', DB w' o' 10 b (addS s S X) (N + 1) ∧ Step [10, 11, 13] W oW w' o' := fun W oW st => by have := add_ok (hd.1.frame st (by decide) (by decide) (by decide) (by decide)) (by omega) S (by omega) X; rw [hE] at this; exact this
    have hA2 : ∀ W oW, Step [10, 11, 12, 13] W1.drew o1 W oW → Calls Try.prog 39 #[.pointer (some ⟨c, 0, none⟩), .string S, .int .i64 X] W fun e w' => e = .returned (.int .i64 E) ∧ ∃ o', RB w' o' 30 c (addS s S X) ∧ Step [30, 31] W oW w' o' := fun W oW st => by have := radd_ok (hd.2.frame st (by decide) (by decide) (by decide) (by decide)) S (by omega) X; rw [hE] at this; exact this
    go_region_held3 (fun W => W.cell? ⟨z, 1, none⟩ = some (.string S) ∧ W.cell? ⟨z, 2, none⟩ = some (.int .i64 X))
      (exact ⟨hbd.cell 1, hbd.cell 2⟩)
      (first
        | (go_at_call 11; (first | (refine (hA1 _ _ (Step.refl _ _ _)).mono ?_; rintro e w5 ⟨rfl, o5, h5, s5⟩) | (refine (hA1 _ _ (s6.weaken (by simp))).mono ?_; rintro e w5 ⟨rfl, o5, h5, s5⟩; replace h6 := h6.frame s5 (by decide) (by decide) (by decide) (by decide))); replace hbd := hbd.frame s5 (by decide); replace S0 : Step [10, 11, 12, 13, 30, 31, 32, 33, 40, 41] _ _ _ _ := (S0.weaken (by simp)).trans (s5.weaken (by simp)))
        | (go_at_call 39; (first | (refine (hA2 _ _ (Step.refl _ _ _)).mono ?_; rintro e w6 ⟨rfl, o6, h6, s6⟩) | (refine (hA2 _ _ (s5.weaken (by simp))).mono ?_; rintro e w6 ⟨rfl, o6, h6, s6⟩; replace h5 := h5.frame s6 (by decide) (by decide) (by decide) (by decide))); replace hbd := hbd.frame s6 (by decide); replace S0 : Step [10, 11, 12, 13, 30, 31, 32, 33, 40, 41] _ _ _ _ := (S0.weaken (by simp)).trans (s6.weaken (by simp))))
    all_goals go_wp2_with fail
    all_goals go_ret
    all_goals exact ⟨rfl, _, addS s S X, ⟨h5.mono (by omega), h6⟩, S0⟩
  · -- Now
    go_enter Try.func27, Try.ntmps27
    go_wp2_with fail
    rw [HW1.out]
    refine (now_ok h.1).mono ?_
    rintro e w5 ⟨rfl, h5, s5⟩
    have h6 := rnow_ok (h.2.frame s5 (by decide) (by decide) (by decide) (by decide))
    go_wp2_with fail
    refine h6.mono ?_
    rintro e w6 ⟨rfl, h6, s6⟩
    have hee : (nowE s == nowE s) = true := by simp
    go_wp2_with fail
    go_ret
    exact ⟨rfl, _, nowS s, ⟨(h5.frame s6 (by decide) (by decide) (by decide) (by decide)).mono (by omega), h6⟩, ((s1.weaken (by simp)).trans (s5.weaken (by simp))).trans (s6.weaken (by simp))⟩
  · -- Find
    obtain ⟨E, hE⟩ : ∃ E, findD s S = E := ⟨_, rfl⟩
    obtain ⟨en, hen⟩ : ∃ en, nmO E = en := ⟨_, rfl⟩
    obtain ⟨ex, hex⟩ : ∃ ex, xtO E = ex := ⟨_, rfl⟩
    obtain ⟨ew, hew⟩ : ∃ ew, nwO E = ew := ⟨_, rfl⟩
    obtain ⟨ei, hei⟩ : ∃ ei, E.isSome = ei := ⟨_, rfl⟩
    have hEV : entV (findD s S) = .tuple #[.agg #[.string en, .int .i64 ex, .bool ew], .bool ei] := by rw [hE, entV_eq, hen, hex, hew, hei]
    have hq1 : (en.toList == en.toList) = true := by simp
    have hq2 : (ew == ew) = true := by simp
    have hq3 : (ei == ei) = true := by simp
    have HEV := Lib.hid hEV
    clear hE hen hex hew hei hEV
    go_enter Try.func27, Try.ntmps27
    go_wp2_with fail
    rw [HW1.out]
    have hf1 := find_ok h.1 S (by omega)
    rw [HEV.out] at hf1
    refine hf1.mono ?_
    rintro e w5 ⟨rfl, o5, s5⟩
    have sA := s5.alloc (.cells #[.string en, .int .i64 ex, .bool ew] 34)
    have E5 := E3.new w5 (.string en) (.int .i64 ex) (.bool ew)
    obtain ⟨d0, d1, d2, d3, d4, d5⟩ := hcells _ _ sA
    have hf2 := rfind_ok (h.2.nil sA) S (by omega)
    rw [HEV.out] at hf2
    clear hf1 c0 c1 c2 c3 c4 c5
    go_wp2_with fail
    refine hf2.mono ?_
    rintro e w6 ⟨rfl, o6, s6⟩
    have sB := (Step.refl [] w6 o6).alloc (.cells #[.string en, .int .i64 ex, .bool ew] 34)
    obtain ⟨x0, x1, x2, -⟩ := ((E5.nil s6).nil sB).cells
    obtain ⟨y0, y1, y2, -⟩ := (E3.new w6 (.string en) (.int .i64 ex) (.bool ew)).cells
    have S6 := (sA.trans s6).trans sB
    clear hf2 d0 d1 d2 d3 d4 d5
    go_wp2_with fail
    go_ret
    exact ⟨rfl, _, s, ⟨(h.1.nil S6).mono (by omega), h.2.nil S6⟩, (s1.trans S6).nil⟩
  · -- In
    obtain ⟨E, hE⟩ : ∃ E, inD s X S = E := ⟨_, rfl⟩
    obtain ⟨en, hen⟩ : ∃ en, nmO E = en := ⟨_, rfl⟩
    obtain ⟨ex, hex⟩ : ∃ ex, xtO E = ex := ⟨_, rfl⟩
    obtain ⟨ew, hew⟩ : ∃ ew, nwO E = ew := ⟨_, rfl⟩
    obtain ⟨ei, hei⟩ : ∃ ei, E.isSome = ei := ⟨_, rfl⟩
    have hEV : entV (inD s X S) = .tuple #[.agg #[.string en, .int .i64 ex, .bool ew], .bool ei] := by rw [hE, entV_eq, hen, hex, hew, hei]
    have hq1 : (en.toList == en.toList) = true := by simp
    have hq2 : (ew == ew) = true := by simp
    have hq3 : (ei == ei) = true := by simp
    have HEV := Lib.hid hEV
    clear hE hen hex hew hei hEV
    go_enter Try.func27, Try.ntmps27
    go_wp2_with fail
    rw [HW1.out]
    have hf1 := in_ok h.1 X hX S (by omega)
    rw [HEV.out] at hf1
    refine hf1.mono ?_
    rintro e w5 ⟨rfl, s5⟩
    have sA := s5.alloc (.cells #[.string en, .int .i64 ex, .bool ew] 34)
    have E5 := E3.new w5 (.string en) (.int .i64 ex) (.bool ew)
    obtain ⟨d0, d1, d2, d3, d4, d5⟩ := hcells _ _ sA
    have hf2 := rin_ok (h.2.nil sA) X S (by omega)
    rw [HEV.out] at hf2
    clear hf1 c0 c1 c2 c3 c4 c5
    go_wp2_with fail
    refine hf2.mono ?_
    rintro e w6 ⟨rfl, o6, s6⟩
    have sB := (Step.refl [] w6 o6).alloc (.cells #[.string en, .int .i64 ex, .bool ew] 34)
    obtain ⟨x0, x1, x2, -⟩ := ((E5.nil s6).nil sB).cells
    obtain ⟨y0, y1, y2, -⟩ := (E3.new w6 (.string en) (.int .i64 ex) (.bool ew)).cells
    have S6 := (sA.trans s6).trans sB
    clear hf2 d0 d1 d2 d3 d4 d5
    go_wp2_with fail
    go_ret
    exact ⟨rfl, _, s, ⟨(h.1.nil S6).mono (by omega), h.2.nil S6⟩, (s1.trans S6).nil⟩
  · -- Names
    obtain ⟨R, hR⟩ : ∃ R, namesD s X = R := ⟨_, rfl⟩
    have hRl : R.length ≤ 1000000 := by
      have : R.length ≤ s.ws.length := by rw [← hR]; exact dnamesD_len _ _
      omega
    go_enter Try.func27, Try.ntmps27
    go_wp2_with fail
    have sd : Step [] W1 o1 W1.drew o1 := (Step.refl _ _ _).drew
    have hd := h.frame sd (by simp)
    have hld := hl.frame sd (by simp)
    have hbd := hbx.frame sd (by simp)
    have S0 := s1.trans sd
    obtain ⟨d0, d1, d2, d3, d4, d5⟩ := hcells _ _ sd
    rw [HW1.out]
    clear c0 c1 c2 c3 c4 c5
    have hN1 : ∀ W oW, Step [41] W1.drew o1 W oW → Calls Try.prog 13 #[.pointer (some ⟨b, 0, none⟩), .int .i64 X] W fun e w' => ∃ v o', e = .returned v ∧ Row w' o' 40 9 1 v R.length (strs R) ∧ Step [40] W oW w' o' := fun W oW st => by
      have := names_ok (hd.1.frame st (by decide) (by decide) (by decide) (by decide)) X hX 40 (by decide) (by decide) (by decide) (by decide)
      rw [hR] at this
      exact this
    have hN2 : ∀ W oW, Step [40] W1.drew o1 W oW → Calls Try.prog 29 #[.pointer (some ⟨c, 0, none⟩), .int .i64 X] W fun e w' => ∃ v o', e = .returned v ∧ Row w' o' 41 9 1 v R.length (strs R) ∧ Step [41] W oW w' o' := fun W oW st => by
      have := rnames_ok (hd.2.frame st (by decide) (by decide) (by decide) (by decide)) X 41 (by decide) (by decide) (by decide)
      rw [hR] at this
      exact this
    clear hR
    go_region_held3 (fun W => W.cell? ⟨z, 2, none⟩ = some (.int .i64 X))
      (exact hbd.cell 2)
      (first
        | (go_at_call 13; (first | (refine (hN1 _ _ (Step.refl _ _ _)).mono ?_; rintro e w5 ⟨v5, p5, rfl, hr5, s5⟩) | (refine (hN1 _ _ s6).mono ?_; rintro e w5 ⟨v5, p5, rfl, hr5, s5⟩; replace hr6 := hr6.frame s5 (by decide))); replace hbd := hbd.frame s5 (by decide); replace hd := hd.frame s5 (by decide); replace S0 : Step [10, 11, 12, 13, 30, 31, 32, 33, 40, 41] _ _ _ _ := (S0.weaken (by simp)).trans (s5.weaken (by simp)))
        | (go_at_call 29; (first | (refine (hN2 _ _ (Step.refl _ _ _)).mono ?_; rintro e w6 ⟨v6, p6, rfl, hr6, s6⟩) | (refine (hN2 _ _ s5).mono ?_; rintro e w6 ⟨v6, p6, rfl, hr6, s6⟩; replace hr5 := hr5.frame s6 (by decide))); replace hbd := hbd.frame s6 (by decide); replace hd := hd.frame s6 (by decide); replace S0 : Step [10, 11, 12, 13, 30, 31, 32, 33, 40, 41] _ _ _ _ := (S0.weaken (by simp)).trans (s6.weaken (by simp)))
        | (go_at_call 12; refine (texts_ok hr5.rd hr6.rd hRl hRl).mono ?_; rintro e w9 ⟨rfl, s9⟩; replace hbd := hbd.frame s9 (by simp); replace hd := hd.frame s9 (by simp); replace S0 := S0.trans s9.nil))
    all_goals go_wp2_with fail
    all_goals go_ret
    all_goals exact ⟨by simp, _, s, ⟨hd.1.mono (by omega), hd.2⟩, S0⟩
  · -- List
    go_enter Try.func27, Try.ntmps27
    go_wp2_with fail
    rw [HW1.out]
    refine (list_ok h.1 (by omega)).mono ?_
    rintro e w5 ⟨rfl, h5, s5⟩
    have h6 := rlist_ok (h.2.frame s5 (by decide) (by decide) (by decide) (by decide))
    generalize listK s = K1 at h6 ⊢
    generalize listE s = K2 at h6 ⊢
    go_wp2_with fail
    refine h6.mono ?_
    rintro e w6 ⟨rfl, h6, s6⟩
    have hee : (K1 == K1) = true := by simp
    have hef : (K2 == K2) = true := by simp
    go_wp2_with fail
    go_ret
    exact ⟨rfl, _, listS s, ⟨(h5.frame s6 (by decide) (by decide) (by decide) (by decide)).mono (by omega), h6⟩, ((s1.weaken (by simp)).trans (s5.weaken (by simp))).trans (s6.weaken (by simp))⟩
  · -- SetOrder
    obtain ⟨E, hE⟩ : ∃ E, ordE s l = E := ⟨_, rfl⟩
    go_enter Try.func27, Try.ntmps27
    go_wp2_with fail
    have sd : Step [] W1 o1 W1.drew o1 := (Step.refl _ _ _).drew
    have hd := h.frame sd (by simp)
    have hld := hl.frame sd (by simp)
    have hbd := hbx.frame sd (by simp)
    have S0 := s1.trans sd
    obtain ⟨d0, d1, d2, d3, d4, d5⟩ := hcells _ _ sd
    rw [HW1.out]
    clear c0 c1 c2 c3 c4 c5
    have hA1 : ∀ W oW, Step [30, 31, 32, 33] W1.drew o1 W oW → Calls Try.prog 20 #[.pointer (some ⟨b, 0, none⟩), .slice ao n cap] W fun e w' => e = .returned (.int .i64 E) ∧ ∃ o', DB w' o' 10 b (ordS s l) N ∧ Step [10] W oW w' o' := fun W oW st => by have := setorder_ok (hd.1.frame st (by decide) (by decide) (by decide) (by decide)) (hld.frame st (by decide)); rw [hE] at this; exact this
    have hA2 : ∀ W oW, Step [10, 11, 12, 13] W1.drew o1 W oW → Calls Try.prog 44 #[.pointer (some ⟨c, 0, none⟩), .slice ao n cap] W fun e w' => e = .returned (.int .i64 E) ∧ ∃ o', RB w' o' 30 c (ordS s l) ∧ Step [30] W oW w' o' := fun W oW st => by have := rsetorder_ok (hd.2.frame st (by decide) (by decide) (by decide) (by decide)) (hld.frame st (by decide)); rw [hE] at this; exact this
    go_region_held3 (fun W => W.cell? ⟨z, 3, none⟩ = some (.slice ao n cap))
      (exact hbd.cell 3)
      (first
        | (go_at_call 20; (first | (refine (hA1 _ _ (Step.refl _ _ _)).mono ?_; rintro e w5 ⟨rfl, o5, h5, s5⟩) | (refine (hA1 _ _ (s6.weaken (by simp))).mono ?_; rintro e w5 ⟨rfl, o5, h5, s5⟩; replace h6 := h6.frame s5 (by decide) (by decide) (by decide) (by decide))); replace hbd := hbd.frame s5 (by decide); replace S0 : Step [10, 11, 12, 13, 30, 31, 32, 33, 40, 41] _ _ _ _ := (S0.weaken (by simp)).trans (s5.weaken (by simp)))
        | (go_at_call 44; (first | (refine (hA2 _ _ (Step.refl _ _ _)).mono ?_; rintro e w6 ⟨rfl, o6, h6, s6⟩) | (refine (hA2 _ _ (s5.weaken (by simp))).mono ?_; rintro e w6 ⟨rfl, o6, h6, s6⟩; replace h5 := h5.frame s6 (by decide) (by decide) (by decide) (by decide))); replace hbd := hbd.frame s6 (by decide); replace S0 : Step [10, 11, 12, 13, 30, 31, 32, 33, 40, 41] _ _ _ _ := (S0.weaken (by simp)).trans (s6.weaken (by simp))))
    all_goals go_wp2_with fail
    all_goals go_ret
    all_goals exact ⟨rfl, _, ordS s l, ⟨h5.mono (by omega), h6⟩, S0⟩
  · -- SetCurrent
    obtain ⟨E, hE⟩ : ∃ E, curE s X = E := ⟨_, rfl⟩
    go_enter Try.func27, Try.ntmps27
    go_wp2_with fail
    have sd : Step [] W1 o1 W1.drew o1 := (Step.refl _ _ _).drew
    have hd := h.frame sd (by simp)
    have hld := hl.frame sd (by simp)
    have hbd := hbx.frame sd (by simp)
    have S0 := s1.trans sd
    obtain ⟨d0, d1, d2, d3, d4, d5⟩ := hcells _ _ sd
    rw [HW1.out]
    clear c0 c1 c2 c3 c4 c5
    have hA1 : ∀ W oW, Step [30, 31, 32, 33] W1.drew o1 W oW → Calls Try.prog 17 #[.pointer (some ⟨b, 0, none⟩), .int .i64 X] W fun e w' => e = .returned (.int .i64 E) ∧ ∃ o', DB w' o' 10 b (curS s X) N ∧ Step [10] W oW w' o' := fun W oW st => by have := (cur_ok (hd.1.frame st (by decide) (by decide) (by decide) (by decide)) X).mono fun e w' (k : _ ∧ _ ∧ _) => (⟨k.1, oW, k.2⟩ : e = .returned (.int .i64 (curE s X)) ∧ ∃ o', DB w' o' 10 b (curS s X) N ∧ Step [10] W oW w' o'); rw [hE] at this; exact this
    have hA2 : ∀ W oW, Step [10, 11, 12, 13] W1.drew o1 W oW → Calls Try.prog 45 #[.pointer (some ⟨c, 0, none⟩), .int .i64 X] W fun e w' => e = .returned (.int .i64 E) ∧ ∃ o', RB w' o' 30 c (curS s X) ∧ Step [30] W oW w' o' := fun W oW st => by have := (rcur_ok (hd.2.frame st (by decide) (by decide) (by decide) (by decide)) X).mono fun e w' (k : _ ∧ _ ∧ _) => (⟨k.1, oW, k.2⟩ : e = .returned (.int .i64 (curE s X)) ∧ ∃ o', RB w' o' 30 c (curS s X) ∧ Step [30] W oW w' o'); rw [hE] at this; exact this
    go_region_held3 (fun W => W.cell? ⟨z, 2, none⟩ = some (.int .i64 X))
      (exact hbd.cell 2)
      (first
        | (go_at_call 17; (first | (refine (hA1 _ _ (Step.refl _ _ _)).mono ?_; rintro e w5 ⟨rfl, o5, h5, s5⟩) | (refine (hA1 _ _ (s6.weaken (by simp))).mono ?_; rintro e w5 ⟨rfl, o5, h5, s5⟩; replace h6 := h6.frame s5 (by decide) (by decide) (by decide) (by decide))); replace hbd := hbd.frame s5 (by decide); replace S0 : Step [10, 11, 12, 13, 30, 31, 32, 33, 40, 41] _ _ _ _ := (S0.weaken (by simp)).trans (s5.weaken (by simp)))
        | (go_at_call 45; (first | (refine (hA2 _ _ (Step.refl _ _ _)).mono ?_; rintro e w6 ⟨rfl, o6, h6, s6⟩) | (refine (hA2 _ _ (s5.weaken (by simp))).mono ?_; rintro e w6 ⟨rfl, o6, h6, s6⟩; replace h5 := h5.frame s6 (by decide) (by decide) (by decide) (by decide))); replace hbd := hbd.frame s6 (by decide); replace S0 : Step [10, 11, 12, 13, 30, 31, 32, 33, 40, 41] _ _ _ _ := (S0.weaken (by simp)).trans (s6.weaken (by simp))))
    all_goals go_wp2_with fail
    all_goals go_ret
    all_goals exact ⟨rfl, _, curS s X, ⟨h5.mono (by omega), h6⟩, S0⟩
  · -- Back
    obtain ⟨E, hE⟩ : ∃ E, backE s mw ml = E := ⟨_, rfl⟩
    go_enter Try.func27, Try.ntmps27
    go_wp2_with fail
    have sd : Step [] W1 o1 W1.drew o1 := (Step.refl _ _ _).drew
    have hd := h.frame sd (by simp)
    have hld := hl.frame sd (by simp)
    have hbd := hbx.frame sd (by simp)
    have S0 := s1.trans sd
    obtain ⟨d0, d1, d2, d3, d4, d5⟩ := hcells _ _ sd
    rw [HW1.out]
    clear c0 c1 c2 c3 c4 c5
    have hA1 : ∀ W oW, Step [30, 31, 32, 33] W1.drew o1 W oW → Calls Try.prog 24 #[.pointer (some ⟨b, 0, none⟩), .agg #[.int .i64 mw, .int .i64 ml]] W fun e w' => e = .returned (.int .i64 E) ∧ ∃ o', DB w' o' 10 b (backS s mw ml) (N + 2000) ∧ Step [10, 12, 13] W oW w' o' := fun W oW st => by have := back_ok (hd.1.frame st (by decide) (by decide) (by decide) (by decide)) (by omega) mw ml; rw [hE] at this; exact this
    have hA2 : ∀ W oW, Step [10, 11, 12, 13] W1.drew o1 W oW → Calls Try.prog 46 #[.pointer (some ⟨c, 0, none⟩), .agg #[.int .i64 mw, .int .i64 ml]] W fun e w' => e = .returned (.int .i64 E) ∧ ∃ o', RB w' o' 30 c (backS s mw ml) ∧ Step [30, 32, 33] W oW w' o' := fun W oW st => by have := rback_ok (hd.2.frame st (by decide) (by decide) (by decide) (by decide)) mw ml; rw [hE] at this; exact this
    go_region_held3 (fun W => W.cell? ⟨z, 4, none⟩ = some (.int .i64 mw) ∧ W.cell? ⟨z, 5, none⟩ = some (.int .i64 ml))
      (exact ⟨hbd.cell 4, hbd.cell 5⟩)
      (first
        | (go_at_call 24; (first | (refine (hA1 _ _ (Step.refl _ _ _)).mono ?_; rintro e w5 ⟨rfl, o5, h5, s5⟩) | (refine (hA1 _ _ (s6.weaken (by simp))).mono ?_; rintro e w5 ⟨rfl, o5, h5, s5⟩; replace h6 := h6.frame s5 (by decide) (by decide) (by decide) (by decide))); replace hbd := hbd.frame s5 (by decide); replace S0 : Step [10, 11, 12, 13, 30, 31, 32, 33, 40, 41] _ _ _ _ := (S0.weaken (by simp)).trans (s5.weaken (by simp)))
        | (go_at_call 46; (first | (refine (hA2 _ _ (Step.refl _ _ _)).mono ?_; rintro e w6 ⟨rfl, o6, h6, s6⟩) | (refine (hA2 _ _ (s5.weaken (by simp))).mono ?_; rintro e w6 ⟨rfl, o6, h6, s6⟩; replace h5 := h5.frame s6 (by decide) (by decide) (by decide) (by decide))); replace hbd := hbd.frame s6 (by decide); replace S0 : Step [10, 11, 12, 13, 30, 31, 32, 33, 40, 41] _ _ _ _ := (S0.weaken (by simp)).trans (s6.weaken (by simp))))
    all_goals go_wp2_with fail
    all_goals go_ret
    all_goals exact ⟨rfl, _, backS s mw ml, ⟨h5.mono (by omega), h6⟩, S0⟩
end Go.Proofs.Ytaledmoakhlmgaa
