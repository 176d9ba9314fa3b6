/- The number that a text is: the program's side. -/
import Derived.Test.YtfeeikhcdphcpaaDigN
namespace Go.Proofs.Ytfeeikhcdphcpaa
open Go Go.RowKit
set_option linter.unusedSimpArgs false
set_option linter.unusedVariables false

theorem right_base {c : UInt8} {b : Int} (h : rightB b = true) : rightB (baseB c b) = true := by
  unfold baseB base1
  by_cases h1 : c = 35
  · simp [h1]; rfl
  · by_cases h2 : c = 36
    · simp [h2]; rfl
    · by_cases h3 : c = 37
      · simp [h3]; rfl
      · simp [h1, h2, h3, h]
theorem base_C {c : UInt8} {b : Int} (h : rightB b = true) : C64 (baseB c b) := by
  obtain ⟨h1, h2⟩ := right_C (right_base (c := c) h)
  exact ⟨by omega, by omega⟩
theorem negL_len (l : List UInt8) : (negL l).length ≤ l.length := by unfold negL; split <;> simp
theorem dotL_len (l : List UInt8) : (dotL l).length ≤ l.length := by unfold dotL; split <;> simp
theorem baseL_len (c : UInt8) (r : List UInt8) : (baseL c r).length ≤ r.length + 1 := by unfold baseL; split <;> simp
theorem pv_low {v vl vh : Int} (e : pv v = .agg #[.int .i64 vl, .int .i64 vh]) : pv (v % 18446744073709551616) = .agg #[.int .i64 vl, .int .i64 0] := by
  have := pv_fst e
  refine pv_of ?_ ?_
  · rw [← this]; unfold wrap64; omega
  · unfold wrap64; omega
/-- The number that a text is, and its kind, as values. -/
def numV (l : List UInt8) (b : Int) : Value := .tuple #[pv (num l b).1, .int .i64 (num l b).2]
theorem num_none {b1 : Int} {neg : Bool} {l2 : List UInt8} (h : dotL l2 = [] ∨ 0 < (acc b1 0 (dotL l2)).2) : numE b1 neg l2 = (0, 0) := by unfold numE; rw [if_pos h]
theorem num_some {b1 : Int} {neg : Bool} {l2 : List UInt8} (h1 : ¬ dotL l2 = []) (h2 : ¬ 0 < (acc b1 0 (dotL l2)).2) :
    numE b1 neg l2 = if dotB l2 then (if neg then -(acc b1 0 (dotL l2)).1 else (acc b1 0 (dotL l2)).1, 2) else ((if neg then -(acc b1 0 (dotL l2)).1 else (acc b1 0 (dotL l2)).1) % 18446744073709551616, 1) := by
  unfold numE; rw [if_neg (by rintro (h | h); exact h1 h; exact h2 h)]
theorem em_bl (l : List UInt8) : (bl l).toList.isEmpty = l.isEmpty := by rw [bl_toList]

set_option maxHeartbeats 16000000 in
theorem number_ok (l : List UInt8) (hl : l.length ≤ 1000) (b : Int) (hb : C64 b) (w : World) : Calls Try.prog 24 #[.string (bl l), .int .i64 b] w fun e w' => e = .returned (numV l b) ∧ Calm w w' := by
  have hri := right_ok b
  cases hr : rightB b with
  | false =>
    rw [hr] at hri
    rw [show numV l b = .tuple #[.agg #[.int .i64 0, .int .i64 0], .int .i64 0] by unfold numV num; rw [hr, if_neg Bool.false_ne_true, pv_zero]]
    generalize bl l = s
    go_enter Try.func24, Try.ntmps24
    go_wp2_with (go_at_call 28; refine (hri _).mono ?_; rintro e w1 ⟨rfl, rfl⟩)
    simp [bodyPost, results, Try.results24, go_sem]
    exact (Calm.refl _).alloc _
  | true =>
    rw [hr] at hri
    cases l with
    | nil =>
      rw [show numV [] b = .tuple #[.agg #[.int .i64 0, .int .i64 0], .int .i64 0] by unfold numV num; rw [hr, if_pos rfl, pv_zero]]
      have hem := em_bl []
      generalize bl [] = s at *
      go_enter Try.func24, Try.ntmps24
      go_wp2_with (go_at_call 28; refine (hri _).mono ?_; rintro e w1 ⟨rfl, rfl⟩)
      simp [bodyPost, results, Try.results24, go_sem]
      exact (Calm.refl _).alloc _
    | cons c r =>
      have hnum : num (c :: r) b = numE (baseB c b) (negB (baseL c r)) (negL (baseL c r)) := by unfold num; rw [hr, if_pos rfl]
      have hba := bases_ok c
      obtain ⟨b0, hb0⟩ : ∃ b0, base1 c = b0 := ⟨_, rfl⟩
      have hb0v : b0 = 0 ∨ 0 < b0 := by subst hb0; unfold base1; split; omega; split; omega; split <;> omega
      obtain ⟨b1, hb1⟩ : ∃ b1, baseB c b = b1 := ⟨_, rfl⟩
      have hb1r : rightB b1 = true := by rw [← hb1]; exact right_base hr
      have hb1c : C64 b1 := by rw [← hb1]; exact base_C hr
      obtain ⟨l1, hl1⟩ : ∃ l1, baseL c r = l1 := ⟨_, rfl⟩
      have hl1n : l1.length ≤ 1000 := by rw [← hl1]; have := baseL_len c r; simp only [List.length_cons] at hl; omega
      have hb1e : (b0 = 0 → b1 = b ∧ l1 = c :: r) ∧ (0 < b0 → b1 = b0 ∧ l1 = r) := by
        rw [← hb1, ← hl1]; unfold baseB baseL; rw [hb0]
        exact ⟨fun h => by rw [if_pos h, if_pos h]; exact ⟨rfl, rfl⟩, fun h => by rw [if_neg (by omega), if_neg (by omega)]; exact ⟨rfl, rfl⟩⟩
      rw [hb1, hl1] at hnum
      rw [hb0] at hba
      have hcp := cutpre_ok 45 l1 (by omega)
      rw [show (if l1.head? == some 45 then l1.tail else l1) = negL l1 from rfl, show (l1.head? == some 45) = negB l1 from rfl] at hcp
      obtain ⟨l2, hl2⟩ : ∃ l2, negL l1 = l2 := ⟨_, rfl⟩
      have hl2n : l2.length ≤ 1000 := by rw [← hl2]; have := negL_len l1; omega
      have hcs := cutsuf_ok 46 l2 (by omega)
      rw [show (if l2.getLast? == some 46 then l2.dropLast else l2) = dotL l2 from rfl, show (l2.getLast? == some 46) = dotB l2 from rfl] at hcs
      rw [hl2] at hcp hnum
      obtain ⟨l3, hl3⟩ : ∃ l3, dotL l2 = l3 := ⟨_, rfl⟩
      have hl3n : l3.length ≤ 1000 := by rw [← hl3]; have := dotL_len l2; omega
      have hac := accept_ok 0 b1 hb1c (bl l3) (by rw [bl_size]; omega)
      have hnn := num_none (b1 := b1) (neg := negB l1) (l2 := l2)
      have hns := num_some (b1 := b1) (neg := negB l1) (l2 := l2)
      rw [accV, hb1r, if_pos rfl, if_pos rfl, lst_bl, pv_zero] at hac
      rw [hl3] at hcs hnn hns
      obtain ⟨neg, hneg⟩ : ∃ neg, negB l1 = neg := ⟨_, rfl⟩
      obtain ⟨dot, hdot⟩ : ∃ dot, dotB l2 = dot := ⟨_, rfl⟩
      rw [hneg] at hcp hnum hnn hns
      rw [hdot] at hcs hns
      obtain ⟨left, hleft⟩ : ∃ left, (acc b1 0 l3).2 = left := ⟨_, rfl⟩
      obtain ⟨A, hA⟩ : ∃ A, (acc b1 0 l3).1 = A := ⟨_, rfl⟩
      rw [hleft, hA] at hac
      rw [hleft] at hnn hns
      rw [hA] at hns
      have hem := em_bl l3
      obtain ⟨al, ah, -, -, -, eA, -⟩ := pv_split A
      have hng := neg_calm A
      obtain ⟨gl, gh, -, -, -, eG, -⟩ := pv_split (-A)
      rw [eA] at hac hng
      rw [eG] at hng
      have hsz : 0 < (bl (c :: r)).size := by rw [bl_size]; simp
      have hszi : (1 : Int) ≤ (bl (c :: r)).size := by omega
      have hc0 : ((((bl (c :: r))[0]'hsz).toNat : Nat) : Int) = ((c.toNat : Nat) : Int) := rfl
      have hem0 : (bl (c :: r)).toList.isEmpty = false := by rw [em_bl]; rfl
      have hx : (bl (c :: r)).extract 1 (bl (c :: r)).size = bl r := by rw [bl_ext, bl_size, List.take_of_length_le (by simp)]; simp
      have hs1 : (b0 = 0 → bl l1 = bl (c :: r)) ∧ (0 < b0 → bl l1 = bl r) := ⟨fun h => by rw [(hb1e.1 h).2], fun h => by rw [(hb1e.2 h).2]⟩
      have hb1f : (b0 = 0 → b1 = b) ∧ (0 < b0 → b1 = b0) := ⟨fun h => (hb1e.1 h).1, fun h => (hb1e.2 h).1⟩
      obtain ⟨V, hV⟩ : ∃ V, numV (c :: r) b = V := ⟨_, rfl⟩
      have hVn : (l3 = [] ∨ 0 < left) → V = .tuple #[.agg #[.int .i64 0, .int .i64 0], .int .i64 0] := by
        intro h; rw [← hV, numV, hnum, hnn h, pv_zero]
      have hVs : ¬ l3 = [] → ¬ 0 < left → V = .tuple #[.agg #[.int .i64 (if neg then gl else al), .int .i64 (if dot then (if neg then gh else ah) else 0)], .int .i64 (if dot then 2 else 1)] := by
        intro h1 h2
        rw [← hV, numV, hnum, hns h1 h2]
        cases dot <;> cases neg <;> simp only [if_true, if_false, Bool.false_eq_true]
        · rw [pv_low eA]
        · rw [pv_low eG]
        · rw [eA]
        · rw [eG]
      rw [hV]
      have hcase : (l3 = [] ∨ 0 < left) ∨ (¬ l3 = [] ∧ ¬ 0 < left) := by
        by_cases h1 : l3 = [] <;> by_cases h2 : 0 < left <;> simp [h1, h2]
      have hl3e : l3 = [] ∨ l3.isEmpty = false := by cases l3 <;> simp
      clear hV hA hleft hdot hneg hl3 hl2 hl1 hb1 hb0 hnn hns hnum hb1e hl hl1n hl2n hl3n hb1r hb1c
      have HEM := Lib.hid hem
      have HL3 := Lib.hid hl3e
      have EA := Lib.hid eA
      have EG := Lib.hid eG
      clear eA eG hem hl3e hr hb
      generalize bl (c :: r) = s at *
      generalize bl r = sr at *
      generalize bl l1 = s1 at *
      generalize bl l2 = s2 at *
      generalize bl l3 = s3 at *
      rcases hb0v with hz | hz
      · subst hz
        obtain rfl := hs1.1 rfl
        obtain rfl := hb1f.1 rfl
        clear hs1 hb1f
        rcases hcase with hc | ⟨hc1, hc2⟩
        · have hv := hVn hc
          subst hv
          clear hVn hVs
          rcases HL3.out with he | he
          · subst he
            have hem := HEM.out
            go_enter Try.func24, Try.ntmps24
            go_wp2_with (first
              | (go_at_call 28; refine (hri _).mono ?_; rintro e w1 ⟨rfl, rfl⟩)
              | (go_at_call 41; refine (hba _).mono ?_; rintro e w2 ⟨rfl, rfl⟩)
              | (go_at_call 42; refine (hcp _).mono ?_; rintro e w3 ⟨rfl, rfl⟩)
              | (go_at_call 43; refine (hcs _).mono ?_; rintro e w4 ⟨rfl, rfl⟩)
              | (go_at_call 21; refine (hac _).mono ?_; rintro e w5 ⟨rfl, s5⟩; have PZ := (PBlk.new w pv_zero).calm (s5); have SZ := ((Calm.refl w).alloc (.cells #[.int .i64 0, .int .i64 0] 24)).trans (s5); obtain ⟨z0, z1, z2, z3⟩ := PZ.cells pv_zero; have PA := PBlk.new w5 EA.out; have PZA := PZ.calm ((Calm.refl _).alloc (.cells #[.int .i64 al, .int .i64 ah] 24)); obtain ⟨y0, y1, y2, y3⟩ := PZA.cells pv_zero))
            have QZ := PZA.set pv_zero
            obtain ⟨q0, q1, -, -⟩ := QZ.cells pv_zero
            refine bodyPost_ret (v := .tuple #[.agg #[.int .i64 0, .int .i64 0], .int .i64 0]) (by simp only [results, Try.results24]; simp [go_sem, q0, q1]) rfl ⟨rfl, ?_⟩
            exact ((SZ.alloc _).set2 (Nat.le_refl _) _ _)
          · have hlf : 0 < left := by rcases hc with h | h; subst h; cases he; exact h
            have hem := HEM.out
            rw [he] at hem
            clear hc he
            go_enter Try.func24, Try.ntmps24
            go_wp2_with (first
              | (go_at_call 28; refine (hri _).mono ?_; rintro e w1 ⟨rfl, rfl⟩)
              | (go_at_call 41; refine (hba _).mono ?_; rintro e w2 ⟨rfl, rfl⟩)
              | (go_at_call 42; refine (hcp _).mono ?_; rintro e w3 ⟨rfl, rfl⟩)
              | (go_at_call 43; refine (hcs _).mono ?_; rintro e w4 ⟨rfl, rfl⟩)
              | (go_at_call 21; refine (hac _).mono ?_; rintro e w5 ⟨rfl, s5⟩; have PZ := (PBlk.new w pv_zero).calm (s5); have SZ := ((Calm.refl w).alloc (.cells #[.int .i64 0, .int .i64 0] 24)).trans (s5); obtain ⟨z0, z1, z2, z3⟩ := PZ.cells pv_zero; have PA := PBlk.new w5 EA.out; have PZA := PZ.calm ((Calm.refl _).alloc (.cells #[.int .i64 al, .int .i64 ah] 24)); obtain ⟨y0, y1, y2, y3⟩ := PZA.cells pv_zero))
            have QZ := PZA.set pv_zero
            obtain ⟨q0, q1, -, -⟩ := QZ.cells pv_zero
            refine bodyPost_ret (v := .tuple #[.agg #[.int .i64 0, .int .i64 0], .int .i64 0]) (by simp only [results, Try.results24]; simp [go_sem, q0, q1]) rfl ⟨rfl, ?_⟩
            exact ((SZ.alloc _).set2 (Nat.le_refl _) _ _)
        · have hv := hVs hc1 hc2
          subst hv
          clear hVn hVs
          have hem := HEM.out
          rw [show l3.isEmpty = false by rcases HL3.out with h | h; exact absurd h hc1; exact h] at hem
          clear hc1
          cases neg <;> cases dot <;> simp only [if_true, if_false, Bool.false_eq_true]
          · go_enter Try.func24, Try.ntmps24
            go_wp2_with (first
              | (go_at_call 28; refine (hri _).mono ?_; rintro e w1 ⟨rfl, rfl⟩)
              | (go_at_call 41; refine (hba _).mono ?_; rintro e w2 ⟨rfl, rfl⟩)
              | (go_at_call 42; refine (hcp _).mono ?_; rintro e w3 ⟨rfl, rfl⟩)
              | (go_at_call 43; refine (hcs _).mono ?_; rintro e w4 ⟨rfl, rfl⟩)
              | (go_at_call 21; refine (hac _).mono ?_; rintro e w5 ⟨rfl, s5⟩; have PZ := (PBlk.new w pv_zero).calm (s5); have SZ := ((Calm.refl w).alloc (.cells #[.int .i64 0, .int .i64 0] 24)).trans (s5); obtain ⟨z0, z1, z2, z3⟩ := PZ.cells pv_zero; have PA := PBlk.new w5 EA.out; have PZA := PZ.calm ((Calm.refl _).alloc (.cells #[.int .i64 al, .int .i64 ah] 24)); obtain ⟨y0, y1, y2, y3⟩ := PZA.cells pv_zero))
            have EF := Lib.hid (pv_low EA.out)
            have QZ := (PZA).set EF.out
            obtain ⟨q0, q1, -, -⟩ := QZ.cells EF.out
            refine bodyPost_ret (v := .tuple #[.agg #[.int .i64 al, .int .i64 0], .int .i64 1]) (by simp only [results, Try.results24]; simp [go_sem, q0, q1]) rfl ⟨rfl, ?_⟩
            exact ((SZ.alloc _).set2 (Nat.le_refl _) _ _)
          · go_enter Try.func24, Try.ntmps24
            go_wp2_with (first
              | (go_at_call 28; refine (hri _).mono ?_; rintro e w1 ⟨rfl, rfl⟩)
              | (go_at_call 41; refine (hba _).mono ?_; rintro e w2 ⟨rfl, rfl⟩)
              | (go_at_call 42; refine (hcp _).mono ?_; rintro e w3 ⟨rfl, rfl⟩)
              | (go_at_call 43; refine (hcs _).mono ?_; rintro e w4 ⟨rfl, rfl⟩)
              | (go_at_call 21; refine (hac _).mono ?_; rintro e w5 ⟨rfl, s5⟩; have PZ := (PBlk.new w pv_zero).calm (s5); have SZ := ((Calm.refl w).alloc (.cells #[.int .i64 0, .int .i64 0] 24)).trans (s5); obtain ⟨z0, z1, z2, z3⟩ := PZ.cells pv_zero; have PA := PBlk.new w5 EA.out; have PZA := PZ.calm ((Calm.refl _).alloc (.cells #[.int .i64 al, .int .i64 ah] 24)); obtain ⟨y0, y1, y2, y3⟩ := PZA.cells pv_zero))
            have EF := Lib.hid (EA.out)
            have QZ := (PZA).set EF.out
            obtain ⟨q0, q1, -, -⟩ := QZ.cells EF.out
            refine bodyPost_ret (v := .tuple #[.agg #[.int .i64 al, .int .i64 ah], .int .i64 2]) (by simp only [results, Try.results24]; simp [go_sem, q0, q1]) rfl ⟨rfl, ?_⟩
            exact ((SZ.alloc _).set2 (Nat.le_refl _) _ _)
          · go_enter Try.func24, Try.ntmps24
            go_wp2_with (first
              | (go_at_call 28; refine (hri _).mono ?_; rintro e w1 ⟨rfl, rfl⟩)
              | (go_at_call 41; refine (hba _).mono ?_; rintro e w2 ⟨rfl, rfl⟩)
              | (go_at_call 42; refine (hcp _).mono ?_; rintro e w3 ⟨rfl, rfl⟩)
              | (go_at_call 43; refine (hcs _).mono ?_; rintro e w4 ⟨rfl, rfl⟩)
              | (go_at_call 21; refine (hac _).mono ?_; rintro e w5 ⟨rfl, s5⟩; have PZ := (PBlk.new w pv_zero).calm (s5); have SZ := ((Calm.refl w).alloc (.cells #[.int .i64 0, .int .i64 0] 24)).trans (s5); obtain ⟨z0, z1, z2, z3⟩ := PZ.cells pv_zero; have PA := PBlk.new w5 EA.out; have PZA := PZ.calm ((Calm.refl _).alloc (.cells #[.int .i64 al, .int .i64 ah] 24)); obtain ⟨y0, y1, y2, y3⟩ := PZA.cells pv_zero)
              | (go_at_call 34; refine (hng _).mono ?_; rintro e w6 ⟨rfl, s6⟩; have PA6 := PA.calm s6; have PZ6 := PZA.calm s6; have PG := PA6.set EG.out; have PZG := PZ6.other2 (c := w5.heap.size) (by have := PZ.lt; omega) (.int .i64 gl) (.int .i64 gh); obtain ⟨x0, x1, x2, x3⟩ := PA6.cells EA.out; obtain ⟨y0, y1, y2, y3⟩ := PZG.cells pv_zero; obtain ⟨v0, v1, v2, v3⟩ := PG.cells EG.out))
            have EF := Lib.hid (pv_low EG.out)
            have QZ := (PZG).set EF.out
            obtain ⟨q0, q1, -, -⟩ := QZ.cells EF.out
            refine bodyPost_ret (v := .tuple #[.agg #[.int .i64 gl, .int .i64 0], .int .i64 1]) (by simp only [results, Try.results24]; simp [go_sem, q0, q1]) rfl ⟨rfl, ?_⟩
            exact (((((SZ.alloc _).trans s6).set2 (b := w5.heap.size) (by have := SZ.size; omega) _ _)).set2 (Nat.le_refl _) _ _)
          · go_enter Try.func24, Try.ntmps24
            go_wp2_with (first
              | (go_at_call 28; refine (hri _).mono ?_; rintro e w1 ⟨rfl, rfl⟩)
              | (go_at_call 41; refine (hba _).mono ?_; rintro e w2 ⟨rfl, rfl⟩)
              | (go_at_call 42; refine (hcp _).mono ?_; rintro e w3 ⟨rfl, rfl⟩)
              | (go_at_call 43; refine (hcs _).mono ?_; rintro e w4 ⟨rfl, rfl⟩)
              | (go_at_call 21; refine (hac _).mono ?_; rintro e w5 ⟨rfl, s5⟩; have PZ := (PBlk.new w pv_zero).calm (s5); have SZ := ((Calm.refl w).alloc (.cells #[.int .i64 0, .int .i64 0] 24)).trans (s5); obtain ⟨z0, z1, z2, z3⟩ := PZ.cells pv_zero; have PA := PBlk.new w5 EA.out; have PZA := PZ.calm ((Calm.refl _).alloc (.cells #[.int .i64 al, .int .i64 ah] 24)); obtain ⟨y0, y1, y2, y3⟩ := PZA.cells pv_zero)
              | (go_at_call 34; refine (hng _).mono ?_; rintro e w6 ⟨rfl, s6⟩; have PA6 := PA.calm s6; have PZ6 := PZA.calm s6; have PG := PA6.set EG.out; have PZG := PZ6.other2 (c := w5.heap.size) (by have := PZ.lt; omega) (.int .i64 gl) (.int .i64 gh); obtain ⟨x0, x1, x2, x3⟩ := PA6.cells EA.out; obtain ⟨y0, y1, y2, y3⟩ := PZG.cells pv_zero; obtain ⟨v0, v1, v2, v3⟩ := PG.cells EG.out))
            have EF := Lib.hid (EG.out)
            have QZ := (PZG).set EF.out
            obtain ⟨q0, q1, -, -⟩ := QZ.cells EF.out
            refine bodyPost_ret (v := .tuple #[.agg #[.int .i64 gl, .int .i64 gh], .int .i64 2]) (by simp only [results, Try.results24]; simp [go_sem, q0, q1]) rfl ⟨rfl, ?_⟩
            exact (((((SZ.alloc _).trans s6).set2 (b := w5.heap.size) (by have := SZ.size; omega) _ _)).set2 (Nat.le_refl _) _ _)
      · obtain rfl := hs1.2 hz
        obtain rfl := hb1f.2 hz
        clear hs1 hb1f
        rcases hcase with hc | ⟨hc1, hc2⟩
        · have hv := hVn hc
          subst hv
          clear hVn hVs
          rcases HL3.out with he | he
          · subst he
            have hem := HEM.out
            go_enter Try.func24, Try.ntmps24
            go_wp2_with (first
              | (go_at_call 28; refine (hri _).mono ?_; rintro e w1 ⟨rfl, rfl⟩)
              | (go_at_call 41; refine (hba _).mono ?_; rintro e w2 ⟨rfl, rfl⟩)
              | (go_at_call 42; refine (hcp _).mono ?_; rintro e w3 ⟨rfl, rfl⟩)
              | (go_at_call 43; refine (hcs _).mono ?_; rintro e w4 ⟨rfl, rfl⟩)
              | (go_at_call 21; refine (hac _).mono ?_; rintro e w5 ⟨rfl, s5⟩; have PZ := (PBlk.new w pv_zero).calm (((Calm.refl _).drewN _).trans s5); have SZ := ((Calm.refl w).alloc (.cells #[.int .i64 0, .int .i64 0] 24)).trans (((Calm.refl _).drewN _).trans s5); obtain ⟨z0, z1, z2, z3⟩ := PZ.cells pv_zero; have PA := PBlk.new w5 EA.out; have PZA := PZ.calm ((Calm.refl _).alloc (.cells #[.int .i64 al, .int .i64 ah] 24)); obtain ⟨y0, y1, y2, y3⟩ := PZA.cells pv_zero))
            go_quiet (fail)
            go_wp2_with (first
              | (go_at_call 28; refine (hri _).mono ?_; rintro e w1 ⟨rfl, rfl⟩)
              | (go_at_call 41; refine (hba _).mono ?_; rintro e w2 ⟨rfl, rfl⟩)
              | (go_at_call 42; refine (hcp _).mono ?_; rintro e w3 ⟨rfl, rfl⟩)
              | (go_at_call 43; refine (hcs _).mono ?_; rintro e w4 ⟨rfl, rfl⟩)
              | (go_at_call 21; refine (hac _).mono ?_; rintro e w5 ⟨rfl, s5⟩; have PZ := (PBlk.new w pv_zero).calm (((Calm.refl _).drewN _).trans s5); have SZ := ((Calm.refl w).alloc (.cells #[.int .i64 0, .int .i64 0] 24)).trans (((Calm.refl _).drewN _).trans s5); obtain ⟨z0, z1, z2, z3⟩ := PZ.cells pv_zero; have PA := PBlk.new w5 EA.out; have PZA := PZ.calm ((Calm.refl _).alloc (.cells #[.int .i64 al, .int .i64 ah] 24)); obtain ⟨y0, y1, y2, y3⟩ := PZA.cells pv_zero))
            have QZ := PZA.set pv_zero
            obtain ⟨q0, q1, -, -⟩ := QZ.cells pv_zero
            refine bodyPost_ret (v := .tuple #[.agg #[.int .i64 0, .int .i64 0], .int .i64 0]) (by simp only [results, Try.results24]; simp [go_sem, q0, q1]) rfl ⟨rfl, ?_⟩
            exact ((SZ.alloc _).set2 (Nat.le_refl _) _ _)
          · have hlf : 0 < left := by rcases hc with h | h; subst h; cases he; exact h
            have hem := HEM.out
            rw [he] at hem
            clear hc he
            go_enter Try.func24, Try.ntmps24
            go_wp2_with (first
              | (go_at_call 28; refine (hri _).mono ?_; rintro e w1 ⟨rfl, rfl⟩)
              | (go_at_call 41; refine (hba _).mono ?_; rintro e w2 ⟨rfl, rfl⟩)
              | (go_at_call 42; refine (hcp _).mono ?_; rintro e w3 ⟨rfl, rfl⟩)
              | (go_at_call 43; refine (hcs _).mono ?_; rintro e w4 ⟨rfl, rfl⟩)
              | (go_at_call 21; refine (hac _).mono ?_; rintro e w5 ⟨rfl, s5⟩; have PZ := (PBlk.new w pv_zero).calm (((Calm.refl _).drewN _).trans s5); have SZ := ((Calm.refl w).alloc (.cells #[.int .i64 0, .int .i64 0] 24)).trans (((Calm.refl _).drewN _).trans s5); obtain ⟨z0, z1, z2, z3⟩ := PZ.cells pv_zero; have PA := PBlk.new w5 EA.out; have PZA := PZ.calm ((Calm.refl _).alloc (.cells #[.int .i64 al, .int .i64 ah] 24)); obtain ⟨y0, y1, y2, y3⟩ := PZA.cells pv_zero))
            go_quiet (fail)
            go_wp2_with (first
              | (go_at_call 28; refine (hri _).mono ?_; rintro e w1 ⟨rfl, rfl⟩)
              | (go_at_call 41; refine (hba _).mono ?_; rintro e w2 ⟨rfl, rfl⟩)
              | (go_at_call 42; refine (hcp _).mono ?_; rintro e w3 ⟨rfl, rfl⟩)
              | (go_at_call 43; refine (hcs _).mono ?_; rintro e w4 ⟨rfl, rfl⟩)
              | (go_at_call 21; refine (hac _).mono ?_; rintro e w5 ⟨rfl, s5⟩; have PZ := (PBlk.new w pv_zero).calm (((Calm.refl _).drewN _).trans s5); have SZ := ((Calm.refl w).alloc (.cells #[.int .i64 0, .int .i64 0] 24)).trans (((Calm.refl _).drewN _).trans s5); obtain ⟨z0, z1, z2, z3⟩ := PZ.cells pv_zero; have PA := PBlk.new w5 EA.out; have PZA := PZ.calm ((Calm.refl _).alloc (.cells #[.int .i64 al, .int .i64 ah] 24)); obtain ⟨y0, y1, y2, y3⟩ := PZA.cells pv_zero))
            have QZ := PZA.set pv_zero
            obtain ⟨q0, q1, -, -⟩ := QZ.cells pv_zero
            refine bodyPost_ret (v := .tuple #[.agg #[.int .i64 0, .int .i64 0], .int .i64 0]) (by simp only [results, Try.results24]; simp [go_sem, q0, q1]) rfl ⟨rfl, ?_⟩
            exact ((SZ.alloc _).set2 (Nat.le_refl _) _ _)
        · have hv := hVs hc1 hc2
          subst hv
          clear hVn hVs
          have hem := HEM.out
          rw [show l3.isEmpty = false by rcases HL3.out with h | h; exact absurd h hc1; exact h] at hem
          clear hc1
          cases neg <;> cases dot <;> simp only [if_true, if_false, Bool.false_eq_true]
          · go_enter Try.func24, Try.ntmps24
            go_wp2_with (first
              | (go_at_call 28; refine (hri _).mono ?_; rintro e w1 ⟨rfl, rfl⟩)
              | (go_at_call 41; refine (hba _).mono ?_; rintro e w2 ⟨rfl, rfl⟩)
              | (go_at_call 42; refine (hcp _).mono ?_; rintro e w3 ⟨rfl, rfl⟩)
              | (go_at_call 43; refine (hcs _).mono ?_; rintro e w4 ⟨rfl, rfl⟩)
              | (go_at_call 21; refine (hac _).mono ?_; rintro e w5 ⟨rfl, s5⟩; have PZ := (PBlk.new w pv_zero).calm (((Calm.refl _).drewN _).trans s5); have SZ := ((Calm.refl w).alloc (.cells #[.int .i64 0, .int .i64 0] 24)).trans (((Calm.refl _).drewN _).trans s5); obtain ⟨z0, z1, z2, z3⟩ := PZ.cells pv_zero; have PA := PBlk.new w5 EA.out; have PZA := PZ.calm ((Calm.refl _).alloc (.cells #[.int .i64 al, .int .i64 ah] 24)); obtain ⟨y0, y1, y2, y3⟩ := PZA.cells pv_zero))
            go_quiet (fail)
            go_wp2_with (first
              | (go_at_call 28; refine (hri _).mono ?_; rintro e w1 ⟨rfl, rfl⟩)
              | (go_at_call 41; refine (hba _).mono ?_; rintro e w2 ⟨rfl, rfl⟩)
              | (go_at_call 42; refine (hcp _).mono ?_; rintro e w3 ⟨rfl, rfl⟩)
              | (go_at_call 43; refine (hcs _).mono ?_; rintro e w4 ⟨rfl, rfl⟩)
              | (go_at_call 21; refine (hac _).mono ?_; rintro e w5 ⟨rfl, s5⟩; have PZ := (PBlk.new w pv_zero).calm (((Calm.refl _).drewN _).trans s5); have SZ := ((Calm.refl w).alloc (.cells #[.int .i64 0, .int .i64 0] 24)).trans (((Calm.refl _).drewN _).trans s5); obtain ⟨z0, z1, z2, z3⟩ := PZ.cells pv_zero; have PA := PBlk.new w5 EA.out; have PZA := PZ.calm ((Calm.refl _).alloc (.cells #[.int .i64 al, .int .i64 ah] 24)); obtain ⟨y0, y1, y2, y3⟩ := PZA.cells pv_zero))
            have EF := Lib.hid (pv_low EA.out)
            have QZ := (PZA).set EF.out
            obtain ⟨q0, q1, -, -⟩ := QZ.cells EF.out
            refine bodyPost_ret (v := .tuple #[.agg #[.int .i64 al, .int .i64 0], .int .i64 1]) (by simp only [results, Try.results24]; simp [go_sem, q0, q1]) rfl ⟨rfl, ?_⟩
            exact ((SZ.alloc _).set2 (Nat.le_refl _) _ _)
          · go_enter Try.func24, Try.ntmps24
            go_wp2_with (first
              | (go_at_call 28; refine (hri _).mono ?_; rintro e w1 ⟨rfl, rfl⟩)
              | (go_at_call 41; refine (hba _).mono ?_; rintro e w2 ⟨rfl, rfl⟩)
              | (go_at_call 42; refine (hcp _).mono ?_; rintro e w3 ⟨rfl, rfl⟩)
              | (go_at_call 43; refine (hcs _).mono ?_; rintro e w4 ⟨rfl, rfl⟩)
              | (go_at_call 21; refine (hac _).mono ?_; rintro e w5 ⟨rfl, s5⟩; have PZ := (PBlk.new w pv_zero).calm (((Calm.refl _).drewN _).trans s5); have SZ := ((Calm.refl w).alloc (.cells #[.int .i64 0, .int .i64 0] 24)).trans (((Calm.refl _).drewN _).trans s5); obtain ⟨z0, z1, z2, z3⟩ := PZ.cells pv_zero; have PA := PBlk.new w5 EA.out; have PZA := PZ.calm ((Calm.refl _).alloc (.cells #[.int .i64 al, .int .i64 ah] 24)); obtain ⟨y0, y1, y2, y3⟩ := PZA.cells pv_zero))
            go_quiet (fail)
            go_wp2_with (first
              | (go_at_call 28; refine (hri _).mono ?_; rintro e w1 ⟨rfl, rfl⟩)
              | (go_at_call 41; refine (hba _).mono ?_; rintro e w2 ⟨rfl, rfl⟩)
              | (go_at_call 42; refine (hcp _).mono ?_; rintro e w3 ⟨rfl, rfl⟩)
              | (go_at_call 43; refine (hcs _).mono ?_; rintro e w4 ⟨rfl, rfl⟩)
              | (go_at_call 21; refine (hac _).mono ?_; rintro e w5 ⟨rfl, s5⟩; have PZ := (PBlk.new w pv_zero).calm (((Calm.refl _).drewN _).trans s5); have SZ := ((Calm.refl w).alloc (.cells #[.int .i64 0, .int .i64 0] 24)).trans (((Calm.refl _).drewN _).trans s5); obtain ⟨z0, z1, z2, z3⟩ := PZ.cells pv_zero; have PA := PBlk.new w5 EA.out; have PZA := PZ.calm ((Calm.refl _).alloc (.cells #[.int .i64 al, .int .i64 ah] 24)); obtain ⟨y0, y1, y2, y3⟩ := PZA.cells pv_zero))
            have EF := Lib.hid (EA.out)
            have QZ := (PZA).set EF.out
            obtain ⟨q0, q1, -, -⟩ := QZ.cells EF.out
            refine bodyPost_ret (v := .tuple #[.agg #[.int .i64 al, .int .i64 ah], .int .i64 2]) (by simp only [results, Try.results24]; simp [go_sem, q0, q1]) rfl ⟨rfl, ?_⟩
            exact ((SZ.alloc _).set2 (Nat.le_refl _) _ _)
          · go_enter Try.func24, Try.ntmps24
            go_wp2_with (first
              | (go_at_call 28; refine (hri _).mono ?_; rintro e w1 ⟨rfl, rfl⟩)
              | (go_at_call 41; refine (hba _).mono ?_; rintro e w2 ⟨rfl, rfl⟩)
              | (go_at_call 42; refine (hcp _).mono ?_; rintro e w3 ⟨rfl, rfl⟩)
              | (go_at_call 43; refine (hcs _).mono ?_; rintro e w4 ⟨rfl, rfl⟩)
              | (go_at_call 21; refine (hac _).mono ?_; rintro e w5 ⟨rfl, s5⟩; have PZ := (PBlk.new w pv_zero).calm (((Calm.refl _).drewN _).trans s5); have SZ := ((Calm.refl w).alloc (.cells #[.int .i64 0, .int .i64 0] 24)).trans (((Calm.refl _).drewN _).trans s5); obtain ⟨z0, z1, z2, z3⟩ := PZ.cells pv_zero; have PA := PBlk.new w5 EA.out; have PZA := PZ.calm ((Calm.refl _).alloc (.cells #[.int .i64 al, .int .i64 ah] 24)); obtain ⟨y0, y1, y2, y3⟩ := PZA.cells pv_zero)
              | (go_at_call 34; refine (hng _).mono ?_; rintro e w6 ⟨rfl, s6⟩; have PA6 := PA.calm s6; have PZ6 := PZA.calm s6; have PG := PA6.set EG.out; have PZG := PZ6.other2 (c := w5.heap.size) (by have := PZ.lt; omega) (.int .i64 gl) (.int .i64 gh); obtain ⟨x0, x1, x2, x3⟩ := PA6.cells EA.out; obtain ⟨y0, y1, y2, y3⟩ := PZG.cells pv_zero; obtain ⟨v0, v1, v2, v3⟩ := PG.cells EG.out))
            go_quiet (fail)
            go_wp2_with (first
              | (go_at_call 28; refine (hri _).mono ?_; rintro e w1 ⟨rfl, rfl⟩)
              | (go_at_call 41; refine (hba _).mono ?_; rintro e w2 ⟨rfl, rfl⟩)
              | (go_at_call 42; refine (hcp _).mono ?_; rintro e w3 ⟨rfl, rfl⟩)
              | (go_at_call 43; refine (hcs _).mono ?_; rintro e w4 ⟨rfl, rfl⟩)
              | (go_at_call 21; refine (hac _).mono ?_; rintro e w5 ⟨rfl, s5⟩; have PZ := (PBlk.new w pv_zero).calm (((Calm.refl _).drewN _).trans s5); have SZ := ((Calm.refl w).alloc (.cells #[.int .i64 0, .int .i64 0] 24)).trans (((Calm.refl _).drewN _).trans s5); obtain ⟨z0, z1, z2, z3⟩ := PZ.cells pv_zero; have PA := PBlk.new w5 EA.out; have PZA := PZ.calm ((Calm.refl _).alloc (.cells #[.int .i64 al, .int .i64 ah] 24)); obtain ⟨y0, y1, y2, y3⟩ := PZA.cells pv_zero)
              | (go_at_call 34; refine (hng _).mono ?_; rintro e w6 ⟨rfl, s6⟩; have PA6 := PA.calm s6; have PZ6 := PZA.calm s6; have PG := PA6.set EG.out; have PZG := PZ6.other2 (c := w5.heap.size) (by have := PZ.lt; omega) (.int .i64 gl) (.int .i64 gh); obtain ⟨x0, x1, x2, x3⟩ := PA6.cells EA.out; obtain ⟨y0, y1, y2, y3⟩ := PZG.cells pv_zero; obtain ⟨v0, v1, v2, v3⟩ := PG.cells EG.out))
            have EF := Lib.hid (pv_low EG.out)
            have QZ := (PZG).set EF.out
            obtain ⟨q0, q1, -, -⟩ := QZ.cells EF.out
            refine bodyPost_ret (v := .tuple #[.agg #[.int .i64 gl, .int .i64 0], .int .i64 1]) (by simp only [results, Try.results24]; simp [go_sem, q0, q1]) rfl ⟨rfl, ?_⟩
            exact (((((SZ.alloc _).trans s6).set2 (b := w5.heap.size) (by have := SZ.size; omega) _ _)).set2 (Nat.le_refl _) _ _)
          · go_enter Try.func24, Try.ntmps24
            go_wp2_with (first
              | (go_at_call 28; refine (hri _).mono ?_; rintro e w1 ⟨rfl, rfl⟩)
              | (go_at_call 41; refine (hba _).mono ?_; rintro e w2 ⟨rfl, rfl⟩)
              | (go_at_call 42; refine (hcp _).mono ?_; rintro e w3 ⟨rfl, rfl⟩)
              | (go_at_call 43; refine (hcs _).mono ?_; rintro e w4 ⟨rfl, rfl⟩)
              | (go_at_call 21; refine (hac _).mono ?_; rintro e w5 ⟨rfl, s5⟩; have PZ := (PBlk.new w pv_zero).calm (((Calm.refl _).drewN _).trans s5); have SZ := ((Calm.refl w).alloc (.cells #[.int .i64 0, .int .i64 0] 24)).trans (((Calm.refl _).drewN _).trans s5); obtain ⟨z0, z1, z2, z3⟩ := PZ.cells pv_zero; have PA := PBlk.new w5 EA.out; have PZA := PZ.calm ((Calm.refl _).alloc (.cells #[.int .i64 al, .int .i64 ah] 24)); obtain ⟨y0, y1, y2, y3⟩ := PZA.cells pv_zero)
              | (go_at_call 34; refine (hng _).mono ?_; rintro e w6 ⟨rfl, s6⟩; have PA6 := PA.calm s6; have PZ6 := PZA.calm s6; have PG := PA6.set EG.out; have PZG := PZ6.other2 (c := w5.heap.size) (by have := PZ.lt; omega) (.int .i64 gl) (.int .i64 gh); obtain ⟨x0, x1, x2, x3⟩ := PA6.cells EA.out; obtain ⟨y0, y1, y2, y3⟩ := PZG.cells pv_zero; obtain ⟨v0, v1, v2, v3⟩ := PG.cells EG.out))
            go_quiet (fail)
            go_wp2_with (first
              | (go_at_call 28; refine (hri _).mono ?_; rintro e w1 ⟨rfl, rfl⟩)
              | (go_at_call 41; refine (hba _).mono ?_; rintro e w2 ⟨rfl, rfl⟩)
              | (go_at_call 42; refine (hcp _).mono ?_; rintro e w3 ⟨rfl, rfl⟩)
              | (go_at_call 43; refine (hcs _).mono ?_; rintro e w4 ⟨rfl, rfl⟩)
              | (go_at_call 21; refine (hac _).mono ?_; rintro e w5 ⟨rfl, s5⟩; have PZ := (PBlk.new w pv_zero).calm (((Calm.refl _).drewN _).trans s5); have SZ := ((Calm.refl w).alloc (.cells #[.int .i64 0, .int .i64 0] 24)).trans (((Calm.refl _).drewN _).trans s5); obtain ⟨z0, z1, z2, z3⟩ := PZ.cells pv_zero; have PA := PBlk.new w5 EA.out; have PZA := PZ.calm ((Calm.refl _).alloc (.cells #[.int .i64 al, .int .i64 ah] 24)); obtain ⟨y0, y1, y2, y3⟩ := PZA.cells pv_zero)
              | (go_at_call 34; refine (hng _).mono ?_; rintro e w6 ⟨rfl, s6⟩; have PA6 := PA.calm s6; have PZ6 := PZA.calm s6; have PG := PA6.set EG.out; have PZG := PZ6.other2 (c := w5.heap.size) (by have := PZ.lt; omega) (.int .i64 gl) (.int .i64 gh); obtain ⟨x0, x1, x2, x3⟩ := PA6.cells EA.out; obtain ⟨y0, y1, y2, y3⟩ := PZG.cells pv_zero; obtain ⟨v0, v1, v2, v3⟩ := PG.cells EG.out))
            have EF := Lib.hid (EG.out)
            have QZ := (PZG).set EF.out
            obtain ⟨q0, q1, -, -⟩ := QZ.cells EF.out
            refine bodyPost_ret (v := .tuple #[.agg #[.int .i64 gl, .int .i64 gh], .int .i64 2]) (by simp only [results, Try.results24]; simp [go_sem, q0, q1]) rfl ⟨rfl, ?_⟩
            exact (((((SZ.alloc _).trans s6).set2 (b := w5.heap.size) (by have := SZ.size; omega) _ _)).set2 (Nat.le_refl _) _ _)
end Go.Proofs.Ytfeeikhcdphcpaa
