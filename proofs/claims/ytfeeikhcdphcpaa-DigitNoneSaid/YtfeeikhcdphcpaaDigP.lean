/- Texts of numbers, read as numbers: plain lemmas. -/
import Derived.Test.YtfeeikhcdphcpaaDigX
namespace Go.Proofs.Ytfeeikhcdphcpaa
open Go Go.RowKit
set_option linter.unusedSimpArgs false
set_option linter.unusedVariables false

theorem right_nat {b : Int} (h : rightB b = true) : ∃ bn : Nat, b = bn ∧ 2 ≤ bn ∧ bn ≤ 36 := by
  obtain ⟨h1, h2⟩ := right_C h
  exact ⟨b.toNat, by omega, by omega, by omega⟩
theorem textL_txt {b : Int} (h : rightB b = true) (q : Int) : textL q b = txt b.toNat (U q).toNat := by unfold textL; rw [if_pos h]
theorem acc_text {b : Int} (h : rightB b = true) (q : Int) : acc b 0 (textL q b) = (U q, 0) := by
  rw [textL_txt h]
  obtain ⟨bn, rfl, h2, h36⟩ := right_nat h
  rw [Int.toNat_natCast, txt_acc h2 h36, Int.toNat_of_nonneg (U_range q).1]
theorem textL_mem {b : Int} (h : rightB b = true) {q : Int} {c : UInt8} (hc : c ∈ textL q b) : ∃ d, d < 36 ∧ c = chu d := by
  rw [textL_txt h] at hc
  obtain ⟨h1, h2⟩ := right_C h
  obtain ⟨d, hd, rfl⟩ := txt_mem (by omega) hc
  exact ⟨d, by omega, rfl⟩
theorem textL_ne {b : Int} (h : rightB b = true) (q : Int) : textL q b ≠ [] := by rw [textL_txt h]; exact txt_ne _ _
theorem textL_cons {b : Int} (h : rightB b = true) (q : Int) : ∃ c r, textL q b = c :: r ∧ base1 c = 0 ∧ c ≠ 45 := by
  cases hT : textL q b with
  | nil => exact absurd hT (textL_ne h q)
  | cons c r =>
    obtain ⟨d, hd, rfl⟩ := textL_mem h (by rw [hT]; exact List.mem_cons_self : c ∈ textL q b)
    obtain ⟨n1, n2, n3, n4, n5⟩ := chu_not d hd
    exact ⟨_, r, rfl, by unfold base1; rw [if_neg n1, if_neg n2, if_neg n3], n4⟩
theorem textL_last {b : Int} (h : rightB b = true) (q : Int) : (textL q b).getLast? ≠ some 46 := by
  intro hl
  obtain ⟨d, hd, e⟩ := textL_mem h (List.mem_of_getLast? hl)
  exact (chu_not d hd).2.2.2.2 e.symm

theorem numE_nodot {b : Int} {neg : Bool} {L : List UInt8} (h : L.getLast? ≠ some 46) :
    numE b neg L = if L = [] ∨ 0 < (acc b 0 L).2 then (0, 0) else ((if neg then -(acc b 0 L).1 else (acc b 0 L).1) % 18446744073709551616, 1) := by
  have hd : dotB L = false := by unfold dotB; simpa using h
  have hl : dotL L = L := by unfold dotL; rw [if_neg (by simp [hd])]
  unfold numE
  rw [hl, hd]
  simp
theorem numE_dot {b : Int} {neg : Bool} {L : List UInt8} :
    numE b neg (L ++ [46]) = if L = [] ∨ 0 < (acc b 0 L).2 then (0, 0) else ((if neg then -(acc b 0 L).1 else (acc b 0 L).1), 2) := by
  have hd : dotB (L ++ [46]) = true := by unfold dotB; simp
  have hl : dotL (L ++ [46]) = L := by unfold dotL; rw [if_pos hd]; simp
  unfold numE
  rw [hl, hd]
  simp
theorem num_free {b : Int} (h : rightB b = true) {x : UInt8} {r : List UInt8} (h1 : base1 x = 0) (h2 : x ≠ 45) : num (x :: r) b = numE b false (x :: r) := by
  have hb : baseB x b = b := by unfold baseB; rw [if_pos h1]
  have hl : baseL x r = x :: r := by unfold baseL; rw [if_pos h1]
  have hn : negB (x :: r) = false := by unfold negB; simp [h2]
  have hnl : negL (x :: r) = x :: r := by unfold negL; rw [if_neg (by simp [hn])]
  unfold num
  rw [h, if_pos rfl]
  simp only [hb, hl, hn, hnl]
theorem num_text {b : Int} (h : rightB b = true) (q : Int) : num (textL q b) b = (U q % 18446744073709551616, 1) := by
  obtain ⟨c, r, e, h1, h2⟩ := textL_cons h q
  have hl := textL_last h q
  have ha := acc_text h q
  have hne := textL_ne h q
  rw [e] at hl ha hne ⊢
  rw [num_free h h1 h2, numE_nodot hl, ha, if_neg (by simp)]
  rfl
theorem num_signed {b : Int} (h : rightB b = true) (p : Int) : ∃ v, num (signL p b ++ [46]) b = (v, 2) ∧ pv v = pv p := by
  unfold signL
  by_cases hp : p < 0
  · rw [if_pos ⟨hp, h⟩]
    have ha := acc_text h (-p)
    refine ⟨-U (-p), ?_, pv_mod (by unfold U; omega)⟩
    have hb : baseB 45 b = b := rfl
    have hl : baseL 45 (textL (-p) b ++ [46]) = 45 :: (textL (-p) b ++ [46]) := rfl
    have hn : negB (45 :: (textL (-p) b ++ [46])) = true := rfl
    have hnl : negL (45 :: (textL (-p) b ++ [46])) = textL (-p) b ++ [46] := rfl
    rw [List.cons_append]
    unfold num
    rw [h, if_pos rfl]
    simp only [hb, hl, hn, hnl]
    rw [numE_dot, ha, if_neg (by simp [textL_ne h (-p)])]
    rfl
  · rw [if_neg (by simp [hp])]
    have ha := acc_text h p
    obtain ⟨c, r, e, h1, h2⟩ := textL_cons h p
    refine ⟨U p, ?_, pv_U p⟩
    have hne := textL_ne h p
    rw [e] at ha hne ⊢
    rw [List.cons_append, num_free h h1 h2, ← List.cons_append, numE_dot, ha, if_neg (by simp)]
    rfl
theorem num_base {x : UInt8} {c b : Int} (h : rightB b = true) (hx : base1 x = c) (hc : rightB c = true) (q : Int) : num (x :: textL q c) b = (U q % 18446744073709551616, 1) := by
  obtain ⟨c1, c2⟩ := right_C hc
  have hb : baseB x b = c := by unfold baseB; rw [if_neg (by omega), hx]
  have hl : baseL x (textL q c) = textL q c := by unfold baseL; rw [if_neg (by omega)]
  obtain ⟨y, r, e, h1, h2⟩ := textL_cons hc q
  have hn : negB (textL q c) = false := by rw [e]; unfold negB; simp [h2]
  have hnl : negL (textL q c) = textL q c := by unfold negL; rw [if_neg (by simp [hn])]
  unfold num
  rw [h, if_pos rfl]
  simp only [hb, hl, hn, hnl]
  rw [numE_nodot (textL_last hc q), acc_text hc q, if_neg (by simp [textL_ne hc q])]
  rfl
theorem num_bad {b : Int} (h : rightB b = true) (q : Int) {c : UInt8} (hc : valB (c.toNat : Nat) b = false) {k : Nat} (hk : k ≤ (textL q b).length)
    (h0 : k = 0 → c ≠ 45 ∧ c ≠ 35 ∧ c ≠ 36 ∧ c ≠ 37) (hn : k = (textL q b).length → c ≠ 46) :
    num ((textL q b).take k ++ c :: (textL q b).drop k) b = (0, 0) := by
  obtain ⟨d, r, e, h1, h2⟩ := textL_cons h q
  have hl := textL_last h q
  have hbad := acc_bad hc ((textL q b).take k) ((textL q b).drop k) 0
  have hlast : ((textL q b).take k ++ c :: (textL q b).drop k).getLast? ≠ some 46 := by
    rw [List.getLast?_append]
    by_cases hkn : k = (textL q b).length
    · rw [List.drop_of_length_le (by omega)]
      simp only [List.getLast?_singleton, Option.some_or]
      exact fun h => hn hkn (Option.some.inj h)
    · have hlt : k < (textL q b).length := by omega
      have hne : (textL q b).drop k ≠ [] := by
        intro h
        have := congrArg List.length h
        simp at this; omega
      rw [List.getLast?_cons_of_ne_nil hne, List.getLast?_drop]
      rw [if_neg (by omega)]
      cases hL : (textL q b).getLast? with
      | none => exact absurd (List.getLast?_eq_none_iff.1 hL) (textL_ne h q)
      | some y => rw [hL] at hl; simpa using hl
  have hhead : ∃ x r2, (textL q b).take k ++ c :: (textL q b).drop k = x :: r2 ∧ base1 x = 0 ∧ x ≠ 45 := by
    cases k with
    | zero =>
      obtain ⟨m1, m2, m3, m4⟩ := h0 rfl
      exact ⟨c, _, by rw [List.take_zero, List.nil_append], by unfold base1; rw [if_neg m2, if_neg m3, if_neg m4], m1⟩
    | succ k => exact ⟨d, _, by rw [e, List.take_succ_cons, List.cons_append], h1, h2⟩
  obtain ⟨x, r2, e2, g1, g2⟩ := hhead
  rw [e2] at hlast hbad ⊢
  rw [num_free h g1 g2, numE_nodot hlast, if_pos (.inr hbad)]
theorem textL_zero {b : Int} (h : rightB b = true) (q : Int) : (textL q b).length = 1 ∨ ∃ c r, textL q b = c :: r ∧ c ≠ 48 := by
  rw [textL_txt h]
  obtain ⟨bn, rfl, h2, h36⟩ := right_nat h
  rw [Int.toNat_natCast]
  generalize (U q).toNat = n
  by_cases hl : (dgs bn n).length = 1
  · exact .inl (by rw [txt_len]; exact hl)
  · right
    have hl2 : 2 ≤ (dgs bn n).length := by have : 0 < (dgs bn n).length := by simp [dgs]
                                           omega
    have hlast := dgs_last h2 n hl2
    cases hT : txt bn n with
    | nil => exact absurd hT (txt_ne _ _)
    | cons c r =>
      refine ⟨c, r, rfl, ?_⟩
      rintro rfl
      have h3 : (txt bn n).head? = some 48 := by rw [hT]; rfl
      unfold txt at h3
      rw [List.head?_reverse, List.getLast?_map] at h3
      cases hg : (dgs bn n).getLast? with
      | none => rw [hg] at h3; cases h3
      | some d =>
        rw [hg] at h3 hlast
        have hd := dgs_lt h2 (List.mem_of_getLast? hg)
        have := chu_zero d (by omega) (Option.some.inj h3)
        exact hlast (by rw [this])
theorem textL_len1 {b : Int} (h : rightB b = true) (q : Int) : 1 ≤ (textL q b).length := by
  have := List.length_pos_iff.2 (textL_ne h q)
  omega
theorem right_35 {r : Int} (h0 : 0 ≤ r) (h1 : r < 35) : rightB (r + 2) = true := by unfold rightB; simp; omega
/-- A low cell alone. -/
theorem U_low (n : Int) : U (n % 18446744073709551616) = n % 18446744073709551616 := by unfold U; omega
end Go.Proofs.Ytfeeikhcdphcpaa
