/- The document's dictionary: the order is changed; it is made to stand as it did. -/
import Derived.Test.YtaledmoakhlmgaaRefC
import Derived.BigRegion
namespace Go.Proofs.Ytaledmoakhlmgaa
open Go Go.RowKit
set_option linter.unusedSimpArgs false
set_option linter.unusedVariables false

set_option maxHeartbeats 4000000 in
theorem rsetorder_ok {w : World} {o : Owner} {i b : Nat} {s : Dst} (h : RB w o i b s) {j n : Nat} {v : Value} {l : List Int} (hrv : Rd w o j 1 v n (ints l)) :
    Calls Try.prog 44 #[.pointer (some ⟨b, 0, none⟩), v] w fun e w' => e = .returned (.int .i64 (ordE s l)) ∧ ∃ o', RB w' o' i b (ordS s l) ∧ Step [i] w o w' o' := by
  have h0 := h
  obtain ⟨ok, lv, ov, jo, hjo, hb, hr, hr2⟩ := h
  have hln : l.length = n := by have := hrv.len; simpa [ints] using this
  have hokS := ordS_ok ok l
  obtain ⟨ao, cap, rfl, g1, g2, -, g4⟩ := hrv
  obtain ⟨E, hE⟩ : ∃ E, ordE s l = E := ⟨_, rfl⟩
  obtain ⟨T, hT⟩ : ∃ T, ordS s l = T := ⟨_, rfl⟩
  unfold maxLen at g2
  by_cases h8 : 8 < n
  · have hE1 : ordE s l = -49 := by unfold ordE; rw [if_pos (by rw [hln]; exact h8)]
    have hS1 : ordS s l = s := by unfold ordS; rw [if_pos (by rw [hln]; exact h8)]
    have h8i : (8 : Int) < n := by omega
    rw [hE1, hS1]
    clear hb hr hr2 hokS g4 hE hT hE1 hS1
    go_enter Try.func44, Try.ntmps44
    go_wp2_with fail
    go_ret
    exact ⟨rfl, o, h0, Step.refl _ _ _⟩
  · have h8i : ¬ (8 : Int) < n := by omega
    have hE1 : ordE s l = if l.any (fun k => !knownB s k) then -49 else 0 := by unfold ordE; rw [if_neg (by rw [hln]; exact h8)]
    have hS1 : ordS s l = if l.any (fun k => !knownB s k) then s else { s with order := l } := by unfold ordS; rw [if_neg (by rw [hln]; exact h8)]
    rw [hE, hT]
    rw [hE] at hE1
    rw [hT] at hS1 hokS
    have HE := Lib.hid hE1
    have HS := Lib.hid hS1
    have HOK := Lib.hid hokS
    have HL := Lib.hid hln
    have HG := Lib.hid g4
    have h8n : n ≤ 8 := by omega
    have hkn := rknown_ok hb
    clear hE hT hE1 hS1 hokS hln g4 h8
    go_enter Try.func44, Try.ntmps44
    go_wp2_with fail
    go_loopg [5] n (fun g a5 wr => ∃ q : Nat, g = n - q ∧ q ≤ n ∧ a5 = .int .i64 q ∧ wr = w ∧ Hid (∀ k ∈ l.take q, knownB s k = true))
    case atStart => exact ⟨0, rfl, Nat.zero_le _, rfl, rfl, Lib.hid (by simp)⟩
    case round =>
      obtain ⟨q, hg, hq, rfl, rfl, A⟩ := hrel
      have HQ := Lib.hid hg
      clear hg
      by_cases hlt : q < n
      · have hqi : (q : Int) < n := by omega
        have hql : q < l.length := by rw [HL.out]; exact hlt
        obtain ⟨k, hk⟩ : ∃ k, l[q] = k := ⟨_, rfl⟩
        obtain ⟨b1, off1, rfl, hb1, ho1, hc1⟩ := HG.out (by omega)
        have e1 := hc1 q (.int .i64 k) (by rw [List.getElem?_map, List.getElem?_eq_getElem hql, hk]; rfl)
        have hkk := hkn k
        rw [show decide (1 ≤ k ∧ k ≤ s.lists) = knownB s k from rfl] at hkk
        have hmem : k ∈ l := by rw [← hk]; exact List.getElem_mem _
        have htk : l.take (q + 1) = l.take q ++ [k] := by rw [List.take_succ_eq_append_getElem hql, hk]
        have HM := Lib.hid hmem
        have HTK := Lib.hid htk
        cases hB : knownB s k with
        | false =>
          have hany : l.any (fun k => !knownB s k) = true := List.any_eq_true.2 ⟨k, hmem, by rw [hB]; rfl⟩
          have hEv : E = -49 := by rw [HE.out, if_pos hany]
          have hTv : T = s := by rw [HS.out, if_pos hany]
          subst hEv
          subst hTv
          rw [hB] at hkk
          clear hk hc1 hmem htk hany hkn
          go_wp2_with (go_at_call 50; refine hkk.mono ?_; rintro e w3 ⟨rfl, rfl⟩)
          go_ret
          exact ⟨rfl, o, h0, Step.refl _ _ _⟩
        | true =>
          rw [hB] at hkk
          have HB := Lib.hid hB
          clear hk hc1 hmem htk hB
          go_wp2_with (go_at_call 50; refine hkk.mono ?_; rintro e w3 ⟨rfl, rfl⟩)
          go_roundg (n - (q + 1))
          case measure => rw [HQ.out]; omega
          case rel =>
            refine ⟨q + 1, rfl, by omega, by go_num, rfl, Lib.hid fun j hj => ?_⟩
            rw [HTK.out] at hj
            rcases List.mem_append.1 hj with hj | hj
            · exact A.out j hj
            · simp at hj; subst hj; exact HB.out
      · obtain rfl : n = q := by omega
        have hany : l.any (fun k => !knownB s k) = false := by
          have := A.out
          rw [List.take_of_length_le (by rw [HL.out]; exact Nat.le_refl _)] at this
          cases hh : l.any (fun k => !knownB s k) with
          | false => rfl
          | true =>
            obtain ⟨k, h1, h2⟩ := List.any_eq_true.1 hh
            rw [this k h1] at h2
            cases h2
        have hEv : E = 0 := by rw [HE.out, hany]; rfl
        have hTv : T = { s with order := l } := by rw [HS.out, hany]; rfl
        subst hEv
        subst hTv
        have hrd : Rd wr o j 1 (.slice ao n cap) n (ints l) := ⟨ao, cap, rfl, g1, by unfold maxLen; exact g2, by simp [ints, HL.out], HG.out⟩
        have s1 := (Step.refl [] wr o).alloc (.cells #[] 3)
        have hrd1 := hrd.frame s1 (by simp)
        replace hb := hb.frame s1 (by simp)
        replace hr := hr.frame s1 (by simp)
        clear hany hlt hkn
        go_wp2_with (at_builtin; refine wpList_app0 rfl (.tmp 23) (.tmp 24) 46 rfl o (i + 2) Try.underlying46 infoI rfl rfl rfl hrd1 (by omega) (by omega) ?_)
        intro v' w' o' hrow hst
        obtain ⟨a7, c7, rfl, -, -⟩ := hrow.slice
        replace hb := hb.frame hst (by simp)
        replace hr := hr.frame hst (by simp)
        obtain ⟨⟨c0, c1, c2, c3⟩, ⟨f0, f1, f2, f3⟩⟩ := hb.cells4
        go_wp2_with fail
        go_ret
        have s6 := hb.sstep 2 (.slice a7 n c7)
        refine ⟨rfl, o', ⟨HOK.out, lv, .slice a7 n c7, i + 2, .inl rfl, hb.set 2 (.slice a7 n c7), hr.frame s6 (by simp), ?_⟩, (s1.trans hst).nil.trans s6⟩
        show Row _ o' (i + 2) 3 1 _ l.length (ints l)
        rw [HL.out]
        exact hrow.frame s6 (by simp)
end Go.Proofs.Ytaledmoakhlmgaa
