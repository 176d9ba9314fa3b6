/- The document's stack: contracts of Pop, Take. -/
import Derived.Test.YtkefiimcopeioaaRstA
import Derived.Test.YtkefiimcopeioaaRowx
namespace Go.Proofs.Ytkefiimcopeioaa
open Go Go.RowKit
set_option linter.unusedSimpArgs false
set_option linter.unusedVariables false

theorem rpop_ok {w : World} {o : Owner} {i b : Nat} {l : List Int} (hs : Stk 46 w o i b l) :
    Calls Try.prog 29 #[.pointer (some ⟨b, 0, none⟩)] w fun e w' => ∃ o', e = .returned (.tuple #[.int .i64 (popV l), .int .i64 (popE l)]) ∧ Stk 46 w' o' i b l.dropLast ∧ Step [i, i + 1] w o w' o' := by
  have hs0 := hs
  rcases List.eq_nil_or_concat l with rfl | ⟨l, x, rfl⟩
  · obtain ⟨h0, v, hb, hr⟩ := hs
    obtain ⟨ao, cap, rfl, h1, h2⟩ := hr.slice
    have hc := hb.cell0
    clear hb hr
    go_enter Try.func29, Try.ntmps29
    go_wp2_with fail
    go_ret2
    exact ⟨o, rfl, hs0, Step.refl _ _ _⟩
  · rw [List.concat_eq_append] at hs ⊢
    obtain ⟨h0, v, hb, hr⟩ := hs
    have e1 : popV (l ++ [x]) = x := by simp [popV, List.getLastD_eq_getLast?]
    have e2 : popE (l ++ [x]) = 0 := by simp [popE]
    rw [e1, e2, List.dropLast_concat]
    obtain ⟨g, cap, rfl, hx⟩ := hr.rowx (by simp)
    have hle := hx.le
    have hcap := hx.capl
    unfold maxLen at hcap
    rw [List.length_append, List.length_singleton] at h0 hle hr hb
    have y := hx.cell (j := l.length) (u := .int .i64 x) (by simp [ints])
    have hcut : Row w o (i + 1) 35 1 (.slice (some ⟨g, 0, none⟩) l.length cap) l.length (ints l) := by
      have := hr.cut (k := l.length) (by omega)
      simpa [ints] using this
    have hc := hb.cell0
    have hf := hb.frozen 0
    obtain ⟨n, hn⟩ : ∃ n, l.length = n := ⟨_, rfl⟩
    obtain ⟨m, hm⟩ : ∃ m, n + 1 = m := ⟨_, rfl⟩
    rw [hn] at y hcut h0 hle hb hc
    rw [hm] at hb hc hle
    have HN := Lib.hid hn
    have hmi : (m : Int) - 1 = n := by omega
    have hml : (n : Int) < m := by omega
    have hmb : ((m : Int) == 0) = false := by rw [beq_eq_false_iff_ne]; omega
    have hsx := Row.setOther hcut hb (by decide) 0 (.slice (some ⟨g, 0, none⟩) n cap)
    have hbs := hb.set 0 (.slice (some ⟨g, 0, none⟩) n cap)
    have hst : Step [i, i + 1] w o (w.setCell ⟨b, 0, none⟩ (.slice (some ⟨g, 0, none⟩) n cap)) o := (Step.refl _ _ _).setCell (fun _ => by simp [hb.own]) _
    clear e1 e2 hs0 hr hx hn hm
    go_enter Try.func29, Try.ntmps29
    go_wp2_with fail
    go_ret2
    exact ⟨o, rfl, ⟨by have := HN.out; omega, _, hbs, by rw [HN.out]; exact hsx⟩, hst⟩

theorem rtake_split {w : World} {o : Owner} {i b : Nat} {l m : List Int} (hs : Stk 46 w o i b (l ++ m)) (j : Nat) :
    Calls Try.prog 30 #[.pointer (some ⟨b, 0, none⟩), .int .i64 m.length] w fun e w' => ∃ v o', e = .returned (.tuple #[v, .int .i64 0]) ∧ Row w' o' j 35 1 v m.length (ints m) ∧ Stk 46 w' o' i b l ∧ Step [i, i + 1] w o w' o' := by
  obtain ⟨h0, v, hb, hr⟩ := hs
  obtain ⟨ao, cap, rfl, g1, g2⟩ := hr.slice
  rw [List.length_append] at h0 hr g1 hb
  have hcut : Row w o (i + 1) 35 1 (.slice ao l.length cap) l.length (ints l) := by
    have := hr.cut (k := l.length) (by omega)
    simpa [ints] using this
  have hsl := hr.rd.slice (l := l.length) (k := l.length + m.length) (by omega) (Nat.le_refl _)
  have e : l.length + m.length - l.length = m.length := by omega
  have h2 : Rd w o (i + 1) 1 (.slice (adr ao l.length cap 1) m.length (cap - l.length)) m.length (ints m) := by
    rw [e] at hsl
    simpa [ints, List.take_of_length_le] using hsl
  have s1 := (Step.refl [] w o).alloc (.cells #[] 35)
  have h3 := h2.frame s1 (by simp)
  have hb1 := hb.frame s1 (by simp)
  have hc := hb.cell0
  have hc1 := hb1.cell0
  obtain ⟨n, hn⟩ : ∃ n, l.length = n := ⟨_, rfl⟩
  obtain ⟨k, hk⟩ : ∃ k, m.length = k := ⟨_, rfl⟩
  obtain ⟨M, hM⟩ : ∃ M, n + k = M := ⟨_, rfl⟩
  rw [hn, hk] at hb hb1 hc hc1 h3 h0 g1
  rw [hn] at hcut
  rw [hM] at hb hb1 hc hc1 h0 g1
  rw [hk]
  have HN := Lib.hid hn
  have hMk : (M : Int) - k = n := by omega
  have hkM : ¬ ((M : Int) < k) := by omega
  have hk0 : ¬ ((k : Int) < 0) := by omega
  have hnM : (n : Int) ≤ M := by omega
  have hnc : (n : Int) ≤ cap := by omega
  have hMn : M - n = k := by omega
  have HK := Lib.hid hk
  clear hr hsl h2 hn hk hM e
  go_enter Try.func30, Try.ntmps30
  go_wp2_with (at_builtin; refine wpList_app0 rfl (.tmp 24) (.tmp 30) 22 rfl o j Try.underlying22 info35 rfl rfl rfl (by first | exact h3 | (rw [hMn]; exact h3)) (by omega) (by omega) ?_)
  intro v' w' o' hrow hst
  have hb2 := hb1.frame hst (by simp)
  have hc2 := hb2.cell0
  have hf2 := hb2.frozen 0
  have hcut2 := (hcut.frame s1 (by simp)).frame hst (by simp)
  have hsx := Row.setOther hcut2 hb2 (by decide) 0 (.slice ao n cap)
  have hrx := Row.setOther hrow hb2 (by decide) 0 (.slice ao n cap)
  have hbs := hb2.set 0 (.slice ao n cap)
  have hS : Step [i, i + 1] w o (w'.setCell ⟨b, 0, none⟩ (.slice ao n cap)) o' := ((s1.trans hst).nil).setCell (fun _ => by simp [hb.own]) _
  clear hcut hcut2 hb hb1 hb2
  go_wp2_with fail
  go_ret2
  exact ⟨_, o', rfl, hrx, ⟨by have := HN.out; omega, _, hbs, by rw [HN.out]; exact hsx⟩, hS⟩

theorem rtake_ok {w : World} {o : Owner} {i b : Nat} {l : List Int} (hs : Stk 46 w o i b l) (n : Int) (hn2 : n ≤ 9223372036854775807) (j : Nat) :
    Calls Try.prog 30 #[.pointer (some ⟨b, 0, none⟩), .int .i64 n] w fun e w' => ∃ v o', e = .returned (.tuple #[v, .int .i64 (takeE l n)]) ∧ Row w' o' j 35 1 v (takeR l n).length (ints (takeR l n)) ∧ Stk 46 w' o' i b (takeL l n) ∧ Step [i, i + 1] w o w' o' := by
  have h0 := hs.1
  have hs0 := hs
  by_cases hneg : n < 0
  · rw [takeE, takeR, takeL, if_pos hneg, if_pos hneg, if_pos hneg]
    go_enter Try.func30, Try.ntmps30
    go_wp2_with fail
    go_ret2
    exact ⟨_, o, rfl, Row.nil _ _ _ _ _ _, hs, Step.refl _ _ _⟩
  · obtain ⟨n, rfl⟩ := Int.eq_ofNat_of_zero_le (show 0 ≤ n by omega)
    by_cases hlen : l.length < n
    · obtain ⟨_, v, hb, hr⟩ := hs
      obtain ⟨ao, cap, rfl, h1, h2⟩ := hr.slice
      have hc := hb.cell0
      clear hb hr
      rw [takeE, takeR, takeL, if_neg hneg, if_neg hneg, if_neg hneg, if_pos (by omega), if_pos (by omega), if_pos (by omega)]
      go_enter Try.func30, Try.ntmps30
      go_wp2_with fail
      go_ret2
      first
        | exact ⟨_, o, rfl, Row.nil _ _ _ _ _ _, hs0, Step.refl _ _ _⟩
        | exact ⟨_, rfl, o, Row.nil _ _ _ _ _ _, hs0, Step.refl _ _ _⟩
    · rw [takeE, takeR, takeL, if_neg hneg, if_neg hneg, if_neg hneg, if_neg (by omega), if_neg (by omega), if_neg (by omega)]
      have hl := List.take_append_drop (l.length - (n : Int).toNat) l
      have hn : n = (l.drop (l.length - (n : Int).toNat)).length := by simp; omega
      generalize l.take (l.length - (n : Int).toNat) = l1 at hl ⊢
      generalize l.drop (l.length - (n : Int).toNat) = l2 at hl hn ⊢
      subst hl
      rw [hn]
      exact rtake_split hs j
end Go.Proofs.Ytkefiimcopeioaa
