/- The stack of the program: slices.Delete, far. -/
import Derived.Test.YtkefiimcopeioaaStkB
import Derived.Test.YtkefiimcopeioaaRowx
namespace Go.Proofs.Ytkefiimcopeioaa
open Go Go.RowKit
set_option linter.unusedSimpArgs false
set_option linter.unusedVariables false

theorem delete_ok {w : World} {o : Owner} {i g cap : Nat} {l m : List Int} {x : Int} (hr : Rowx w o i 35 1 g (l.length + (1 + m.length)) cap (ints (l ++ x :: m))) (hn : l.length + (1 + m.length) ≤ 1000) :
    Calls Try.prog 34 #[.slice (some ⟨g, 0, none⟩) (l.length + (1 + m.length)) cap, .int .i64 l.length, .int .i64 (l.length + 1)] w fun e w' => e = .returned (.slice (some ⟨g, 0, none⟩) (l.length + m.length) cap) ∧ Rowx w' o i 35 1 g (l.length + m.length) cap (ints (l ++ m)) ∧ Step [i] w o w' o := by
  have hle := hr.le
  have hcap := hr.capl
  unfold maxLen at hcap
  have h1 : Rowx w o i 35 1 g l.length cap (ints l) := by
    have := hr.cut (k := l.length) (by omega)
    simpa [ints] using this
  have e : l.length + (1 + m.length) - (l.length + 1) = m.length := by omega
  have h2 : Rd w o i 1 (.slice (adr (some ⟨g, 0, none⟩) (l.length + 1) cap 1) (l.length + (1 + m.length) - (l.length + 1)) (cap - (l.length + 1))) (l.length + (1 + m.length) - (l.length + 1)) (ints m) := by
    have := hr.rd.slice (l := l.length + 1) (k := l.length + (1 + m.length)) (by omega) (Nat.le_refl _)
    rw [e] at this ⊢
    simpa [ints, List.take_of_length_le, List.drop_append, List.drop_eq_nil_of_le] using this
  have E := Lib.hid e
  clear e
  go_enter Try.func34, Try.ntmps34
  go_wp2
  have q1 : l.length ≤ cap := by omega
  have q2 : l.length + 1 ≤ l.length + (1 + m.length) := by omega
  have q3 : (l.length : Int) + 1 ≤ l.length + (1 + m.length) := by omega
  have q4 : (0 : Int) ≤ (l.length : Int) + 1 := by omega
  have st : Step [] w o w.drew o := (Step.refl _ _ _).drew
  have h1 := h1.frame st (by simp)
  have h2 := h2.frame st (by simp)
  go_region_law (refine step_app_room rfl (.tmp 22) (.tmp 25) 22 rfl Try.underlying22 info35 (by simp [Act.eval, Act.put]) h1 (by simp [Act.eval, Act.put]) h2 (ints_one _ _) (by omega) ?_; intro w' hr' st')
  rw [E.out] at hr' ⊢
  have ha : adr (some ⟨g, 0, none⟩) (l.length + m.length) cap 1 = some ⟨g, l.length + m.length, none⟩ := by
    rw [adr, if_neg (by omega)]; simp [Addr.add_lit]
  have HA := Lib.hid ha
  clear ha
  have hz : ∀ w, (zeroValue 35).run Try.prog w = .ok (.int .i64 0) w := fun _ => by kernel_rfl
  have q5 : (l.length : Int) + m.length ≤ l.length + (1 + m.length) := by omega
  have q6 : (l.length : Int) + (1 + m.length) ≤ cap := by omega
  go_wp2_with (refine wpList_clear rfl (.tmp 31) 22 rfl Try.underlying22 hz rfl rfl hr' rfl HA.out (by omega) (by omega) (by omega) ?_)
  intro w2 hr2 st2
  go_wp2
  go_ret
  refine ⟨rfl, by simpa [ints] using hr2, ?_⟩
  exact (st.nil.trans st').trans st2
theorem delete_any {w : World} {o : Owner} {i g cap n : Nat} {l m : List Int} {x a c : Int} (hr : Rowx w o i 35 1 g n cap (ints (l ++ x :: m))) (hn : n = l.length + (1 + m.length)) (hn2 : n ≤ 1000) (ha : a = l.length) (hc : c = l.length + 1) :
    Calls Try.prog 34 #[.slice (some ⟨g, 0, none⟩) n cap, .int .i64 a, .int .i64 c] w fun e w' => e = .returned (.slice (some ⟨g, 0, none⟩) (l.length + m.length) cap) ∧ Rowx w' o i 35 1 g (l.length + m.length) cap (ints (l ++ m)) ∧ Step [i] w o w' o := by
  subst hn ha hc
  exact delete_ok hr hn2

theorem ints_get {l : List Int} {j : Nat} {x : Int} (h : l[j]? = some x) : (ints l)[j]? = some (.int .i64 x) := by simp [ints, h]

theorem far_pick {w : World} {o : Owner} {i b : Nat} {l m : List Int} {x : Int} (hs : Stk 55 w o i b (l ++ x :: (m ++ [(m.length : Int)]))) :
    Calls Try.prog 25 #[.pointer (some ⟨b, 0, none⟩), .int .i64 40] w fun e w' => e = .returned (.int .i64 0) ∧ Stk 55 w' o i b (l ++ x :: (m ++ [x])) ∧ Step [i, i + 1] w o w' o := by
  obtain ⟨h0, v, hb, hr⟩ := hs
  obtain ⟨g, cap, rfl, hx⟩ := hr.rowx (by simp; omega)
  have hc := hb.cell0
  have hle := hx.le
  have hcap := hx.capl
  have c1 : w.cell? ⟨g, l.length, none⟩ = some (.int .i64 x) := hx.cell (ints_get (by simp))
  have c2 : w.cell? ⟨g, l.length + (m.length + 1), none⟩ = some (.int .i64 m.length) := hx.cell (ints_get (by simp))
  have f2 : w.frozen? ⟨g, l.length + (m.length + 1), none⟩ = false := (hx.spare (by simp at hle; omega)).2
  unfold maxLen at hcap
  simp only [List.length_append, List.length_cons, List.length_nil, Nat.zero_add] at h0 hle hc
  go_enter Try.func25, Try.ntmps25
  go_wp2
  go_ret
  have hne := hx.ne hb (by decide)
  refine ⟨rfl, ⟨by simpa using h0, _, hb.setOther hne _ _, ?_⟩, (Step.refl _ _ _).setCell (fun _ => by simp [hx.own]) _⟩
  have := (hx.setElem (l.length + (m.length + 1)) (.int .i64 x)).row
  simpa [ints, List.set_append, show ¬ (l.length + (m.length + 1) < l.length) by omega] using this

theorem far_roll {w : World} {o : Owner} {i b : Nat} {l m : List Int} {x : Int} (hs : Stk 55 w o i b (l ++ x :: (m ++ [(m.length : Int)]))) :
    Calls Try.prog 25 #[.pointer (some ⟨b, 0, none⟩), .int .i64 41] w fun e w' => ∃ o', e = .returned (.int .i64 0) ∧ Stk 55 w' o' i b (l ++ (m ++ [x])) ∧ Step [i, i + 1] w o w' o' := by
  obtain ⟨h0, v, hb, hr⟩ := hs
  obtain ⟨g, cap, rfl, hx⟩ := hr.rowx (by simp; omega)
  have hc := hb.cell0
  have hle := hx.le
  have hcap := hx.capl
  have c1 : w.cell? ⟨g, l.length, none⟩ = some (.int .i64 x) := hx.cell (ints_get (by simp))
  have c2 : w.cell? ⟨g, l.length + (m.length + 1), none⟩ = some (.int .i64 m.length) := hx.cell (ints_get (by simp))
  have hd : Rowx w o (i + 1) 35 1 g (l.length + (1 + m.length)) cap (ints (l ++ x :: m)) := by
    have := hx.cut (k := l.length + (1 + m.length)) (by simp; omega)
    have e : (ints (l ++ x :: (m ++ [(m.length : Int)]))).take ((l.length + (1 + m.length)) * 1) = ints (l ++ x :: m) := by
      rw [show l ++ x :: (m ++ [(m.length : Int)]) = (l ++ x :: m) ++ [(m.length : Int)] by simp, ints, List.map_append, List.take_append_of_le_length (by simp; omega), List.take_of_length_le (by simp; omega)]
    rwa [e] at this
  unfold maxLen at hcap
  simp only [List.length_append, List.length_cons, List.length_nil, Nat.zero_add] at h0 hle hc
  have hd' : Rowx w o (i + 1) 35 1 g (l.length + (m.length + 1)) cap (ints (l ++ x :: m)) := by rwa [show l.length + (m.length + 1) = l.length + (1 + m.length) by omega]
  go_enter Try.func25, Try.ntmps25
  go_wp2_with (first | (go_at_call 34; refine (delete_any (l := l) (m := m) (x := x) hd' (by omega) (by omega) (by omega) (by omega)).mono ?_; rintro e w' ⟨rfl, hr2, st2⟩; have hr3 := hr2.frame ((Step.refl [] w' o).alloc (.cells #[.int .i64 x] 35)) (by simp); have hn := Rd.fresh w' o 1 35 #[.int .i64 x] 1 (by simp [maxLen]) (by simp); have st3 := st2.alloc (.cells #[.int .i64 x] 35)) | (at_builtin; refine wpList_app rfl (.tmp 65) (.tmp 67) 22 rfl Try.underlying22 info35 rfl rfl hr3.row rfl hn (by simp [Value.oneCell']) (by omega) (by omega) ?_))
  intro v' w2 o2 hrow st4
  have st5 := st3.trans st4
  have hb1 := hb.frame st5 (by simp)
  have hc1 := hb1.cell0
  have hf1 := hb1.frozen 0
  have hrow' : Row w2 o2 (i + 1) 35 1 v' (l ++ (m ++ [x])).length (ints (l ++ (m ++ [x]))) := by simpa [ints, Nat.add_assoc] using hrow
  obtain ⟨ao', cap', rfl, _, _⟩ := hrow'.slice
  obtain ⟨g1, g2⟩ := Stk.put (by decide) hb hrow' st5 (by simp; omega)
  simp only [List.length_append, List.length_cons, List.length_nil, Nat.zero_add, ← Nat.add_assoc] at g1 g2
  clear hrow hrow' st4 hr hx hd hb hb1
  go_wp2
  go_ret
  exact ⟨o2, rfl, g1, g2⟩
end Go.Proofs.Ytkefiimcopeioaa
