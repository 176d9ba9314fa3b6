/- The document's stack: far (pick, roll). -/
import Derived.Test.YtkefiimcopeioaaRstD
import Derived.Test.YtkefiimcopeioaaStkG
import Derived.Deep.RegionHeld3
namespace Go.Proofs.Ytkefiimcopeioaa
open Go Go.RowKit
set_option linter.unusedSimpArgs false
set_option linter.unusedVariables false

theorem rfar_under {w : World} {o : Owner} {i b : Nat} {l : List Int} {op : Int} (hs : Stk 46 w o i b l) (h : l = [] ∨ ∃ m k, l = m ++ [k] ∧ (k < 0 ∨ m.length ≤ k)) :
    Calls Try.prog 35 #[.pointer (some ⟨b, 0, none⟩), .int .i64 op] w fun e w' => e = .returned (.int .i64 (-4)) ∧ w = w' := by
  obtain ⟨h0, v, hb, hr⟩ := hs
  rcases h with rfl | ⟨m, k, rfl, hk⟩
  · obtain ⟨ao, cap, rfl, _, _⟩ := hr.slice
    have hc := hb.cell0
    clear hr hb
    go_enter Try.func35, Try.ntmps35
    go_wp2_with fail
    go_ret
    exact ⟨rfl, rfl⟩
  · obtain ⟨g, cap, rfl, hx⟩ := hr.rowx (by simp)
    have hc := hb.cell0
    have hle := hx.le
    have hcap := hx.capl
    have c2 : w.cell? ⟨g, m.length, none⟩ = some (.int .i64 k) := hx.cell (ints_get (by simp))
    unfold maxLen at hcap
    simp only [List.length_append, List.length_cons, List.length_nil, Nat.zero_add] at h0 hle hc
    clear hr hb hx
    obtain ⟨n, hn⟩ : ∃ n, m.length = n := ⟨_, rfl⟩
    obtain ⟨N, hN⟩ : ∃ N, n + 1 = N := ⟨_, rfl⟩
    rw [hn] at hk c2 h0 hle hc
    rw [hN] at hc hle h0
    have hN1 : (N : Int) - 1 = n := by omega
    have hN0 : ((N : Int) == 0) = false := by rw [beq_eq_false_iff_ne]; omega
    have hnN : (n : Int) < N := by omega
    clear hn hN
    by_cases hk0 : k < 0
    · clear hk
      go_enter Try.func35, Try.ntmps35
      go_wp2_with fail
      go_ret
      exact ⟨rfl, rfl⟩
    · replace hk : (n : Int) ≤ k := by omega
      go_enter Try.func35, Try.ntmps35
      go_wp2_with fail
      go_ret
      exact ⟨rfl, rfl⟩

set_option maxHeartbeats 4000000 in
theorem rfar_pick {w : World} {o : Owner} {i b : Nat} {l m : List Int} {x : Int} (hs : Stk 46 w o i b (l ++ x :: (m ++ [(m.length : Int)]))) :
    Calls Try.prog 35 #[.pointer (some ⟨b, 0, none⟩), .int .i64 40] w fun e w' => ∃ o', e = .returned (.int .i64 0) ∧ Stk 46 w' o' i b (l ++ x :: (m ++ [x])) ∧ Step [i, i + 1] w o w' o' := by
  obtain ⟨h0, v, hb, hr⟩ := hs
  obtain ⟨g, cap, rfl, hx⟩ := hr.rowx (by simp; omega)
  have hc := hb.cell0
  have hle := hx.le
  have hcap := hx.capl
  have c1 : w.cell? ⟨g, l.length, none⟩ = some (.int .i64 x) := hx.cell (ints_get (by simp))
  have c2 : w.cell? ⟨g, l.length + (m.length + 1), none⟩ = some (.int .i64 m.length) := hx.cell (ints_get (by simp))
  have hd : Rowx w o (i + 1) 35 1 g (l.length + (m.length + 1)) cap (ints (l ++ x :: m)) := by
    have := hx.cut (k := l.length + (m.length + 1)) (by simp)
    have e : (ints (l ++ x :: (m ++ [(m.length : Int)]))).take ((l.length + (m.length + 1)) * 1) = ints (l ++ x :: m) := by
      rw [show l ++ x :: (m ++ [(m.length : Int)]) = (l ++ x :: m) ++ [(m.length : Int)] by simp, ints, List.map_append, List.take_append_of_le_length (by simp), List.take_of_length_le (by simp)]
    rwa [e] at this
  unfold maxLen at hcap
  simp only [List.length_append, List.length_cons, List.length_nil, Nat.zero_add] at h0 hle hc
  have s1 := (Step.refl [] w o).alloc (.cells #[] 35)
  have hd1 := hd.rd.frame s1 (by simp)
  have hc1 := (hb.frame s1 (by simp)).cell0
  simp only [List.length_append, List.length_cons, List.length_nil, Nat.zero_add] at hc1
  obtain ⟨A, hA⟩ : ∃ A, l.length = A := ⟨_, rfl⟩
  obtain ⟨M, hM⟩ : ∃ M, m.length = M := ⟨_, rfl⟩
  obtain ⟨n, hn⟩ : ∃ n, A + (M + 1) = n := ⟨_, rfl⟩
  obtain ⟨N, hN⟩ : ∃ N, A + (M + 1 + 1) = N := ⟨_, rfl⟩
  obtain ⟨N2, hN2⟩ : ∃ N2, A + M = N2 := ⟨_, rfl⟩
  rw [hA, hM] at h0 hle hc hc1 c2 hd1
  rw [hA] at c1
  rw [hn] at c2 hd1
  rw [hN] at hc hc1 hle h0
  have q1 : (N : Int) - 1 = n := by omega
  have q2 : (N : Int) - 2 = N2 := by omega
  have q3 : (N2 : Int) - M = A := by omega
  have q0 : ((N : Int) == 0) = false := by rw [beq_eq_false_iff_ne]; omega
  have q4 : (n : Int) < N := by omega
  have q5 : (A : Int) < N := by omega
  have q6 : ¬ (M : Int) < 0 := by omega
  have q7 : ¬ (n : Int) ≤ M := by omega
  have q8 : (n : Int) ≤ cap := by omega
  have HA := Lib.hid hA
  have HM := Lib.hid hM
  have Hn := Lib.hid hn
  have HN := Lib.hid hN
  clear hr hx hd hA hM hn hN hN2
  go_enter Try.func35, Try.ntmps35
  go_wp2_with (at_builtin; refine wpList_app0 rfl (.tmp 58) (.tmp 65) 22 rfl o (i + 1) Try.underlying22 info35 rfl rfl rfl hd1 (by omega) (by omega) ?_)
  intro v' w' o' hrow hst
  obtain ⟨a7, c7, rfl, -, -⟩ := hrow.slice
  have hb2 := (hb.frame s1 (by simp)).frame hst (by simp)
  have hxB := fun cs => hrow.frame ((Step.refl [] w' o').alloc (.cells cs 35)) (by simp)
  go_wp2_with (at_builtin; refine wpList_app rfl (.tmp 88) (.tmp 90) 22 rfl Try.underlying22 info35 rfl rfl (hxB _) rfl (Rd.fresh w' o' 1 35 #[.int .i64 x] 1 (by decide) rfl) (by simp [Value.oneCell']) (by omega) (by omega) ?_)
  intro v3 w3 o3 hrow3 hst3
  have s3 := ((Step.refl [] w' o').alloc (.cells #[.int .i64 x] 35))
  have hb3 := (hb2.frame s3 (by simp)).frame hst3 (by simp)
  have hc3 := hb3.cell0
  have hf3 := hb3.frozen 0
  have hl' : (l ++ x :: (m ++ [x])).length = n + 1 := by simp [HA.out, HM.out]; have := Hn.out; omega
  have hrow' : Row w3 o3 (i + 1) 35 1 v3 (l ++ x :: (m ++ [x])).length (ints (l ++ x :: (m ++ [x]))) := by rw [hl']; simpa [ints] using hrow3
  obtain ⟨ao', cap', rfl, _, _⟩ := hrow3.slice
  have hS := ((s1.trans hst).trans s3).nil.trans hst3
  have := Hn.out
  have := HN.out
  obtain ⟨g1, g2⟩ := Stk.put (by decide) hb hrow' hS (by rw [hl']; omega)
  clear hrow hrow3 hrow' hst hst3 hb hb2 hb3 hxB hl'
  go_wp2_with fail
  go_ret
  exact ⟨o3, rfl, g1, g2⟩
set_option maxRecDepth 100000 in
set_option maxHeartbeats 8000000 in
theorem rfar_roll {w : World} {o : Owner} {i b : Nat} {l m : List Int} {x : Int} (hs : Stk 46 w o i b (l ++ x :: (m ++ [(m.length : Int)]))) :
    Calls Try.prog 35 #[.pointer (some ⟨b, 0, none⟩), .int .i64 41] w fun e w' => ∃ o', e = .returned (.int .i64 0) ∧ Stk 46 w' o' i b (l ++ (m ++ [x])) ∧ Step [i, i + 1] w o w' o' := by
  obtain ⟨h0, v, hb, hr⟩ := hs
  obtain ⟨g, cap, rfl, hx⟩ := hr.rowx (by simp; omega)
  have hc := hb.cell0
  have hle := hx.le
  have hcap := hx.capl
  have c1 : w.cell? ⟨g, l.length, none⟩ = some (.int .i64 x) := hx.cell (ints_get (by simp))
  have c2 : w.cell? ⟨g, l.length + (m.length + 1), none⟩ = some (.int .i64 m.length) := hx.cell (ints_get (by simp))
  have hd : Rowx w o (i + 1) 35 1 g (l.length + (m.length + 1)) cap (ints (l ++ x :: m)) := by
    have := hx.cut (k := l.length + (m.length + 1)) (by simp)
    have e : (ints (l ++ x :: (m ++ [(m.length : Int)]))).take ((l.length + (m.length + 1)) * 1) = ints (l ++ x :: m) := by
      rw [show l ++ x :: (m ++ [(m.length : Int)]) = (l ++ x :: m) ++ [(m.length : Int)] by simp, ints, List.map_append, List.take_append_of_le_length (by simp), List.take_of_length_le (by simp)]
    rwa [e] at this
  have hpre : Rd w o (i + 1) 1 (.slice (some ⟨g, 0, none⟩) l.length cap) l.length (ints l) := by
    have := (hx.cut (k := l.length) (by simp)).rd
    simpa [ints] using this
  have e2 : l.length + (m.length + 1) - (l.length + 1) = m.length := by omega
  have hsuf : Rd w o (i + 1) 1 (.slice (adr (some ⟨g, 0, none⟩) (l.length + 1) cap 1) m.length (cap - (l.length + 1))) m.length (ints m) := by
    have := hd.rd.slice (l := l.length + 1) (k := l.length + (m.length + 1)) (by omega) (Nat.le_refl _)
    rw [e2] at this
    simpa [ints, List.take_of_length_le, List.drop_append, List.drop_eq_nil_of_le] using this
  unfold maxLen at hcap
  simp only [List.length_append, List.length_cons, List.length_nil, Nat.zero_add] at h0 hle hc
  have s1 := (Step.refl [] w o).alloc (.cells #[] 35)
  have hd1 := hd.rd.frame s1 (by simp)
  simp only [List.length_append, List.length_cons, List.length_nil, Nat.zero_add] at hb
  have hc1 := (hb.frame s1 (by simp)).cell0
  obtain ⟨A, hA⟩ : ∃ A, l.length = A := ⟨_, rfl⟩
  obtain ⟨M, hM⟩ : ∃ M, m.length = M := ⟨_, rfl⟩
  obtain ⟨n, hn⟩ : ∃ n, A + (M + 1) = n := ⟨_, rfl⟩
  obtain ⟨N, hN⟩ : ∃ N, A + (M + 1 + 1) = N := ⟨_, rfl⟩
  obtain ⟨N2, hN2⟩ : ∃ N2, A + M = N2 := ⟨_, rfl⟩
  obtain ⟨B, hB⟩ : ∃ B, A + 1 = B := ⟨_, rfl⟩
  rw [hA, hM] at h0 hle hc hc1 c2 hd1 hsuf hb
  rw [hA] at c1 hpre
  rw [hn] at c2 hd1
  rw [hN] at hc hc1 hle h0 hb
  rw [hB] at hsuf
  have q1 : (N : Int) - 1 = n := by omega
  have q2 : (N : Int) - 2 = N2 := by omega
  have q3 : (N2 : Int) - M = A := by omega
  have q0 : ((N : Int) == 0) = false := by rw [beq_eq_false_iff_ne]; omega
  have q4 : (n : Int) < N := by omega
  have q5 : (A : Int) < N := by omega
  have q6 : ¬ (M : Int) < 0 := by omega
  have q7 : ¬ (n : Int) ≤ M := by omega
  have q8 : (n : Int) ≤ cap := by omega
  have q9 : (A : Int) + 1 = B := by omega
  have q10 : (B : Int) ≤ n := by omega
  have q11 : (A : Int) ≤ cap := by omega
  have q12 : n - B = M := by omega
  have w1 : IntKind.i64.wrap (n : Int) = n := by simp [IntKind.wrap, IntKind.signed, IntKind.bits]; omega
  have w2 : IntKind.i64.wrap (B : Int) = B := by simp [IntKind.wrap, IntKind.signed, IntKind.bits]; omega
  have HA := Lib.hid hA
  have HM := Lib.hid hM
  have Hn := Lib.hid hn
  have HN := Lib.hid hN
  have H2 := Lib.hid hN2
  clear hr hx hd hA hM hn hN hN2 hB e2
  go_enter Try.func35, Try.ntmps35
  go_wp2_with (at_builtin; refine wpList_app0 rfl (.tmp 58) (.tmp 65) 22 rfl o (i + 1) Try.underlying22 info35 rfl rfl rfl hd1 (by omega) (by omega) ?_)
  intro v' w' o' hrow hst
  obtain ⟨a7, c7, rfl, -, -⟩ := hrow.slice
  have st := ((s1.trans hst).drew)
  replace hb := hb.frame st (by simp)
  replace hpre := hpre.frame st (by simp)
  replace hsuf := hsuf.frame st (by simp)
  have hcd := (hb.frame (Step.refl [] _ _) (by simp)).cell0
  clear hrow hst hc hc1 c1 c2 hd1 s1
  go_wp2_with fail
  refine wp_region_held_drew (S := fun W' => W'.cell? ⟨b, 0, none⟩ = some (.slice (some ⟨g, 0, none⟩) N cap)) (by kernel_rfl) hb.cell0 (fun hHeld => ?_)
  generalize w'.drew = wd at hb hpre hsuf st hHeld hcd ⊢
  refine wpAnyH_take (i := 1) (oi := ?_) (v := ?_) ?_ (by kernel_rfl) (by kernel_rfl) (by kernel_rfl) ?_ (Or.inl ⟨?_, ?_⟩) ?_ ?_; rotate_left 2
  · (simp only [List.getElem?_toArray, List.getElem?_cons_succ, List.getElem?_cons_zero]; rfl)
  · exact fun _ _ _ h => h
  · rfl
  · (intro w hSw; (try dsimp only at hSw); first | (go_simp; done) | (go_simp; with_reducible rfl))
  · assumption
  try simp only [Act.put, List.setIfInBounds_toArray, List.set_cons_zero, List.set_cons_succ]
  refine wpAnyH_take (i := 2) (oi := ?_) (v := ?_) ?_ (by kernel_rfl) (by kernel_rfl) (by kernel_rfl) ?_ (Or.inl ⟨?_, ?_⟩) ?_ ?_; rotate_left 2
  · (simp only [List.getElem?_toArray, List.getElem?_cons_succ, List.getElem?_cons_zero]; rfl)
  · exact fun _ _ _ h => h
  · rfl
  · (intro w hSw; (try dsimp only at hSw); first | (go_simp; done) | (go_simp; with_reducible rfl))
  · assumption
  try simp only [Act.put, List.setIfInBounds_toArray, List.set_cons_zero, List.set_cons_succ]
  refine wpAnyH_take (i := 3) (oi := ?_) (v := ?_) ?_ (by kernel_rfl) (by kernel_rfl) (by kernel_rfl) ?_ (Or.inl ⟨?_, ?_⟩) ?_ ?_; rotate_left 2
  · (simp only [List.getElem?_toArray, List.getElem?_cons_succ, List.getElem?_cons_zero]; rfl)
  · exact fun _ _ _ h => h
  · rfl
  · (intro w hSw; (try dsimp only at hSw); first | (go_simp; done) | (go_simp; with_reducible rfl))
  · assumption
  try simp only [Act.put, List.setIfInBounds_toArray, List.set_cons_zero, List.set_cons_succ]
  refine wpAnyH_take (i := 4) (oi := ?_) (v := ?_) ?_ (by kernel_rfl) (by kernel_rfl) (by kernel_rfl) ?_ (Or.inl ⟨?_, ?_⟩) ?_ ?_; rotate_left 2
  · (simp only [List.getElem?_toArray, List.getElem?_cons_succ, List.getElem?_cons_zero]; rfl)
  · exact fun _ _ _ h => h
  · rfl
  · (intro w hSw; (try dsimp only at hSw); first | (go_simp; done) | (go_simp; with_reducible rfl))
  · assumption
  try simp only [Act.put, List.setIfInBounds_toArray, List.set_cons_zero, List.set_cons_succ]
  refine wpAnyH_take (i := 5) (oi := ?_) (v := ?_) ?_ (by kernel_rfl) (by kernel_rfl) (by kernel_rfl) ?_ (Or.inl ⟨?_, ?_⟩) ?_ ?_; rotate_left 2
  · (simp only [List.getElem?_toArray, List.getElem?_cons_succ, List.getElem?_cons_zero]; rfl)
  · exact fun _ _ _ h => h
  · rfl
  · (intro w hSw; (try dsimp only at hSw); first | (go_simp; done) | (go_simp; with_reducible rfl))
  · assumption
  try simp only [Act.put, List.setIfInBounds_toArray, List.set_cons_zero, List.set_cons_succ]
  refine wpAnyH_take (i := 6) (oi := ?_) (v := ?_) ?_ (by kernel_rfl) (by kernel_rfl) (by kernel_rfl) ?_ (Or.inl ⟨?_, ?_⟩) ?_ ?_; rotate_left 2
  · (simp only [List.getElem?_toArray, List.getElem?_cons_succ, List.getElem?_cons_zero]; rfl)
  · exact fun _ _ _ h => h
  · rfl
  · (intro w hSw; (try dsimp only at hSw); first | (go_simp; done) | (go_simp; with_reducible rfl))
  · assumption
  try simp only [Act.put, List.setIfInBounds_toArray, List.set_cons_zero, List.set_cons_succ]
  refine wpAnyH_take (i := 8) (oi := ?_) (v := ?_) ?_ (by kernel_rfl) (by kernel_rfl) (by kernel_rfl) ?_ (Or.inl ⟨?_, ?_⟩) ?_ ?_; rotate_left 2
  · (simp only [List.getElem?_toArray, List.getElem?_cons_succ, List.getElem?_cons_zero]; rfl)
  · exact fun _ _ _ h => h
  · rfl
  · (intro w hSw; (try dsimp only at hSw); first | (go_simp; done) | (go_simp; with_reducible rfl))
  · assumption
  try simp only [Act.put, List.setIfInBounds_toArray, List.set_cons_zero, List.set_cons_succ]
  refine wpAnyH_take (i := 9) (oi := ?_) (v := ?_) ?_ (by kernel_rfl) (by kernel_rfl) (by kernel_rfl) ?_ (Or.inl ⟨?_, ?_⟩) ?_ ?_; rotate_left 2
  · (simp only [List.getElem?_toArray, List.getElem?_cons_succ, List.getElem?_cons_zero]; rfl)
  · exact fun _ _ _ h => h
  · rfl
  · (intro w hSw; (try dsimp only at hSw); first | (go_simp; done) | (go_simp; with_reducible rfl))
  · assumption
  try simp only [Act.put, List.setIfInBounds_toArray, List.set_cons_zero, List.set_cons_succ]
  refine wpAnyH_take (i := 10) (oi := ?_) (v := ?_) ?_ (by kernel_rfl) (by kernel_rfl) (by kernel_rfl) ?_ (Or.inl ⟨?_, ?_⟩) ?_ ?_; rotate_left 2
  · (simp only [List.getElem?_toArray, List.getElem?_cons_succ, List.getElem?_cons_zero]; rfl)
  · exact fun _ _ _ h => h
  · rfl
  · (intro w hSw; (try dsimp only at hSw); first | (go_simp; done) | (go_simp; with_reducible rfl))
  · assumption
  try simp only [Act.put, List.setIfInBounds_toArray, List.set_cons_zero, List.set_cons_succ]
  refine wpAnyH_take (i := 11) (oi := ?_) (v := ?_) ?_ (by kernel_rfl) (by kernel_rfl) (by kernel_rfl) ?_ (Or.inl ⟨?_, ?_⟩) ?_ ?_; rotate_left 2
  · (simp only [List.getElem?_toArray, List.getElem?_cons_succ, List.getElem?_cons_zero]; rfl)
  · exact fun _ _ _ h => h
  · rfl
  · (intro w hSw; (try dsimp only at hSw); first | (go_simp; done) | (go_simp; with_reducible rfl))
  · assumption
  try simp only [Act.put, List.setIfInBounds_toArray, List.set_cons_zero, List.set_cons_succ]
  refine wpAnyH_take (i := 12) (oi := ?_) (v := ?_) ?_ (by kernel_rfl) (by kernel_rfl) (by kernel_rfl) ?_ (Or.inl ⟨?_, ?_⟩) ?_ ?_; rotate_left 2
  · (simp only [List.getElem?_toArray, List.getElem?_cons_succ, List.getElem?_cons_zero]; rfl)
  · exact fun _ _ _ h => h
  · rfl
  · (intro w hSw; (try dsimp only at hSw); first | (go_simp; done) | (go_simp; with_reducible rfl))
  · assumption
  try simp only [Act.put, List.setIfInBounds_toArray, List.set_cons_zero, List.set_cons_succ]
  refine wpAnyH_take (i := 13) (oi := ?_) (v := ?_) ?_ (by kernel_rfl) (by kernel_rfl) (by kernel_rfl) ?_ (Or.inl ⟨?_, ?_⟩) ?_ ?_; rotate_left 2
  · (simp only [List.getElem?_toArray, List.getElem?_cons_succ, List.getElem?_cons_zero]; rfl)
  · exact fun _ _ _ h => h
  · rfl
  · (intro w hSw; (try dsimp only at hSw); first | (go_simp; done) | (go_simp; with_reducible rfl))
  · assumption
  try simp only [Act.put, List.setIfInBounds_toArray, List.set_cons_zero, List.set_cons_succ]
  refine wpAnyH_take (i := 14) (oi := ?_) (v := ?_) ?_ (by kernel_rfl) (by kernel_rfl) (by kernel_rfl) ?_ (Or.inl ⟨?_, ?_⟩) ?_ ?_; rotate_left 2
  · (simp only [List.getElem?_toArray, List.getElem?_cons_succ, List.getElem?_cons_zero]; rfl)
  · exact fun _ _ _ h => h
  · rfl
  · (intro w hSw; (try dsimp only at hSw); first | (go_simp; done) | (go_simp; with_reducible rfl))
  · assumption
  try simp only [Act.put, List.setIfInBounds_toArray, List.set_cons_zero, List.set_cons_succ]
  refine wpAnyH_take (i := 15) (oi := ?_) (v := ?_) ?_ (by kernel_rfl) (by kernel_rfl) (by kernel_rfl) ?_ (Or.inl ⟨?_, ?_⟩) ?_ ?_; rotate_left 2
  · (simp only [List.getElem?_toArray, List.getElem?_cons_succ, List.getElem?_cons_zero]; rfl)
  · exact fun _ _ _ h => h
  · rfl
  · (intro w hSw; (try dsimp only at hSw); first | (go_simp; done) | (go_simp; with_reducible rfl))
  · assumption
  try simp only [Act.put, List.setIfInBounds_toArray, List.set_cons_zero, List.set_cons_succ]
  refine wpAnyH_take (i := 16) (oi := ?_) (v := ?_) ?_ (by kernel_rfl) (by kernel_rfl) (by kernel_rfl) ?_ (Or.inl ⟨?_, ?_⟩) ?_ ?_; rotate_left 2
  · (simp only [List.getElem?_toArray, List.getElem?_cons_succ, List.getElem?_cons_zero]; rfl)
  · exact fun _ _ _ h => h
  · rfl
  · (intro w hSw; (try dsimp only at hSw); first | (go_simp; done) | (go_simp; with_reducible rfl))
  · assumption
  try simp only [Act.put, List.setIfInBounds_toArray, List.set_cons_zero, List.set_cons_succ]
  refine wpAnyH_ready (rs := [0]) (by kernel_rfl) (by simp) ?_
  refine AllReadyH.cons (o := ?_) ?_ ?_ ?_; rotate_left 1
  · (simp only [List.getElem?_toArray, List.getElem?_cons_succ, List.getElem?_cons_zero]; rfl)
  · intro K' hK
    go_simp
    replace hb := hb.frame ((Step.refl [] _ _).alloc (.cells #[] 35)) (by simp)
    replace hpre := hpre.frame ((Step.refl [] _ _).alloc (.cells #[] 35)) (by simp)
    replace hsuf := hsuf.frame ((Step.refl [] _ _).alloc (.cells #[] 35)) (by simp)
    replace st := st.trans ((Step.refl [] _ _).alloc (.cells #[] 35))
    refine hK.out _ _ ?_ (fun hHeld => ?_)
    · exact hb.cell0
    clear hK K'
    try simp only [Act.put, List.setIfInBounds_toArray, List.set_cons_zero, List.set_cons_succ]
    refine wpAnyH_ready (rs := [7]) (by kernel_rfl) (by simp) ?_
    refine AllReadyH.cons (o := ?_) ?_ ?_ ?_; rotate_left 1
    · (simp only [List.getElem?_toArray, List.getElem?_cons_succ, List.getElem?_cons_zero]; rfl)
    · intro K' hK
      refine step_app0 (.tmp 69) (.tmp 75) 22 rfl o' (i + 1) Try.underlying22 info35 rfl (by rfl) (by rfl) (by rfl) hpre (by omega) (by omega) ?_
      intro vN wN oN hN sN
      obtain ⟨aN, cN, rfl, -, -⟩ := hN.slice
      replace hb := hb.frame sN (by simp)
      replace hsuf := hsuf.frame sN (by simp)
      replace st := st.trans sN
      refine hK.out _ _ ?_ (fun hHeld => ?_)
      · exact hb.cell0
      clear hK K'
      try simp only [Act.put, List.setIfInBounds_toArray, List.set_cons_zero, List.set_cons_succ]
      refine wpAnyH_ready (rs := [17]) (by kernel_rfl) (by simp) ?_
      refine AllReadyH.cons (o := ?_) ?_ ?_ ?_; rotate_left 1
      · (simp only [List.getElem?_toArray, List.getElem?_cons_succ, List.getElem?_cons_zero]; rfl)
      · intro K' hK
        refine step_app (.tmp 76) (.tmp 85) 22 rfl Try.underlying22 info35 rfl (by rfl) (by rfl) hN (by first | rfl | simp [Act.eval, Act.put]) hsuf (ints_one _ _) (by omega) (by omega) ?_
        intro vM wM oM hM sM
        obtain ⟨aM, cM, rfl, -, -⟩ := hM.slice
        replace hb := hb.frame sM (by simp)
        replace st := st.nil.trans sM
        refine hK.out _ _ ?_ (fun hHeld => ?_)
        · exact hb.cell0
        clear hK K'
        try simp only [Act.put, List.setIfInBounds_toArray, List.set_cons_zero, List.set_cons_succ]
        refine wpAnyH_take (i := 18) (oi := ?_) (v := ?_) ?_ (by kernel_rfl) (by kernel_rfl) (by kernel_rfl) ?_ (Or.inl ⟨?_, ?_⟩) ?_ ?_; rotate_left 2
        · (simp only [List.getElem?_toArray, List.getElem?_cons_succ, List.getElem?_cons_zero]; rfl)
        · exact fun _ _ _ h => h
        · rfl
        · (intro w hSw; (try dsimp only at hSw); first | (go_simp; done) | (go_simp; with_reducible rfl))
        · assumption
        try simp only [Act.put, List.setIfInBounds_toArray, List.set_cons_zero, List.set_cons_succ]
        refine wpAnyH_done (by kernel_rfl) ?_ _
        have hxB := fun cs => hM.frame ((Step.refl [] wM oM).alloc (.cells cs 35)) (by simp)
        go_wp2_with (at_builtin; refine wpList_app rfl (.tmp 88) (.tmp 90) 22 rfl Try.underlying22 info35 rfl rfl (hxB _) rfl (Rd.fresh wM oM 1 35 #[.int .i64 x] 1 (by decide) rfl) (by simp [Value.oneCell']) (by omega) (by omega) ?_)
        intro v3 w3 o3 hrow3 hst3
        have s3 := ((Step.refl [] wM oM).alloc (.cells #[.int .i64 x] 35))
        have hb3 := (hb.frame s3 (by simp)).frame hst3 (by simp)
        have hc3 := hb3.cell0
        have hf3 := hb3.frozen 0
        have hl' : (l ++ (m ++ [x])).length = A + M + 1 := by simp [HA.out, HM.out]; omega
        have hrow' : Row w3 o3 (i + 1) 35 1 v3 (l ++ (m ++ [x])).length (ints (l ++ (m ++ [x]))) := by rw [hl']; simpa [ints] using hrow3
        obtain ⟨ao', cap', rfl, _, _⟩ := hrow3.slice
        have hS := (st.trans s3.nil).trans hst3
        have := Hn.out
        have := HN.out
        have := H2.out
        obtain ⟨g1, g2⟩ := Stk.put (by decide) hb hrow' (s3.nil.trans hst3) (by rw [hl']; omega)
        rw [show A + M + 1 = N2 + 1 by omega] at g1 g2
        clear hrow3 hrow' hb hb3 hxB hl' hM
        go_wp2_with fail
        go_ret
        exact ⟨o3, rfl, g1, (st.weaken (by simp)).trans g2⟩
      exact AllReadyH.nil
    exact AllReadyH.nil
  exact AllReadyH.nil
end Go.Proofs.Ytkefiimcopeioaa
