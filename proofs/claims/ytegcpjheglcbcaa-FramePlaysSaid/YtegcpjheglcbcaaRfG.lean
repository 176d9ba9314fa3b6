/- The document's frames: Step (printed by gen_rfg.py). -/
import Derived.Test.YtegcpjheglcbcaaRfE
namespace Go.Proofs.Ytegcpjheglcbcaa
open Go Go.RowKit Go.Shelf
set_option linter.unusedSimpArgs false
set_option linter.unusedVariables false

theorem rstep_none {w : World} {o : Owner} {i b : Nat} (hs : RT w o i b []) (by_ : Int) :
    Calls Try.prog 35 #[.pointer (some ⟨b, 0, none⟩), .int .i64 by_] w fun e w' => e = .returned (.tuple #[.bool false, .int .i64 (-26)]) ∧ Step [] w o w' o := by
  have htop := rtop_nil hs
  clear hs
  go_enter Try.func35, Try.ntmps35
  go_wp2_with (go_at_call 26; refine htop.mono ?_; rintro e w1 ⟨rfl, s1⟩)
  go_ret2
  exact ⟨rfl, s1.alloc _⟩

theorem rstep_miss {w : World} {o : Owner} {i b : Nat} {fl : List (Fr × List Int × Nat)} {k a c x y : Int} {lv : Value} {l : List Int} {t : Nat} (hs : RT w o i b (fl ++ [(⟨k, a, c, x, y, lv⟩, l, t)])) (hi : i ≠ 77 ∧ i + 1 ≠ 77) (hk : k ≠ 3) (by_ : Int) :
    Calls Try.prog 35 #[.pointer (some ⟨b, 0, none⟩), .int .i64 by_] w fun e w' => ∃ o', e = .returned (.tuple #[.bool false, .int .i64 (-26)]) ∧ Step [] w o w' o' := by
  have htop := rtop_some hs hi 40 (by decide)
  have hkb : (k != 3) = true := by simpa using hk
  clear hs hk
  go_enter Try.func35, Try.ntmps35
  go_wp2_with (go_at_call 26; refine htop.mono ?_; rintro e w1 ⟨lv', o1, rfl, hrow, s1⟩; obtain ⟨al, cl, rfl, _, _⟩ := hrow.slice; have fT := FB.new w1 k a c x y (.slice al l.length cl); obtain ⟨⟨t0, t1, t2, t3, t4, t5⟩, _⟩ := fT.facts)
  go_ret2
  first | exact ⟨o1, rfl, s1.alloc _⟩ | exact ⟨rfl, o1, s1.alloc _⟩

theorem Blk.freshR {w : World} {o : Owner} {i b : Nat} {T : TypeId} {cs : Array Value} (h : Blk w o i b T cs) (k a c x y : Int) (lv : Value) :
    ∃ j, Rd (w.alloc (.cells #[.int .i64 k, .int .i64 a, .int .i64 c, .int .i64 x, .int .i64 y, lv] 30)) o j 6 (.slice (some ⟨w.heap.size, 0, none⟩) 1 1) 1 [.int .i64 k, .int .i64 a, .int .i64 c, .int .i64 x, .int .i64 y, lv] :=
  ⟨_, Rd.fresh w o 6 30 #[.int .i64 k, .int .i64 a, .int .i64 c, .int .i64 x, .int .i64 y, lv] 1 (by decide) rfl⟩

/-- What the loop's end hangs on. -/
structure StepT (d s by_ : Int) (L M N : Bool) : Prop where
  l1 : decide (d < 0) = L
  l2 : decide (0 ≤ d) = !L
  m1 : decide (0 ≤ by_) = M
  m2 : decide (by_ < 0) = !M
  n1 : decide (s < 0) = N
  n2 : decide (0 ≤ s) = !N
theorem stepT (d s by_ : Int) : StepT d s by_ (decide (d < 0)) (decide (0 ≤ by_)) (decide (s < 0)) :=
  ⟨rfl, by rw [← decide_not]; congr 1; simp, rfl, by rw [← decide_not]; congr 1; simp, rfl, by rw [← decide_not]; congr 1; simp⟩

set_option maxRecDepth 100000 in
set_option maxHeartbeats 16000000 in
theorem rstep_end {w : World} {o : Owner} {i b : Nat} {fl : List (Fr × List Int × Nat)} {a c x y : Int} {lv : Value} {l : List Int} {t : Nat} (hs : RT w o i b (fl ++ [(⟨3, a, c, x, y, lv⟩, l, t)])) (hi : i ≠ 77 ∧ i + 1 ≠ 77) (by_ : Int) (hend : endF x y by_ = true) :
    Calls Try.prog 35 #[.pointer (some ⟨b, 0, none⟩), .int .i64 by_] w fun e w' => ∃ o', e = .returned (.tuple #[.bool true, .int .i64 0]) ∧ RT w' o' i b fl ∧ Step [i] w o w' o' := by
  have htop := rtop_some hs hi 40 (by decide)
  obtain ⟨d, hd⟩ : ∃ d, wrap64 (x - y) = d := ⟨_, rfl⟩
  obtain ⟨s, hsd⟩ : ∃ s, wrap64 (d + by_) = s := ⟨_, rfl⟩
  rw [endF, hd, hsd] at hend
  have hT := stepT d s by_
  generalize decide (d < 0) = L at hT hend
  generalize decide (0 ≤ by_) = M at hT hend
  generalize decide (s < 0) = N0 at hT hend
  have hcase : (L = true ∧ M = true ∧ N0 = false) ∨ (L = false ∧ M = false ∧ N0 = true) := by
    revert hend; cases L <;> cases M <;> cases N0 <;> simp
  clear hend
  obtain ⟨l1, l2, m1, m2, n1, n2⟩ := hT
  have h33 : (3 != (3 : Int)) = false := rfl
  rcases hcase with ⟨rfl, rfl, rfl⟩ | ⟨rfl, rfl, rfl⟩
  all_goals
    simp only [Bool.not_true, Bool.not_false] at l2 m2 n2
    go_enter Try.func35, Try.ntmps35
    go_wp2_with fail
    refine htop.mono ?_
    rintro e w1 ⟨lv', o2, rfl, hrow, s1⟩
    obtain ⟨al, cl, rfl, _, _⟩ := hrow.slice
    have sT : Step [] w1 o2 (w1.alloc (.cells #[.int .i64 3, .int .i64 a, .int .i64 c, .int .i64 x, .int .i64 y, .slice al l.length cl] 30)) (o2.set w1.heap.size 77) := ((Step.refl _ _ _).alloc _).give (Nat.le_refl _) _
    have hTb := Blk.new w1 o2 77 30 #[.int .i64 3, .int .i64 a, .int .i64 c, .int .i64 x, .int .i64 y, .slice al l.length cl]
    replace hs := (hs.frame0 s1).frame0 sT
    have st := s1.trans sT
    generalize o2.set w1.heap.size 77 = o3 at hs hTb st
    clear htop sT s1 hrow
    obtain ⟨ao, cap, hc, hle, hcap, hf, hset⟩ := hs.cut
    rw [List.length_append, List.length_singleton] at hc hle
    obtain ⟨hN, hS⟩ := hset fl.length (by simp)
    rw [List.take_left] at hN
    obtain ⟨n, hn⟩ : ∃ n, fl.length = n := ⟨_, rfl⟩
    obtain ⟨N, hNn⟩ : ∃ N, n + 1 = N := ⟨_, rfl⟩
    rw [hn] at hc hle hN hS
    rw [hNn] at hc hle
    have q1 : (N : Int) - 1 = n := by omega
    have q2 : (n : Int) ≤ cap := by omega
    obtain ⟨⟨t0, t1, t2, t3, t4, t5⟩, _⟩ := hTb.facts6
    obtain ⟨W1, hW1⟩ : ∃ W1, w1.alloc (.cells #[.int .i64 3, .int .i64 a, .int .i64 c, .int .i64 x, .int .i64 y, .slice al l.length cl] 30) = W1 := ⟨_, rfl⟩
    rw [hW1] at hN hS st
    have sd : Step [] (W1.setCell ⟨b, 0, none⟩ (.slice ao n cap)) o3 (W1.setCell ⟨b, 0, none⟩ (.slice ao n cap)).drew o3 := (Step.refl _ _ _).drew
    replace hN := hN.frame0 sd
    replace st := (st.nil.trans hS).trans sd.nil
    have HW := Lib.hid hW1
    clear hset hs hn hNn hTb hS sd hW1
    go_wp2_with fail
    go_region
    rw [HW.out]
    generalize (W1.setCell ⟨b, 0, none⟩ (.slice ao n cap)).drew = W4 at hN st ⊢
    clear t0 t1 t2 t3 t4 t5 hc hf HW
    go_wp2_with fail
    go_ret2
    first | exact ⟨o3, rfl, hN, st⟩ | exact ⟨rfl, o3, hN, st⟩

set_option maxRecDepth 100000 in
set_option maxHeartbeats 16000000 in
theorem rstep_put {w : World} {o : Owner} {i b : Nat} {fl : List (Fr × List Int × Nat)} {a c x y : Int} {lv : Value} {l : List Int} {t : Nat} (hs : RT w o i b (fl ++ [(⟨3, a, c, x, y, lv⟩, l, t)])) (hi : i ≠ 77 ∧ i + 1 ≠ 77) (j : Nat) (hj : j ≠ i ∧ j ≠ i + 1 ∧ j ≠ 77) (by_ d s x' : Int) (hd : wrap64 (x - y) = d) (hsd : wrap64 (d + by_) = s) (hx' : wrap64 (x + by_) = x') (L M N0 : Bool) (hT : StepT d s by_ L M N0) (hLMN : ((L == M) && (L != N0)) = false) :
    Calls Try.prog 35 #[.pointer (some ⟨b, 0, none⟩), .int .i64 by_] w fun e w' => ∃ o' lv', e = .returned (.tuple #[.bool false, .int .i64 0]) ∧ RT w' o' i b (fl ++ [(⟨3, a, c, x', y, lv'⟩, l, j)]) ∧ Step [i, i + 1] w o w' o' := by
  have htop := rtop_some hs hi j hj.2.2
  obtain ⟨l1, l2, m1, m2, n1, n2⟩ := hT
  have h33 : (3 != (3 : Int)) = false := rfl
  obtain ⟨h0, ⟨v, hb, hr⟩, hL⟩ := hs
  rw [List.length_append, List.length_singleton] at h0 hr
  obtain ⟨ao, cap, rfl, hcap1, hcap2⟩ := hr.slice
  have hpre := hr.cut (k := fl.length) (by omega)
  rw [frs_take _ _ (by simp), List.map_append, List.take_append_of_le_length (by simp), List.take_of_length_le (by simp)] at hpre
  obtain ⟨n, hn⟩ : ∃ n, fl.length = n := ⟨_, rfl⟩
  obtain ⟨N, hNn⟩ : ∃ N, n + 1 = N := ⟨_, rfl⟩
  rw [hn] at hb hpre hcap1 h0
  rw [hNn] at hb hcap1 h0
  have hll := (hL _ (List.mem_append_right _ (List.mem_singleton_self _))).1
  have hLo : ∀ p ∈ fl, p.2.1.length ≤ 1000000 ∧ p.2.2 ≠ i ∧ p.2.2 ≠ i + 1 ∧ p.2.2 ≠ 77 ∧ Row w o p.2.2 22 1 p.1.lv p.2.1.length (cellsOf p.2.1) := fun p hp => hL p (by simp [hp])
  have q1 : (N : Int) - 1 = n := by omega
  have q2 : (n : Int) ≤ cap := by omega
  have w1' : IntKind.i64.wrap (n : Int) = n := by simp [IntKind.wrap, IntKind.signed, IntKind.bits]; omega
  have HL := Lib.hid hLo
  have HN := Lib.hid hn
  have HLL := Lib.hid hll
  clear hr hL hLo hn hll hNn
  have key : ∀ (W : World) (O : Owner) (al : Option Addr) (cl : Nat) (x : Int), Step [] w o W O → Row W O j 22 1 (.slice al l.length cl) l.length (cellsOf l) → Step [] w o (W.alloc (.cells #[.int .i64 3, .int .i64 a, .int .i64 c, .int .i64 x, .int .i64 y, .slice al l.length cl] 30)) (O.set W.heap.size 77) ∧ Blk (W.alloc (.cells #[.int .i64 3, .int .i64 a, .int .i64 c, .int .i64 x, .int .i64 y, .slice al l.length cl] 30)) (O.set W.heap.size 77) 77 W.heap.size 30 #[.int .i64 3, .int .i64 a, .int .i64 c, .int .i64 x, .int .i64 y, .slice al l.length cl] ∧ Row (W.alloc (.cells #[.int .i64 3, .int .i64 a, .int .i64 c, .int .i64 x, .int .i64 y, .slice al l.length cl] 30)) (O.set W.heap.size 77) j 22 1 (.slice al l.length cl) l.length (cellsOf l) := fun W O al cl x s hr => by
    have sT : Step [] W O (W.alloc (.cells #[.int .i64 3, .int .i64 a, .int .i64 c, .int .i64 x, .int .i64 y, .slice al l.length cl] 30)) (O.set W.heap.size 77) := ((Step.refl _ _ _).alloc _).give (Nat.le_refl _) _
    exact ⟨s.trans sT, Blk.new _ _ _ _ _, hr.frame sT (by simp)⟩
  go_enter Try.func35, Try.ntmps35
  go_wp2_with fail
  refine htop.mono ?_
  rintro e w1 ⟨lv', o2, rfl, hrowC, s1⟩
  obtain ⟨ac, cc, rfl, _, _⟩ := hrowC.slice
  have fT := FB.new w1 3 a c x y (.slice ac l.length cc)
  obtain ⟨⟨t0, t1, t2, t3, t4, t5⟩, f0, f1, f2, f3, f4, f5⟩ := fT.facts
  obtain ⟨st, hz, hrowC⟩ := key _ _ _ _ x' s1 hrowC
  generalize o2.set w1.heap.size 77 = o3 at st hz hrowC
  go_upto_region 5 with fail
  obtain ⟨WX, hWX⟩ : ∃ WX, WX = w1.alloc (.cells #[.int .i64 3, .int .i64 a, .int .i64 c, .int .i64 x, .int .i64 y, .slice ac l.length cc] 30) := ⟨_, rfl⟩
  have HWX := Lib.hid hWX
  rw [← hWX]
  clear hWX
  go_cut [51] from 26 to 51 (fun cv wx => cv = .bool false ∧ wx = WX)
  case first =>
    clear t0 t1 t2 t3 t4 t5 f0 f1 f2 f3 f4 f5 hx' hb hpre st hz hrowC key
    revert hLMN
    cases L <;> cases M <;> cases N0 <;> intro hLMN
    all_goals first | (exact absurd hLMN (by decide)) | skip
    all_goals
      clear hLMN
      simp only [Bool.not_true, Bool.not_false] at l2 m2 n2
      go_wp2_with fail
      go_meet
      first
        | exact ⟨rfl, rfl⟩
        | (refine ⟨?_, rfl⟩; rw [hd, hsd, n1])
        | (refine ⟨?_, rfl⟩; rw [hd, hsd, n2])
  case rest =>
    obtain ⟨rfl, rfl⟩ := hcut
    rw [HWX.out]
    clear l1 l2 m1 m2 n1 n2 hd hsd
    go_wp2_with fail
    clear t0 t1 t2 t3 t4 t5 f0 f1 f2 f3 f4 f5
    have sd : Step [] (w1.alloc (.cells #[.int .i64 3, .int .i64 a, .int .i64 c, .int .i64 x', .int .i64 y, .slice ac l.length cc] 30)) o3 (w1.alloc (.cells #[.int .i64 3, .int .i64 a, .int .i64 c, .int .i64 x', .int .i64 y, .slice ac l.length cc] 30)).drew o3 := (Step.refl _ _ _).drew
    replace st := st.trans sd
    replace hz := hz.frame sd (by simp)
    replace hrowC := hrowC.frame sd (by simp)
    replace hb := hb.frame st (by simp)
    replace hpre := (hpre.frame st (by simp)).rd
    generalize w1.heap.size = z at hz ⊢
    refine wp_region_held_drew (S := fun W => W.cell? ⟨z, 0, none⟩ = some (.int .i64 3) ∧ W.cell? ⟨z, 1, none⟩ = some (.int .i64 a) ∧ W.cell? ⟨z, 2, none⟩ = some (.int .i64 c) ∧ W.cell? ⟨z, 3, none⟩ = some (.int .i64 x') ∧ W.cell? ⟨z, 4, none⟩ = some (.int .i64 y) ∧ W.cell? ⟨z, 5, none⟩ = some (.slice ac l.length cc)) (by kernel_rfl) hz.facts6.1 (fun hHeld => ?_)
    generalize (w1.alloc (.cells #[.int .i64 3, .int .i64 a, .int .i64 c, .int .i64 x', .int .i64 y, .slice ac l.length cc] 30)).drew = wd at hb hz hpre hrowC st hHeld ⊢
    clear sd key
    refine wpAnyH_take (i := 0) (oi := ?_) (v := ?_) ?_ (by kernel_rfl) (by kernel_rfl) (by kernel_rfl) ?_ (Or.inl ⟨?_, ?_⟩) ?_ ?_; rotate_left 2
    · (simp only [List.getElem?_toArray, List.getElem?_cons_succ, List.getElem?_cons_zero]; rfl)
    · exact fun _ _ _ h => h
    · rfl
    · (intro w hSw; (try dsimp only at hSw); obtain ⟨s0, s1, s2, s3, s4, s5⟩ := hSw; first | (go_simp; done) | (go_simp; with_reducible rfl))
    · assumption
    try simp only [Act.put, List.setIfInBounds_toArray, List.set_cons_zero, List.set_cons_succ]
    refine wpAnyH_take (i := 2) (oi := ?_) (v := ?_) ?_ (by kernel_rfl) (by kernel_rfl) (by kernel_rfl) ?_ (Or.inl ⟨?_, ?_⟩) ?_ ?_; rotate_left 2
    · (simp only [List.getElem?_toArray, List.getElem?_cons_succ, List.getElem?_cons_zero]; rfl)
    · exact fun _ _ _ h => h
    · rfl
    · (intro w hSw; (try dsimp only at hSw); obtain ⟨s0, s1, s2, s3, s4, s5⟩ := hSw; first | (go_simp; done) | (go_simp; with_reducible rfl))
    · assumption
    try simp only [Act.put, List.setIfInBounds_toArray, List.set_cons_zero, List.set_cons_succ]
    refine wpAnyH_take (i := 3) (oi := ?_) (v := ?_) ?_ (by kernel_rfl) (by kernel_rfl) (by kernel_rfl) ?_ (Or.inl ⟨?_, ?_⟩) ?_ ?_; rotate_left 2
    · (simp only [List.getElem?_toArray, List.getElem?_cons_succ, List.getElem?_cons_zero]; rfl)
    · exact fun _ _ _ h => h
    · rfl
    · (intro w hSw; (try dsimp only at hSw); obtain ⟨s0, s1, s2, s3, s4, s5⟩ := hSw; first | (go_simp; done) | (go_simp; with_reducible rfl))
    · assumption
    try simp only [Act.put, List.setIfInBounds_toArray, List.set_cons_zero, List.set_cons_succ]
    refine wpAnyH_take (i := 4) (oi := ?_) (v := ?_) ?_ (by kernel_rfl) (by kernel_rfl) (by kernel_rfl) ?_ (Or.inl ⟨?_, ?_⟩) ?_ ?_; rotate_left 2
    · (simp only [List.getElem?_toArray, List.getElem?_cons_succ, List.getElem?_cons_zero]; rfl)
    · exact fun _ _ _ h => h
    · rfl
    · (intro w hSw; (try dsimp only at hSw); obtain ⟨s0, s1, s2, s3, s4, s5⟩ := hSw; first | (go_simp; done) | (go_simp; with_reducible rfl))
    · assumption
    try simp only [Act.put, List.setIfInBounds_toArray, List.set_cons_zero, List.set_cons_succ]
    refine wpAnyH_take (i := 6) (oi := ?_) (v := ?_) ?_ (by kernel_rfl) (by kernel_rfl) (by kernel_rfl) ?_ (Or.inl ⟨?_, ?_⟩) ?_ ?_; rotate_left 2
    · (simp only [List.getElem?_toArray, List.getElem?_cons_succ, List.getElem?_cons_zero]; rfl)
    · exact fun _ _ _ h => h
    · rfl
    · (intro w hSw; (try dsimp only at hSw); obtain ⟨s0, s1, s2, s3, s4, s5⟩ := hSw; first | (go_simp; done) | (go_simp; with_reducible rfl))
    · assumption
    try simp only [Act.put, List.setIfInBounds_toArray, List.set_cons_zero, List.set_cons_succ]
    refine wpAnyH_take (i := 7) (oi := ?_) (v := ?_) ?_ (by kernel_rfl) (by kernel_rfl) (by kernel_rfl) ?_ (Or.inl ⟨?_, ?_⟩) ?_ ?_; rotate_left 2
    · (simp only [List.getElem?_toArray, List.getElem?_cons_succ, List.getElem?_cons_zero]; rfl)
    · exact fun _ _ _ h => h
    · rfl
    · (intro w hSw; (try dsimp only at hSw); obtain ⟨s0, s1, s2, s3, s4, s5⟩ := hSw; first | (go_simp; done) | (go_simp; with_reducible rfl))
    · assumption
    try simp only [Act.put, List.setIfInBounds_toArray, List.set_cons_zero, List.set_cons_succ]
    refine wpAnyH_take (i := 8) (oi := ?_) (v := ?_) ?_ (by kernel_rfl) (by kernel_rfl) (by kernel_rfl) ?_ (Or.inl ⟨?_, ?_⟩) ?_ ?_; rotate_left 2
    · (simp only [List.getElem?_toArray, List.getElem?_cons_succ, List.getElem?_cons_zero]; rfl)
    · exact fun _ _ _ h => h
    · rfl
    · (intro w hSw; (try dsimp only at hSw); obtain ⟨s0, s1, s2, s3, s4, s5⟩ := hSw; first | (go_simp; done) | (go_simp; with_reducible rfl))
    · assumption
    try simp only [Act.put, List.setIfInBounds_toArray, List.set_cons_zero, List.set_cons_succ]
    refine wpAnyH_take (i := 14) (oi := ?_) (v := ?_) ?_ (by kernel_rfl) (by kernel_rfl) (by kernel_rfl) ?_ (Or.inl ⟨?_, ?_⟩) ?_ ?_; rotate_left 2
    · (simp only [List.getElem?_toArray, List.getElem?_cons_succ, List.getElem?_cons_zero]; rfl)
    · exact fun _ _ _ h => h
    · rfl
    · (intro w hSw; (try dsimp only at hSw); obtain ⟨s0, s1, s2, s3, s4, s5⟩ := hSw; first | (go_simp; done) | (go_simp; with_reducible rfl))
    · assumption
    try simp only [Act.put, List.setIfInBounds_toArray, List.set_cons_zero, List.set_cons_succ]
    refine wpAnyH_ready (rs := [1, 5, 9, 15]) (by kernel_rfl) (by simp) ?_
    refine AllReadyH.cons (o := ?_) ?_ ?_ ?_; rotate_left 1
    · (simp only [List.getElem?_toArray, List.getElem?_cons_succ, List.getElem?_cons_zero]; rfl)
    · intro K' hK
      go_simp
      replace hb := hb.frame ((Step.refl [] _ _).alloc (.cells #[] 30)) (by simp)
      replace hz := hz.frame ((Step.refl [] _ _).alloc (.cells #[] 30)) (by simp)
      replace hrowC := hrowC.frame ((Step.refl [] _ _).alloc (.cells #[] 30)) (by simp)
      replace hpre := hpre.frame ((Step.refl [] _ _).alloc (.cells #[] 30)) (by simp)
      replace st := st.trans ((Step.refl [] _ _).alloc (.cells #[] 30))
      refine hK.out _ _ ?_ (fun hHeld => ?_)
      · exact hz.facts6.1
      clear hK K'
      try simp only [Act.put, List.setIfInBounds_toArray, List.set_cons_zero, List.set_cons_succ]
      refine wpAnyH_ready (rs := [5, 9, 15]) (by kernel_rfl) (by simp) ?_
      refine AllReadyH.cons (o := ?_) ?_ ?_ ?_; rotate_left 1
      · (simp only [List.getElem?_toArray, List.getElem?_cons_succ, List.getElem?_cons_zero]; rfl)
      · intro K' hK
        have hcb := hb.cell0
        go_simp
        clear hcb
        refine hK.out _ _ ?_ (fun hHeld => ?_)
        · exact hz.facts6.1
        clear hK K'
        try simp only [Act.put, List.setIfInBounds_toArray, List.set_cons_zero, List.set_cons_succ]
        refine wpAnyH_ready (rs := [9, 15]) (by kernel_rfl) (by simp) ?_
        refine AllReadyH.cons (o := ?_) ?_ ?_ ?_; rotate_left 1
        · (simp only [List.getElem?_toArray, List.getElem?_cons_succ, List.getElem?_cons_zero]; rfl)
        · intro K' hK
          have hcb := hb.cell0
          go_simp
          clear hcb
          refine hK.out _ _ ?_ (fun hHeld => ?_)
          · exact hz.facts6.1
          clear hK K'
          try simp only [Act.put, List.setIfInBounds_toArray, List.set_cons_zero, List.set_cons_succ]
          refine wpAnyH_take (i := 10) (oi := ?_) (v := ?_) ?_ (by kernel_rfl) (by kernel_rfl) (by kernel_rfl) ?_ (Or.inl ⟨?_, ?_⟩) ?_ ?_; rotate_left 2
          · (simp only [List.getElem?_toArray, List.getElem?_cons_succ, List.getElem?_cons_zero]; rfl)
          · exact fun _ _ _ h => h
          · rfl
          · (intro w hSw; (try dsimp only at hSw); obtain ⟨s0, s1, s2, s3, s4, s5⟩ := hSw; first | (go_simp; done) | (go_simp; with_reducible rfl))
          · assumption
          try simp only [Act.put, List.setIfInBounds_toArray, List.set_cons_zero, List.set_cons_succ]
          refine wpAnyH_take (i := 11) (oi := ?_) (v := ?_) ?_ (by kernel_rfl) (by kernel_rfl) (by kernel_rfl) ?_ (Or.inl ⟨?_, ?_⟩) ?_ ?_; rotate_left 2
          · (simp only [List.getElem?_toArray, List.getElem?_cons_succ, List.getElem?_cons_zero]; rfl)
          · exact fun _ _ _ h => h
          · rfl
          · (intro w hSw; (try dsimp only at hSw); obtain ⟨s0, s1, s2, s3, s4, s5⟩ := hSw; first | (go_simp; done) | (go_simp; with_reducible rfl))
          · assumption
          try simp only [Act.put, List.setIfInBounds_toArray, List.set_cons_zero, List.set_cons_succ]
          refine wpAnyH_take (i := 12) (oi := ?_) (v := ?_) ?_ (by kernel_rfl) (by kernel_rfl) (by kernel_rfl) ?_ (Or.inl ⟨?_, ?_⟩) ?_ ?_; rotate_left 2
          · (simp only [List.getElem?_toArray, List.getElem?_cons_succ, List.getElem?_cons_zero]; rfl)
          · exact fun _ _ _ h => h
          · rfl
          · (intro w hSw; (try dsimp only at hSw); obtain ⟨s0, s1, s2, s3, s4, s5⟩ := hSw; first | (go_simp; done) | (go_simp; with_reducible rfl))
          · assumption
          try simp only [Act.put, List.setIfInBounds_toArray, List.set_cons_zero, List.set_cons_succ]
          refine wpAnyH_ready (rs := [13, 15]) (by kernel_rfl) (by simp) ?_
          refine AllReadyH.cons (o := ?_) ?_ ?_ ?_; rotate_left 1
          · (simp only [List.getElem?_toArray, List.getElem?_cons_succ, List.getElem?_cons_zero]; rfl)
          · intro K' hK
            refine step_app0 (.tmp 72) (.tmp 83) 38 rfl o3 (i + 1) Try.underlying38 info30 rfl (by rfl) (by rfl) (by rfl) hpre (by omega) (by omega) ?_
            intro vN wN oN hN sN
            obtain ⟨aN, cN, rfl, -, -⟩ := hN.slice
            replace hb := hb.frame sN (by simp)
            replace hz := hz.frame sN (by simp)
            replace hrowC := hrowC.frame sN (by simp)
            replace hpre := hpre.frame sN (by simp)
            replace st := st.trans sN
            refine hK.out _ _ ?_ (fun hHeld => ?_)
            · exact hz.facts6.1
            clear hK K'
            try simp only [Act.put, List.setIfInBounds_toArray, List.set_cons_zero, List.set_cons_succ]
            refine wpAnyH_ready (rs := [15]) (by kernel_rfl) (by simp) ?_
            refine AllReadyH.cons (o := ?_) ?_ ?_ ?_; rotate_left 1
            · (simp only [List.getElem?_toArray, List.getElem?_cons_succ, List.getElem?_cons_zero]; rfl)
            · intro K' hK
              go_simp
              obtain ⟨jX, hX⟩ := hb.freshR 3 a c x' y (.slice ac l.length cc)
              replace hb := hb.frame ((Step.refl [] _ _).alloc (.cells #[.int .i64 3, .int .i64 a, .int .i64 c, .int .i64 x', .int .i64 y, .slice ac l.length cc] 30)) (by simp)
              replace hz := hz.frame ((Step.refl [] _ _).alloc (.cells #[.int .i64 3, .int .i64 a, .int .i64 c, .int .i64 x', .int .i64 y, .slice ac l.length cc] 30)) (by simp)
              replace hrowC := hrowC.frame ((Step.refl [] _ _).alloc (.cells #[.int .i64 3, .int .i64 a, .int .i64 c, .int .i64 x', .int .i64 y, .slice ac l.length cc] 30)) (by simp)
              replace hpre := hpre.frame ((Step.refl [] _ _).alloc (.cells #[.int .i64 3, .int .i64 a, .int .i64 c, .int .i64 x', .int .i64 y, .slice ac l.length cc] 30)) (by simp)
              replace hN := hN.frame ((Step.refl [] _ _).alloc (.cells #[.int .i64 3, .int .i64 a, .int .i64 c, .int .i64 x', .int .i64 y, .slice ac l.length cc] 30)) (by simp)
              replace st := st.trans ((Step.refl [] _ _).alloc (.cells #[.int .i64 3, .int .i64 a, .int .i64 c, .int .i64 x', .int .i64 y, .slice ac l.length cc] 30))
              refine hK.out _ _ ?_ (fun hHeld => ?_)
              · exact hz.facts6.1
              clear hK K'
              try simp only [Act.put, List.setIfInBounds_toArray, List.set_cons_zero, List.set_cons_succ]
              refine wpAnyH_ready (rs := [16]) (by kernel_rfl) (by simp) ?_
              refine AllReadyH.cons (o := ?_) ?_ ?_ ?_; rotate_left 1
              · (simp only [List.getElem?_toArray, List.getElem?_cons_succ, List.getElem?_cons_zero]; rfl)
              · intro K' hK
                refine step_app (.tmp 84) (.tmp 86) 38 rfl Try.underlying38 info30 rfl (by rfl) (by rfl) hN (by first | rfl | simp [Act.eval, Act.put]) hX (by simp [Value.oneCell']) (by omega) (by omega) ?_
                intro vM wM oM hM sM
                obtain ⟨aM, cM, rfl, -, -⟩ := hM.slice
                replace hb := hb.frame sM (by simp)
                replace hz := hz.frame sM (by simpa using hi.2.symm)
                replace hrowC := hrowC.frame sM (by simpa using hj.2.1)
                replace st := st.nil.trans sM
                refine hK.out _ _ ?_ (fun hHeld => ?_)
                · exact hz.facts6.1
                clear hK K'
                try simp only [Act.put, List.setIfInBounds_toArray, List.set_cons_zero, List.set_cons_succ]
                refine wpAnyH_take (i := 17) (oi := ?_) (v := ?_) ?_ (by kernel_rfl) (by kernel_rfl) (by kernel_rfl) ?_ (Or.inl ⟨?_, ?_⟩) ?_ ?_; rotate_left 2
                · (simp only [List.getElem?_toArray, List.getElem?_cons_succ, List.getElem?_cons_zero]; rfl)
                · exact fun _ _ _ h => h
                · rfl
                · (intro w hSw; (try dsimp only at hSw); obtain ⟨s0, s1, s2, s3, s4, s5⟩ := hSw; first | (go_simp; done) | (go_simp; with_reducible rfl))
                · assumption
                try simp only [Act.put, List.setIfInBounds_toArray, List.set_cons_zero, List.set_cons_succ]
                refine wpAnyH_take (i := 18) (oi := ?_) (v := ?_) ?_ (by kernel_rfl) (by kernel_rfl) (by kernel_rfl) ?_ (Or.inl ⟨?_, ?_⟩) ?_ ?_; rotate_left 2
                · (simp only [List.getElem?_toArray, List.getElem?_cons_succ, List.getElem?_cons_zero]; rfl)
                · exact fun _ _ _ h => h
                · rfl
                · (intro w hSw; (try dsimp only at hSw); obtain ⟨s0, s1, s2, s3, s4, s5⟩ := hSw; first | (go_simp; done) | (go_simp; with_reducible rfl))
                · assumption
                try simp only [Act.put, List.setIfInBounds_toArray, List.set_cons_zero, List.set_cons_succ]
                refine wpAnyH_ready (rs := [19]) (by kernel_rfl) (by simp) ?_
                refine AllReadyH.cons (o := ?_) ?_ ?_ ?_; rotate_left 1
                · (simp only [List.getElem?_toArray, List.getElem?_cons_succ, List.getElem?_cons_zero]; rfl)
                · intro K' hK
                  have hcb := hb.cell0
                  have hfb := hb.frozen 0
                  go_simp
                  refine hK.out _ _ ?_ (fun hHeld => ?_)
                  · exact (hz.setOther (g := b) (fun e => by have h1 := hz.own; have h2 := hb.own; rw [e, h2] at h1; exact hi.1 h1) 0 _).facts6.1
                  clear hK K'
                  try simp only [Act.put, List.setIfInBounds_toArray, List.set_cons_zero, List.set_cons_succ]
                  refine wpAnyH_done (by kernel_rfl) ?_ _
                  go_wp2_with fail
                  go_ret2
                  have hrN : Row wM oM (i + 1) 30 6 (.slice aM (n + 1) cM) (fl ++ [((⟨3, a, c, x', y, .slice ac l.length cc⟩ : Fr), l, j)]).length (frs ((fl ++ [((⟨3, a, c, x', y, .slice ac l.length cc⟩ : Fr), l, j)]).map Prod.fst)) := by
                    rw [List.length_append, List.length_singleton, HN.out, List.map_append, List.map_singleton, frs_app]
                    exact hM
                  obtain ⟨g1, g2⟩ := RT.put hb hrN (by rw [List.length_append, List.length_singleton, HN.out]; omega) (fun p hp => by
                    rcases List.mem_append.1 hp with hp | hp
                    · obtain ⟨q1, q2, q3, q4, q5⟩ := HL.out p hp
                      exact ⟨q1, q2, q3, q4, q5.frame st (by simpa using q3)⟩
                    · rw [List.mem_singleton] at hp
                      subst hp
                      exact ⟨HLL.out, hj.1, hj.2.1, hj.2.2, hrowC⟩)
                  first | exact ⟨oM, _, rfl, g1, (st.weaken (by simp)).trans (g2.weaken (by simp))⟩ | exact ⟨rfl, oM, ⟨_, g1⟩, (st.weaken (by simp)).trans (g2.weaken (by simp))⟩ | exact ⟨rfl, oM, _, g1, (st.weaken (by simp)).trans (g2.weaken (by simp))⟩
                exact AllReadyH.nil
              exact AllReadyH.nil
            exact AllReadyH.nil
          refine AllReadyH.cons (o := ?_) ?_ ?_ ?_; rotate_left 1
          · (simp only [List.getElem?_toArray, List.getElem?_cons_succ, List.getElem?_cons_zero]; rfl)
          · intro K' hK
            go_simp
            obtain ⟨jX, hX⟩ := hb.freshR 3 a c x' y (.slice ac l.length cc)
            replace hb := hb.frame ((Step.refl [] _ _).alloc (.cells #[.int .i64 3, .int .i64 a, .int .i64 c, .int .i64 x', .int .i64 y, .slice ac l.length cc] 30)) (by simp)
            replace hz := hz.frame ((Step.refl [] _ _).alloc (.cells #[.int .i64 3, .int .i64 a, .int .i64 c, .int .i64 x', .int .i64 y, .slice ac l.length cc] 30)) (by simp)
            replace hrowC := hrowC.frame ((Step.refl [] _ _).alloc (.cells #[.int .i64 3, .int .i64 a, .int .i64 c, .int .i64 x', .int .i64 y, .slice ac l.length cc] 30)) (by simp)
            replace hpre := hpre.frame ((Step.refl [] _ _).alloc (.cells #[.int .i64 3, .int .i64 a, .int .i64 c, .int .i64 x', .int .i64 y, .slice ac l.length cc] 30)) (by simp)
            replace st := st.trans ((Step.refl [] _ _).alloc (.cells #[.int .i64 3, .int .i64 a, .int .i64 c, .int .i64 x', .int .i64 y, .slice ac l.length cc] 30))
            refine hK.out _ _ ?_ (fun hHeld => ?_)
            · exact hz.facts6.1
            clear hK K'
            try simp only [Act.put, List.setIfInBounds_toArray, List.set_cons_zero, List.set_cons_succ]
            refine wpAnyH_ready (rs := [13]) (by kernel_rfl) (by simp) ?_
            refine AllReadyH.cons (o := ?_) ?_ ?_ ?_; rotate_left 1
            · (simp only [List.getElem?_toArray, List.getElem?_cons_succ, List.getElem?_cons_zero]; rfl)
            · intro K' hK
              refine step_app0 (.tmp 72) (.tmp 83) 38 rfl o3 (i + 1) Try.underlying38 info30 rfl (by rfl) (by rfl) (by rfl) hpre (by omega) (by omega) ?_
              intro vN wN oN hN sN
              obtain ⟨aN, cN, rfl, -, -⟩ := hN.slice
              replace hb := hb.frame sN (by simp)
              replace hz := hz.frame sN (by simp)
              replace hrowC := hrowC.frame sN (by simp)
              replace hpre := hpre.frame sN (by simp)
              replace hX := hX.frame sN (by simp)
              replace st := st.trans sN
              refine hK.out _ _ ?_ (fun hHeld => ?_)
              · exact hz.facts6.1
              clear hK K'
              try simp only [Act.put, List.setIfInBounds_toArray, List.set_cons_zero, List.set_cons_succ]
              refine wpAnyH_ready (rs := [16]) (by kernel_rfl) (by simp) ?_
              refine AllReadyH.cons (o := ?_) ?_ ?_ ?_; rotate_left 1
              · (simp only [List.getElem?_toArray, List.getElem?_cons_succ, List.getElem?_cons_zero]; rfl)
              · intro K' hK
                refine step_app (.tmp 84) (.tmp 86) 38 rfl Try.underlying38 info30 rfl (by rfl) (by rfl) hN (by first | rfl | simp [Act.eval, Act.put]) hX (by simp [Value.oneCell']) (by omega) (by omega) ?_
                intro vM wM oM hM sM
                obtain ⟨aM, cM, rfl, -, -⟩ := hM.slice
                replace hb := hb.frame sM (by simp)
                replace hz := hz.frame sM (by simpa using hi.2.symm)
                replace hrowC := hrowC.frame sM (by simpa using hj.2.1)
                replace st := st.nil.trans sM
                refine hK.out _ _ ?_ (fun hHeld => ?_)
                · exact hz.facts6.1
                clear hK K'
                try simp only [Act.put, List.setIfInBounds_toArray, List.set_cons_zero, List.set_cons_succ]
                refine wpAnyH_take (i := 17) (oi := ?_) (v := ?_) ?_ (by kernel_rfl) (by kernel_rfl) (by kernel_rfl) ?_ (Or.inl ⟨?_, ?_⟩) ?_ ?_; rotate_left 2
                · (simp only [List.getElem?_toArray, List.getElem?_cons_succ, List.getElem?_cons_zero]; rfl)
                · exact fun _ _ _ h => h
                · rfl
                · (intro w hSw; (try dsimp only at hSw); obtain ⟨s0, s1, s2, s3, s4, s5⟩ := hSw; first | (go_simp; done) | (go_simp; with_reducible rfl))
                · assumption
                try simp only [Act.put, List.setIfInBounds_toArray, List.set_cons_zero, List.set_cons_succ]
                refine wpAnyH_take (i := 18) (oi := ?_) (v := ?_) ?_ (by kernel_rfl) (by kernel_rfl) (by kernel_rfl) ?_ (Or.inl ⟨?_, ?_⟩) ?_ ?_; rotate_left 2
                · (simp only [List.getElem?_toArray, List.getElem?_cons_succ, List.getElem?_cons_zero]; rfl)
                · exact fun _ _ _ h => h
                · rfl
                · (intro w hSw; (try dsimp only at hSw); obtain ⟨s0, s1, s2, s3, s4, s5⟩ := hSw; first | (go_simp; done) | (go_simp; with_reducible rfl))
                · assumption
                try simp only [Act.put, List.setIfInBounds_toArray, List.set_cons_zero, List.set_cons_succ]
                refine wpAnyH_ready (rs := [19]) (by kernel_rfl) (by simp) ?_
                refine AllReadyH.cons (o := ?_) ?_ ?_ ?_; rotate_left 1
                · (simp only [List.getElem?_toArray, List.getElem?_cons_succ, List.getElem?_cons_zero]; rfl)
                · intro K' hK
                  have hcb := hb.cell0
                  have hfb := hb.frozen 0
                  go_simp
                  refine hK.out _ _ ?_ (fun hHeld => ?_)
                  · exact (hz.setOther (g := b) (fun e => by have h1 := hz.own; have h2 := hb.own; rw [e, h2] at h1; exact hi.1 h1) 0 _).facts6.1
                  clear hK K'
                  try simp only [Act.put, List.setIfInBounds_toArray, List.set_cons_zero, List.set_cons_succ]
                  refine wpAnyH_done (by kernel_rfl) ?_ _
                  go_wp2_with fail
                  go_ret2
                  have hrN : Row wM oM (i + 1) 30 6 (.slice aM (n + 1) cM) (fl ++ [((⟨3, a, c, x', y, .slice ac l.length cc⟩ : Fr), l, j)]).length (frs ((fl ++ [((⟨3, a, c, x', y, .slice ac l.length cc⟩ : Fr), l, j)]).map Prod.fst)) := by
                    rw [List.length_append, List.length_singleton, HN.out, List.map_append, List.map_singleton, frs_app]
                    exact hM
                  obtain ⟨g1, g2⟩ := RT.put hb hrN (by rw [List.length_append, List.length_singleton, HN.out]; omega) (fun p hp => by
                    rcases List.mem_append.1 hp with hp | hp
                    · obtain ⟨q1, q2, q3, q4, q5⟩ := HL.out p hp
                      exact ⟨q1, q2, q3, q4, q5.frame st (by simpa using q3)⟩
                    · rw [List.mem_singleton] at hp
                      subst hp
                      exact ⟨HLL.out, hj.1, hj.2.1, hj.2.2, hrowC⟩)
                  first | exact ⟨oM, _, rfl, g1, (st.weaken (by simp)).trans (g2.weaken (by simp))⟩ | exact ⟨rfl, oM, ⟨_, g1⟩, (st.weaken (by simp)).trans (g2.weaken (by simp))⟩ | exact ⟨rfl, oM, _, g1, (st.weaken (by simp)).trans (g2.weaken (by simp))⟩
                exact AllReadyH.nil
              exact AllReadyH.nil
            exact AllReadyH.nil
          exact AllReadyH.nil
        refine AllReadyH.cons (o := ?_) ?_ ?_ ?_; rotate_left 1
        · (simp only [List.getElem?_toArray, List.getElem?_cons_succ, List.getElem?_cons_zero]; rfl)
        · intro K' hK
          go_simp
          obtain ⟨jX, hX⟩ := hb.freshR 3 a c x' y (.slice ac l.length cc)
          replace hb := hb.frame ((Step.refl [] _ _).alloc (.cells #[.int .i64 3, .int .i64 a, .int .i64 c, .int .i64 x', .int .i64 y, .slice ac l.length cc] 30)) (by simp)
          replace hz := hz.frame ((Step.refl [] _ _).alloc (.cells #[.int .i64 3, .int .i64 a, .int .i64 c, .int .i64 x', .int .i64 y, .slice ac l.length cc] 30)) (by simp)
          replace hrowC := hrowC.frame ((Step.refl [] _ _).alloc (.cells #[.int .i64 3, .int .i64 a, .int .i64 c, .int .i64 x', .int .i64 y, .slice ac l.length cc] 30)) (by simp)
          replace hpre := hpre.frame ((Step.refl [] _ _).alloc (.cells #[.int .i64 3, .int .i64 a, .int .i64 c, .int .i64 x', .int .i64 y, .slice ac l.length cc] 30)) (by simp)
          replace st := st.trans ((Step.refl [] _ _).alloc (.cells #[.int .i64 3, .int .i64 a, .int .i64 c, .int .i64 x', .int .i64 y, .slice ac l.length cc] 30))
          refine hK.out _ _ ?_ (fun hHeld => ?_)
          · exact hz.facts6.1
          clear hK K'
          try simp only [Act.put, List.setIfInBounds_toArray, List.set_cons_zero, List.set_cons_succ]
          refine wpAnyH_ready (rs := [9]) (by kernel_rfl) (by simp) ?_
          refine AllReadyH.cons (o := ?_) ?_ ?_ ?_; rotate_left 1
          · (simp only [List.getElem?_toArray, List.getElem?_cons_succ, List.getElem?_cons_zero]; rfl)
          · intro K' hK
            have hcb := hb.cell0
            go_simp
            clear hcb
            refine hK.out _ _ ?_ (fun hHeld => ?_)
            · exact hz.facts6.1
            clear hK K'
            try simp only [Act.put, List.setIfInBounds_toArray, List.set_cons_zero, List.set_cons_succ]
            refine wpAnyH_take (i := 10) (oi := ?_) (v := ?_) ?_ (by kernel_rfl) (by kernel_rfl) (by kernel_rfl) ?_ (Or.inl ⟨?_, ?_⟩) ?_ ?_; rotate_left 2
            · (simp only [List.getElem?_toArray, List.getElem?_cons_succ, List.getElem?_cons_zero]; rfl)
            · exact fun _ _ _ h => h
            · rfl
            · (intro w hSw; (try dsimp only at hSw); obtain ⟨s0, s1, s2, s3, s4, s5⟩ := hSw; first | (go_simp; done) | (go_simp; with_reducible rfl))
            · assumption
            try simp only [Act.put, List.setIfInBounds_toArray, List.set_cons_zero, List.set_cons_succ]
            refine wpAnyH_take (i := 11) (oi := ?_) (v := ?_) ?_ (by kernel_rfl) (by kernel_rfl) (by kernel_rfl) ?_ (Or.inl ⟨?_, ?_⟩) ?_ ?_; rotate_left 2
            · (simp only [List.getElem?_toArray, List.getElem?_cons_succ, List.getElem?_cons_zero]; rfl)
            · exact fun _ _ _ h => h
            · rfl
            · (intro w hSw; (try dsimp only at hSw); obtain ⟨s0, s1, s2, s3, s4, s5⟩ := hSw; first | (go_simp; done) | (go_simp; with_reducible rfl))
            · assumption
            try simp only [Act.put, List.setIfInBounds_toArray, List.set_cons_zero, List.set_cons_succ]
            refine wpAnyH_take (i := 12) (oi := ?_) (v := ?_) ?_ (by kernel_rfl) (by kernel_rfl) (by kernel_rfl) ?_ (Or.inl ⟨?_, ?_⟩) ?_ ?_; rotate_left 2
            · (simp only [List.getElem?_toArray, List.getElem?_cons_succ, List.getElem?_cons_zero]; rfl)
            · exact fun _ _ _ h => h
            · rfl
            · (intro w hSw; (try dsimp only at hSw); obtain ⟨s0, s1, s2, s3, s4, s5⟩ := hSw; first | (go_simp; done) | (go_simp; with_reducible rfl))
            · assumption
            try simp only [Act.put, List.setIfInBounds_toArray, List.set_cons_zero, List.set_cons_succ]
            refine wpAnyH_ready (rs := [13]) (by kernel_rfl) (by simp) ?_
            refine AllReadyH.cons (o := ?_) ?_ ?_ ?_; rotate_left 1
            · (simp only [List.getElem?_toArray, List.getElem?_cons_succ, List.getElem?_cons_zero]; rfl)
            · intro K' hK
              refine step_app0 (.tmp 72) (.tmp 83) 38 rfl o3 (i + 1) Try.underlying38 info30 rfl (by rfl) (by rfl) (by rfl) hpre (by omega) (by omega) ?_
              intro vN wN oN hN sN
              obtain ⟨aN, cN, rfl, -, -⟩ := hN.slice
              replace hb := hb.frame sN (by simp)
              replace hz := hz.frame sN (by simp)
              replace hrowC := hrowC.frame sN (by simp)
              replace hpre := hpre.frame sN (by simp)
              replace hX := hX.frame sN (by simp)
              replace st := st.trans sN
              refine hK.out _ _ ?_ (fun hHeld => ?_)
              · exact hz.facts6.1
              clear hK K'
              try simp only [Act.put, List.setIfInBounds_toArray, List.set_cons_zero, List.set_cons_succ]
              refine wpAnyH_ready (rs := [16]) (by kernel_rfl) (by simp) ?_
              refine AllReadyH.cons (o := ?_) ?_ ?_ ?_; rotate_left 1
              · (simp only [List.getElem?_toArray, List.getElem?_cons_succ, List.getElem?_cons_zero]; rfl)
              · intro K' hK
                refine step_app (.tmp 84) (.tmp 86) 38 rfl Try.underlying38 info30 rfl (by rfl) (by rfl) hN (by first | rfl | simp [Act.eval, Act.put]) hX (by simp [Value.oneCell']) (by omega) (by omega) ?_
                intro vM wM oM hM sM
                obtain ⟨aM, cM, rfl, -, -⟩ := hM.slice
                replace hb := hb.frame sM (by simp)
                replace hz := hz.frame sM (by simpa using hi.2.symm)
                replace hrowC := hrowC.frame sM (by simpa using hj.2.1)
                replace st := st.nil.trans sM
                refine hK.out _ _ ?_ (fun hHeld => ?_)
                · exact hz.facts6.1
                clear hK K'
                try simp only [Act.put, List.setIfInBounds_toArray, List.set_cons_zero, List.set_cons_succ]
                refine wpAnyH_take (i := 17) (oi := ?_) (v := ?_) ?_ (by kernel_rfl) (by kernel_rfl) (by kernel_rfl) ?_ (Or.inl ⟨?_, ?_⟩) ?_ ?_; rotate_left 2
                · (simp only [List.getElem?_toArray, List.getElem?_cons_succ, List.getElem?_cons_zero]; rfl)
                · exact fun _ _ _ h => h
                · rfl
                · (intro w hSw; (try dsimp only at hSw); obtain ⟨s0, s1, s2, s3, s4, s5⟩ := hSw; first | (go_simp; done) | (go_simp; with_reducible rfl))
                · assumption
                try simp only [Act.put, List.setIfInBounds_toArray, List.set_cons_zero, List.set_cons_succ]
                refine wpAnyH_take (i := 18) (oi := ?_) (v := ?_) ?_ (by kernel_rfl) (by kernel_rfl) (by kernel_rfl) ?_ (Or.inl ⟨?_, ?_⟩) ?_ ?_; rotate_left 2
                · (simp only [List.getElem?_toArray, List.getElem?_cons_succ, List.getElem?_cons_zero]; rfl)
                · exact fun _ _ _ h => h
                · rfl
                · (intro w hSw; (try dsimp only at hSw); obtain ⟨s0, s1, s2, s3, s4, s5⟩ := hSw; first | (go_simp; done) | (go_simp; with_reducible rfl))
                · assumption
                try simp only [Act.put, List.setIfInBounds_toArray, List.set_cons_zero, List.set_cons_succ]
                refine wpAnyH_ready (rs := [19]) (by kernel_rfl) (by simp) ?_
                refine AllReadyH.cons (o := ?_) ?_ ?_ ?_; rotate_left 1
                · (simp only [List.getElem?_toArray, List.getElem?_cons_succ, List.getElem?_cons_zero]; rfl)
                · intro K' hK
                  have hcb := hb.cell0
                  have hfb := hb.frozen 0
                  go_simp
                  refine hK.out _ _ ?_ (fun hHeld => ?_)
                  · exact (hz.setOther (g := b) (fun e => by have h1 := hz.own; have h2 := hb.own; rw [e, h2] at h1; exact hi.1 h1) 0 _).facts6.1
                  clear hK K'
                  try simp only [Act.put, List.setIfInBounds_toArray, List.set_cons_zero, List.set_cons_succ]
                  refine wpAnyH_done (by kernel_rfl) ?_ _
                  go_wp2_with fail
                  go_ret2
                  have hrN : Row wM oM (i + 1) 30 6 (.slice aM (n + 1) cM) (fl ++ [((⟨3, a, c, x', y, .slice ac l.length cc⟩ : Fr), l, j)]).length (frs ((fl ++ [((⟨3, a, c, x', y, .slice ac l.length cc⟩ : Fr), l, j)]).map Prod.fst)) := by
                    rw [List.length_append, List.length_singleton, HN.out, List.map_append, List.map_singleton, frs_app]
                    exact hM
                  obtain ⟨g1, g2⟩ := RT.put hb hrN (by rw [List.length_append, List.length_singleton, HN.out]; omega) (fun p hp => by
                    rcases List.mem_append.1 hp with hp | hp
                    · obtain ⟨q1, q2, q3, q4, q5⟩ := HL.out p hp
                      exact ⟨q1, q2, q3, q4, q5.frame st (by simpa using q3)⟩
                    · rw [List.mem_singleton] at hp
                      subst hp
                      exact ⟨HLL.out, hj.1, hj.2.1, hj.2.2, hrowC⟩)
                  first | exact ⟨oM, _, rfl, g1, (st.weaken (by simp)).trans (g2.weaken (by simp))⟩ | exact ⟨rfl, oM, ⟨_, g1⟩, (st.weaken (by simp)).trans (g2.weaken (by simp))⟩ | exact ⟨rfl, oM, _, g1, (st.weaken (by simp)).trans (g2.weaken (by simp))⟩
                exact AllReadyH.nil
              exact AllReadyH.nil
            exact AllReadyH.nil
          exact AllReadyH.nil
        exact AllReadyH.nil
      refine AllReadyH.cons (o := ?_) ?_ ?_ ?_; rotate_left 1
      · (simp only [List.getElem?_toArray, List.getElem?_cons_succ, List.getElem?_cons_zero]; rfl)
      · intro K' hK
        have hcb := hb.cell0
        go_simp
        clear hcb
        refine hK.out _ _ ?_ (fun hHeld => ?_)
        · exact hz.facts6.1
        clear hK K'
        try simp only [Act.put, List.setIfInBounds_toArray, List.set_cons_zero, List.set_cons_succ]
        refine wpAnyH_take (i := 10) (oi := ?_) (v := ?_) ?_ (by kernel_rfl) (by kernel_rfl) (by kernel_rfl) ?_ (Or.inl ⟨?_, ?_⟩) ?_ ?_; rotate_left 2
        · (simp only [List.getElem?_toArray, List.getElem?_cons_succ, List.getElem?_cons_zero]; rfl)
        · exact fun _ _ _ h => h
        · rfl
        · (intro w hSw; (try dsimp only at hSw); obtain ⟨s0, s1, s2, s3, s4, s5⟩ := hSw; first | (go_simp; done) | (go_simp; with_reducible rfl))
        · assumption
        try simp only [Act.put, List.setIfInBounds_toArray, List.set_cons_zero, List.set_cons_succ]
        refine wpAnyH_take (i := 11) (oi := ?_) (v := ?_) ?_ (by kernel_rfl) (by kernel_rfl) (by kernel_rfl) ?_ (Or.inl ⟨?_, ?_⟩) ?_ ?_; rotate_left 2
        · (simp only [List.getElem?_toArray, List.getElem?_cons_succ, List.getElem?_cons_zero]; rfl)
        · exact fun _ _ _ h => h
        · rfl
        · (intro w hSw; (try dsimp only at hSw); obtain ⟨s0, s1, s2, s3, s4, s5⟩ := hSw; first | (go_simp; done) | (go_simp; with_reducible rfl))
        · assumption
        try simp only [Act.put, List.setIfInBounds_toArray, List.set_cons_zero, List.set_cons_succ]
        refine wpAnyH_ready (rs := [5, 15]) (by kernel_rfl) (by simp) ?_
        refine AllReadyH.cons (o := ?_) ?_ ?_ ?_; rotate_left 1
        · (simp only [List.getElem?_toArray, List.getElem?_cons_succ, List.getElem?_cons_zero]; rfl)
        · intro K' hK
          have hcb := hb.cell0
          go_simp
          clear hcb
          refine hK.out _ _ ?_ (fun hHeld => ?_)
          · exact hz.facts6.1
          clear hK K'
          try simp only [Act.put, List.setIfInBounds_toArray, List.set_cons_zero, List.set_cons_succ]
          refine wpAnyH_take (i := 12) (oi := ?_) (v := ?_) ?_ (by kernel_rfl) (by kernel_rfl) (by kernel_rfl) ?_ (Or.inl ⟨?_, ?_⟩) ?_ ?_; rotate_left 2
          · (simp only [List.getElem?_toArray, List.getElem?_cons_succ, List.getElem?_cons_zero]; rfl)
          · exact fun _ _ _ h => h
          · rfl
          · (intro w hSw; (try dsimp only at hSw); obtain ⟨s0, s1, s2, s3, s4, s5⟩ := hSw; first | (go_simp; done) | (go_simp; with_reducible rfl))
          · assumption
          try simp only [Act.put, List.setIfInBounds_toArray, List.set_cons_zero, List.set_cons_succ]
          refine wpAnyH_ready (rs := [13, 15]) (by kernel_rfl) (by simp) ?_
          refine AllReadyH.cons (o := ?_) ?_ ?_ ?_; rotate_left 1
          · (simp only [List.getElem?_toArray, List.getElem?_cons_succ, List.getElem?_cons_zero]; rfl)
          · intro K' hK
            refine step_app0 (.tmp 72) (.tmp 83) 38 rfl o3 (i + 1) Try.underlying38 info30 rfl (by rfl) (by rfl) (by rfl) hpre (by omega) (by omega) ?_
            intro vN wN oN hN sN
            obtain ⟨aN, cN, rfl, -, -⟩ := hN.slice
            replace hb := hb.frame sN (by simp)
            replace hz := hz.frame sN (by simp)
            replace hrowC := hrowC.frame sN (by simp)
            replace hpre := hpre.frame sN (by simp)
            replace st := st.trans sN
            refine hK.out _ _ ?_ (fun hHeld => ?_)
            · exact hz.facts6.1
            clear hK K'
            try simp only [Act.put, List.setIfInBounds_toArray, List.set_cons_zero, List.set_cons_succ]
            refine wpAnyH_ready (rs := [15]) (by kernel_rfl) (by simp) ?_
            refine AllReadyH.cons (o := ?_) ?_ ?_ ?_; rotate_left 1
            · (simp only [List.getElem?_toArray, List.getElem?_cons_succ, List.getElem?_cons_zero]; rfl)
            · intro K' hK
              go_simp
              obtain ⟨jX, hX⟩ := hb.freshR 3 a c x' y (.slice ac l.length cc)
              replace hb := hb.frame ((Step.refl [] _ _).alloc (.cells #[.int .i64 3, .int .i64 a, .int .i64 c, .int .i64 x', .int .i64 y, .slice ac l.length cc] 30)) (by simp)
              replace hz := hz.frame ((Step.refl [] _ _).alloc (.cells #[.int .i64 3, .int .i64 a, .int .i64 c, .int .i64 x', .int .i64 y, .slice ac l.length cc] 30)) (by simp)
              replace hrowC := hrowC.frame ((Step.refl [] _ _).alloc (.cells #[.int .i64 3, .int .i64 a, .int .i64 c, .int .i64 x', .int .i64 y, .slice ac l.length cc] 30)) (by simp)
              replace hpre := hpre.frame ((Step.refl [] _ _).alloc (.cells #[.int .i64 3, .int .i64 a, .int .i64 c, .int .i64 x', .int .i64 y, .slice ac l.length cc] 30)) (by simp)
              replace hN := hN.frame ((Step.refl [] _ _).alloc (.cells #[.int .i64 3, .int .i64 a, .int .i64 c, .int .i64 x', .int .i64 y, .slice ac l.length cc] 30)) (by simp)
              replace st := st.trans ((Step.refl [] _ _).alloc (.cells #[.int .i64 3, .int .i64 a, .int .i64 c, .int .i64 x', .int .i64 y, .slice ac l.length cc] 30))
              refine hK.out _ _ ?_ (fun hHeld => ?_)
              · exact hz.facts6.1
              clear hK K'
              try simp only [Act.put, List.setIfInBounds_toArray, List.set_cons_zero, List.set_cons_succ]
              refine wpAnyH_ready (rs := [16]) (by kernel_rfl) (by simp) ?_
              refine AllReadyH.cons (o := ?_) ?_ ?_ ?_; rotate_left 1
              · (simp only [List.getElem?_toArray, List.getElem?_cons_succ, List.getElem?_cons_zero]; rfl)
              · intro K' hK
                refine step_app (.tmp 84) (.tmp 86) 38 rfl Try.underlying38 info30 rfl (by rfl) (by rfl) hN (by first | rfl | simp [Act.eval, Act.put]) hX (by simp [Value.oneCell']) (by omega) (by omega) ?_
                intro vM wM oM hM sM
                obtain ⟨aM, cM, rfl, -, -⟩ := hM.slice
                replace hb := hb.frame sM (by simp)
                replace hz := hz.frame sM (by simpa using hi.2.symm)
                replace hrowC := hrowC.frame sM (by simpa using hj.2.1)
                replace st := st.nil.trans sM
                refine hK.out _ _ ?_ (fun hHeld => ?_)
                · exact hz.facts6.1
                clear hK K'
                try simp only [Act.put, List.setIfInBounds_toArray, List.set_cons_zero, List.set_cons_succ]
                refine wpAnyH_take (i := 17) (oi := ?_) (v := ?_) ?_ (by kernel_rfl) (by kernel_rfl) (by kernel_rfl) ?_ (Or.inl ⟨?_, ?_⟩) ?_ ?_; rotate_left 2
                · (simp only [List.getElem?_toArray, List.getElem?_cons_succ, List.getElem?_cons_zero]; rfl)
                · exact fun _ _ _ h => h
                · rfl
                · (intro w hSw; (try dsimp only at hSw); obtain ⟨s0, s1, s2, s3, s4, s5⟩ := hSw; first | (go_simp; done) | (go_simp; with_reducible rfl))
                · assumption
                try simp only [Act.put, List.setIfInBounds_toArray, List.set_cons_zero, List.set_cons_succ]
                refine wpAnyH_take (i := 18) (oi := ?_) (v := ?_) ?_ (by kernel_rfl) (by kernel_rfl) (by kernel_rfl) ?_ (Or.inl ⟨?_, ?_⟩) ?_ ?_; rotate_left 2
                · (simp only [List.getElem?_toArray, List.getElem?_cons_succ, List.getElem?_cons_zero]; rfl)
                · exact fun _ _ _ h => h
                · rfl
                · (intro w hSw; (try dsimp only at hSw); obtain ⟨s0, s1, s2, s3, s4, s5⟩ := hSw; first | (go_simp; done) | (go_simp; with_reducible rfl))
                · assumption
                try simp only [Act.put, List.setIfInBounds_toArray, List.set_cons_zero, List.set_cons_succ]
                refine wpAnyH_ready (rs := [19]) (by kernel_rfl) (by simp) ?_
                refine AllReadyH.cons (o := ?_) ?_ ?_ ?_; rotate_left 1
                · (simp only [List.getElem?_toArray, List.getElem?_cons_succ, List.getElem?_cons_zero]; rfl)
                · intro K' hK
                  have hcb := hb.cell0
                  have hfb := hb.frozen 0
                  go_simp
                  refine hK.out _ _ ?_ (fun hHeld => ?_)
                  · exact (hz.setOther (g := b) (fun e => by have h1 := hz.own; have h2 := hb.own; rw [e, h2] at h1; exact hi.1 h1) 0 _).facts6.1
                  clear hK K'
                  try simp only [Act.put, List.setIfInBounds_toArray, List.set_cons_zero, List.set_cons_succ]
                  refine wpAnyH_done (by kernel_rfl) ?_ _
                  go_wp2_with fail
                  go_ret2
                  have hrN : Row wM oM (i + 1) 30 6 (.slice aM (n + 1) cM) (fl ++ [((⟨3, a, c, x', y, .slice ac l.length cc⟩ : Fr), l, j)]).length (frs ((fl ++ [((⟨3, a, c, x', y, .slice ac l.length cc⟩ : Fr), l, j)]).map Prod.fst)) := by
                    rw [List.length_append, List.length_singleton, HN.out, List.map_append, List.map_singleton, frs_app]
                    exact hM
                  obtain ⟨g1, g2⟩ := RT.put hb hrN (by rw [List.length_append, List.length_singleton, HN.out]; omega) (fun p hp => by
                    rcases List.mem_append.1 hp with hp | hp
                    · obtain ⟨q1, q2, q3, q4, q5⟩ := HL.out p hp
                      exact ⟨q1, q2, q3, q4, q5.frame st (by simpa using q3)⟩
                    · rw [List.mem_singleton] at hp
                      subst hp
                      exact ⟨HLL.out, hj.1, hj.2.1, hj.2.2, hrowC⟩)
                  first | exact ⟨oM, _, rfl, g1, (st.weaken (by simp)).trans (g2.weaken (by simp))⟩ | exact ⟨rfl, oM, ⟨_, g1⟩, (st.weaken (by simp)).trans (g2.weaken (by simp))⟩ | exact ⟨rfl, oM, _, g1, (st.weaken (by simp)).trans (g2.weaken (by simp))⟩
                exact AllReadyH.nil
              exact AllReadyH.nil
            exact AllReadyH.nil
          refine AllReadyH.cons (o := ?_) ?_ ?_ ?_; rotate_left 1
          · (simp only [List.getElem?_toArray, List.getElem?_cons_succ, List.getElem?_cons_zero]; rfl)
          · intro K' hK
            go_simp
            obtain ⟨jX, hX⟩ := hb.freshR 3 a c x' y (.slice ac l.length cc)
            replace hb := hb.frame ((Step.refl [] _ _).alloc (.cells #[.int .i64 3, .int .i64 a, .int .i64 c, .int .i64 x', .int .i64 y, .slice ac l.length cc] 30)) (by simp)
            replace hz := hz.frame ((Step.refl [] _ _).alloc (.cells #[.int .i64 3, .int .i64 a, .int .i64 c, .int .i64 x', .int .i64 y, .slice ac l.length cc] 30)) (by simp)
            replace hrowC := hrowC.frame ((Step.refl [] _ _).alloc (.cells #[.int .i64 3, .int .i64 a, .int .i64 c, .int .i64 x', .int .i64 y, .slice ac l.length cc] 30)) (by simp)
            replace hpre := hpre.frame ((Step.refl [] _ _).alloc (.cells #[.int .i64 3, .int .i64 a, .int .i64 c, .int .i64 x', .int .i64 y, .slice ac l.length cc] 30)) (by simp)
            replace st := st.trans ((Step.refl [] _ _).alloc (.cells #[.int .i64 3, .int .i64 a, .int .i64 c, .int .i64 x', .int .i64 y, .slice ac l.length cc] 30))
            refine hK.out _ _ ?_ (fun hHeld => ?_)
            · exact hz.facts6.1
            clear hK K'
            try simp only [Act.put, List.setIfInBounds_toArray, List.set_cons_zero, List.set_cons_succ]
            refine wpAnyH_ready (rs := [13]) (by kernel_rfl) (by simp) ?_
            refine AllReadyH.cons (o := ?_) ?_ ?_ ?_; rotate_left 1
            · (simp only [List.getElem?_toArray, List.getElem?_cons_succ, List.getElem?_cons_zero]; rfl)
            · intro K' hK
              refine step_app0 (.tmp 72) (.tmp 83) 38 rfl o3 (i + 1) Try.underlying38 info30 rfl (by rfl) (by rfl) (by rfl) hpre (by omega) (by omega) ?_
              intro vN wN oN hN sN
              obtain ⟨aN, cN, rfl, -, -⟩ := hN.slice
              replace hb := hb.frame sN (by simp)
              replace hz := hz.frame sN (by simp)
              replace hrowC := hrowC.frame sN (by simp)
              replace hpre := hpre.frame sN (by simp)
              replace hX := hX.frame sN (by simp)
              replace st := st.trans sN
              refine hK.out _ _ ?_ (fun hHeld => ?_)
              · exact hz.facts6.1
              clear hK K'
              try simp only [Act.put, List.setIfInBounds_toArray, List.set_cons_zero, List.set_cons_succ]
              refine wpAnyH_ready (rs := [16]) (by kernel_rfl) (by simp) ?_
              refine AllReadyH.cons (o := ?_) ?_ ?_ ?_; rotate_left 1
              · (simp only [List.getElem?_toArray, List.getElem?_cons_succ, List.getElem?_cons_zero]; rfl)
              · intro K' hK
                refine step_app (.tmp 84) (.tmp 86) 38 rfl Try.underlying38 info30 rfl (by rfl) (by rfl) hN (by first | rfl | simp [Act.eval, Act.put]) hX (by simp [Value.oneCell']) (by omega) (by omega) ?_
                intro vM wM oM hM sM
                obtain ⟨aM, cM, rfl, -, -⟩ := hM.slice
                replace hb := hb.frame sM (by simp)
                replace hz := hz.frame sM (by simpa using hi.2.symm)
                replace hrowC := hrowC.frame sM (by simpa using hj.2.1)
                replace st := st.nil.trans sM
                refine hK.out _ _ ?_ (fun hHeld => ?_)
                · exact hz.facts6.1
                clear hK K'
                try simp only [Act.put, List.setIfInBounds_toArray, List.set_cons_zero, List.set_cons_succ]
                refine wpAnyH_take (i := 17) (oi := ?_) (v := ?_) ?_ (by kernel_rfl) (by kernel_rfl) (by kernel_rfl) ?_ (Or.inl ⟨?_, ?_⟩) ?_ ?_; rotate_left 2
                · (simp only [List.getElem?_toArray, List.getElem?_cons_succ, List.getElem?_cons_zero]; rfl)
                · exact fun _ _ _ h => h
                · rfl
                · (intro w hSw; (try dsimp only at hSw); obtain ⟨s0, s1, s2, s3, s4, s5⟩ := hSw; first | (go_simp; done) | (go_simp; with_reducible rfl))
                · assumption
                try simp only [Act.put, List.setIfInBounds_toArray, List.set_cons_zero, List.set_cons_succ]
                refine wpAnyH_take (i := 18) (oi := ?_) (v := ?_) ?_ (by kernel_rfl) (by kernel_rfl) (by kernel_rfl) ?_ (Or.inl ⟨?_, ?_⟩) ?_ ?_; rotate_left 2
                · (simp only [List.getElem?_toArray, List.getElem?_cons_succ, List.getElem?_cons_zero]; rfl)
                · exact fun _ _ _ h => h
                · rfl
                · (intro w hSw; (try dsimp only at hSw); obtain ⟨s0, s1, s2, s3, s4, s5⟩ := hSw; first | (go_simp; done) | (go_simp; with_reducible rfl))
                · assumption
                try simp only [Act.put, List.setIfInBounds_toArray, List.set_cons_zero, List.set_cons_succ]
                refine wpAnyH_ready (rs := [19]) (by kernel_rfl) (by simp) ?_
                refine AllReadyH.cons (o := ?_) ?_ ?_ ?_; rotate_left 1
                · (simp only [List.getElem?_toArray, List.getElem?_cons_succ, List.getElem?_cons_zero]; rfl)
                · intro K' hK
                  have hcb := hb.cell0
                  have hfb := hb.frozen 0
                  go_simp
                  refine hK.out _ _ ?_ (fun hHeld => ?_)
                  · exact (hz.setOther (g := b) (fun e => by have h1 := hz.own; have h2 := hb.own; rw [e, h2] at h1; exact hi.1 h1) 0 _).facts6.1
                  clear hK K'
                  try simp only [Act.put, List.setIfInBounds_toArray, List.set_cons_zero, List.set_cons_succ]
                  refine wpAnyH_done (by kernel_rfl) ?_ _
                  go_wp2_with fail
                  go_ret2
                  have hrN : Row wM oM (i + 1) 30 6 (.slice aM (n + 1) cM) (fl ++ [((⟨3, a, c, x', y, .slice ac l.length cc⟩ : Fr), l, j)]).length (frs ((fl ++ [((⟨3, a, c, x', y, .slice ac l.length cc⟩ : Fr), l, j)]).map Prod.fst)) := by
                    rw [List.length_append, List.length_singleton, HN.out, List.map_append, List.map_singleton, frs_app]
                    exact hM
                  obtain ⟨g1, g2⟩ := RT.put hb hrN (by rw [List.length_append, List.length_singleton, HN.out]; omega) (fun p hp => by
                    rcases List.mem_append.1 hp with hp | hp
                    · obtain ⟨q1, q2, q3, q4, q5⟩ := HL.out p hp
                      exact ⟨q1, q2, q3, q4, q5.frame st (by simpa using q3)⟩
                    · rw [List.mem_singleton] at hp
                      subst hp
                      exact ⟨HLL.out, hj.1, hj.2.1, hj.2.2, hrowC⟩)
                  first | exact ⟨oM, _, rfl, g1, (st.weaken (by simp)).trans (g2.weaken (by simp))⟩ | exact ⟨rfl, oM, ⟨_, g1⟩, (st.weaken (by simp)).trans (g2.weaken (by simp))⟩ | exact ⟨rfl, oM, _, g1, (st.weaken (by simp)).trans (g2.weaken (by simp))⟩
                exact AllReadyH.nil
              exact AllReadyH.nil
            exact AllReadyH.nil
          exact AllReadyH.nil
        refine AllReadyH.cons (o := ?_) ?_ ?_ ?_; rotate_left 1
        · (simp only [List.getElem?_toArray, List.getElem?_cons_succ, List.getElem?_cons_zero]; rfl)
        · intro K' hK
          go_simp
          obtain ⟨jX, hX⟩ := hb.freshR 3 a c x' y (.slice ac l.length cc)
          replace hb := hb.frame ((Step.refl [] _ _).alloc (.cells #[.int .i64 3, .int .i64 a, .int .i64 c, .int .i64 x', .int .i64 y, .slice ac l.length cc] 30)) (by simp)
          replace hz := hz.frame ((Step.refl [] _ _).alloc (.cells #[.int .i64 3, .int .i64 a, .int .i64 c, .int .i64 x', .int .i64 y, .slice ac l.length cc] 30)) (by simp)
          replace hrowC := hrowC.frame ((Step.refl [] _ _).alloc (.cells #[.int .i64 3, .int .i64 a, .int .i64 c, .int .i64 x', .int .i64 y, .slice ac l.length cc] 30)) (by simp)
          replace hpre := hpre.frame ((Step.refl [] _ _).alloc (.cells #[.int .i64 3, .int .i64 a, .int .i64 c, .int .i64 x', .int .i64 y, .slice ac l.length cc] 30)) (by simp)
          replace st := st.trans ((Step.refl [] _ _).alloc (.cells #[.int .i64 3, .int .i64 a, .int .i64 c, .int .i64 x', .int .i64 y, .slice ac l.length cc] 30))
          refine hK.out _ _ ?_ (fun hHeld => ?_)
          · exact hz.facts6.1
          clear hK K'
          try simp only [Act.put, List.setIfInBounds_toArray, List.set_cons_zero, List.set_cons_succ]
          refine wpAnyH_ready (rs := [5]) (by kernel_rfl) (by simp) ?_
          refine AllReadyH.cons (o := ?_) ?_ ?_ ?_; rotate_left 1
          · (simp only [List.getElem?_toArray, List.getElem?_cons_succ, List.getElem?_cons_zero]; rfl)
          · intro K' hK
            have hcb := hb.cell0
            go_simp
            clear hcb
            refine hK.out _ _ ?_ (fun hHeld => ?_)
            · exact hz.facts6.1
            clear hK K'
            try simp only [Act.put, List.setIfInBounds_toArray, List.set_cons_zero, List.set_cons_succ]
            refine wpAnyH_take (i := 12) (oi := ?_) (v := ?_) ?_ (by kernel_rfl) (by kernel_rfl) (by kernel_rfl) ?_ (Or.inl ⟨?_, ?_⟩) ?_ ?_; rotate_left 2
            · (simp only [List.getElem?_toArray, List.getElem?_cons_succ, List.getElem?_cons_zero]; rfl)
            · exact fun _ _ _ h => h
            · rfl
            · (intro w hSw; (try dsimp only at hSw); obtain ⟨s0, s1, s2, s3, s4, s5⟩ := hSw; first | (go_simp; done) | (go_simp; with_reducible rfl))
            · assumption
            try simp only [Act.put, List.setIfInBounds_toArray, List.set_cons_zero, List.set_cons_succ]
            refine wpAnyH_ready (rs := [13]) (by kernel_rfl) (by simp) ?_
            refine AllReadyH.cons (o := ?_) ?_ ?_ ?_; rotate_left 1
            · (simp only [List.getElem?_toArray, List.getElem?_cons_succ, List.getElem?_cons_zero]; rfl)
            · intro K' hK
              refine step_app0 (.tmp 72) (.tmp 83) 38 rfl o3 (i + 1) Try.underlying38 info30 rfl (by rfl) (by rfl) (by rfl) hpre (by omega) (by omega) ?_
              intro vN wN oN hN sN
              obtain ⟨aN, cN, rfl, -, -⟩ := hN.slice
              replace hb := hb.frame sN (by simp)
              replace hz := hz.frame sN (by simp)
              replace hrowC := hrowC.frame sN (by simp)
              replace hpre := hpre.frame sN (by simp)
              replace hX := hX.frame sN (by simp)
              replace st := st.trans sN
              refine hK.out _ _ ?_ (fun hHeld => ?_)
              · exact hz.facts6.1
              clear hK K'
              try simp only [Act.put, List.setIfInBounds_toArray, List.set_cons_zero, List.set_cons_succ]
              refine wpAnyH_ready (rs := [16]) (by kernel_rfl) (by simp) ?_
              refine AllReadyH.cons (o := ?_) ?_ ?_ ?_; rotate_left 1
              · (simp only [List.getElem?_toArray, List.getElem?_cons_succ, List.getElem?_cons_zero]; rfl)
              · intro K' hK
                refine step_app (.tmp 84) (.tmp 86) 38 rfl Try.underlying38 info30 rfl (by rfl) (by rfl) hN (by first | rfl | simp [Act.eval, Act.put]) hX (by simp [Value.oneCell']) (by omega) (by omega) ?_
                intro vM wM oM hM sM
                obtain ⟨aM, cM, rfl, -, -⟩ := hM.slice
                replace hb := hb.frame sM (by simp)
                replace hz := hz.frame sM (by simpa using hi.2.symm)
                replace hrowC := hrowC.frame sM (by simpa using hj.2.1)
                replace st := st.nil.trans sM
                refine hK.out _ _ ?_ (fun hHeld => ?_)
                · exact hz.facts6.1
                clear hK K'
                try simp only [Act.put, List.setIfInBounds_toArray, List.set_cons_zero, List.set_cons_succ]
                refine wpAnyH_take (i := 17) (oi := ?_) (v := ?_) ?_ (by kernel_rfl) (by kernel_rfl) (by kernel_rfl) ?_ (Or.inl ⟨?_, ?_⟩) ?_ ?_; rotate_left 2
                · (simp only [List.getElem?_toArray, List.getElem?_cons_succ, List.getElem?_cons_zero]; rfl)
                · exact fun _ _ _ h => h
                · rfl
                · (intro w hSw; (try dsimp only at hSw); obtain ⟨s0, s1, s2, s3, s4, s5⟩ := hSw; first | (go_simp; done) | (go_simp; with_reducible rfl))
                · assumption
                try simp only [Act.put, List.setIfInBounds_toArray, List.set_cons_zero, List.set_cons_succ]
                refine wpAnyH_take (i := 18) (oi := ?_) (v := ?_) ?_ (by kernel_rfl) (by kernel_rfl) (by kernel_rfl) ?_ (Or.inl ⟨?_, ?_⟩) ?_ ?_; rotate_left 2
                · (simp only [List.getElem?_toArray, List.getElem?_cons_succ, List.getElem?_cons_zero]; rfl)
                · exact fun _ _ _ h => h
                · rfl
                · (intro w hSw; (try dsimp only at hSw); obtain ⟨s0, s1, s2, s3, s4, s5⟩ := hSw; first | (go_simp; done) | (go_simp; with_reducible rfl))
                · assumption
                try simp only [Act.put, List.setIfInBounds_toArray, List.set_cons_zero, List.set_cons_succ]
                refine wpAnyH_ready (rs := [19]) (by kernel_rfl) (by simp) ?_
                refine AllReadyH.cons (o := ?_) ?_ ?_ ?_; rotate_left 1
                · (simp only [List.getElem?_toArray, List.getElem?_cons_succ, List.getElem?_cons_zero]; rfl)
                · intro K' hK
                  have hcb := hb.cell0
                  have hfb := hb.frozen 0
                  go_simp
                  refine hK.out _ _ ?_ (fun hHeld => ?_)
                  · exact (hz.setOther (g := b) (fun e => by have h1 := hz.own; have h2 := hb.own; rw [e, h2] at h1; exact hi.1 h1) 0 _).facts6.1
                  clear hK K'
                  try simp only [Act.put, List.setIfInBounds_toArray, List.set_cons_zero, List.set_cons_succ]
                  refine wpAnyH_done (by kernel_rfl) ?_ _
                  go_wp2_with fail
                  go_ret2
                  have hrN : Row wM oM (i + 1) 30 6 (.slice aM (n + 1) cM) (fl ++ [((⟨3, a, c, x', y, .slice ac l.length cc⟩ : Fr), l, j)]).length (frs ((fl ++ [((⟨3, a, c, x', y, .slice ac l.length cc⟩ : Fr), l, j)]).map Prod.fst)) := by
                    rw [List.length_append, List.length_singleton, HN.out, List.map_append, List.map_singleton, frs_app]
                    exact hM
                  obtain ⟨g1, g2⟩ := RT.put hb hrN (by rw [List.length_append, List.length_singleton, HN.out]; omega) (fun p hp => by
                    rcases List.mem_append.1 hp with hp | hp
                    · obtain ⟨q1, q2, q3, q4, q5⟩ := HL.out p hp
                      exact ⟨q1, q2, q3, q4, q5.frame st (by simpa using q3)⟩
                    · rw [List.mem_singleton] at hp
                      subst hp
                      exact ⟨HLL.out, hj.1, hj.2.1, hj.2.2, hrowC⟩)
                  first | exact ⟨oM, _, rfl, g1, (st.weaken (by simp)).trans (g2.weaken (by simp))⟩ | exact ⟨rfl, oM, ⟨_, g1⟩, (st.weaken (by simp)).trans (g2.weaken (by simp))⟩ | exact ⟨rfl, oM, _, g1, (st.weaken (by simp)).trans (g2.weaken (by simp))⟩
                exact AllReadyH.nil
              exact AllReadyH.nil
            exact AllReadyH.nil
          exact AllReadyH.nil
        exact AllReadyH.nil
      refine AllReadyH.cons (o := ?_) ?_ ?_ ?_; rotate_left 1
      · (simp only [List.getElem?_toArray, List.getElem?_cons_succ, List.getElem?_cons_zero]; rfl)
      · intro K' hK
        go_simp
        obtain ⟨jX, hX⟩ := hb.freshR 3 a c x' y (.slice ac l.length cc)
        replace hb := hb.frame ((Step.refl [] _ _).alloc (.cells #[.int .i64 3, .int .i64 a, .int .i64 c, .int .i64 x', .int .i64 y, .slice ac l.length cc] 30)) (by simp)
        replace hz := hz.frame ((Step.refl [] _ _).alloc (.cells #[.int .i64 3, .int .i64 a, .int .i64 c, .int .i64 x', .int .i64 y, .slice ac l.length cc] 30)) (by simp)
        replace hrowC := hrowC.frame ((Step.refl [] _ _).alloc (.cells #[.int .i64 3, .int .i64 a, .int .i64 c, .int .i64 x', .int .i64 y, .slice ac l.length cc] 30)) (by simp)
        replace hpre := hpre.frame ((Step.refl [] _ _).alloc (.cells #[.int .i64 3, .int .i64 a, .int .i64 c, .int .i64 x', .int .i64 y, .slice ac l.length cc] 30)) (by simp)
        replace st := st.trans ((Step.refl [] _ _).alloc (.cells #[.int .i64 3, .int .i64 a, .int .i64 c, .int .i64 x', .int .i64 y, .slice ac l.length cc] 30))
        refine hK.out _ _ ?_ (fun hHeld => ?_)
        · exact hz.facts6.1
        clear hK K'
        try simp only [Act.put, List.setIfInBounds_toArray, List.set_cons_zero, List.set_cons_succ]
        refine wpAnyH_ready (rs := [5, 9]) (by kernel_rfl) (by simp) ?_
        refine AllReadyH.cons (o := ?_) ?_ ?_ ?_; rotate_left 1
        · (simp only [List.getElem?_toArray, List.getElem?_cons_succ, List.getElem?_cons_zero]; rfl)
        · intro K' hK
          have hcb := hb.cell0
          go_simp
          clear hcb
          refine hK.out _ _ ?_ (fun hHeld => ?_)
          · exact hz.facts6.1
          clear hK K'
          try simp only [Act.put, List.setIfInBounds_toArray, List.set_cons_zero, List.set_cons_succ]
          refine wpAnyH_ready (rs := [9]) (by kernel_rfl) (by simp) ?_
          refine AllReadyH.cons (o := ?_) ?_ ?_ ?_; rotate_left 1
          · (simp only [List.getElem?_toArray, List.getElem?_cons_succ, List.getElem?_cons_zero]; rfl)
          · intro K' hK
            have hcb := hb.cell0
            go_simp
            clear hcb
            refine hK.out _ _ ?_ (fun hHeld => ?_)
            · exact hz.facts6.1
            clear hK K'
            try simp only [Act.put, List.setIfInBounds_toArray, List.set_cons_zero, List.set_cons_succ]
            refine wpAnyH_take (i := 10) (oi := ?_) (v := ?_) ?_ (by kernel_rfl) (by kernel_rfl) (by kernel_rfl) ?_ (Or.inl ⟨?_, ?_⟩) ?_ ?_; rotate_left 2
            · (simp only [List.getElem?_toArray, List.getElem?_cons_succ, List.getElem?_cons_zero]; rfl)
            · exact fun _ _ _ h => h
            · rfl
            · (intro w hSw; (try dsimp only at hSw); obtain ⟨s0, s1, s2, s3, s4, s5⟩ := hSw; first | (go_simp; done) | (go_simp; with_reducible rfl))
            · assumption
            try simp only [Act.put, List.setIfInBounds_toArray, List.set_cons_zero, List.set_cons_succ]
            refine wpAnyH_take (i := 11) (oi := ?_) (v := ?_) ?_ (by kernel_rfl) (by kernel_rfl) (by kernel_rfl) ?_ (Or.inl ⟨?_, ?_⟩) ?_ ?_; rotate_left 2
            · (simp only [List.getElem?_toArray, List.getElem?_cons_succ, List.getElem?_cons_zero]; rfl)
            · exact fun _ _ _ h => h
            · rfl
            · (intro w hSw; (try dsimp only at hSw); obtain ⟨s0, s1, s2, s3, s4, s5⟩ := hSw; first | (go_simp; done) | (go_simp; with_reducible rfl))
            · assumption
            try simp only [Act.put, List.setIfInBounds_toArray, List.set_cons_zero, List.set_cons_succ]
            refine wpAnyH_take (i := 12) (oi := ?_) (v := ?_) ?_ (by kernel_rfl) (by kernel_rfl) (by kernel_rfl) ?_ (Or.inl ⟨?_, ?_⟩) ?_ ?_; rotate_left 2
            · (simp only [List.getElem?_toArray, List.getElem?_cons_succ, List.getElem?_cons_zero]; rfl)
            · exact fun _ _ _ h => h
            · rfl
            · (intro w hSw; (try dsimp only at hSw); obtain ⟨s0, s1, s2, s3, s4, s5⟩ := hSw; first | (go_simp; done) | (go_simp; with_reducible rfl))
            · assumption
            try simp only [Act.put, List.setIfInBounds_toArray, List.set_cons_zero, List.set_cons_succ]
            refine wpAnyH_ready (rs := [13]) (by kernel_rfl) (by simp) ?_
            refine AllReadyH.cons (o := ?_) ?_ ?_ ?_; rotate_left 1
            · (simp only [List.getElem?_toArray, List.getElem?_cons_succ, List.getElem?_cons_zero]; rfl)
            · intro K' hK
              refine step_app0 (.tmp 72) (.tmp 83) 38 rfl o3 (i + 1) Try.underlying38 info30 rfl (by rfl) (by rfl) (by rfl) hpre (by omega) (by omega) ?_
              intro vN wN oN hN sN
              obtain ⟨aN, cN, rfl, -, -⟩ := hN.slice
              replace hb := hb.frame sN (by simp)
              replace hz := hz.frame sN (by simp)
              replace hrowC := hrowC.frame sN (by simp)
              replace hpre := hpre.frame sN (by simp)
              replace hX := hX.frame sN (by simp)
              replace st := st.trans sN
              refine hK.out _ _ ?_ (fun hHeld => ?_)
              · exact hz.facts6.1
              clear hK K'
              try simp only [Act.put, List.setIfInBounds_toArray, List.set_cons_zero, List.set_cons_succ]
              refine wpAnyH_ready (rs := [16]) (by kernel_rfl) (by simp) ?_
              refine AllReadyH.cons (o := ?_) ?_ ?_ ?_; rotate_left 1
              · (simp only [List.getElem?_toArray, List.getElem?_cons_succ, List.getElem?_cons_zero]; rfl)
              · intro K' hK
                refine step_app (.tmp 84) (.tmp 86) 38 rfl Try.underlying38 info30 rfl (by rfl) (by rfl) hN (by first | rfl | simp [Act.eval, Act.put]) hX (by simp [Value.oneCell']) (by omega) (by omega) ?_
                intro vM wM oM hM sM
                obtain ⟨aM, cM, rfl, -, -⟩ := hM.slice
                replace hb := hb.frame sM (by simp)
                replace hz := hz.frame sM (by simpa using hi.2.symm)
                replace hrowC := hrowC.frame sM (by simpa using hj.2.1)
                replace st := st.nil.trans sM
                refine hK.out _ _ ?_ (fun hHeld => ?_)
                · exact hz.facts6.1
                clear hK K'
                try simp only [Act.put, List.setIfInBounds_toArray, List.set_cons_zero, List.set_cons_succ]
                refine wpAnyH_take (i := 17) (oi := ?_) (v := ?_) ?_ (by kernel_rfl) (by kernel_rfl) (by kernel_rfl) ?_ (Or.inl ⟨?_, ?_⟩) ?_ ?_; rotate_left 2
                · (simp only [List.getElem?_toArray, List.getElem?_cons_succ, List.getElem?_cons_zero]; rfl)
                · exact fun _ _ _ h => h
                · rfl
                · (intro w hSw; (try dsimp only at hSw); obtain ⟨s0, s1, s2, s3, s4, s5⟩ := hSw; first | (go_simp; done) | (go_simp; with_reducible rfl))
                · assumption
                try simp only [Act.put, List.setIfInBounds_toArray, List.set_cons_zero, List.set_cons_succ]
                refine wpAnyH_take (i := 18) (oi := ?_) (v := ?_) ?_ (by kernel_rfl) (by kernel_rfl) (by kernel_rfl) ?_ (Or.inl ⟨?_, ?_⟩) ?_ ?_; rotate_left 2
                · (simp only [List.getElem?_toArray, List.getElem?_cons_succ, List.getElem?_cons_zero]; rfl)
                · exact fun _ _ _ h => h
                · rfl
                · (intro w hSw; (try dsimp only at hSw); obtain ⟨s0, s1, s2, s3, s4, s5⟩ := hSw; first | (go_simp; done) | (go_simp; with_reducible rfl))
                · assumption
                try simp only [Act.put, List.setIfInBounds_toArray, List.set_cons_zero, List.set_cons_succ]
                refine wpAnyH_ready (rs := [19]) (by kernel_rfl) (by simp) ?_
                refine AllReadyH.cons (o := ?_) ?_ ?_ ?_; rotate_left 1
                · (simp only [List.getElem?_toArray, List.getElem?_cons_succ, List.getElem?_cons_zero]; rfl)
                · intro K' hK
                  have hcb := hb.cell0
                  have hfb := hb.frozen 0
                  go_simp
                  refine hK.out _ _ ?_ (fun hHeld => ?_)
                  · exact (hz.setOther (g := b) (fun e => by have h1 := hz.own; have h2 := hb.own; rw [e, h2] at h1; exact hi.1 h1) 0 _).facts6.1
                  clear hK K'
                  try simp only [Act.put, List.setIfInBounds_toArray, List.set_cons_zero, List.set_cons_succ]
                  refine wpAnyH_done (by kernel_rfl) ?_ _
                  go_wp2_with fail
                  go_ret2
                  have hrN : Row wM oM (i + 1) 30 6 (.slice aM (n + 1) cM) (fl ++ [((⟨3, a, c, x', y, .slice ac l.length cc⟩ : Fr), l, j)]).length (frs ((fl ++ [((⟨3, a, c, x', y, .slice ac l.length cc⟩ : Fr), l, j)]).map Prod.fst)) := by
                    rw [List.length_append, List.length_singleton, HN.out, List.map_append, List.map_singleton, frs_app]
                    exact hM
                  obtain ⟨g1, g2⟩ := RT.put hb hrN (by rw [List.length_append, List.length_singleton, HN.out]; omega) (fun p hp => by
                    rcases List.mem_append.1 hp with hp | hp
                    · obtain ⟨q1, q2, q3, q4, q5⟩ := HL.out p hp
                      exact ⟨q1, q2, q3, q4, q5.frame st (by simpa using q3)⟩
                    · rw [List.mem_singleton] at hp
                      subst hp
                      exact ⟨HLL.out, hj.1, hj.2.1, hj.2.2, hrowC⟩)
                  first | exact ⟨oM, _, rfl, g1, (st.weaken (by simp)).trans (g2.weaken (by simp))⟩ | exact ⟨rfl, oM, ⟨_, g1⟩, (st.weaken (by simp)).trans (g2.weaken (by simp))⟩ | exact ⟨rfl, oM, _, g1, (st.weaken (by simp)).trans (g2.weaken (by simp))⟩
                exact AllReadyH.nil
              exact AllReadyH.nil
            exact AllReadyH.nil
          exact AllReadyH.nil
        refine AllReadyH.cons (o := ?_) ?_ ?_ ?_; rotate_left 1
        · (simp only [List.getElem?_toArray, List.getElem?_cons_succ, List.getElem?_cons_zero]; rfl)
        · intro K' hK
          have hcb := hb.cell0
          go_simp
          clear hcb
          refine hK.out _ _ ?_ (fun hHeld => ?_)
          · exact hz.facts6.1
          clear hK K'
          try simp only [Act.put, List.setIfInBounds_toArray, List.set_cons_zero, List.set_cons_succ]
          refine wpAnyH_take (i := 10) (oi := ?_) (v := ?_) ?_ (by kernel_rfl) (by kernel_rfl) (by kernel_rfl) ?_ (Or.inl ⟨?_, ?_⟩) ?_ ?_; rotate_left 2
          · (simp only [List.getElem?_toArray, List.getElem?_cons_succ, List.getElem?_cons_zero]; rfl)
          · exact fun _ _ _ h => h
          · rfl
          · (intro w hSw; (try dsimp only at hSw); obtain ⟨s0, s1, s2, s3, s4, s5⟩ := hSw; first | (go_simp; done) | (go_simp; with_reducible rfl))
          · assumption
          try simp only [Act.put, List.setIfInBounds_toArray, List.set_cons_zero, List.set_cons_succ]
          refine wpAnyH_take (i := 11) (oi := ?_) (v := ?_) ?_ (by kernel_rfl) (by kernel_rfl) (by kernel_rfl) ?_ (Or.inl ⟨?_, ?_⟩) ?_ ?_; rotate_left 2
          · (simp only [List.getElem?_toArray, List.getElem?_cons_succ, List.getElem?_cons_zero]; rfl)
          · exact fun _ _ _ h => h
          · rfl
          · (intro w hSw; (try dsimp only at hSw); obtain ⟨s0, s1, s2, s3, s4, s5⟩ := hSw; first | (go_simp; done) | (go_simp; with_reducible rfl))
          · assumption
          try simp only [Act.put, List.setIfInBounds_toArray, List.set_cons_zero, List.set_cons_succ]
          refine wpAnyH_ready (rs := [5]) (by kernel_rfl) (by simp) ?_
          refine AllReadyH.cons (o := ?_) ?_ ?_ ?_; rotate_left 1
          · (simp only [List.getElem?_toArray, List.getElem?_cons_succ, List.getElem?_cons_zero]; rfl)
          · intro K' hK
            have hcb := hb.cell0
            go_simp
            clear hcb
            refine hK.out _ _ ?_ (fun hHeld => ?_)
            · exact hz.facts6.1
            clear hK K'
            try simp only [Act.put, List.setIfInBounds_toArray, List.set_cons_zero, List.set_cons_succ]
            refine wpAnyH_take (i := 12) (oi := ?_) (v := ?_) ?_ (by kernel_rfl) (by kernel_rfl) (by kernel_rfl) ?_ (Or.inl ⟨?_, ?_⟩) ?_ ?_; rotate_left 2
            · (simp only [List.getElem?_toArray, List.getElem?_cons_succ, List.getElem?_cons_zero]; rfl)
            · exact fun _ _ _ h => h
            · rfl
            · (intro w hSw; (try dsimp only at hSw); obtain ⟨s0, s1, s2, s3, s4, s5⟩ := hSw; first | (go_simp; done) | (go_simp; with_reducible rfl))
            · assumption
            try simp only [Act.put, List.setIfInBounds_toArray, List.set_cons_zero, List.set_cons_succ]
            refine wpAnyH_ready (rs := [13]) (by kernel_rfl) (by simp) ?_
            refine AllReadyH.cons (o := ?_) ?_ ?_ ?_; rotate_left 1
            · (simp only [List.getElem?_toArray, List.getElem?_cons_succ, List.getElem?_cons_zero]; rfl)
            · intro K' hK
              refine step_app0 (.tmp 72) (.tmp 83) 38 rfl o3 (i + 1) Try.underlying38 info30 rfl (by rfl) (by rfl) (by rfl) hpre (by omega) (by omega) ?_
              intro vN wN oN hN sN
              obtain ⟨aN, cN, rfl, -, -⟩ := hN.slice
              replace hb := hb.frame sN (by simp)
              replace hz := hz.frame sN (by simp)
              replace hrowC := hrowC.frame sN (by simp)
              replace hpre := hpre.frame sN (by simp)
              replace hX := hX.frame sN (by simp)
              replace st := st.trans sN
              refine hK.out _ _ ?_ (fun hHeld => ?_)
              · exact hz.facts6.1
              clear hK K'
              try simp only [Act.put, List.setIfInBounds_toArray, List.set_cons_zero, List.set_cons_succ]
              refine wpAnyH_ready (rs := [16]) (by kernel_rfl) (by simp) ?_
              refine AllReadyH.cons (o := ?_) ?_ ?_ ?_; rotate_left 1
              · (simp only [List.getElem?_toArray, List.getElem?_cons_succ, List.getElem?_cons_zero]; rfl)
              · intro K' hK
                refine step_app (.tmp 84) (.tmp 86) 38 rfl Try.underlying38 info30 rfl (by rfl) (by rfl) hN (by first | rfl | simp [Act.eval, Act.put]) hX (by simp [Value.oneCell']) (by omega) (by omega) ?_
                intro vM wM oM hM sM
                obtain ⟨aM, cM, rfl, -, -⟩ := hM.slice
                replace hb := hb.frame sM (by simp)
                replace hz := hz.frame sM (by simpa using hi.2.symm)
                replace hrowC := hrowC.frame sM (by simpa using hj.2.1)
                replace st := st.nil.trans sM
                refine hK.out _ _ ?_ (fun hHeld => ?_)
                · exact hz.facts6.1
                clear hK K'
                try simp only [Act.put, List.setIfInBounds_toArray, List.set_cons_zero, List.set_cons_succ]
                refine wpAnyH_take (i := 17) (oi := ?_) (v := ?_) ?_ (by kernel_rfl) (by kernel_rfl) (by kernel_rfl) ?_ (Or.inl ⟨?_, ?_⟩) ?_ ?_; rotate_left 2
                · (simp only [List.getElem?_toArray, List.getElem?_cons_succ, List.getElem?_cons_zero]; rfl)
                · exact fun _ _ _ h => h
                · rfl
                · (intro w hSw; (try dsimp only at hSw); obtain ⟨s0, s1, s2, s3, s4, s5⟩ := hSw; first | (go_simp; done) | (go_simp; with_reducible rfl))
                · assumption
                try simp only [Act.put, List.setIfInBounds_toArray, List.set_cons_zero, List.set_cons_succ]
                refine wpAnyH_take (i := 18) (oi := ?_) (v := ?_) ?_ (by kernel_rfl) (by kernel_rfl) (by kernel_rfl) ?_ (Or.inl ⟨?_, ?_⟩) ?_ ?_; rotate_left 2
                · (simp only [List.getElem?_toArray, List.getElem?_cons_succ, List.getElem?_cons_zero]; rfl)
                · exact fun _ _ _ h => h
                · rfl
                · (intro w hSw; (try dsimp only at hSw); obtain ⟨s0, s1, s2, s3, s4, s5⟩ := hSw; first | (go_simp; done) | (go_simp; with_reducible rfl))
                · assumption
                try simp only [Act.put, List.setIfInBounds_toArray, List.set_cons_zero, List.set_cons_succ]
                refine wpAnyH_ready (rs := [19]) (by kernel_rfl) (by simp) ?_
                refine AllReadyH.cons (o := ?_) ?_ ?_ ?_; rotate_left 1
                · (simp only [List.getElem?_toArray, List.getElem?_cons_succ, List.getElem?_cons_zero]; rfl)
                · intro K' hK
                  have hcb := hb.cell0
                  have hfb := hb.frozen 0
                  go_simp
                  refine hK.out _ _ ?_ (fun hHeld => ?_)
                  · exact (hz.setOther (g := b) (fun e => by have h1 := hz.own; have h2 := hb.own; rw [e, h2] at h1; exact hi.1 h1) 0 _).facts6.1
                  clear hK K'
                  try simp only [Act.put, List.setIfInBounds_toArray, List.set_cons_zero, List.set_cons_succ]
                  refine wpAnyH_done (by kernel_rfl) ?_ _
                  go_wp2_with fail
                  go_ret2
                  have hrN : Row wM oM (i + 1) 30 6 (.slice aM (n + 1) cM) (fl ++ [((⟨3, a, c, x', y, .slice ac l.length cc⟩ : Fr), l, j)]).length (frs ((fl ++ [((⟨3, a, c, x', y, .slice ac l.length cc⟩ : Fr), l, j)]).map Prod.fst)) := by
                    rw [List.length_append, List.length_singleton, HN.out, List.map_append, List.map_singleton, frs_app]
                    exact hM
                  obtain ⟨g1, g2⟩ := RT.put hb hrN (by rw [List.length_append, List.length_singleton, HN.out]; omega) (fun p hp => by
                    rcases List.mem_append.1 hp with hp | hp
                    · obtain ⟨q1, q2, q3, q4, q5⟩ := HL.out p hp
                      exact ⟨q1, q2, q3, q4, q5.frame st (by simpa using q3)⟩
                    · rw [List.mem_singleton] at hp
                      subst hp
                      exact ⟨HLL.out, hj.1, hj.2.1, hj.2.2, hrowC⟩)
                  first | exact ⟨oM, _, rfl, g1, (st.weaken (by simp)).trans (g2.weaken (by simp))⟩ | exact ⟨rfl, oM, ⟨_, g1⟩, (st.weaken (by simp)).trans (g2.weaken (by simp))⟩ | exact ⟨rfl, oM, _, g1, (st.weaken (by simp)).trans (g2.weaken (by simp))⟩
                exact AllReadyH.nil
              exact AllReadyH.nil
            exact AllReadyH.nil
          exact AllReadyH.nil
        exact AllReadyH.nil
      exact AllReadyH.nil
    refine AllReadyH.cons (o := ?_) ?_ ?_ ?_; rotate_left 1
    · (simp only [List.getElem?_toArray, List.getElem?_cons_succ, List.getElem?_cons_zero]; rfl)
    · intro K' hK
      have hcb := hb.cell0
      go_simp
      clear hcb
      refine hK.out _ _ ?_ (fun hHeld => ?_)
      · exact hz.facts6.1
      clear hK K'
      try simp only [Act.put, List.setIfInBounds_toArray, List.set_cons_zero, List.set_cons_succ]
      refine wpAnyH_ready (rs := [1, 9, 15]) (by kernel_rfl) (by simp) ?_
      refine AllReadyH.cons (o := ?_) ?_ ?_ ?_; rotate_left 1
      · (simp only [List.getElem?_toArray, List.getElem?_cons_succ, List.getElem?_cons_zero]; rfl)
      · intro K' hK
        go_simp
        replace hb := hb.frame ((Step.refl [] _ _).alloc (.cells #[] 30)) (by simp)
        replace hz := hz.frame ((Step.refl [] _ _).alloc (.cells #[] 30)) (by simp)
        replace hrowC := hrowC.frame ((Step.refl [] _ _).alloc (.cells #[] 30)) (by simp)
        replace hpre := hpre.frame ((Step.refl [] _ _).alloc (.cells #[] 30)) (by simp)
        replace st := st.trans ((Step.refl [] _ _).alloc (.cells #[] 30))
        refine hK.out _ _ ?_ (fun hHeld => ?_)
        · exact hz.facts6.1
        clear hK K'
        try simp only [Act.put, List.setIfInBounds_toArray, List.set_cons_zero, List.set_cons_succ]
        refine wpAnyH_ready (rs := [9, 15]) (by kernel_rfl) (by simp) ?_
        refine AllReadyH.cons (o := ?_) ?_ ?_ ?_; rotate_left 1
        · (simp only [List.getElem?_toArray, List.getElem?_cons_succ, List.getElem?_cons_zero]; rfl)
        · intro K' hK
          have hcb := hb.cell0
          go_simp
          clear hcb
          refine hK.out _ _ ?_ (fun hHeld => ?_)
          · exact hz.facts6.1
          clear hK K'
          try simp only [Act.put, List.setIfInBounds_toArray, List.set_cons_zero, List.set_cons_succ]
          refine wpAnyH_take (i := 10) (oi := ?_) (v := ?_) ?_ (by kernel_rfl) (by kernel_rfl) (by kernel_rfl) ?_ (Or.inl ⟨?_, ?_⟩) ?_ ?_; rotate_left 2
          · (simp only [List.getElem?_toArray, List.getElem?_cons_succ, List.getElem?_cons_zero]; rfl)
          · exact fun _ _ _ h => h
          · rfl
          · (intro w hSw; (try dsimp only at hSw); obtain ⟨s0, s1, s2, s3, s4, s5⟩ := hSw; first | (go_simp; done) | (go_simp; with_reducible rfl))
          · assumption
          try simp only [Act.put, List.setIfInBounds_toArray, List.set_cons_zero, List.set_cons_succ]
          refine wpAnyH_take (i := 11) (oi := ?_) (v := ?_) ?_ (by kernel_rfl) (by kernel_rfl) (by kernel_rfl) ?_ (Or.inl ⟨?_, ?_⟩) ?_ ?_; rotate_left 2
          · (simp only [List.getElem?_toArray, List.getElem?_cons_succ, List.getElem?_cons_zero]; rfl)
          · exact fun _ _ _ h => h
          · rfl
          · (intro w hSw; (try dsimp only at hSw); obtain ⟨s0, s1, s2, s3, s4, s5⟩ := hSw; first | (go_simp; done) | (go_simp; with_reducible rfl))
          · assumption
          try simp only [Act.put, List.setIfInBounds_toArray, List.set_cons_zero, List.set_cons_succ]
          refine wpAnyH_take (i := 12) (oi := ?_) (v := ?_) ?_ (by kernel_rfl) (by kernel_rfl) (by kernel_rfl) ?_ (Or.inl ⟨?_, ?_⟩) ?_ ?_; rotate_left 2
          · (simp only [List.getElem?_toArray, List.getElem?_cons_succ, List.getElem?_cons_zero]; rfl)
          · exact fun _ _ _ h => h
          · rfl
          · (intro w hSw; (try dsimp only at hSw); obtain ⟨s0, s1, s2, s3, s4, s5⟩ := hSw; first | (go_simp; done) | (go_simp; with_reducible rfl))
          · assumption
          try simp only [Act.put, List.setIfInBounds_toArray, List.set_cons_zero, List.set_cons_succ]
          refine wpAnyH_ready (rs := [13, 15]) (by kernel_rfl) (by simp) ?_
          refine AllReadyH.cons (o := ?_) ?_ ?_ ?_; rotate_left 1
          · (simp only [List.getElem?_toArray, List.getElem?_cons_succ, List.getElem?_cons_zero]; rfl)
          · intro K' hK
            refine step_app0 (.tmp 72) (.tmp 83) 38 rfl o3 (i + 1) Try.underlying38 info30 rfl (by rfl) (by rfl) (by rfl) hpre (by omega) (by omega) ?_
            intro vN wN oN hN sN
            obtain ⟨aN, cN, rfl, -, -⟩ := hN.slice
            replace hb := hb.frame sN (by simp)
            replace hz := hz.frame sN (by simp)
            replace hrowC := hrowC.frame sN (by simp)
            replace hpre := hpre.frame sN (by simp)
            replace st := st.trans sN
            refine hK.out _ _ ?_ (fun hHeld => ?_)
            · exact hz.facts6.1
            clear hK K'
            try simp only [Act.put, List.setIfInBounds_toArray, List.set_cons_zero, List.set_cons_succ]
            refine wpAnyH_ready (rs := [15]) (by kernel_rfl) (by simp) ?_
            refine AllReadyH.cons (o := ?_) ?_ ?_ ?_; rotate_left 1
            · (simp only [List.getElem?_toArray, List.getElem?_cons_succ, List.getElem?_cons_zero]; rfl)
            · intro K' hK
              go_simp
              obtain ⟨jX, hX⟩ := hb.freshR 3 a c x' y (.slice ac l.length cc)
              replace hb := hb.frame ((Step.refl [] _ _).alloc (.cells #[.int .i64 3, .int .i64 a, .int .i64 c, .int .i64 x', .int .i64 y, .slice ac l.length cc] 30)) (by simp)
              replace hz := hz.frame ((Step.refl [] _ _).alloc (.cells #[.int .i64 3, .int .i64 a, .int .i64 c, .int .i64 x', .int .i64 y, .slice ac l.length cc] 30)) (by simp)
              replace hrowC := hrowC.frame ((Step.refl [] _ _).alloc (.cells #[.int .i64 3, .int .i64 a, .int .i64 c, .int .i64 x', .int .i64 y, .slice ac l.length cc] 30)) (by simp)
              replace hpre := hpre.frame ((Step.refl [] _ _).alloc (.cells #[.int .i64 3, .int .i64 a, .int .i64 c, .int .i64 x', .int .i64 y, .slice ac l.length cc] 30)) (by simp)
              replace hN := hN.frame ((Step.refl [] _ _).alloc (.cells #[.int .i64 3, .int .i64 a, .int .i64 c, .int .i64 x', .int .i64 y, .slice ac l.length cc] 30)) (by simp)
              replace st := st.trans ((Step.refl [] _ _).alloc (.cells #[.int .i64 3, .int .i64 a, .int .i64 c, .int .i64 x', .int .i64 y, .slice ac l.length cc] 30))
              refine hK.out _ _ ?_ (fun hHeld => ?_)
              · exact hz.facts6.1
              clear hK K'
              try simp only [Act.put, List.setIfInBounds_toArray, List.set_cons_zero, List.set_cons_succ]
              refine wpAnyH_ready (rs := [16]) (by kernel_rfl) (by simp) ?_
              refine AllReadyH.cons (o := ?_) ?_ ?_ ?_; rotate_left 1
              · (simp only [List.getElem?_toArray, List.getElem?_cons_succ, List.getElem?_cons_zero]; rfl)
              · intro K' hK
                refine step_app (.tmp 84) (.tmp 86) 38 rfl Try.underlying38 info30 rfl (by rfl) (by rfl) hN (by first | rfl | simp [Act.eval, Act.put]) hX (by simp [Value.oneCell']) (by omega) (by omega) ?_
                intro vM wM oM hM sM
                obtain ⟨aM, cM, rfl, -, -⟩ := hM.slice
                replace hb := hb.frame sM (by simp)
                replace hz := hz.frame sM (by simpa using hi.2.symm)
                replace hrowC := hrowC.frame sM (by simpa using hj.2.1)
                replace st := st.nil.trans sM
                refine hK.out _ _ ?_ (fun hHeld => ?_)
                · exact hz.facts6.1
                clear hK K'
                try simp only [Act.put, List.setIfInBounds_toArray, List.set_cons_zero, List.set_cons_succ]
                refine wpAnyH_take (i := 17) (oi := ?_) (v := ?_) ?_ (by kernel_rfl) (by kernel_rfl) (by kernel_rfl) ?_ (Or.inl ⟨?_, ?_⟩) ?_ ?_; rotate_left 2
                · (simp only [List.getElem?_toArray, List.getElem?_cons_succ, List.getElem?_cons_zero]; rfl)
                · exact fun _ _ _ h => h
                · rfl
                · (intro w hSw; (try dsimp only at hSw); obtain ⟨s0, s1, s2, s3, s4, s5⟩ := hSw; first | (go_simp; done) | (go_simp; with_reducible rfl))
                · assumption
                try simp only [Act.put, List.setIfInBounds_toArray, List.set_cons_zero, List.set_cons_succ]
                refine wpAnyH_take (i := 18) (oi := ?_) (v := ?_) ?_ (by kernel_rfl) (by kernel_rfl) (by kernel_rfl) ?_ (Or.inl ⟨?_, ?_⟩) ?_ ?_; rotate_left 2
                · (simp only [List.getElem?_toArray, List.getElem?_cons_succ, List.getElem?_cons_zero]; rfl)
                · exact fun _ _ _ h => h
                · rfl
                · (intro w hSw; (try dsimp only at hSw); obtain ⟨s0, s1, s2, s3, s4, s5⟩ := hSw; first | (go_simp; done) | (go_simp; with_reducible rfl))
                · assumption
                try simp only [Act.put, List.setIfInBounds_toArray, List.set_cons_zero, List.set_cons_succ]
                refine wpAnyH_ready (rs := [19]) (by kernel_rfl) (by simp) ?_
                refine AllReadyH.cons (o := ?_) ?_ ?_ ?_; rotate_left 1
                · (simp only [List.getElem?_toArray, List.getElem?_cons_succ, List.getElem?_cons_zero]; rfl)
                · intro K' hK
                  have hcb := hb.cell0
                  have hfb := hb.frozen 0
                  go_simp
                  refine hK.out _ _ ?_ (fun hHeld => ?_)
                  · exact (hz.setOther (g := b) (fun e => by have h1 := hz.own; have h2 := hb.own; rw [e, h2] at h1; exact hi.1 h1) 0 _).facts6.1
                  clear hK K'
                  try simp only [Act.put, List.setIfInBounds_toArray, List.set_cons_zero, List.set_cons_succ]
                  refine wpAnyH_done (by kernel_rfl) ?_ _
                  go_wp2_with fail
                  go_ret2
                  have hrN : Row wM oM (i + 1) 30 6 (.slice aM (n + 1) cM) (fl ++ [((⟨3, a, c, x', y, .slice ac l.length cc⟩ : Fr), l, j)]).length (frs ((fl ++ [((⟨3, a, c, x', y, .slice ac l.length cc⟩ : Fr), l, j)]).map Prod.fst)) := by
                    rw [List.length_append, List.length_singleton, HN.out, List.map_append, List.map_singleton, frs_app]
                    exact hM
                  obtain ⟨g1, g2⟩ := RT.put hb hrN (by rw [List.length_append, List.length_singleton, HN.out]; omega) (fun p hp => by
                    rcases List.mem_append.1 hp with hp | hp
                    · obtain ⟨q1, q2, q3, q4, q5⟩ := HL.out p hp
                      exact ⟨q1, q2, q3, q4, q5.frame st (by simpa using q3)⟩
                    · rw [List.mem_singleton] at hp
                      subst hp
                      exact ⟨HLL.out, hj.1, hj.2.1, hj.2.2, hrowC⟩)
                  first | exact ⟨oM, _, rfl, g1, (st.weaken (by simp)).trans (g2.weaken (by simp))⟩ | exact ⟨rfl, oM, ⟨_, g1⟩, (st.weaken (by simp)).trans (g2.weaken (by simp))⟩ | exact ⟨rfl, oM, _, g1, (st.weaken (by simp)).trans (g2.weaken (by simp))⟩
                exact AllReadyH.nil
              exact AllReadyH.nil
            exact AllReadyH.nil
          refine AllReadyH.cons (o := ?_) ?_ ?_ ?_; rotate_left 1
          · (simp only [List.getElem?_toArray, List.getElem?_cons_succ, List.getElem?_cons_zero]; rfl)
          · intro K' hK
            go_simp
            obtain ⟨jX, hX⟩ := hb.freshR 3 a c x' y (.slice ac l.length cc)
            replace hb := hb.frame ((Step.refl [] _ _).alloc (.cells #[.int .i64 3, .int .i64 a, .int .i64 c, .int .i64 x', .int .i64 y, .slice ac l.length cc] 30)) (by simp)
            replace hz := hz.frame ((Step.refl [] _ _).alloc (.cells #[.int .i64 3, .int .i64 a, .int .i64 c, .int .i64 x', .int .i64 y, .slice ac l.length cc] 30)) (by simp)
            replace hrowC := hrowC.frame ((Step.refl [] _ _).alloc (.cells #[.int .i64 3, .int .i64 a, .int .i64 c, .int .i64 x', .int .i64 y, .slice ac l.length cc] 30)) (by simp)
            replace hpre := hpre.frame ((Step.refl [] _ _).alloc (.cells #[.int .i64 3, .int .i64 a, .int .i64 c, .int .i64 x', .int .i64 y, .slice ac l.length cc] 30)) (by simp)
            replace st := st.trans ((Step.refl [] _ _).alloc (.cells #[.int .i64 3, .int .i64 a, .int .i64 c, .int .i64 x', .int .i64 y, .slice ac l.length cc] 30))
            refine hK.out _ _ ?_ (fun hHeld => ?_)
            · exact hz.facts6.1
            clear hK K'
            try simp only [Act.put, List.setIfInBounds_toArray, List.set_cons_zero, List.set_cons_succ]
            refine wpAnyH_ready (rs := [13]) (by kernel_rfl) (by simp) ?_
            refine AllReadyH.cons (o := ?_) ?_ ?_ ?_; rotate_left 1
            · (simp only [List.getElem?_toArray, List.getElem?_cons_succ, List.getElem?_cons_zero]; rfl)
            · intro K' hK
              refine step_app0 (.tmp 72) (.tmp 83) 38 rfl o3 (i + 1) Try.underlying38 info30 rfl (by rfl) (by rfl) (by rfl) hpre (by omega) (by omega) ?_
              intro vN wN oN hN sN
              obtain ⟨aN, cN, rfl, -, -⟩ := hN.slice
              replace hb := hb.frame sN (by simp)
              replace hz := hz.frame sN (by simp)
              replace hrowC := hrowC.frame sN (by simp)
              replace hpre := hpre.frame sN (by simp)
              replace hX := hX.frame sN (by simp)
              replace st := st.trans sN
              refine hK.out _ _ ?_ (fun hHeld => ?_)
              · exact hz.facts6.1
              clear hK K'
              try simp only [Act.put, List.setIfInBounds_toArray, List.set_cons_zero, List.set_cons_succ]
              refine wpAnyH_ready (rs := [16]) (by kernel_rfl) (by simp) ?_
              refine AllReadyH.cons (o := ?_) ?_ ?_ ?_; rotate_left 1
              · (simp only [List.getElem?_toArray, List.getElem?_cons_succ, List.getElem?_cons_zero]; rfl)
              · intro K' hK
                refine step_app (.tmp 84) (.tmp 86) 38 rfl Try.underlying38 info30 rfl (by rfl) (by rfl) hN (by first | rfl | simp [Act.eval, Act.put]) hX (by simp [Value.oneCell']) (by omega) (by omega) ?_
                intro vM wM oM hM sM
                obtain ⟨aM, cM, rfl, -, -⟩ := hM.slice
                replace hb := hb.frame sM (by simp)
                replace hz := hz.frame sM (by simpa using hi.2.symm)
                replace hrowC := hrowC.frame sM (by simpa using hj.2.1)
                replace st := st.nil.trans sM
                refine hK.out _ _ ?_ (fun hHeld => ?_)
                · exact hz.facts6.1
                clear hK K'
                try simp only [Act.put, List.setIfInBounds_toArray, List.set_cons_zero, List.set_cons_succ]
                refine wpAnyH_take (i := 17) (oi := ?_) (v := ?_) ?_ (by kernel_rfl) (by kernel_rfl) (by kernel_rfl) ?_ (Or.inl ⟨?_, ?_⟩) ?_ ?_; rotate_left 2
                · (simp only [List.getElem?_toArray, List.getElem?_cons_succ, List.getElem?_cons_zero]; rfl)
                · exact fun _ _ _ h => h
                · rfl
                · (intro w hSw; (try dsimp only at hSw); obtain ⟨s0, s1, s2, s3, s4, s5⟩ := hSw; first | (go_simp; done) | (go_simp; with_reducible rfl))
                · assumption
                try simp only [Act.put, List.setIfInBounds_toArray, List.set_cons_zero, List.set_cons_succ]
                refine wpAnyH_take (i := 18) (oi := ?_) (v := ?_) ?_ (by kernel_rfl) (by kernel_rfl) (by kernel_rfl) ?_ (Or.inl ⟨?_, ?_⟩) ?_ ?_; rotate_left 2
                · (simp only [List.getElem?_toArray, List.getElem?_cons_succ, List.getElem?_cons_zero]; rfl)
                · exact fun _ _ _ h => h
                · rfl
                · (intro w hSw; (try dsimp only at hSw); obtain ⟨s0, s1, s2, s3, s4, s5⟩ := hSw; first | (go_simp; done) | (go_simp; with_reducible rfl))
                · assumption
                try simp only [Act.put, List.setIfInBounds_toArray, List.set_cons_zero, List.set_cons_succ]
                refine wpAnyH_ready (rs := [19]) (by kernel_rfl) (by simp) ?_
                refine AllReadyH.cons (o := ?_) ?_ ?_ ?_; rotate_left 1
                · (simp only [List.getElem?_toArray, List.getElem?_cons_succ, List.getElem?_cons_zero]; rfl)
                · intro K' hK
                  have hcb := hb.cell0
                  have hfb := hb.frozen 0
                  go_simp
                  refine hK.out _ _ ?_ (fun hHeld => ?_)
                  · exact (hz.setOther (g := b) (fun e => by have h1 := hz.own; have h2 := hb.own; rw [e, h2] at h1; exact hi.1 h1) 0 _).facts6.1
                  clear hK K'
                  try simp only [Act.put, List.setIfInBounds_toArray, List.set_cons_zero, List.set_cons_succ]
                  refine wpAnyH_done (by kernel_rfl) ?_ _
                  go_wp2_with fail
                  go_ret2
                  have hrN : Row wM oM (i + 1) 30 6 (.slice aM (n + 1) cM) (fl ++ [((⟨3, a, c, x', y, .slice ac l.length cc⟩ : Fr), l, j)]).length (frs ((fl ++ [((⟨3, a, c, x', y, .slice ac l.length cc⟩ : Fr), l, j)]).map Prod.fst)) := by
                    rw [List.length_append, List.length_singleton, HN.out, List.map_append, List.map_singleton, frs_app]
                    exact hM
                  obtain ⟨g1, g2⟩ := RT.put hb hrN (by rw [List.length_append, List.length_singleton, HN.out]; omega) (fun p hp => by
                    rcases List.mem_append.1 hp with hp | hp
                    · obtain ⟨q1, q2, q3, q4, q5⟩ := HL.out p hp
                      exact ⟨q1, q2, q3, q4, q5.frame st (by simpa using q3)⟩
                    · rw [List.mem_singleton] at hp
                      subst hp
                      exact ⟨HLL.out, hj.1, hj.2.1, hj.2.2, hrowC⟩)
                  first | exact ⟨oM, _, rfl, g1, (st.weaken (by simp)).trans (g2.weaken (by simp))⟩ | exact ⟨rfl, oM, ⟨_, g1⟩, (st.weaken (by simp)).trans (g2.weaken (by simp))⟩ | exact ⟨rfl, oM, _, g1, (st.weaken (by simp)).trans (g2.weaken (by simp))⟩
                exact AllReadyH.nil
              exact AllReadyH.nil
            exact AllReadyH.nil
          exact AllReadyH.nil
        refine AllReadyH.cons (o := ?_) ?_ ?_ ?_; rotate_left 1
        · (simp only [List.getElem?_toArray, List.getElem?_cons_succ, List.getElem?_cons_zero]; rfl)
        · intro K' hK
          go_simp
          obtain ⟨jX, hX⟩ := hb.freshR 3 a c x' y (.slice ac l.length cc)
          replace hb := hb.frame ((Step.refl [] _ _).alloc (.cells #[.int .i64 3, .int .i64 a, .int .i64 c, .int .i64 x', .int .i64 y, .slice ac l.length cc] 30)) (by simp)
          replace hz := hz.frame ((Step.refl [] _ _).alloc (.cells #[.int .i64 3, .int .i64 a, .int .i64 c, .int .i64 x', .int .i64 y, .slice ac l.length cc] 30)) (by simp)
          replace hrowC := hrowC.frame ((Step.refl [] _ _).alloc (.cells #[.int .i64 3, .int .i64 a, .int .i64 c, .int .i64 x', .int .i64 y, .slice ac l.length cc] 30)) (by simp)
          replace hpre := hpre.frame ((Step.refl [] _ _).alloc (.cells #[.int .i64 3, .int .i64 a, .int .i64 c, .int .i64 x', .int .i64 y, .slice ac l.length cc] 30)) (by simp)
          replace st := st.trans ((Step.refl [] _ _).alloc (.cells #[.int .i64 3, .int .i64 a, .int .i64 c, .int .i64 x', .int .i64 y, .slice ac l.length cc] 30))
          refine hK.out _ _ ?_ (fun hHeld => ?_)
          · exact hz.facts6.1
          clear hK K'
          try simp only [Act.put, List.setIfInBounds_toArray, List.set_cons_zero, List.set_cons_succ]
          refine wpAnyH_ready (rs := [9]) (by kernel_rfl) (by simp) ?_
          refine AllReadyH.cons (o := ?_) ?_ ?_ ?_; rotate_left 1
          · (simp only [List.getElem?_toArray, List.getElem?_cons_succ, List.getElem?_cons_zero]; rfl)
          · intro K' hK
            have hcb := hb.cell0
            go_simp
            clear hcb
            refine hK.out _ _ ?_ (fun hHeld => ?_)
            · exact hz.facts6.1
            clear hK K'
            try simp only [Act.put, List.setIfInBounds_toArray, List.set_cons_zero, List.set_cons_succ]
            refine wpAnyH_take (i := 10) (oi := ?_) (v := ?_) ?_ (by kernel_rfl) (by kernel_rfl) (by kernel_rfl) ?_ (Or.inl ⟨?_, ?_⟩) ?_ ?_; rotate_left 2
            · (simp only [List.getElem?_toArray, List.getElem?_cons_succ, List.getElem?_cons_zero]; rfl)
            · exact fun _ _ _ h => h
            · rfl
            · (intro w hSw; (try dsimp only at hSw); obtain ⟨s0, s1, s2, s3, s4, s5⟩ := hSw; first | (go_simp; done) | (go_simp; with_reducible rfl))
            · assumption
            try simp only [Act.put, List.setIfInBounds_toArray, List.set_cons_zero, List.set_cons_succ]
            refine wpAnyH_take (i := 11) (oi := ?_) (v := ?_) ?_ (by kernel_rfl) (by kernel_rfl) (by kernel_rfl) ?_ (Or.inl ⟨?_, ?_⟩) ?_ ?_; rotate_left 2
            · (simp only [List.getElem?_toArray, List.getElem?_cons_succ, List.getElem?_cons_zero]; rfl)
            · exact fun _ _ _ h => h
            · rfl
            · (intro w hSw; (try dsimp only at hSw); obtain ⟨s0, s1, s2, s3, s4, s5⟩ := hSw; first | (go_simp; done) | (go_simp; with_reducible rfl))
            · assumption
            try simp only [Act.put, List.setIfInBounds_toArray, List.set_cons_zero, List.set_cons_succ]
            refine wpAnyH_take (i := 12) (oi := ?_) (v := ?_) ?_ (by kernel_rfl) (by kernel_rfl) (by kernel_rfl) ?_ (Or.inl ⟨?_, ?_⟩) ?_ ?_; rotate_left 2
            · (simp only [List.getElem?_toArray, List.getElem?_cons_succ, List.getElem?_cons_zero]; rfl)
            · exact fun _ _ _ h => h
            · rfl
            · (intro w hSw; (try dsimp only at hSw); obtain ⟨s0, s1, s2, s3, s4, s5⟩ := hSw; first | (go_simp; done) | (go_simp; with_reducible rfl))
            · assumption
            try simp only [Act.put, List.setIfInBounds_toArray, List.set_cons_zero, List.set_cons_succ]
            refine wpAnyH_ready (rs := [13]) (by kernel_rfl) (by simp) ?_
            refine AllReadyH.cons (o := ?_) ?_ ?_ ?_; rotate_left 1
            · (simp only [List.getElem?_toArray, List.getElem?_cons_succ, List.getElem?_cons_zero]; rfl)
            · intro K' hK
              refine step_app0 (.tmp 72) (.tmp 83) 38 rfl o3 (i + 1) Try.underlying38 info30 rfl (by rfl) (by rfl) (by rfl) hpre (by omega) (by omega) ?_
              intro vN wN oN hN sN
              obtain ⟨aN, cN, rfl, -, -⟩ := hN.slice
              replace hb := hb.frame sN (by simp)
              replace hz := hz.frame sN (by simp)
              replace hrowC := hrowC.frame sN (by simp)
              replace hpre := hpre.frame sN (by simp)
              replace hX := hX.frame sN (by simp)
              replace st := st.trans sN
              refine hK.out _ _ ?_ (fun hHeld => ?_)
              · exact hz.facts6.1
              clear hK K'
              try simp only [Act.put, List.setIfInBounds_toArray, List.set_cons_zero, List.set_cons_succ]
              refine wpAnyH_ready (rs := [16]) (by kernel_rfl) (by simp) ?_
              refine AllReadyH.cons (o := ?_) ?_ ?_ ?_; rotate_left 1
              · (simp only [List.getElem?_toArray, List.getElem?_cons_succ, List.getElem?_cons_zero]; rfl)
              · intro K' hK
                refine step_app (.tmp 84) (.tmp 86) 38 rfl Try.underlying38 info30 rfl (by rfl) (by rfl) hN (by first | rfl | simp [Act.eval, Act.put]) hX (by simp [Value.oneCell']) (by omega) (by omega) ?_
                intro vM wM oM hM sM
                obtain ⟨aM, cM, rfl, -, -⟩ := hM.slice
                replace hb := hb.frame sM (by simp)
                replace hz := hz.frame sM (by simpa using hi.2.symm)
                replace hrowC := hrowC.frame sM (by simpa using hj.2.1)
                replace st := st.nil.trans sM
                refine hK.out _ _ ?_ (fun hHeld => ?_)
                · exact hz.facts6.1
                clear hK K'
                try simp only [Act.put, List.setIfInBounds_toArray, List.set_cons_zero, List.set_cons_succ]
                refine wpAnyH_take (i := 17) (oi := ?_) (v := ?_) ?_ (by kernel_rfl) (by kernel_rfl) (by kernel_rfl) ?_ (Or.inl ⟨?_, ?_⟩) ?_ ?_; rotate_left 2
                · (simp only [List.getElem?_toArray, List.getElem?_cons_succ, List.getElem?_cons_zero]; rfl)
                · exact fun _ _ _ h => h
                · rfl
                · (intro w hSw; (try dsimp only at hSw); obtain ⟨s0, s1, s2, s3, s4, s5⟩ := hSw; first | (go_simp; done) | (go_simp; with_reducible rfl))
                · assumption
                try simp only [Act.put, List.setIfInBounds_toArray, List.set_cons_zero, List.set_cons_succ]
                refine wpAnyH_take (i := 18) (oi := ?_) (v := ?_) ?_ (by kernel_rfl) (by kernel_rfl) (by kernel_rfl) ?_ (Or.inl ⟨?_, ?_⟩) ?_ ?_; rotate_left 2
                · (simp only [List.getElem?_toArray, List.getElem?_cons_succ, List.getElem?_cons_zero]; rfl)
                · exact fun _ _ _ h => h
                · rfl
                · (intro w hSw; (try dsimp only at hSw); obtain ⟨s0, s1, s2, s3, s4, s5⟩ := hSw; first | (go_simp; done) | (go_simp; with_reducible rfl))
                · assumption
                try simp only [Act.put, List.setIfInBounds_toArray, List.set_cons_zero, List.set_cons_succ]
                refine wpAnyH_ready (rs := [19]) (by kernel_rfl) (by simp) ?_
                refine AllReadyH.cons (o := ?_) ?_ ?_ ?_; rotate_left 1
                · (simp only [List.getElem?_toArray, List.getElem?_cons_succ, List.getElem?_cons_zero]; rfl)
                · intro K' hK
                  have hcb := hb.cell0
                  have hfb := hb.frozen 0
                  go_simp
                  refine hK.out _ _ ?_ (fun hHeld => ?_)
                  · exact (hz.setOther (g := b) (fun e => by have h1 := hz.own; have h2 := hb.own; rw [e, h2] at h1; exact hi.1 h1) 0 _).facts6.1
                  clear hK K'
                  try simp only [Act.put, List.setIfInBounds_toArray, List.set_cons_zero, List.set_cons_succ]
                  refine wpAnyH_done (by kernel_rfl) ?_ _
                  go_wp2_with fail
                  go_ret2
                  have hrN : Row wM oM (i + 1) 30 6 (.slice aM (n + 1) cM) (fl ++ [((⟨3, a, c, x', y, .slice ac l.length cc⟩ : Fr), l, j)]).length (frs ((fl ++ [((⟨3, a, c, x', y, .slice ac l.length cc⟩ : Fr), l, j)]).map Prod.fst)) := by
                    rw [List.length_append, List.length_singleton, HN.out, List.map_append, List.map_singleton, frs_app]
                    exact hM
                  obtain ⟨g1, g2⟩ := RT.put hb hrN (by rw [List.length_append, List.length_singleton, HN.out]; omega) (fun p hp => by
                    rcases List.mem_append.1 hp with hp | hp
                    · obtain ⟨q1, q2, q3, q4, q5⟩ := HL.out p hp
                      exact ⟨q1, q2, q3, q4, q5.frame st (by simpa using q3)⟩
                    · rw [List.mem_singleton] at hp
                      subst hp
                      exact ⟨HLL.out, hj.1, hj.2.1, hj.2.2, hrowC⟩)
                  first | exact ⟨oM, _, rfl, g1, (st.weaken (by simp)).trans (g2.weaken (by simp))⟩ | exact ⟨rfl, oM, ⟨_, g1⟩, (st.weaken (by simp)).trans (g2.weaken (by simp))⟩ | exact ⟨rfl, oM, _, g1, (st.weaken (by simp)).trans (g2.weaken (by simp))⟩
                exact AllReadyH.nil
              exact AllReadyH.nil
            exact AllReadyH.nil
          exact AllReadyH.nil
        exact AllReadyH.nil
      refine AllReadyH.cons (o := ?_) ?_ ?_ ?_; rotate_left 1
      · (simp only [List.getElem?_toArray, List.getElem?_cons_succ, List.getElem?_cons_zero]; rfl)
      · intro K' hK
        have hcb := hb.cell0
        go_simp
        clear hcb
        refine hK.out _ _ ?_ (fun hHeld => ?_)
        · exact hz.facts6.1
        clear hK K'
        try simp only [Act.put, List.setIfInBounds_toArray, List.set_cons_zero, List.set_cons_succ]
        refine wpAnyH_take (i := 10) (oi := ?_) (v := ?_) ?_ (by kernel_rfl) (by kernel_rfl) (by kernel_rfl) ?_ (Or.inl ⟨?_, ?_⟩) ?_ ?_; rotate_left 2
        · (simp only [List.getElem?_toArray, List.getElem?_cons_succ, List.getElem?_cons_zero]; rfl)
        · exact fun _ _ _ h => h
        · rfl
        · (intro w hSw; (try dsimp only at hSw); obtain ⟨s0, s1, s2, s3, s4, s5⟩ := hSw; first | (go_simp; done) | (go_simp; with_reducible rfl))
        · assumption
        try simp only [Act.put, List.setIfInBounds_toArray, List.set_cons_zero, List.set_cons_succ]
        refine wpAnyH_take (i := 11) (oi := ?_) (v := ?_) ?_ (by kernel_rfl) (by kernel_rfl) (by kernel_rfl) ?_ (Or.inl ⟨?_, ?_⟩) ?_ ?_; rotate_left 2
        · (simp only [List.getElem?_toArray, List.getElem?_cons_succ, List.getElem?_cons_zero]; rfl)
        · exact fun _ _ _ h => h
        · rfl
        · (intro w hSw; (try dsimp only at hSw); obtain ⟨s0, s1, s2, s3, s4, s5⟩ := hSw; first | (go_simp; done) | (go_simp; with_reducible rfl))
        · assumption
        try simp only [Act.put, List.setIfInBounds_toArray, List.set_cons_zero, List.set_cons_succ]
        refine wpAnyH_take (i := 12) (oi := ?_) (v := ?_) ?_ (by kernel_rfl) (by kernel_rfl) (by kernel_rfl) ?_ (Or.inl ⟨?_, ?_⟩) ?_ ?_; rotate_left 2
        · (simp only [List.getElem?_toArray, List.getElem?_cons_succ, List.getElem?_cons_zero]; rfl)
        · exact fun _ _ _ h => h
        · rfl
        · (intro w hSw; (try dsimp only at hSw); obtain ⟨s0, s1, s2, s3, s4, s5⟩ := hSw; first | (go_simp; done) | (go_simp; with_reducible rfl))
        · assumption
        try simp only [Act.put, List.setIfInBounds_toArray, List.set_cons_zero, List.set_cons_succ]
        refine wpAnyH_ready (rs := [1, 15]) (by kernel_rfl) (by simp) ?_
        refine AllReadyH.cons (o := ?_) ?_ ?_ ?_; rotate_left 1
        · (simp only [List.getElem?_toArray, List.getElem?_cons_succ, List.getElem?_cons_zero]; rfl)
        · intro K' hK
          go_simp
          replace hb := hb.frame ((Step.refl [] _ _).alloc (.cells #[] 30)) (by simp)
          replace hz := hz.frame ((Step.refl [] _ _).alloc (.cells #[] 30)) (by simp)
          replace hrowC := hrowC.frame ((Step.refl [] _ _).alloc (.cells #[] 30)) (by simp)
          replace hpre := hpre.frame ((Step.refl [] _ _).alloc (.cells #[] 30)) (by simp)
          replace st := st.trans ((Step.refl [] _ _).alloc (.cells #[] 30))
          refine hK.out _ _ ?_ (fun hHeld => ?_)
          · exact hz.facts6.1
          clear hK K'
          try simp only [Act.put, List.setIfInBounds_toArray, List.set_cons_zero, List.set_cons_succ]
          refine wpAnyH_ready (rs := [13, 15]) (by kernel_rfl) (by simp) ?_
          refine AllReadyH.cons (o := ?_) ?_ ?_ ?_; rotate_left 1
          · (simp only [List.getElem?_toArray, List.getElem?_cons_succ, List.getElem?_cons_zero]; rfl)
          · intro K' hK
            refine step_app0 (.tmp 72) (.tmp 83) 38 rfl o3 (i + 1) Try.underlying38 info30 rfl (by rfl) (by rfl) (by rfl) hpre (by omega) (by omega) ?_
            intro vN wN oN hN sN
            obtain ⟨aN, cN, rfl, -, -⟩ := hN.slice
            replace hb := hb.frame sN (by simp)
            replace hz := hz.frame sN (by simp)
            replace hrowC := hrowC.frame sN (by simp)
            replace hpre := hpre.frame sN (by simp)
            replace st := st.trans sN
            refine hK.out _ _ ?_ (fun hHeld => ?_)
            · exact hz.facts6.1
            clear hK K'
            try simp only [Act.put, List.setIfInBounds_toArray, List.set_cons_zero, List.set_cons_succ]
            refine wpAnyH_ready (rs := [15]) (by kernel_rfl) (by simp) ?_
            refine AllReadyH.cons (o := ?_) ?_ ?_ ?_; rotate_left 1
            · (simp only [List.getElem?_toArray, List.getElem?_cons_succ, List.getElem?_cons_zero]; rfl)
            · intro K' hK
              go_simp
              obtain ⟨jX, hX⟩ := hb.freshR 3 a c x' y (.slice ac l.length cc)
              replace hb := hb.frame ((Step.refl [] _ _).alloc (.cells #[.int .i64 3, .int .i64 a, .int .i64 c, .int .i64 x', .int .i64 y, .slice ac l.length cc] 30)) (by simp)
              replace hz := hz.frame ((Step.refl [] _ _).alloc (.cells #[.int .i64 3, .int .i64 a, .int .i64 c, .int .i64 x', .int .i64 y, .slice ac l.length cc] 30)) (by simp)
              replace hrowC := hrowC.frame ((Step.refl [] _ _).alloc (.cells #[.int .i64 3, .int .i64 a, .int .i64 c, .int .i64 x', .int .i64 y, .slice ac l.length cc] 30)) (by simp)
              replace hpre := hpre.frame ((Step.refl [] _ _).alloc (.cells #[.int .i64 3, .int .i64 a, .int .i64 c, .int .i64 x', .int .i64 y, .slice ac l.length cc] 30)) (by simp)
              replace hN := hN.frame ((Step.refl [] _ _).alloc (.cells #[.int .i64 3, .int .i64 a, .int .i64 c, .int .i64 x', .int .i64 y, .slice ac l.length cc] 30)) (by simp)
              replace st := st.trans ((Step.refl [] _ _).alloc (.cells #[.int .i64 3, .int .i64 a, .int .i64 c, .int .i64 x', .int .i64 y, .slice ac l.length cc] 30))
              refine hK.out _ _ ?_ (fun hHeld => ?_)
              · exact hz.facts6.1
              clear hK K'
              try simp only [Act.put, List.setIfInBounds_toArray, List.set_cons_zero, List.set_cons_succ]
              refine wpAnyH_ready (rs := [16]) (by kernel_rfl) (by simp) ?_
              refine AllReadyH.cons (o := ?_) ?_ ?_ ?_; rotate_left 1
              · (simp only [List.getElem?_toArray, List.getElem?_cons_succ, List.getElem?_cons_zero]; rfl)
              · intro K' hK
                refine step_app (.tmp 84) (.tmp 86) 38 rfl Try.underlying38 info30 rfl (by rfl) (by rfl) hN (by first | rfl | simp [Act.eval, Act.put]) hX (by simp [Value.oneCell']) (by omega) (by omega) ?_
                intro vM wM oM hM sM
                obtain ⟨aM, cM, rfl, -, -⟩ := hM.slice
                replace hb := hb.frame sM (by simp)
                replace hz := hz.frame sM (by simpa using hi.2.symm)
                replace hrowC := hrowC.frame sM (by simpa using hj.2.1)
                replace st := st.nil.trans sM
                refine hK.out _ _ ?_ (fun hHeld => ?_)
                · exact hz.facts6.1
                clear hK K'
                try simp only [Act.put, List.setIfInBounds_toArray, List.set_cons_zero, List.set_cons_succ]
                refine wpAnyH_take (i := 17) (oi := ?_) (v := ?_) ?_ (by kernel_rfl) (by kernel_rfl) (by kernel_rfl) ?_ (Or.inl ⟨?_, ?_⟩) ?_ ?_; rotate_left 2
                · (simp only [List.getElem?_toArray, List.getElem?_cons_succ, List.getElem?_cons_zero]; rfl)
                · exact fun _ _ _ h => h
                · rfl
                · (intro w hSw; (try dsimp only at hSw); obtain ⟨s0, s1, s2, s3, s4, s5⟩ := hSw; first | (go_simp; done) | (go_simp; with_reducible rfl))
                · assumption
                try simp only [Act.put, List.setIfInBounds_toArray, List.set_cons_zero, List.set_cons_succ]
                refine wpAnyH_take (i := 18) (oi := ?_) (v := ?_) ?_ (by kernel_rfl) (by kernel_rfl) (by kernel_rfl) ?_ (Or.inl ⟨?_, ?_⟩) ?_ ?_; rotate_left 2
                · (simp only [List.getElem?_toArray, List.getElem?_cons_succ, List.getElem?_cons_zero]; rfl)
                · exact fun _ _ _ h => h
                · rfl
                · (intro w hSw; (try dsimp only at hSw); obtain ⟨s0, s1, s2, s3, s4, s5⟩ := hSw; first | (go_simp; done) | (go_simp; with_reducible rfl))
                · assumption
                try simp only [Act.put, List.setIfInBounds_toArray, List.set_cons_zero, List.set_cons_succ]
                refine wpAnyH_ready (rs := [19]) (by kernel_rfl) (by simp) ?_
                refine AllReadyH.cons (o := ?_) ?_ ?_ ?_; rotate_left 1
                · (simp only [List.getElem?_toArray, List.getElem?_cons_succ, List.getElem?_cons_zero]; rfl)
                · intro K' hK
                  have hcb := hb.cell0
                  have hfb := hb.frozen 0
                  go_simp
                  refine hK.out _ _ ?_ (fun hHeld => ?_)
                  · exact (hz.setOther (g := b) (fun e => by have h1 := hz.own; have h2 := hb.own; rw [e, h2] at h1; exact hi.1 h1) 0 _).facts6.1
                  clear hK K'
                  try simp only [Act.put, List.setIfInBounds_toArray, List.set_cons_zero, List.set_cons_succ]
                  refine wpAnyH_done (by kernel_rfl) ?_ _
                  go_wp2_with fail
                  go_ret2
                  have hrN : Row wM oM (i + 1) 30 6 (.slice aM (n + 1) cM) (fl ++ [((⟨3, a, c, x', y, .slice ac l.length cc⟩ : Fr), l, j)]).length (frs ((fl ++ [((⟨3, a, c, x', y, .slice ac l.length cc⟩ : Fr), l, j)]).map Prod.fst)) := by
                    rw [List.length_append, List.length_singleton, HN.out, List.map_append, List.map_singleton, frs_app]
                    exact hM
                  obtain ⟨g1, g2⟩ := RT.put hb hrN (by rw [List.length_append, List.length_singleton, HN.out]; omega) (fun p hp => by
                    rcases List.mem_append.1 hp with hp | hp
                    · obtain ⟨q1, q2, q3, q4, q5⟩ := HL.out p hp
                      exact ⟨q1, q2, q3, q4, q5.frame st (by simpa using q3)⟩
                    · rw [List.mem_singleton] at hp
                      subst hp
                      exact ⟨HLL.out, hj.1, hj.2.1, hj.2.2, hrowC⟩)
                  first | exact ⟨oM, _, rfl, g1, (st.weaken (by simp)).trans (g2.weaken (by simp))⟩ | exact ⟨rfl, oM, ⟨_, g1⟩, (st.weaken (by simp)).trans (g2.weaken (by simp))⟩ | exact ⟨rfl, oM, _, g1, (st.weaken (by simp)).trans (g2.weaken (by simp))⟩
                exact AllReadyH.nil
              exact AllReadyH.nil
            exact AllReadyH.nil
          refine AllReadyH.cons (o := ?_) ?_ ?_ ?_; rotate_left 1
          · (simp only [List.getElem?_toArray, List.getElem?_cons_succ, List.getElem?_cons_zero]; rfl)
          · intro K' hK
            go_simp
            obtain ⟨jX, hX⟩ := hb.freshR 3 a c x' y (.slice ac l.length cc)
            replace hb := hb.frame ((Step.refl [] _ _).alloc (.cells #[.int .i64 3, .int .i64 a, .int .i64 c, .int .i64 x', .int .i64 y, .slice ac l.length cc] 30)) (by simp)
            replace hz := hz.frame ((Step.refl [] _ _).alloc (.cells #[.int .i64 3, .int .i64 a, .int .i64 c, .int .i64 x', .int .i64 y, .slice ac l.length cc] 30)) (by simp)
            replace hrowC := hrowC.frame ((Step.refl [] _ _).alloc (.cells #[.int .i64 3, .int .i64 a, .int .i64 c, .int .i64 x', .int .i64 y, .slice ac l.length cc] 30)) (by simp)
            replace hpre := hpre.frame ((Step.refl [] _ _).alloc (.cells #[.int .i64 3, .int .i64 a, .int .i64 c, .int .i64 x', .int .i64 y, .slice ac l.length cc] 30)) (by simp)
            replace st := st.trans ((Step.refl [] _ _).alloc (.cells #[.int .i64 3, .int .i64 a, .int .i64 c, .int .i64 x', .int .i64 y, .slice ac l.length cc] 30))
            refine hK.out _ _ ?_ (fun hHeld => ?_)
            · exact hz.facts6.1
            clear hK K'
            try simp only [Act.put, List.setIfInBounds_toArray, List.set_cons_zero, List.set_cons_succ]
            refine wpAnyH_ready (rs := [13]) (by kernel_rfl) (by simp) ?_
            refine AllReadyH.cons (o := ?_) ?_ ?_ ?_; rotate_left 1
            · (simp only [List.getElem?_toArray, List.getElem?_cons_succ, List.getElem?_cons_zero]; rfl)
            · intro K' hK
              refine step_app0 (.tmp 72) (.tmp 83) 38 rfl o3 (i + 1) Try.underlying38 info30 rfl (by rfl) (by rfl) (by rfl) hpre (by omega) (by omega) ?_
              intro vN wN oN hN sN
              obtain ⟨aN, cN, rfl, -, -⟩ := hN.slice
              replace hb := hb.frame sN (by simp)
              replace hz := hz.frame sN (by simp)
              replace hrowC := hrowC.frame sN (by simp)
              replace hpre := hpre.frame sN (by simp)
              replace hX := hX.frame sN (by simp)
              replace st := st.trans sN
              refine hK.out _ _ ?_ (fun hHeld => ?_)
              · exact hz.facts6.1
              clear hK K'
              try simp only [Act.put, List.setIfInBounds_toArray, List.set_cons_zero, List.set_cons_succ]
              refine wpAnyH_ready (rs := [16]) (by kernel_rfl) (by simp) ?_
              refine AllReadyH.cons (o := ?_) ?_ ?_ ?_; rotate_left 1
              · (simp only [List.getElem?_toArray, List.getElem?_cons_succ, List.getElem?_cons_zero]; rfl)
              · intro K' hK
                refine step_app (.tmp 84) (.tmp 86) 38 rfl Try.underlying38 info30 rfl (by rfl) (by rfl) hN (by first | rfl | simp [Act.eval, Act.put]) hX (by simp [Value.oneCell']) (by omega) (by omega) ?_
                intro vM wM oM hM sM
                obtain ⟨aM, cM, rfl, -, -⟩ := hM.slice
                replace hb := hb.frame sM (by simp)
                replace hz := hz.frame sM (by simpa using hi.2.symm)
                replace hrowC := hrowC.frame sM (by simpa using hj.2.1)
                replace st := st.nil.trans sM
                refine hK.out _ _ ?_ (fun hHeld => ?_)
                · exact hz.facts6.1
                clear hK K'
                try simp only [Act.put, List.setIfInBounds_toArray, List.set_cons_zero, List.set_cons_succ]
                refine wpAnyH_take (i := 17) (oi := ?_) (v := ?_) ?_ (by kernel_rfl) (by kernel_rfl) (by kernel_rfl) ?_ (Or.inl ⟨?_, ?_⟩) ?_ ?_; rotate_left 2
                · (simp only [List.getElem?_toArray, List.getElem?_cons_succ, List.getElem?_cons_zero]; rfl)
                · exact fun _ _ _ h => h
                · rfl
                · (intro w hSw; (try dsimp only at hSw); obtain ⟨s0, s1, s2, s3, s4, s5⟩ := hSw; first | (go_simp; done) | (go_simp; with_reducible rfl))
                · assumption
                try simp only [Act.put, List.setIfInBounds_toArray, List.set_cons_zero, List.set_cons_succ]
                refine wpAnyH_take (i := 18) (oi := ?_) (v := ?_) ?_ (by kernel_rfl) (by kernel_rfl) (by kernel_rfl) ?_ (Or.inl ⟨?_, ?_⟩) ?_ ?_; rotate_left 2
                · (simp only [List.getElem?_toArray, List.getElem?_cons_succ, List.getElem?_cons_zero]; rfl)
                · exact fun _ _ _ h => h
                · rfl
                · (intro w hSw; (try dsimp only at hSw); obtain ⟨s0, s1, s2, s3, s4, s5⟩ := hSw; first | (go_simp; done) | (go_simp; with_reducible rfl))
                · assumption
                try simp only [Act.put, List.setIfInBounds_toArray, List.set_cons_zero, List.set_cons_succ]
                refine wpAnyH_ready (rs := [19]) (by kernel_rfl) (by simp) ?_
                refine AllReadyH.cons (o := ?_) ?_ ?_ ?_; rotate_left 1
                · (simp only [List.getElem?_toArray, List.getElem?_cons_succ, List.getElem?_cons_zero]; rfl)
                · intro K' hK
                  have hcb := hb.cell0
                  have hfb := hb.frozen 0
                  go_simp
                  refine hK.out _ _ ?_ (fun hHeld => ?_)
                  · exact (hz.setOther (g := b) (fun e => by have h1 := hz.own; have h2 := hb.own; rw [e, h2] at h1; exact hi.1 h1) 0 _).facts6.1
                  clear hK K'
                  try simp only [Act.put, List.setIfInBounds_toArray, List.set_cons_zero, List.set_cons_succ]
                  refine wpAnyH_done (by kernel_rfl) ?_ _
                  go_wp2_with fail
                  go_ret2
                  have hrN : Row wM oM (i + 1) 30 6 (.slice aM (n + 1) cM) (fl ++ [((⟨3, a, c, x', y, .slice ac l.length cc⟩ : Fr), l, j)]).length (frs ((fl ++ [((⟨3, a, c, x', y, .slice ac l.length cc⟩ : Fr), l, j)]).map Prod.fst)) := by
                    rw [List.length_append, List.length_singleton, HN.out, List.map_append, List.map_singleton, frs_app]
                    exact hM
                  obtain ⟨g1, g2⟩ := RT.put hb hrN (by rw [List.length_append, List.length_singleton, HN.out]; omega) (fun p hp => by
                    rcases List.mem_append.1 hp with hp | hp
                    · obtain ⟨q1, q2, q3, q4, q5⟩ := HL.out p hp
                      exact ⟨q1, q2, q3, q4, q5.frame st (by simpa using q3)⟩
                    · rw [List.mem_singleton] at hp
                      subst hp
                      exact ⟨HLL.out, hj.1, hj.2.1, hj.2.2, hrowC⟩)
                  first | exact ⟨oM, _, rfl, g1, (st.weaken (by simp)).trans (g2.weaken (by simp))⟩ | exact ⟨rfl, oM, ⟨_, g1⟩, (st.weaken (by simp)).trans (g2.weaken (by simp))⟩ | exact ⟨rfl, oM, _, g1, (st.weaken (by simp)).trans (g2.weaken (by simp))⟩
                exact AllReadyH.nil
              exact AllReadyH.nil
            exact AllReadyH.nil
          exact AllReadyH.nil
        refine AllReadyH.cons (o := ?_) ?_ ?_ ?_; rotate_left 1
        · (simp only [List.getElem?_toArray, List.getElem?_cons_succ, List.getElem?_cons_zero]; rfl)
        · intro K' hK
          go_simp
          obtain ⟨jX, hX⟩ := hb.freshR 3 a c x' y (.slice ac l.length cc)
          replace hb := hb.frame ((Step.refl [] _ _).alloc (.cells #[.int .i64 3, .int .i64 a, .int .i64 c, .int .i64 x', .int .i64 y, .slice ac l.length cc] 30)) (by simp)
          replace hz := hz.frame ((Step.refl [] _ _).alloc (.cells #[.int .i64 3, .int .i64 a, .int .i64 c, .int .i64 x', .int .i64 y, .slice ac l.length cc] 30)) (by simp)
          replace hrowC := hrowC.frame ((Step.refl [] _ _).alloc (.cells #[.int .i64 3, .int .i64 a, .int .i64 c, .int .i64 x', .int .i64 y, .slice ac l.length cc] 30)) (by simp)
          replace hpre := hpre.frame ((Step.refl [] _ _).alloc (.cells #[.int .i64 3, .int .i64 a, .int .i64 c, .int .i64 x', .int .i64 y, .slice ac l.length cc] 30)) (by simp)
          replace st := st.trans ((Step.refl [] _ _).alloc (.cells #[.int .i64 3, .int .i64 a, .int .i64 c, .int .i64 x', .int .i64 y, .slice ac l.length cc] 30))
          refine hK.out _ _ ?_ (fun hHeld => ?_)
          · exact hz.facts6.1
          clear hK K'
          try simp only [Act.put, List.setIfInBounds_toArray, List.set_cons_zero, List.set_cons_succ]
          refine wpAnyH_ready (rs := [1]) (by kernel_rfl) (by simp) ?_
          refine AllReadyH.cons (o := ?_) ?_ ?_ ?_; rotate_left 1
          · (simp only [List.getElem?_toArray, List.getElem?_cons_succ, List.getElem?_cons_zero]; rfl)
          · intro K' hK
            go_simp
            replace hb := hb.frame ((Step.refl [] _ _).alloc (.cells #[] 30)) (by simp)
            replace hz := hz.frame ((Step.refl [] _ _).alloc (.cells #[] 30)) (by simp)
            replace hrowC := hrowC.frame ((Step.refl [] _ _).alloc (.cells #[] 30)) (by simp)
            replace hpre := hpre.frame ((Step.refl [] _ _).alloc (.cells #[] 30)) (by simp)
            replace hX := hX.frame ((Step.refl [] _ _).alloc (.cells #[] 30)) (by simp)
            replace st := st.trans ((Step.refl [] _ _).alloc (.cells #[] 30))
            refine hK.out _ _ ?_ (fun hHeld => ?_)
            · exact hz.facts6.1
            clear hK K'
            try simp only [Act.put, List.setIfInBounds_toArray, List.set_cons_zero, List.set_cons_succ]
            refine wpAnyH_ready (rs := [13]) (by kernel_rfl) (by simp) ?_
            refine AllReadyH.cons (o := ?_) ?_ ?_ ?_; rotate_left 1
            · (simp only [List.getElem?_toArray, List.getElem?_cons_succ, List.getElem?_cons_zero]; rfl)
            · intro K' hK
              refine step_app0 (.tmp 72) (.tmp 83) 38 rfl o3 (i + 1) Try.underlying38 info30 rfl (by rfl) (by rfl) (by rfl) hpre (by omega) (by omega) ?_
              intro vN wN oN hN sN
              obtain ⟨aN, cN, rfl, -, -⟩ := hN.slice
              replace hb := hb.frame sN (by simp)
              replace hz := hz.frame sN (by simp)
              replace hrowC := hrowC.frame sN (by simp)
              replace hpre := hpre.frame sN (by simp)
              replace hX := hX.frame sN (by simp)
              replace st := st.trans sN
              refine hK.out _ _ ?_ (fun hHeld => ?_)
              · exact hz.facts6.1
              clear hK K'
              try simp only [Act.put, List.setIfInBounds_toArray, List.set_cons_zero, List.set_cons_succ]
              refine wpAnyH_ready (rs := [16]) (by kernel_rfl) (by simp) ?_
              refine AllReadyH.cons (o := ?_) ?_ ?_ ?_; rotate_left 1
              · (simp only [List.getElem?_toArray, List.getElem?_cons_succ, List.getElem?_cons_zero]; rfl)
              · intro K' hK
                refine step_app (.tmp 84) (.tmp 86) 38 rfl Try.underlying38 info30 rfl (by rfl) (by rfl) hN (by first | rfl | simp [Act.eval, Act.put]) hX (by simp [Value.oneCell']) (by omega) (by omega) ?_
                intro vM wM oM hM sM
                obtain ⟨aM, cM, rfl, -, -⟩ := hM.slice
                replace hb := hb.frame sM (by simp)
                replace hz := hz.frame sM (by simpa using hi.2.symm)
                replace hrowC := hrowC.frame sM (by simpa using hj.2.1)
                replace st := st.nil.trans sM
                refine hK.out _ _ ?_ (fun hHeld => ?_)
                · exact hz.facts6.1
                clear hK K'
                try simp only [Act.put, List.setIfInBounds_toArray, List.set_cons_zero, List.set_cons_succ]
                refine wpAnyH_take (i := 17) (oi := ?_) (v := ?_) ?_ (by kernel_rfl) (by kernel_rfl) (by kernel_rfl) ?_ (Or.inl ⟨?_, ?_⟩) ?_ ?_; rotate_left 2
                · (simp only [List.getElem?_toArray, List.getElem?_cons_succ, List.getElem?_cons_zero]; rfl)
                · exact fun _ _ _ h => h
                · rfl
                · (intro w hSw; (try dsimp only at hSw); obtain ⟨s0, s1, s2, s3, s4, s5⟩ := hSw; first | (go_simp; done) | (go_simp; with_reducible rfl))
                · assumption
                try simp only [Act.put, List.setIfInBounds_toArray, List.set_cons_zero, List.set_cons_succ]
                refine wpAnyH_take (i := 18) (oi := ?_) (v := ?_) ?_ (by kernel_rfl) (by kernel_rfl) (by kernel_rfl) ?_ (Or.inl ⟨?_, ?_⟩) ?_ ?_; rotate_left 2
                · (simp only [List.getElem?_toArray, List.getElem?_cons_succ, List.getElem?_cons_zero]; rfl)
                · exact fun _ _ _ h => h
                · rfl
                · (intro w hSw; (try dsimp only at hSw); obtain ⟨s0, s1, s2, s3, s4, s5⟩ := hSw; first | (go_simp; done) | (go_simp; with_reducible rfl))
                · assumption
                try simp only [Act.put, List.setIfInBounds_toArray, List.set_cons_zero, List.set_cons_succ]
                refine wpAnyH_ready (rs := [19]) (by kernel_rfl) (by simp) ?_
                refine AllReadyH.cons (o := ?_) ?_ ?_ ?_; rotate_left 1
                · (simp only [List.getElem?_toArray, List.getElem?_cons_succ, List.getElem?_cons_zero]; rfl)
                · intro K' hK
                  have hcb := hb.cell0
                  have hfb := hb.frozen 0
                  go_simp
                  refine hK.out _ _ ?_ (fun hHeld => ?_)
                  · exact (hz.setOther (g := b) (fun e => by have h1 := hz.own; have h2 := hb.own; rw [e, h2] at h1; exact hi.1 h1) 0 _).facts6.1
                  clear hK K'
                  try simp only [Act.put, List.setIfInBounds_toArray, List.set_cons_zero, List.set_cons_succ]
                  refine wpAnyH_done (by kernel_rfl) ?_ _
                  go_wp2_with fail
                  go_ret2
                  have hrN : Row wM oM (i + 1) 30 6 (.slice aM (n + 1) cM) (fl ++ [((⟨3, a, c, x', y, .slice ac l.length cc⟩ : Fr), l, j)]).length (frs ((fl ++ [((⟨3, a, c, x', y, .slice ac l.length cc⟩ : Fr), l, j)]).map Prod.fst)) := by
                    rw [List.length_append, List.length_singleton, HN.out, List.map_append, List.map_singleton, frs_app]
                    exact hM
                  obtain ⟨g1, g2⟩ := RT.put hb hrN (by rw [List.length_append, List.length_singleton, HN.out]; omega) (fun p hp => by
                    rcases List.mem_append.1 hp with hp | hp
                    · obtain ⟨q1, q2, q3, q4, q5⟩ := HL.out p hp
                      exact ⟨q1, q2, q3, q4, q5.frame st (by simpa using q3)⟩
                    · rw [List.mem_singleton] at hp
                      subst hp
                      exact ⟨HLL.out, hj.1, hj.2.1, hj.2.2, hrowC⟩)
                  first | exact ⟨oM, _, rfl, g1, (st.weaken (by simp)).trans (g2.weaken (by simp))⟩ | exact ⟨rfl, oM, ⟨_, g1⟩, (st.weaken (by simp)).trans (g2.weaken (by simp))⟩ | exact ⟨rfl, oM, _, g1, (st.weaken (by simp)).trans (g2.weaken (by simp))⟩
                exact AllReadyH.nil
              exact AllReadyH.nil
            exact AllReadyH.nil
          exact AllReadyH.nil
        exact AllReadyH.nil
      refine AllReadyH.cons (o := ?_) ?_ ?_ ?_; rotate_left 1
      · (simp only [List.getElem?_toArray, List.getElem?_cons_succ, List.getElem?_cons_zero]; rfl)
      · intro K' hK
        go_simp
        obtain ⟨jX, hX⟩ := hb.freshR 3 a c x' y (.slice ac l.length cc)
        replace hb := hb.frame ((Step.refl [] _ _).alloc (.cells #[.int .i64 3, .int .i64 a, .int .i64 c, .int .i64 x', .int .i64 y, .slice ac l.length cc] 30)) (by simp)
        replace hz := hz.frame ((Step.refl [] _ _).alloc (.cells #[.int .i64 3, .int .i64 a, .int .i64 c, .int .i64 x', .int .i64 y, .slice ac l.length cc] 30)) (by simp)
        replace hrowC := hrowC.frame ((Step.refl [] _ _).alloc (.cells #[.int .i64 3, .int .i64 a, .int .i64 c, .int .i64 x', .int .i64 y, .slice ac l.length cc] 30)) (by simp)
        replace hpre := hpre.frame ((Step.refl [] _ _).alloc (.cells #[.int .i64 3, .int .i64 a, .int .i64 c, .int .i64 x', .int .i64 y, .slice ac l.length cc] 30)) (by simp)
        replace st := st.trans ((Step.refl [] _ _).alloc (.cells #[.int .i64 3, .int .i64 a, .int .i64 c, .int .i64 x', .int .i64 y, .slice ac l.length cc] 30))
        refine hK.out _ _ ?_ (fun hHeld => ?_)
        · exact hz.facts6.1
        clear hK K'
        try simp only [Act.put, List.setIfInBounds_toArray, List.set_cons_zero, List.set_cons_succ]
        refine wpAnyH_ready (rs := [1, 9]) (by kernel_rfl) (by simp) ?_
        refine AllReadyH.cons (o := ?_) ?_ ?_ ?_; rotate_left 1
        · (simp only [List.getElem?_toArray, List.getElem?_cons_succ, List.getElem?_cons_zero]; rfl)
        · intro K' hK
          go_simp
          replace hb := hb.frame ((Step.refl [] _ _).alloc (.cells #[] 30)) (by simp)
          replace hz := hz.frame ((Step.refl [] _ _).alloc (.cells #[] 30)) (by simp)
          replace hrowC := hrowC.frame ((Step.refl [] _ _).alloc (.cells #[] 30)) (by simp)
          replace hpre := hpre.frame ((Step.refl [] _ _).alloc (.cells #[] 30)) (by simp)
          replace hX := hX.frame ((Step.refl [] _ _).alloc (.cells #[] 30)) (by simp)
          replace st := st.trans ((Step.refl [] _ _).alloc (.cells #[] 30))
          refine hK.out _ _ ?_ (fun hHeld => ?_)
          · exact hz.facts6.1
          clear hK K'
          try simp only [Act.put, List.setIfInBounds_toArray, List.set_cons_zero, List.set_cons_succ]
          refine wpAnyH_ready (rs := [9]) (by kernel_rfl) (by simp) ?_
          refine AllReadyH.cons (o := ?_) ?_ ?_ ?_; rotate_left 1
          · (simp only [List.getElem?_toArray, List.getElem?_cons_succ, List.getElem?_cons_zero]; rfl)
          · intro K' hK
            have hcb := hb.cell0
            go_simp
            clear hcb
            refine hK.out _ _ ?_ (fun hHeld => ?_)
            · exact hz.facts6.1
            clear hK K'
            try simp only [Act.put, List.setIfInBounds_toArray, List.set_cons_zero, List.set_cons_succ]
            refine wpAnyH_take (i := 10) (oi := ?_) (v := ?_) ?_ (by kernel_rfl) (by kernel_rfl) (by kernel_rfl) ?_ (Or.inl ⟨?_, ?_⟩) ?_ ?_; rotate_left 2
            · (simp only [List.getElem?_toArray, List.getElem?_cons_succ, List.getElem?_cons_zero]; rfl)
            · exact fun _ _ _ h => h
            · rfl
            · (intro w hSw; (try dsimp only at hSw); obtain ⟨s0, s1, s2, s3, s4, s5⟩ := hSw; first | (go_simp; done) | (go_simp; with_reducible rfl))
            · assumption
            try simp only [Act.put, List.setIfInBounds_toArray, List.set_cons_zero, List.set_cons_succ]
            refine wpAnyH_take (i := 11) (oi := ?_) (v := ?_) ?_ (by kernel_rfl) (by kernel_rfl) (by kernel_rfl) ?_ (Or.inl ⟨?_, ?_⟩) ?_ ?_; rotate_left 2
            · (simp only [List.getElem?_toArray, List.getElem?_cons_succ, List.getElem?_cons_zero]; rfl)
            · exact fun _ _ _ h => h
            · rfl
            · (intro w hSw; (try dsimp only at hSw); obtain ⟨s0, s1, s2, s3, s4, s5⟩ := hSw; first | (go_simp; done) | (go_simp; with_reducible rfl))
            · assumption
            try simp only [Act.put, List.setIfInBounds_toArray, List.set_cons_zero, List.set_cons_succ]
            refine wpAnyH_take (i := 12) (oi := ?_) (v := ?_) ?_ (by kernel_rfl) (by kernel_rfl) (by kernel_rfl) ?_ (Or.inl ⟨?_, ?_⟩) ?_ ?_; rotate_left 2
            · (simp only [List.getElem?_toArray, List.getElem?_cons_succ, List.getElem?_cons_zero]; rfl)
            · exact fun _ _ _ h => h
            · rfl
            · (intro w hSw; (try dsimp only at hSw); obtain ⟨s0, s1, s2, s3, s4, s5⟩ := hSw; first | (go_simp; done) | (go_simp; with_reducible rfl))
            · assumption
            try simp only [Act.put, List.setIfInBounds_toArray, List.set_cons_zero, List.set_cons_succ]
            refine wpAnyH_ready (rs := [13]) (by kernel_rfl) (by simp) ?_
            refine AllReadyH.cons (o := ?_) ?_ ?_ ?_; rotate_left 1
            · (simp only [List.getElem?_toArray, List.getElem?_cons_succ, List.getElem?_cons_zero]; rfl)
            · intro K' hK
              refine step_app0 (.tmp 72) (.tmp 83) 38 rfl o3 (i + 1) Try.underlying38 info30 rfl (by rfl) (by rfl) (by rfl) hpre (by omega) (by omega) ?_
              intro vN wN oN hN sN
              obtain ⟨aN, cN, rfl, -, -⟩ := hN.slice
              replace hb := hb.frame sN (by simp)
              replace hz := hz.frame sN (by simp)
              replace hrowC := hrowC.frame sN (by simp)
              replace hpre := hpre.frame sN (by simp)
              replace hX := hX.frame sN (by simp)
              replace st := st.trans sN
              refine hK.out _ _ ?_ (fun hHeld => ?_)
              · exact hz.facts6.1
              clear hK K'
              try simp only [Act.put, List.setIfInBounds_toArray, List.set_cons_zero, List.set_cons_succ]
              refine wpAnyH_ready (rs := [16]) (by kernel_rfl) (by simp) ?_
              refine AllReadyH.cons (o := ?_) ?_ ?_ ?_; rotate_left 1
              · (simp only [List.getElem?_toArray, List.getElem?_cons_succ, List.getElem?_cons_zero]; rfl)
              · intro K' hK
                refine step_app (.tmp 84) (.tmp 86) 38 rfl Try.underlying38 info30 rfl (by rfl) (by rfl) hN (by first | rfl | simp [Act.eval, Act.put]) hX (by simp [Value.oneCell']) (by omega) (by omega) ?_
                intro vM wM oM hM sM
                obtain ⟨aM, cM, rfl, -, -⟩ := hM.slice
                replace hb := hb.frame sM (by simp)
                replace hz := hz.frame sM (by simpa using hi.2.symm)
                replace hrowC := hrowC.frame sM (by simpa using hj.2.1)
                replace st := st.nil.trans sM
                refine hK.out _ _ ?_ (fun hHeld => ?_)
                · exact hz.facts6.1
                clear hK K'
                try simp only [Act.put, List.setIfInBounds_toArray, List.set_cons_zero, List.set_cons_succ]
                refine wpAnyH_take (i := 17) (oi := ?_) (v := ?_) ?_ (by kernel_rfl) (by kernel_rfl) (by kernel_rfl) ?_ (Or.inl ⟨?_, ?_⟩) ?_ ?_; rotate_left 2
                · (simp only [List.getElem?_toArray, List.getElem?_cons_succ, List.getElem?_cons_zero]; rfl)
                · exact fun _ _ _ h => h
                · rfl
                · (intro w hSw; (try dsimp only at hSw); obtain ⟨s0, s1, s2, s3, s4, s5⟩ := hSw; first | (go_simp; done) | (go_simp; with_reducible rfl))
                · assumption
                try simp only [Act.put, List.setIfInBounds_toArray, List.set_cons_zero, List.set_cons_succ]
                refine wpAnyH_take (i := 18) (oi := ?_) (v := ?_) ?_ (by kernel_rfl) (by kernel_rfl) (by kernel_rfl) ?_ (Or.inl ⟨?_, ?_⟩) ?_ ?_; rotate_left 2
                · (simp only [List.getElem?_toArray, List.getElem?_cons_succ, List.getElem?_cons_zero]; rfl)
                · exact fun _ _ _ h => h
                · rfl
                · (intro w hSw; (try dsimp only at hSw); obtain ⟨s0, s1, s2, s3, s4, s5⟩ := hSw; first | (go_simp; done) | (go_simp; with_reducible rfl))
                · assumption
                try simp only [Act.put, List.setIfInBounds_toArray, List.set_cons_zero, List.set_cons_succ]
                refine wpAnyH_ready (rs := [19]) (by kernel_rfl) (by simp) ?_
                refine AllReadyH.cons (o := ?_) ?_ ?_ ?_; rotate_left 1
                · (simp only [List.getElem?_toArray, List.getElem?_cons_succ, List.getElem?_cons_zero]; rfl)
                · intro K' hK
                  have hcb := hb.cell0
                  have hfb := hb.frozen 0
                  go_simp
                  refine hK.out _ _ ?_ (fun hHeld => ?_)
                  · exact (hz.setOther (g := b) (fun e => by have h1 := hz.own; have h2 := hb.own; rw [e, h2] at h1; exact hi.1 h1) 0 _).facts6.1
                  clear hK K'
                  try simp only [Act.put, List.setIfInBounds_toArray, List.set_cons_zero, List.set_cons_succ]
                  refine wpAnyH_done (by kernel_rfl) ?_ _
                  go_wp2_with fail
                  go_ret2
                  have hrN : Row wM oM (i + 1) 30 6 (.slice aM (n + 1) cM) (fl ++ [((⟨3, a, c, x', y, .slice ac l.length cc⟩ : Fr), l, j)]).length (frs ((fl ++ [((⟨3, a, c, x', y, .slice ac l.length cc⟩ : Fr), l, j)]).map Prod.fst)) := by
                    rw [List.length_append, List.length_singleton, HN.out, List.map_append, List.map_singleton, frs_app]
                    exact hM
                  obtain ⟨g1, g2⟩ := RT.put hb hrN (by rw [List.length_append, List.length_singleton, HN.out]; omega) (fun p hp => by
                    rcases List.mem_append.1 hp with hp | hp
                    · obtain ⟨q1, q2, q3, q4, q5⟩ := HL.out p hp
                      exact ⟨q1, q2, q3, q4, q5.frame st (by simpa using q3)⟩
                    · rw [List.mem_singleton] at hp
                      subst hp
                      exact ⟨HLL.out, hj.1, hj.2.1, hj.2.2, hrowC⟩)
                  first | exact ⟨oM, _, rfl, g1, (st.weaken (by simp)).trans (g2.weaken (by simp))⟩ | exact ⟨rfl, oM, ⟨_, g1⟩, (st.weaken (by simp)).trans (g2.weaken (by simp))⟩ | exact ⟨rfl, oM, _, g1, (st.weaken (by simp)).trans (g2.weaken (by simp))⟩
                exact AllReadyH.nil
              exact AllReadyH.nil
            exact AllReadyH.nil
          exact AllReadyH.nil
        refine AllReadyH.cons (o := ?_) ?_ ?_ ?_; rotate_left 1
        · (simp only [List.getElem?_toArray, List.getElem?_cons_succ, List.getElem?_cons_zero]; rfl)
        · intro K' hK
          have hcb := hb.cell0
          go_simp
          clear hcb
          refine hK.out _ _ ?_ (fun hHeld => ?_)
          · exact hz.facts6.1
          clear hK K'
          try simp only [Act.put, List.setIfInBounds_toArray, List.set_cons_zero, List.set_cons_succ]
          refine wpAnyH_take (i := 10) (oi := ?_) (v := ?_) ?_ (by kernel_rfl) (by kernel_rfl) (by kernel_rfl) ?_ (Or.inl ⟨?_, ?_⟩) ?_ ?_; rotate_left 2
          · (simp only [List.getElem?_toArray, List.getElem?_cons_succ, List.getElem?_cons_zero]; rfl)
          · exact fun _ _ _ h => h
          · rfl
          · (intro w hSw; (try dsimp only at hSw); obtain ⟨s0, s1, s2, s3, s4, s5⟩ := hSw; first | (go_simp; done) | (go_simp; with_reducible rfl))
          · assumption
          try simp only [Act.put, List.setIfInBounds_toArray, List.set_cons_zero, List.set_cons_succ]
          refine wpAnyH_take (i := 11) (oi := ?_) (v := ?_) ?_ (by kernel_rfl) (by kernel_rfl) (by kernel_rfl) ?_ (Or.inl ⟨?_, ?_⟩) ?_ ?_; rotate_left 2
          · (simp only [List.getElem?_toArray, List.getElem?_cons_succ, List.getElem?_cons_zero]; rfl)
          · exact fun _ _ _ h => h
          · rfl
          · (intro w hSw; (try dsimp only at hSw); obtain ⟨s0, s1, s2, s3, s4, s5⟩ := hSw; first | (go_simp; done) | (go_simp; with_reducible rfl))
          · assumption
          try simp only [Act.put, List.setIfInBounds_toArray, List.set_cons_zero, List.set_cons_succ]
          refine wpAnyH_take (i := 12) (oi := ?_) (v := ?_) ?_ (by kernel_rfl) (by kernel_rfl) (by kernel_rfl) ?_ (Or.inl ⟨?_, ?_⟩) ?_ ?_; rotate_left 2
          · (simp only [List.getElem?_toArray, List.getElem?_cons_succ, List.getElem?_cons_zero]; rfl)
          · exact fun _ _ _ h => h
          · rfl
          · (intro w hSw; (try dsimp only at hSw); obtain ⟨s0, s1, s2, s3, s4, s5⟩ := hSw; first | (go_simp; done) | (go_simp; with_reducible rfl))
          · assumption
          try simp only [Act.put, List.setIfInBounds_toArray, List.set_cons_zero, List.set_cons_succ]
          refine wpAnyH_ready (rs := [1]) (by kernel_rfl) (by simp) ?_
          refine AllReadyH.cons (o := ?_) ?_ ?_ ?_; rotate_left 1
          · (simp only [List.getElem?_toArray, List.getElem?_cons_succ, List.getElem?_cons_zero]; rfl)
          · intro K' hK
            go_simp
            replace hb := hb.frame ((Step.refl [] _ _).alloc (.cells #[] 30)) (by simp)
            replace hz := hz.frame ((Step.refl [] _ _).alloc (.cells #[] 30)) (by simp)
            replace hrowC := hrowC.frame ((Step.refl [] _ _).alloc (.cells #[] 30)) (by simp)
            replace hpre := hpre.frame ((Step.refl [] _ _).alloc (.cells #[] 30)) (by simp)
            replace hX := hX.frame ((Step.refl [] _ _).alloc (.cells #[] 30)) (by simp)
            replace st := st.trans ((Step.refl [] _ _).alloc (.cells #[] 30))
            refine hK.out _ _ ?_ (fun hHeld => ?_)
            · exact hz.facts6.1
            clear hK K'
            try simp only [Act.put, List.setIfInBounds_toArray, List.set_cons_zero, List.set_cons_succ]
            refine wpAnyH_ready (rs := [13]) (by kernel_rfl) (by simp) ?_
            refine AllReadyH.cons (o := ?_) ?_ ?_ ?_; rotate_left 1
            · (simp only [List.getElem?_toArray, List.getElem?_cons_succ, List.getElem?_cons_zero]; rfl)
            · intro K' hK
              refine step_app0 (.tmp 72) (.tmp 83) 38 rfl o3 (i + 1) Try.underlying38 info30 rfl (by rfl) (by rfl) (by rfl) hpre (by omega) (by omega) ?_
              intro vN wN oN hN sN
              obtain ⟨aN, cN, rfl, -, -⟩ := hN.slice
              replace hb := hb.frame sN (by simp)
              replace hz := hz.frame sN (by simp)
              replace hrowC := hrowC.frame sN (by simp)
              replace hpre := hpre.frame sN (by simp)
              replace hX := hX.frame sN (by simp)
              replace st := st.trans sN
              refine hK.out _ _ ?_ (fun hHeld => ?_)
              · exact hz.facts6.1
              clear hK K'
              try simp only [Act.put, List.setIfInBounds_toArray, List.set_cons_zero, List.set_cons_succ]
              refine wpAnyH_ready (rs := [16]) (by kernel_rfl) (by simp) ?_
              refine AllReadyH.cons (o := ?_) ?_ ?_ ?_; rotate_left 1
              · (simp only [List.getElem?_toArray, List.getElem?_cons_succ, List.getElem?_cons_zero]; rfl)
              · intro K' hK
                refine step_app (.tmp 84) (.tmp 86) 38 rfl Try.underlying38 info30 rfl (by rfl) (by rfl) hN (by first | rfl | simp [Act.eval, Act.put]) hX (by simp [Value.oneCell']) (by omega) (by omega) ?_
                intro vM wM oM hM sM
                obtain ⟨aM, cM, rfl, -, -⟩ := hM.slice
                replace hb := hb.frame sM (by simp)
                replace hz := hz.frame sM (by simpa using hi.2.symm)
                replace hrowC := hrowC.frame sM (by simpa using hj.2.1)
                replace st := st.nil.trans sM
                refine hK.out _ _ ?_ (fun hHeld => ?_)
                · exact hz.facts6.1
                clear hK K'
                try simp only [Act.put, List.setIfInBounds_toArray, List.set_cons_zero, List.set_cons_succ]
                refine wpAnyH_take (i := 17) (oi := ?_) (v := ?_) ?_ (by kernel_rfl) (by kernel_rfl) (by kernel_rfl) ?_ (Or.inl ⟨?_, ?_⟩) ?_ ?_; rotate_left 2
                · (simp only [List.getElem?_toArray, List.getElem?_cons_succ, List.getElem?_cons_zero]; rfl)
                · exact fun _ _ _ h => h
                · rfl
                · (intro w hSw; (try dsimp only at hSw); obtain ⟨s0, s1, s2, s3, s4, s5⟩ := hSw; first | (go_simp; done) | (go_simp; with_reducible rfl))
                · assumption
                try simp only [Act.put, List.setIfInBounds_toArray, List.set_cons_zero, List.set_cons_succ]
                refine wpAnyH_take (i := 18) (oi := ?_) (v := ?_) ?_ (by kernel_rfl) (by kernel_rfl) (by kernel_rfl) ?_ (Or.inl ⟨?_, ?_⟩) ?_ ?_; rotate_left 2
                · (simp only [List.getElem?_toArray, List.getElem?_cons_succ, List.getElem?_cons_zero]; rfl)
                · exact fun _ _ _ h => h
                · rfl
                · (intro w hSw; (try dsimp only at hSw); obtain ⟨s0, s1, s2, s3, s4, s5⟩ := hSw; first | (go_simp; done) | (go_simp; with_reducible rfl))
                · assumption
                try simp only [Act.put, List.setIfInBounds_toArray, List.set_cons_zero, List.set_cons_succ]
                refine wpAnyH_ready (rs := [19]) (by kernel_rfl) (by simp) ?_
                refine AllReadyH.cons (o := ?_) ?_ ?_ ?_; rotate_left 1
                · (simp only [List.getElem?_toArray, List.getElem?_cons_succ, List.getElem?_cons_zero]; rfl)
                · intro K' hK
                  have hcb := hb.cell0
                  have hfb := hb.frozen 0
                  go_simp
                  refine hK.out _ _ ?_ (fun hHeld => ?_)
                  · exact (hz.setOther (g := b) (fun e => by have h1 := hz.own; have h2 := hb.own; rw [e, h2] at h1; exact hi.1 h1) 0 _).facts6.1
                  clear hK K'
                  try simp only [Act.put, List.setIfInBounds_toArray, List.set_cons_zero, List.set_cons_succ]
                  refine wpAnyH_done (by kernel_rfl) ?_ _
                  go_wp2_with fail
                  go_ret2
                  have hrN : Row wM oM (i + 1) 30 6 (.slice aM (n + 1) cM) (fl ++ [((⟨3, a, c, x', y, .slice ac l.length cc⟩ : Fr), l, j)]).length (frs ((fl ++ [((⟨3, a, c, x', y, .slice ac l.length cc⟩ : Fr), l, j)]).map Prod.fst)) := by
                    rw [List.length_append, List.length_singleton, HN.out, List.map_append, List.map_singleton, frs_app]
                    exact hM
                  obtain ⟨g1, g2⟩ := RT.put hb hrN (by rw [List.length_append, List.length_singleton, HN.out]; omega) (fun p hp => by
                    rcases List.mem_append.1 hp with hp | hp
                    · obtain ⟨q1, q2, q3, q4, q5⟩ := HL.out p hp
                      exact ⟨q1, q2, q3, q4, q5.frame st (by simpa using q3)⟩
                    · rw [List.mem_singleton] at hp
                      subst hp
                      exact ⟨HLL.out, hj.1, hj.2.1, hj.2.2, hrowC⟩)
                  first | exact ⟨oM, _, rfl, g1, (st.weaken (by simp)).trans (g2.weaken (by simp))⟩ | exact ⟨rfl, oM, ⟨_, g1⟩, (st.weaken (by simp)).trans (g2.weaken (by simp))⟩ | exact ⟨rfl, oM, _, g1, (st.weaken (by simp)).trans (g2.weaken (by simp))⟩
                exact AllReadyH.nil
              exact AllReadyH.nil
            exact AllReadyH.nil
          exact AllReadyH.nil
        exact AllReadyH.nil
      exact AllReadyH.nil
    refine AllReadyH.cons (o := ?_) ?_ ?_ ?_; rotate_left 1
    · (simp only [List.getElem?_toArray, List.getElem?_cons_succ, List.getElem?_cons_zero]; rfl)
    · intro K' hK
      have hcb := hb.cell0
      go_simp
      clear hcb
      refine hK.out _ _ ?_ (fun hHeld => ?_)
      · exact hz.facts6.1
      clear hK K'
      try simp only [Act.put, List.setIfInBounds_toArray, List.set_cons_zero, List.set_cons_succ]
      refine wpAnyH_take (i := 10) (oi := ?_) (v := ?_) ?_ (by kernel_rfl) (by kernel_rfl) (by kernel_rfl) ?_ (Or.inl ⟨?_, ?_⟩) ?_ ?_; rotate_left 2
      · (simp only [List.getElem?_toArray, List.getElem?_cons_succ, List.getElem?_cons_zero]; rfl)
      · exact fun _ _ _ h => h
      · rfl
      · (intro w hSw; (try dsimp only at hSw); obtain ⟨s0, s1, s2, s3, s4, s5⟩ := hSw; first | (go_simp; done) | (go_simp; with_reducible rfl))
      · assumption
      try simp only [Act.put, List.setIfInBounds_toArray, List.set_cons_zero, List.set_cons_succ]
      refine wpAnyH_take (i := 11) (oi := ?_) (v := ?_) ?_ (by kernel_rfl) (by kernel_rfl) (by kernel_rfl) ?_ (Or.inl ⟨?_, ?_⟩) ?_ ?_; rotate_left 2
      · (simp only [List.getElem?_toArray, List.getElem?_cons_succ, List.getElem?_cons_zero]; rfl)
      · exact fun _ _ _ h => h
      · rfl
      · (intro w hSw; (try dsimp only at hSw); obtain ⟨s0, s1, s2, s3, s4, s5⟩ := hSw; first | (go_simp; done) | (go_simp; with_reducible rfl))
      · assumption
      try simp only [Act.put, List.setIfInBounds_toArray, List.set_cons_zero, List.set_cons_succ]
      refine wpAnyH_ready (rs := [1, 5, 15]) (by kernel_rfl) (by simp) ?_
      refine AllReadyH.cons (o := ?_) ?_ ?_ ?_; rotate_left 1
      · (simp only [List.getElem?_toArray, List.getElem?_cons_succ, List.getElem?_cons_zero]; rfl)
      · intro K' hK
        go_simp
        replace hb := hb.frame ((Step.refl [] _ _).alloc (.cells #[] 30)) (by simp)
        replace hz := hz.frame ((Step.refl [] _ _).alloc (.cells #[] 30)) (by simp)
        replace hrowC := hrowC.frame ((Step.refl [] _ _).alloc (.cells #[] 30)) (by simp)
        replace hpre := hpre.frame ((Step.refl [] _ _).alloc (.cells #[] 30)) (by simp)
        replace st := st.trans ((Step.refl [] _ _).alloc (.cells #[] 30))
        refine hK.out _ _ ?_ (fun hHeld => ?_)
        · exact hz.facts6.1
        clear hK K'
        try simp only [Act.put, List.setIfInBounds_toArray, List.set_cons_zero, List.set_cons_succ]
        refine wpAnyH_ready (rs := [5, 15]) (by kernel_rfl) (by simp) ?_
        refine AllReadyH.cons (o := ?_) ?_ ?_ ?_; rotate_left 1
        · (simp only [List.getElem?_toArray, List.getElem?_cons_succ, List.getElem?_cons_zero]; rfl)
        · intro K' hK
          have hcb := hb.cell0
          go_simp
          clear hcb
          refine hK.out _ _ ?_ (fun hHeld => ?_)
          · exact hz.facts6.1
          clear hK K'
          try simp only [Act.put, List.setIfInBounds_toArray, List.set_cons_zero, List.set_cons_succ]
          refine wpAnyH_take (i := 12) (oi := ?_) (v := ?_) ?_ (by kernel_rfl) (by kernel_rfl) (by kernel_rfl) ?_ (Or.inl ⟨?_, ?_⟩) ?_ ?_; rotate_left 2
          · (simp only [List.getElem?_toArray, List.getElem?_cons_succ, List.getElem?_cons_zero]; rfl)
          · exact fun _ _ _ h => h
          · rfl
          · (intro w hSw; (try dsimp only at hSw); obtain ⟨s0, s1, s2, s3, s4, s5⟩ := hSw; first | (go_simp; done) | (go_simp; with_reducible rfl))
          · assumption
          try simp only [Act.put, List.setIfInBounds_toArray, List.set_cons_zero, List.set_cons_succ]
          refine wpAnyH_ready (rs := [13, 15]) (by kernel_rfl) (by simp) ?_
          refine AllReadyH.cons (o := ?_) ?_ ?_ ?_; rotate_left 1
          · (simp only [List.getElem?_toArray, List.getElem?_cons_succ, List.getElem?_cons_zero]; rfl)
          · intro K' hK
            refine step_app0 (.tmp 72) (.tmp 83) 38 rfl o3 (i + 1) Try.underlying38 info30 rfl (by rfl) (by rfl) (by rfl) hpre (by omega) (by omega) ?_
            intro vN wN oN hN sN
            obtain ⟨aN, cN, rfl, -, -⟩ := hN.slice
            replace hb := hb.frame sN (by simp)
            replace hz := hz.frame sN (by simp)
            replace hrowC := hrowC.frame sN (by simp)
            replace hpre := hpre.frame sN (by simp)
            replace st := st.trans sN
            refine hK.out _ _ ?_ (fun hHeld => ?_)
            · exact hz.facts6.1
            clear hK K'
            try simp only [Act.put, List.setIfInBounds_toArray, List.set_cons_zero, List.set_cons_succ]
            refine wpAnyH_ready (rs := [15]) (by kernel_rfl) (by simp) ?_
            refine AllReadyH.cons (o := ?_) ?_ ?_ ?_; rotate_left 1
            · (simp only [List.getElem?_toArray, List.getElem?_cons_succ, List.getElem?_cons_zero]; rfl)
            · intro K' hK
              go_simp
              obtain ⟨jX, hX⟩ := hb.freshR 3 a c x' y (.slice ac l.length cc)
              replace hb := hb.frame ((Step.refl [] _ _).alloc (.cells #[.int .i64 3, .int .i64 a, .int .i64 c, .int .i64 x', .int .i64 y, .slice ac l.length cc] 30)) (by simp)
              replace hz := hz.frame ((Step.refl [] _ _).alloc (.cells #[.int .i64 3, .int .i64 a, .int .i64 c, .int .i64 x', .int .i64 y, .slice ac l.length cc] 30)) (by simp)
              replace hrowC := hrowC.frame ((Step.refl [] _ _).alloc (.cells #[.int .i64 3, .int .i64 a, .int .i64 c, .int .i64 x', .int .i64 y, .slice ac l.length cc] 30)) (by simp)
              replace hpre := hpre.frame ((Step.refl [] _ _).alloc (.cells #[.int .i64 3, .int .i64 a, .int .i64 c, .int .i64 x', .int .i64 y, .slice ac l.length cc] 30)) (by simp)
              replace hN := hN.frame ((Step.refl [] _ _).alloc (.cells #[.int .i64 3, .int .i64 a, .int .i64 c, .int .i64 x', .int .i64 y, .slice ac l.length cc] 30)) (by simp)
              replace st := st.trans ((Step.refl [] _ _).alloc (.cells #[.int .i64 3, .int .i64 a, .int .i64 c, .int .i64 x', .int .i64 y, .slice ac l.length cc] 30))
              refine hK.out _ _ ?_ (fun hHeld => ?_)
              · exact hz.facts6.1
              clear hK K'
              try simp only [Act.put, List.setIfInBounds_toArray, List.set_cons_zero, List.set_cons_succ]
              refine wpAnyH_ready (rs := [16]) (by kernel_rfl) (by simp) ?_
              refine AllReadyH.cons (o := ?_) ?_ ?_ ?_; rotate_left 1
              · (simp only [List.getElem?_toArray, List.getElem?_cons_succ, List.getElem?_cons_zero]; rfl)
              · intro K' hK
                refine step_app (.tmp 84) (.tmp 86) 38 rfl Try.underlying38 info30 rfl (by rfl) (by rfl) hN (by first | rfl | simp [Act.eval, Act.put]) hX (by simp [Value.oneCell']) (by omega) (by omega) ?_
                intro vM wM oM hM sM
                obtain ⟨aM, cM, rfl, -, -⟩ := hM.slice
                replace hb := hb.frame sM (by simp)
                replace hz := hz.frame sM (by simpa using hi.2.symm)
                replace hrowC := hrowC.frame sM (by simpa using hj.2.1)
                replace st := st.nil.trans sM
                refine hK.out _ _ ?_ (fun hHeld => ?_)
                · exact hz.facts6.1
                clear hK K'
                try simp only [Act.put, List.setIfInBounds_toArray, List.set_cons_zero, List.set_cons_succ]
                refine wpAnyH_take (i := 17) (oi := ?_) (v := ?_) ?_ (by kernel_rfl) (by kernel_rfl) (by kernel_rfl) ?_ (Or.inl ⟨?_, ?_⟩) ?_ ?_; rotate_left 2
                · (simp only [List.getElem?_toArray, List.getElem?_cons_succ, List.getElem?_cons_zero]; rfl)
                · exact fun _ _ _ h => h
                · rfl
                · (intro w hSw; (try dsimp only at hSw); obtain ⟨s0, s1, s2, s3, s4, s5⟩ := hSw; first | (go_simp; done) | (go_simp; with_reducible rfl))
                · assumption
                try simp only [Act.put, List.setIfInBounds_toArray, List.set_cons_zero, List.set_cons_succ]
                refine wpAnyH_take (i := 18) (oi := ?_) (v := ?_) ?_ (by kernel_rfl) (by kernel_rfl) (by kernel_rfl) ?_ (Or.inl ⟨?_, ?_⟩) ?_ ?_; rotate_left 2
                · (simp only [List.getElem?_toArray, List.getElem?_cons_succ, List.getElem?_cons_zero]; rfl)
                · exact fun _ _ _ h => h
                · rfl
                · (intro w hSw; (try dsimp only at hSw); obtain ⟨s0, s1, s2, s3, s4, s5⟩ := hSw; first | (go_simp; done) | (go_simp; with_reducible rfl))
                · assumption
                try simp only [Act.put, List.setIfInBounds_toArray, List.set_cons_zero, List.set_cons_succ]
                refine wpAnyH_ready (rs := [19]) (by kernel_rfl) (by simp) ?_
                refine AllReadyH.cons (o := ?_) ?_ ?_ ?_; rotate_left 1
                · (simp only [List.getElem?_toArray, List.getElem?_cons_succ, List.getElem?_cons_zero]; rfl)
                · intro K' hK
                  have hcb := hb.cell0
                  have hfb := hb.frozen 0
                  go_simp
                  refine hK.out _ _ ?_ (fun hHeld => ?_)
                  · exact (hz.setOther (g := b) (fun e => by have h1 := hz.own; have h2 := hb.own; rw [e, h2] at h1; exact hi.1 h1) 0 _).facts6.1
                  clear hK K'
                  try simp only [Act.put, List.setIfInBounds_toArray, List.set_cons_zero, List.set_cons_succ]
                  refine wpAnyH_done (by kernel_rfl) ?_ _
                  go_wp2_with fail
                  go_ret2
                  have hrN : Row wM oM (i + 1) 30 6 (.slice aM (n + 1) cM) (fl ++ [((⟨3, a, c, x', y, .slice ac l.length cc⟩ : Fr), l, j)]).length (frs ((fl ++ [((⟨3, a, c, x', y, .slice ac l.length cc⟩ : Fr), l, j)]).map Prod.fst)) := by
                    rw [List.length_append, List.length_singleton, HN.out, List.map_append, List.map_singleton, frs_app]
                    exact hM
                  obtain ⟨g1, g2⟩ := RT.put hb hrN (by rw [List.length_append, List.length_singleton, HN.out]; omega) (fun p hp => by
                    rcases List.mem_append.1 hp with hp | hp
                    · obtain ⟨q1, q2, q3, q4, q5⟩ := HL.out p hp
                      exact ⟨q1, q2, q3, q4, q5.frame st (by simpa using q3)⟩
                    · rw [List.mem_singleton] at hp
                      subst hp
                      exact ⟨HLL.out, hj.1, hj.2.1, hj.2.2, hrowC⟩)
                  first | exact ⟨oM, _, rfl, g1, (st.weaken (by simp)).trans (g2.weaken (by simp))⟩ | exact ⟨rfl, oM, ⟨_, g1⟩, (st.weaken (by simp)).trans (g2.weaken (by simp))⟩ | exact ⟨rfl, oM, _, g1, (st.weaken (by simp)).trans (g2.weaken (by simp))⟩
                exact AllReadyH.nil
              exact AllReadyH.nil
            exact AllReadyH.nil
          refine AllReadyH.cons (o := ?_) ?_ ?_ ?_; rotate_left 1
          · (simp only [List.getElem?_toArray, List.getElem?_cons_succ, List.getElem?_cons_zero]; rfl)
          · intro K' hK
            go_simp
            obtain ⟨jX, hX⟩ := hb.freshR 3 a c x' y (.slice ac l.length cc)
            replace hb := hb.frame ((Step.refl [] _ _).alloc (.cells #[.int .i64 3, .int .i64 a, .int .i64 c, .int .i64 x', .int .i64 y, .slice ac l.length cc] 30)) (by simp)
            replace hz := hz.frame ((Step.refl [] _ _).alloc (.cells #[.int .i64 3, .int .i64 a, .int .i64 c, .int .i64 x', .int .i64 y, .slice ac l.length cc] 30)) (by simp)
            replace hrowC := hrowC.frame ((Step.refl [] _ _).alloc (.cells #[.int .i64 3, .int .i64 a, .int .i64 c, .int .i64 x', .int .i64 y, .slice ac l.length cc] 30)) (by simp)
            replace hpre := hpre.frame ((Step.refl [] _ _).alloc (.cells #[.int .i64 3, .int .i64 a, .int .i64 c, .int .i64 x', .int .i64 y, .slice ac l.length cc] 30)) (by simp)
            replace st := st.trans ((Step.refl [] _ _).alloc (.cells #[.int .i64 3, .int .i64 a, .int .i64 c, .int .i64 x', .int .i64 y, .slice ac l.length cc] 30))
            refine hK.out _ _ ?_ (fun hHeld => ?_)
            · exact hz.facts6.1
            clear hK K'
            try simp only [Act.put, List.setIfInBounds_toArray, List.set_cons_zero, List.set_cons_succ]
            refine wpAnyH_ready (rs := [13]) (by kernel_rfl) (by simp) ?_
            refine AllReadyH.cons (o := ?_) ?_ ?_ ?_; rotate_left 1
            · (simp only [List.getElem?_toArray, List.getElem?_cons_succ, List.getElem?_cons_zero]; rfl)
            · intro K' hK
              refine step_app0 (.tmp 72) (.tmp 83) 38 rfl o3 (i + 1) Try.underlying38 info30 rfl (by rfl) (by rfl) (by rfl) hpre (by omega) (by omega) ?_
              intro vN wN oN hN sN
              obtain ⟨aN, cN, rfl, -, -⟩ := hN.slice
              replace hb := hb.frame sN (by simp)
              replace hz := hz.frame sN (by simp)
              replace hrowC := hrowC.frame sN (by simp)
              replace hpre := hpre.frame sN (by simp)
              replace hX := hX.frame sN (by simp)
              replace st := st.trans sN
              refine hK.out _ _ ?_ (fun hHeld => ?_)
              · exact hz.facts6.1
              clear hK K'
              try simp only [Act.put, List.setIfInBounds_toArray, List.set_cons_zero, List.set_cons_succ]
              refine wpAnyH_ready (rs := [16]) (by kernel_rfl) (by simp) ?_
              refine AllReadyH.cons (o := ?_) ?_ ?_ ?_; rotate_left 1
              · (simp only [List.getElem?_toArray, List.getElem?_cons_succ, List.getElem?_cons_zero]; rfl)
              · intro K' hK
                refine step_app (.tmp 84) (.tmp 86) 38 rfl Try.underlying38 info30 rfl (by rfl) (by rfl) hN (by first | rfl | simp [Act.eval, Act.put]) hX (by simp [Value.oneCell']) (by omega) (by omega) ?_
                intro vM wM oM hM sM
                obtain ⟨aM, cM, rfl, -, -⟩ := hM.slice
                replace hb := hb.frame sM (by simp)
                replace hz := hz.frame sM (by simpa using hi.2.symm)
                replace hrowC := hrowC.frame sM (by simpa using hj.2.1)
                replace st := st.nil.trans sM
                refine hK.out _ _ ?_ (fun hHeld => ?_)
                · exact hz.facts6.1
                clear hK K'
                try simp only [Act.put, List.setIfInBounds_toArray, List.set_cons_zero, List.set_cons_succ]
                refine wpAnyH_take (i := 17) (oi := ?_) (v := ?_) ?_ (by kernel_rfl) (by kernel_rfl) (by kernel_rfl) ?_ (Or.inl ⟨?_, ?_⟩) ?_ ?_; rotate_left 2
                · (simp only [List.getElem?_toArray, List.getElem?_cons_succ, List.getElem?_cons_zero]; rfl)
                · exact fun _ _ _ h => h
                · rfl
                · (intro w hSw; (try dsimp only at hSw); obtain ⟨s0, s1, s2, s3, s4, s5⟩ := hSw; first | (go_simp; done) | (go_simp; with_reducible rfl))
                · assumption
                try simp only [Act.put, List.setIfInBounds_toArray, List.set_cons_zero, List.set_cons_succ]
                refine wpAnyH_take (i := 18) (oi := ?_) (v := ?_) ?_ (by kernel_rfl) (by kernel_rfl) (by kernel_rfl) ?_ (Or.inl ⟨?_, ?_⟩) ?_ ?_; rotate_left 2
                · (simp only [List.getElem?_toArray, List.getElem?_cons_succ, List.getElem?_cons_zero]; rfl)
                · exact fun _ _ _ h => h
                · rfl
                · (intro w hSw; (try dsimp only at hSw); obtain ⟨s0, s1, s2, s3, s4, s5⟩ := hSw; first | (go_simp; done) | (go_simp; with_reducible rfl))
                · assumption
                try simp only [Act.put, List.setIfInBounds_toArray, List.set_cons_zero, List.set_cons_succ]
                refine wpAnyH_ready (rs := [19]) (by kernel_rfl) (by simp) ?_
                refine AllReadyH.cons (o := ?_) ?_ ?_ ?_; rotate_left 1
                · (simp only [List.getElem?_toArray, List.getElem?_cons_succ, List.getElem?_cons_zero]; rfl)
                · intro K' hK
                  have hcb := hb.cell0
                  have hfb := hb.frozen 0
                  go_simp
                  refine hK.out _ _ ?_ (fun hHeld => ?_)
                  · exact (hz.setOther (g := b) (fun e => by have h1 := hz.own; have h2 := hb.own; rw [e, h2] at h1; exact hi.1 h1) 0 _).facts6.1
                  clear hK K'
                  try simp only [Act.put, List.setIfInBounds_toArray, List.set_cons_zero, List.set_cons_succ]
                  refine wpAnyH_done (by kernel_rfl) ?_ _
                  go_wp2_with fail
                  go_ret2
                  have hrN : Row wM oM (i + 1) 30 6 (.slice aM (n + 1) cM) (fl ++ [((⟨3, a, c, x', y, .slice ac l.length cc⟩ : Fr), l, j)]).length (frs ((fl ++ [((⟨3, a, c, x', y, .slice ac l.length cc⟩ : Fr), l, j)]).map Prod.fst)) := by
                    rw [List.length_append, List.length_singleton, HN.out, List.map_append, List.map_singleton, frs_app]
                    exact hM
                  obtain ⟨g1, g2⟩ := RT.put hb hrN (by rw [List.length_append, List.length_singleton, HN.out]; omega) (fun p hp => by
                    rcases List.mem_append.1 hp with hp | hp
                    · obtain ⟨q1, q2, q3, q4, q5⟩ := HL.out p hp
                      exact ⟨q1, q2, q3, q4, q5.frame st (by simpa using q3)⟩
                    · rw [List.mem_singleton] at hp
                      subst hp
                      exact ⟨HLL.out, hj.1, hj.2.1, hj.2.2, hrowC⟩)
                  first | exact ⟨oM, _, rfl, g1, (st.weaken (by simp)).trans (g2.weaken (by simp))⟩ | exact ⟨rfl, oM, ⟨_, g1⟩, (st.weaken (by simp)).trans (g2.weaken (by simp))⟩ | exact ⟨rfl, oM, _, g1, (st.weaken (by simp)).trans (g2.weaken (by simp))⟩
                exact AllReadyH.nil
              exact AllReadyH.nil
            exact AllReadyH.nil
          exact AllReadyH.nil
        refine AllReadyH.cons (o := ?_) ?_ ?_ ?_; rotate_left 1
        · (simp only [List.getElem?_toArray, List.getElem?_cons_succ, List.getElem?_cons_zero]; rfl)
        · intro K' hK
          go_simp
          obtain ⟨jX, hX⟩ := hb.freshR 3 a c x' y (.slice ac l.length cc)
          replace hb := hb.frame ((Step.refl [] _ _).alloc (.cells #[.int .i64 3, .int .i64 a, .int .i64 c, .int .i64 x', .int .i64 y, .slice ac l.length cc] 30)) (by simp)
          replace hz := hz.frame ((Step.refl [] _ _).alloc (.cells #[.int .i64 3, .int .i64 a, .int .i64 c, .int .i64 x', .int .i64 y, .slice ac l.length cc] 30)) (by simp)
          replace hrowC := hrowC.frame ((Step.refl [] _ _).alloc (.cells #[.int .i64 3, .int .i64 a, .int .i64 c, .int .i64 x', .int .i64 y, .slice ac l.length cc] 30)) (by simp)
          replace hpre := hpre.frame ((Step.refl [] _ _).alloc (.cells #[.int .i64 3, .int .i64 a, .int .i64 c, .int .i64 x', .int .i64 y, .slice ac l.length cc] 30)) (by simp)
          replace st := st.trans ((Step.refl [] _ _).alloc (.cells #[.int .i64 3, .int .i64 a, .int .i64 c, .int .i64 x', .int .i64 y, .slice ac l.length cc] 30))
          refine hK.out _ _ ?_ (fun hHeld => ?_)
          · exact hz.facts6.1
          clear hK K'
          try simp only [Act.put, List.setIfInBounds_toArray, List.set_cons_zero, List.set_cons_succ]
          refine wpAnyH_ready (rs := [5]) (by kernel_rfl) (by simp) ?_
          refine AllReadyH.cons (o := ?_) ?_ ?_ ?_; rotate_left 1
          · (simp only [List.getElem?_toArray, List.getElem?_cons_succ, List.getElem?_cons_zero]; rfl)
          · intro K' hK
            have hcb := hb.cell0
            go_simp
            clear hcb
            refine hK.out _ _ ?_ (fun hHeld => ?_)
            · exact hz.facts6.1
            clear hK K'
            try simp only [Act.put, List.setIfInBounds_toArray, List.set_cons_zero, List.set_cons_succ]
            refine wpAnyH_take (i := 12) (oi := ?_) (v := ?_) ?_ (by kernel_rfl) (by kernel_rfl) (by kernel_rfl) ?_ (Or.inl ⟨?_, ?_⟩) ?_ ?_; rotate_left 2
            · (simp only [List.getElem?_toArray, List.getElem?_cons_succ, List.getElem?_cons_zero]; rfl)
            · exact fun _ _ _ h => h
            · rfl
            · (intro w hSw; (try dsimp only at hSw); obtain ⟨s0, s1, s2, s3, s4, s5⟩ := hSw; first | (go_simp; done) | (go_simp; with_reducible rfl))
            · assumption
            try simp only [Act.put, List.setIfInBounds_toArray, List.set_cons_zero, List.set_cons_succ]
            refine wpAnyH_ready (rs := [13]) (by kernel_rfl) (by simp) ?_
            refine AllReadyH.cons (o := ?_) ?_ ?_ ?_; rotate_left 1
            · (simp only [List.getElem?_toArray, List.getElem?_cons_succ, List.getElem?_cons_zero]; rfl)
            · intro K' hK
              refine step_app0 (.tmp 72) (.tmp 83) 38 rfl o3 (i + 1) Try.underlying38 info30 rfl (by rfl) (by rfl) (by rfl) hpre (by omega) (by omega) ?_
              intro vN wN oN hN sN
              obtain ⟨aN, cN, rfl, -, -⟩ := hN.slice
              replace hb := hb.frame sN (by simp)
              replace hz := hz.frame sN (by simp)
              replace hrowC := hrowC.frame sN (by simp)
              replace hpre := hpre.frame sN (by simp)
              replace hX := hX.frame sN (by simp)
              replace st := st.trans sN
              refine hK.out _ _ ?_ (fun hHeld => ?_)
              · exact hz.facts6.1
              clear hK K'
              try simp only [Act.put, List.setIfInBounds_toArray, List.set_cons_zero, List.set_cons_succ]
              refine wpAnyH_ready (rs := [16]) (by kernel_rfl) (by simp) ?_
              refine AllReadyH.cons (o := ?_) ?_ ?_ ?_; rotate_left 1
              · (simp only [List.getElem?_toArray, List.getElem?_cons_succ, List.getElem?_cons_zero]; rfl)
              · intro K' hK
                refine step_app (.tmp 84) (.tmp 86) 38 rfl Try.underlying38 info30 rfl (by rfl) (by rfl) hN (by first | rfl | simp [Act.eval, Act.put]) hX (by simp [Value.oneCell']) (by omega) (by omega) ?_
                intro vM wM oM hM sM
                obtain ⟨aM, cM, rfl, -, -⟩ := hM.slice
                replace hb := hb.frame sM (by simp)
                replace hz := hz.frame sM (by simpa using hi.2.symm)
                replace hrowC := hrowC.frame sM (by simpa using hj.2.1)
                replace st := st.nil.trans sM
                refine hK.out _ _ ?_ (fun hHeld => ?_)
                · exact hz.facts6.1
                clear hK K'
                try simp only [Act.put, List.setIfInBounds_toArray, List.set_cons_zero, List.set_cons_succ]
                refine wpAnyH_take (i := 17) (oi := ?_) (v := ?_) ?_ (by kernel_rfl) (by kernel_rfl) (by kernel_rfl) ?_ (Or.inl ⟨?_, ?_⟩) ?_ ?_; rotate_left 2
                · (simp only [List.getElem?_toArray, List.getElem?_cons_succ, List.getElem?_cons_zero]; rfl)
                · exact fun _ _ _ h => h
                · rfl
                · (intro w hSw; (try dsimp only at hSw); obtain ⟨s0, s1, s2, s3, s4, s5⟩ := hSw; first | (go_simp; done) | (go_simp; with_reducible rfl))
                · assumption
                try simp only [Act.put, List.setIfInBounds_toArray, List.set_cons_zero, List.set_cons_succ]
                refine wpAnyH_take (i := 18) (oi := ?_) (v := ?_) ?_ (by kernel_rfl) (by kernel_rfl) (by kernel_rfl) ?_ (Or.inl ⟨?_, ?_⟩) ?_ ?_; rotate_left 2
                · (simp only [List.getElem?_toArray, List.getElem?_cons_succ, List.getElem?_cons_zero]; rfl)
                · exact fun _ _ _ h => h
                · rfl
                · (intro w hSw; (try dsimp only at hSw); obtain ⟨s0, s1, s2, s3, s4, s5⟩ := hSw; first | (go_simp; done) | (go_simp; with_reducible rfl))
                · assumption
                try simp only [Act.put, List.setIfInBounds_toArray, List.set_cons_zero, List.set_cons_succ]
                refine wpAnyH_ready (rs := [19]) (by kernel_rfl) (by simp) ?_
                refine AllReadyH.cons (o := ?_) ?_ ?_ ?_; rotate_left 1
                · (simp only [List.getElem?_toArray, List.getElem?_cons_succ, List.getElem?_cons_zero]; rfl)
                · intro K' hK
                  have hcb := hb.cell0
                  have hfb := hb.frozen 0
                  go_simp
                  refine hK.out _ _ ?_ (fun hHeld => ?_)
                  · exact (hz.setOther (g := b) (fun e => by have h1 := hz.own; have h2 := hb.own; rw [e, h2] at h1; exact hi.1 h1) 0 _).facts6.1
                  clear hK K'
                  try simp only [Act.put, List.setIfInBounds_toArray, List.set_cons_zero, List.set_cons_succ]
                  refine wpAnyH_done (by kernel_rfl) ?_ _
                  go_wp2_with fail
                  go_ret2
                  have hrN : Row wM oM (i + 1) 30 6 (.slice aM (n + 1) cM) (fl ++ [((⟨3, a, c, x', y, .slice ac l.length cc⟩ : Fr), l, j)]).length (frs ((fl ++ [((⟨3, a, c, x', y, .slice ac l.length cc⟩ : Fr), l, j)]).map Prod.fst)) := by
                    rw [List.length_append, List.length_singleton, HN.out, List.map_append, List.map_singleton, frs_app]
                    exact hM
                  obtain ⟨g1, g2⟩ := RT.put hb hrN (by rw [List.length_append, List.length_singleton, HN.out]; omega) (fun p hp => by
                    rcases List.mem_append.1 hp with hp | hp
                    · obtain ⟨q1, q2, q3, q4, q5⟩ := HL.out p hp
                      exact ⟨q1, q2, q3, q4, q5.frame st (by simpa using q3)⟩
                    · rw [List.mem_singleton] at hp
                      subst hp
                      exact ⟨HLL.out, hj.1, hj.2.1, hj.2.2, hrowC⟩)
                  first | exact ⟨oM, _, rfl, g1, (st.weaken (by simp)).trans (g2.weaken (by simp))⟩ | exact ⟨rfl, oM, ⟨_, g1⟩, (st.weaken (by simp)).trans (g2.weaken (by simp))⟩ | exact ⟨rfl, oM, _, g1, (st.weaken (by simp)).trans (g2.weaken (by simp))⟩
                exact AllReadyH.nil
              exact AllReadyH.nil
            exact AllReadyH.nil
          exact AllReadyH.nil
        exact AllReadyH.nil
      refine AllReadyH.cons (o := ?_) ?_ ?_ ?_; rotate_left 1
      · (simp only [List.getElem?_toArray, List.getElem?_cons_succ, List.getElem?_cons_zero]; rfl)
      · intro K' hK
        have hcb := hb.cell0
        go_simp
        clear hcb
        refine hK.out _ _ ?_ (fun hHeld => ?_)
        · exact hz.facts6.1
        clear hK K'
        try simp only [Act.put, List.setIfInBounds_toArray, List.set_cons_zero, List.set_cons_succ]
        refine wpAnyH_take (i := 12) (oi := ?_) (v := ?_) ?_ (by kernel_rfl) (by kernel_rfl) (by kernel_rfl) ?_ (Or.inl ⟨?_, ?_⟩) ?_ ?_; rotate_left 2
        · (simp only [List.getElem?_toArray, List.getElem?_cons_succ, List.getElem?_cons_zero]; rfl)
        · exact fun _ _ _ h => h
        · rfl
        · (intro w hSw; (try dsimp only at hSw); obtain ⟨s0, s1, s2, s3, s4, s5⟩ := hSw; first | (go_simp; done) | (go_simp; with_reducible rfl))
        · assumption
        try simp only [Act.put, List.setIfInBounds_toArray, List.set_cons_zero, List.set_cons_succ]
        refine wpAnyH_ready (rs := [1, 15]) (by kernel_rfl) (by simp) ?_
        refine AllReadyH.cons (o := ?_) ?_ ?_ ?_; rotate_left 1
        · (simp only [List.getElem?_toArray, List.getElem?_cons_succ, List.getElem?_cons_zero]; rfl)
        · intro K' hK
          go_simp
          replace hb := hb.frame ((Step.refl [] _ _).alloc (.cells #[] 30)) (by simp)
          replace hz := hz.frame ((Step.refl [] _ _).alloc (.cells #[] 30)) (by simp)
          replace hrowC := hrowC.frame ((Step.refl [] _ _).alloc (.cells #[] 30)) (by simp)
          replace hpre := hpre.frame ((Step.refl [] _ _).alloc (.cells #[] 30)) (by simp)
          replace st := st.trans ((Step.refl [] _ _).alloc (.cells #[] 30))
          refine hK.out _ _ ?_ (fun hHeld => ?_)
          · exact hz.facts6.1
          clear hK K'
          try simp only [Act.put, List.setIfInBounds_toArray, List.set_cons_zero, List.set_cons_succ]
          refine wpAnyH_ready (rs := [13, 15]) (by kernel_rfl) (by simp) ?_
          refine AllReadyH.cons (o := ?_) ?_ ?_ ?_; rotate_left 1
          · (simp only [List.getElem?_toArray, List.getElem?_cons_succ, List.getElem?_cons_zero]; rfl)
          · intro K' hK
            refine step_app0 (.tmp 72) (.tmp 83) 38 rfl o3 (i + 1) Try.underlying38 info30 rfl (by rfl) (by rfl) (by rfl) hpre (by omega) (by omega) ?_
            intro vN wN oN hN sN
            obtain ⟨aN, cN, rfl, -, -⟩ := hN.slice
            replace hb := hb.frame sN (by simp)
            replace hz := hz.frame sN (by simp)
            replace hrowC := hrowC.frame sN (by simp)
            replace hpre := hpre.frame sN (by simp)
            replace st := st.trans sN
            refine hK.out _ _ ?_ (fun hHeld => ?_)
            · exact hz.facts6.1
            clear hK K'
            try simp only [Act.put, List.setIfInBounds_toArray, List.set_cons_zero, List.set_cons_succ]
            refine wpAnyH_ready (rs := [15]) (by kernel_rfl) (by simp) ?_
            refine AllReadyH.cons (o := ?_) ?_ ?_ ?_; rotate_left 1
            · (simp only [List.getElem?_toArray, List.getElem?_cons_succ, List.getElem?_cons_zero]; rfl)
            · intro K' hK
              go_simp
              obtain ⟨jX, hX⟩ := hb.freshR 3 a c x' y (.slice ac l.length cc)
              replace hb := hb.frame ((Step.refl [] _ _).alloc (.cells #[.int .i64 3, .int .i64 a, .int .i64 c, .int .i64 x', .int .i64 y, .slice ac l.length cc] 30)) (by simp)
              replace hz := hz.frame ((Step.refl [] _ _).alloc (.cells #[.int .i64 3, .int .i64 a, .int .i64 c, .int .i64 x', .int .i64 y, .slice ac l.length cc] 30)) (by simp)
              replace hrowC := hrowC.frame ((Step.refl [] _ _).alloc (.cells #[.int .i64 3, .int .i64 a, .int .i64 c, .int .i64 x', .int .i64 y, .slice ac l.length cc] 30)) (by simp)
              replace hpre := hpre.frame ((Step.refl [] _ _).alloc (.cells #[.int .i64 3, .int .i64 a, .int .i64 c, .int .i64 x', .int .i64 y, .slice ac l.length cc] 30)) (by simp)
              replace hN := hN.frame ((Step.refl [] _ _).alloc (.cells #[.int .i64 3, .int .i64 a, .int .i64 c, .int .i64 x', .int .i64 y, .slice ac l.length cc] 30)) (by simp)
              replace st := st.trans ((Step.refl [] _ _).alloc (.cells #[.int .i64 3, .int .i64 a, .int .i64 c, .int .i64 x', .int .i64 y, .slice ac l.length cc] 30))
              refine hK.out _ _ ?_ (fun hHeld => ?_)
              · exact hz.facts6.1
              clear hK K'
              try simp only [Act.put, List.setIfInBounds_toArray, List.set_cons_zero, List.set_cons_succ]
              refine wpAnyH_ready (rs := [16]) (by kernel_rfl) (by simp) ?_
              refine AllReadyH.cons (o := ?_) ?_ ?_ ?_; rotate_left 1
              · (simp only [List.getElem?_toArray, List.getElem?_cons_succ, List.getElem?_cons_zero]; rfl)
              · intro K' hK
                refine step_app (.tmp 84) (.tmp 86) 38 rfl Try.underlying38 info30 rfl (by rfl) (by rfl) hN (by first | rfl | simp [Act.eval, Act.put]) hX (by simp [Value.oneCell']) (by omega) (by omega) ?_
                intro vM wM oM hM sM
                obtain ⟨aM, cM, rfl, -, -⟩ := hM.slice
                replace hb := hb.frame sM (by simp)
                replace hz := hz.frame sM (by simpa using hi.2.symm)
                replace hrowC := hrowC.frame sM (by simpa using hj.2.1)
                replace st := st.nil.trans sM
                refine hK.out _ _ ?_ (fun hHeld => ?_)
                · exact hz.facts6.1
                clear hK K'
                try simp only [Act.put, List.setIfInBounds_toArray, List.set_cons_zero, List.set_cons_succ]
                refine wpAnyH_take (i := 17) (oi := ?_) (v := ?_) ?_ (by kernel_rfl) (by kernel_rfl) (by kernel_rfl) ?_ (Or.inl ⟨?_, ?_⟩) ?_ ?_; rotate_left 2
                · (simp only [List.getElem?_toArray, List.getElem?_cons_succ, List.getElem?_cons_zero]; rfl)
                · exact fun _ _ _ h => h
                · rfl
                · (intro w hSw; (try dsimp only at hSw); obtain ⟨s0, s1, s2, s3, s4, s5⟩ := hSw; first | (go_simp; done) | (go_simp; with_reducible rfl))
                · assumption
                try simp only [Act.put, List.setIfInBounds_toArray, List.set_cons_zero, List.set_cons_succ]
                refine wpAnyH_take (i := 18) (oi := ?_) (v := ?_) ?_ (by kernel_rfl) (by kernel_rfl) (by kernel_rfl) ?_ (Or.inl ⟨?_, ?_⟩) ?_ ?_; rotate_left 2
                · (simp only [List.getElem?_toArray, List.getElem?_cons_succ, List.getElem?_cons_zero]; rfl)
                · exact fun _ _ _ h => h
                · rfl
                · (intro w hSw; (try dsimp only at hSw); obtain ⟨s0, s1, s2, s3, s4, s5⟩ := hSw; first | (go_simp; done) | (go_simp; with_reducible rfl))
                · assumption
                try simp only [Act.put, List.setIfInBounds_toArray, List.set_cons_zero, List.set_cons_succ]
                refine wpAnyH_ready (rs := [19]) (by kernel_rfl) (by simp) ?_
                refine AllReadyH.cons (o := ?_) ?_ ?_ ?_; rotate_left 1
                · (simp only [List.getElem?_toArray, List.getElem?_cons_succ, List.getElem?_cons_zero]; rfl)
                · intro K' hK
                  have hcb := hb.cell0
                  have hfb := hb.frozen 0
                  go_simp
                  refine hK.out _ _ ?_ (fun hHeld => ?_)
                  · exact (hz.setOther (g := b) (fun e => by have h1 := hz.own; have h2 := hb.own; rw [e, h2] at h1; exact hi.1 h1) 0 _).facts6.1
                  clear hK K'
                  try simp only [Act.put, List.setIfInBounds_toArray, List.set_cons_zero, List.set_cons_succ]
                  refine wpAnyH_done (by kernel_rfl) ?_ _
                  go_wp2_with fail
                  go_ret2
                  have hrN : Row wM oM (i + 1) 30 6 (.slice aM (n + 1) cM) (fl ++ [((⟨3, a, c, x', y, .slice ac l.length cc⟩ : Fr), l, j)]).length (frs ((fl ++ [((⟨3, a, c, x', y, .slice ac l.length cc⟩ : Fr), l, j)]).map Prod.fst)) := by
                    rw [List.length_append, List.length_singleton, HN.out, List.map_append, List.map_singleton, frs_app]
                    exact hM
                  obtain ⟨g1, g2⟩ := RT.put hb hrN (by rw [List.length_append, List.length_singleton, HN.out]; omega) (fun p hp => by
                    rcases List.mem_append.1 hp with hp | hp
                    · obtain ⟨q1, q2, q3, q4, q5⟩ := HL.out p hp
                      exact ⟨q1, q2, q3, q4, q5.frame st (by simpa using q3)⟩
                    · rw [List.mem_singleton] at hp
                      subst hp
                      exact ⟨HLL.out, hj.1, hj.2.1, hj.2.2, hrowC⟩)
                  first | exact ⟨oM, _, rfl, g1, (st.weaken (by simp)).trans (g2.weaken (by simp))⟩ | exact ⟨rfl, oM, ⟨_, g1⟩, (st.weaken (by simp)).trans (g2.weaken (by simp))⟩ | exact ⟨rfl, oM, _, g1, (st.weaken (by simp)).trans (g2.weaken (by simp))⟩
                exact AllReadyH.nil
              exact AllReadyH.nil
            exact AllReadyH.nil
          refine AllReadyH.cons (o := ?_) ?_ ?_ ?_; rotate_left 1
          · (simp only [List.getElem?_toArray, List.getElem?_cons_succ, List.getElem?_cons_zero]; rfl)
          · intro K' hK
            go_simp
            obtain ⟨jX, hX⟩ := hb.freshR 3 a c x' y (.slice ac l.length cc)
            replace hb := hb.frame ((Step.refl [] _ _).alloc (.cells #[.int .i64 3, .int .i64 a, .int .i64 c, .int .i64 x', .int .i64 y, .slice ac l.length cc] 30)) (by simp)
            replace hz := hz.frame ((Step.refl [] _ _).alloc (.cells #[.int .i64 3, .int .i64 a, .int .i64 c, .int .i64 x', .int .i64 y, .slice ac l.length cc] 30)) (by simp)
            replace hrowC := hrowC.frame ((Step.refl [] _ _).alloc (.cells #[.int .i64 3, .int .i64 a, .int .i64 c, .int .i64 x', .int .i64 y, .slice ac l.length cc] 30)) (by simp)
            replace hpre := hpre.frame ((Step.refl [] _ _).alloc (.cells #[.int .i64 3, .int .i64 a, .int .i64 c, .int .i64 x', .int .i64 y, .slice ac l.length cc] 30)) (by simp)
            replace st := st.trans ((Step.refl [] _ _).alloc (.cells #[.int .i64 3, .int .i64 a, .int .i64 c, .int .i64 x', .int .i64 y, .slice ac l.length cc] 30))
            refine hK.out _ _ ?_ (fun hHeld => ?_)
            · exact hz.facts6.1
            clear hK K'
            try simp only [Act.put, List.setIfInBounds_toArray, List.set_cons_zero, List.set_cons_succ]
            refine wpAnyH_ready (rs := [13]) (by kernel_rfl) (by simp) ?_
            refine AllReadyH.cons (o := ?_) ?_ ?_ ?_; rotate_left 1
            · (simp only [List.getElem?_toArray, List.getElem?_cons_succ, List.getElem?_cons_zero]; rfl)
            · intro K' hK
              refine step_app0 (.tmp 72) (.tmp 83) 38 rfl o3 (i + 1) Try.underlying38 info30 rfl (by rfl) (by rfl) (by rfl) hpre (by omega) (by omega) ?_
              intro vN wN oN hN sN
              obtain ⟨aN, cN, rfl, -, -⟩ := hN.slice
              replace hb := hb.frame sN (by simp)
              replace hz := hz.frame sN (by simp)
              replace hrowC := hrowC.frame sN (by simp)
              replace hpre := hpre.frame sN (by simp)
              replace hX := hX.frame sN (by simp)
              replace st := st.trans sN
              refine hK.out _ _ ?_ (fun hHeld => ?_)
              · exact hz.facts6.1
              clear hK K'
              try simp only [Act.put, List.setIfInBounds_toArray, List.set_cons_zero, List.set_cons_succ]
              refine wpAnyH_ready (rs := [16]) (by kernel_rfl) (by simp) ?_
              refine AllReadyH.cons (o := ?_) ?_ ?_ ?_; rotate_left 1
              · (simp only [List.getElem?_toArray, List.getElem?_cons_succ, List.getElem?_cons_zero]; rfl)
              · intro K' hK
                refine step_app (.tmp 84) (.tmp 86) 38 rfl Try.underlying38 info30 rfl (by rfl) (by rfl) hN (by first | rfl | simp [Act.eval, Act.put]) hX (by simp [Value.oneCell']) (by omega) (by omega) ?_
                intro vM wM oM hM sM
                obtain ⟨aM, cM, rfl, -, -⟩ := hM.slice
                replace hb := hb.frame sM (by simp)
                replace hz := hz.frame sM (by simpa using hi.2.symm)
                replace hrowC := hrowC.frame sM (by simpa using hj.2.1)
                replace st := st.nil.trans sM
                refine hK.out _ _ ?_ (fun hHeld => ?_)
                · exact hz.facts6.1
                clear hK K'
                try simp only [Act.put, List.setIfInBounds_toArray, List.set_cons_zero, List.set_cons_succ]
                refine wpAnyH_take (i := 17) (oi := ?_) (v := ?_) ?_ (by kernel_rfl) (by kernel_rfl) (by kernel_rfl) ?_ (Or.inl ⟨?_, ?_⟩) ?_ ?_; rotate_left 2
                · (simp only [List.getElem?_toArray, List.getElem?_cons_succ, List.getElem?_cons_zero]; rfl)
                · exact fun _ _ _ h => h
                · rfl
                · (intro w hSw; (try dsimp only at hSw); obtain ⟨s0, s1, s2, s3, s4, s5⟩ := hSw; first | (go_simp; done) | (go_simp; with_reducible rfl))
                · assumption
                try simp only [Act.put, List.setIfInBounds_toArray, List.set_cons_zero, List.set_cons_succ]
                refine wpAnyH_take (i := 18) (oi := ?_) (v := ?_) ?_ (by kernel_rfl) (by kernel_rfl) (by kernel_rfl) ?_ (Or.inl ⟨?_, ?_⟩) ?_ ?_; rotate_left 2
                · (simp only [List.getElem?_toArray, List.getElem?_cons_succ, List.getElem?_cons_zero]; rfl)
                · exact fun _ _ _ h => h
                · rfl
                · (intro w hSw; (try dsimp only at hSw); obtain ⟨s0, s1, s2, s3, s4, s5⟩ := hSw; first | (go_simp; done) | (go_simp; with_reducible rfl))
                · assumption
                try simp only [Act.put, List.setIfInBounds_toArray, List.set_cons_zero, List.set_cons_succ]
                refine wpAnyH_ready (rs := [19]) (by kernel_rfl) (by simp) ?_
                refine AllReadyH.cons (o := ?_) ?_ ?_ ?_; rotate_left 1
                · (simp only [List.getElem?_toArray, List.getElem?_cons_succ, List.getElem?_cons_zero]; rfl)
                · intro K' hK
                  have hcb := hb.cell0
                  have hfb := hb.frozen 0
                  go_simp
                  refine hK.out _ _ ?_ (fun hHeld => ?_)
                  · exact (hz.setOther (g := b) (fun e => by have h1 := hz.own; have h2 := hb.own; rw [e, h2] at h1; exact hi.1 h1) 0 _).facts6.1
                  clear hK K'
                  try simp only [Act.put, List.setIfInBounds_toArray, List.set_cons_zero, List.set_cons_succ]
                  refine wpAnyH_done (by kernel_rfl) ?_ _
                  go_wp2_with fail
                  go_ret2
                  have hrN : Row wM oM (i + 1) 30 6 (.slice aM (n + 1) cM) (fl ++ [((⟨3, a, c, x', y, .slice ac l.length cc⟩ : Fr), l, j)]).length (frs ((fl ++ [((⟨3, a, c, x', y, .slice ac l.length cc⟩ : Fr), l, j)]).map Prod.fst)) := by
                    rw [List.length_append, List.length_singleton, HN.out, List.map_append, List.map_singleton, frs_app]
                    exact hM
                  obtain ⟨g1, g2⟩ := RT.put hb hrN (by rw [List.length_append, List.length_singleton, HN.out]; omega) (fun p hp => by
                    rcases List.mem_append.1 hp with hp | hp
                    · obtain ⟨q1, q2, q3, q4, q5⟩ := HL.out p hp
                      exact ⟨q1, q2, q3, q4, q5.frame st (by simpa using q3)⟩
                    · rw [List.mem_singleton] at hp
                      subst hp
                      exact ⟨HLL.out, hj.1, hj.2.1, hj.2.2, hrowC⟩)
                  first | exact ⟨oM, _, rfl, g1, (st.weaken (by simp)).trans (g2.weaken (by simp))⟩ | exact ⟨rfl, oM, ⟨_, g1⟩, (st.weaken (by simp)).trans (g2.weaken (by simp))⟩ | exact ⟨rfl, oM, _, g1, (st.weaken (by simp)).trans (g2.weaken (by simp))⟩
                exact AllReadyH.nil
              exact AllReadyH.nil
            exact AllReadyH.nil
          exact AllReadyH.nil
        refine AllReadyH.cons (o := ?_) ?_ ?_ ?_; rotate_left 1
        · (simp only [List.getElem?_toArray, List.getElem?_cons_succ, List.getElem?_cons_zero]; rfl)
        · intro K' hK
          go_simp
          obtain ⟨jX, hX⟩ := hb.freshR 3 a c x' y (.slice ac l.length cc)
          replace hb := hb.frame ((Step.refl [] _ _).alloc (.cells #[.int .i64 3, .int .i64 a, .int .i64 c, .int .i64 x', .int .i64 y, .slice ac l.length cc] 30)) (by simp)
          replace hz := hz.frame ((Step.refl [] _ _).alloc (.cells #[.int .i64 3, .int .i64 a, .int .i64 c, .int .i64 x', .int .i64 y, .slice ac l.length cc] 30)) (by simp)
          replace hrowC := hrowC.frame ((Step.refl [] _ _).alloc (.cells #[.int .i64 3, .int .i64 a, .int .i64 c, .int .i64 x', .int .i64 y, .slice ac l.length cc] 30)) (by simp)
          replace hpre := hpre.frame ((Step.refl [] _ _).alloc (.cells #[.int .i64 3, .int .i64 a, .int .i64 c, .int .i64 x', .int .i64 y, .slice ac l.length cc] 30)) (by simp)
          replace st := st.trans ((Step.refl [] _ _).alloc (.cells #[.int .i64 3, .int .i64 a, .int .i64 c, .int .i64 x', .int .i64 y, .slice ac l.length cc] 30))
          refine hK.out _ _ ?_ (fun hHeld => ?_)
          · exact hz.facts6.1
          clear hK K'
          try simp only [Act.put, List.setIfInBounds_toArray, List.set_cons_zero, List.set_cons_succ]
          refine wpAnyH_ready (rs := [1]) (by kernel_rfl) (by simp) ?_
          refine AllReadyH.cons (o := ?_) ?_ ?_ ?_; rotate_left 1
          · (simp only [List.getElem?_toArray, List.getElem?_cons_succ, List.getElem?_cons_zero]; rfl)
          · intro K' hK
            go_simp
            replace hb := hb.frame ((Step.refl [] _ _).alloc (.cells #[] 30)) (by simp)
            replace hz := hz.frame ((Step.refl [] _ _).alloc (.cells #[] 30)) (by simp)
            replace hrowC := hrowC.frame ((Step.refl [] _ _).alloc (.cells #[] 30)) (by simp)
            replace hpre := hpre.frame ((Step.refl [] _ _).alloc (.cells #[] 30)) (by simp)
            replace hX := hX.frame ((Step.refl [] _ _).alloc (.cells #[] 30)) (by simp)
            replace st := st.trans ((Step.refl [] _ _).alloc (.cells #[] 30))
            refine hK.out _ _ ?_ (fun hHeld => ?_)
            · exact hz.facts6.1
            clear hK K'
            try simp only [Act.put, List.setIfInBounds_toArray, List.set_cons_zero, List.set_cons_succ]
            refine wpAnyH_ready (rs := [13]) (by kernel_rfl) (by simp) ?_
            refine AllReadyH.cons (o := ?_) ?_ ?_ ?_; rotate_left 1
            · (simp only [List.getElem?_toArray, List.getElem?_cons_succ, List.getElem?_cons_zero]; rfl)
            · intro K' hK
              refine step_app0 (.tmp 72) (.tmp 83) 38 rfl o3 (i + 1) Try.underlying38 info30 rfl (by rfl) (by rfl) (by rfl) hpre (by omega) (by omega) ?_
              intro vN wN oN hN sN
              obtain ⟨aN, cN, rfl, -, -⟩ := hN.slice
              replace hb := hb.frame sN (by simp)
              replace hz := hz.frame sN (by simp)
              replace hrowC := hrowC.frame sN (by simp)
              replace hpre := hpre.frame sN (by simp)
              replace hX := hX.frame sN (by simp)
              replace st := st.trans sN
              refine hK.out _ _ ?_ (fun hHeld => ?_)
              · exact hz.facts6.1
              clear hK K'
              try simp only [Act.put, List.setIfInBounds_toArray, List.set_cons_zero, List.set_cons_succ]
              refine wpAnyH_ready (rs := [16]) (by kernel_rfl) (by simp) ?_
              refine AllReadyH.cons (o := ?_) ?_ ?_ ?_; rotate_left 1
              · (simp only [List.getElem?_toArray, List.getElem?_cons_succ, List.getElem?_cons_zero]; rfl)
              · intro K' hK
                refine step_app (.tmp 84) (.tmp 86) 38 rfl Try.underlying38 info30 rfl (by rfl) (by rfl) hN (by first | rfl | simp [Act.eval, Act.put]) hX (by simp [Value.oneCell']) (by omega) (by omega) ?_
                intro vM wM oM hM sM
                obtain ⟨aM, cM, rfl, -, -⟩ := hM.slice
                replace hb := hb.frame sM (by simp)
                replace hz := hz.frame sM (by simpa using hi.2.symm)
                replace hrowC := hrowC.frame sM (by simpa using hj.2.1)
                replace st := st.nil.trans sM
                refine hK.out _ _ ?_ (fun hHeld => ?_)
                · exact hz.facts6.1
                clear hK K'
                try simp only [Act.put, List.setIfInBounds_toArray, List.set_cons_zero, List.set_cons_succ]
                refine wpAnyH_take (i := 17) (oi := ?_) (v := ?_) ?_ (by kernel_rfl) (by kernel_rfl) (by kernel_rfl) ?_ (Or.inl ⟨?_, ?_⟩) ?_ ?_; rotate_left 2
                · (simp only [List.getElem?_toArray, List.getElem?_cons_succ, List.getElem?_cons_zero]; rfl)
                · exact fun _ _ _ h => h
                · rfl
                · (intro w hSw; (try dsimp only at hSw); obtain ⟨s0, s1, s2, s3, s4, s5⟩ := hSw; first | (go_simp; done) | (go_simp; with_reducible rfl))
                · assumption
                try simp only [Act.put, List.setIfInBounds_toArray, List.set_cons_zero, List.set_cons_succ]
                refine wpAnyH_take (i := 18) (oi := ?_) (v := ?_) ?_ (by kernel_rfl) (by kernel_rfl) (by kernel_rfl) ?_ (Or.inl ⟨?_, ?_⟩) ?_ ?_; rotate_left 2
                · (simp only [List.getElem?_toArray, List.getElem?_cons_succ, List.getElem?_cons_zero]; rfl)
                · exact fun _ _ _ h => h
                · rfl
                · (intro w hSw; (try dsimp only at hSw); obtain ⟨s0, s1, s2, s3, s4, s5⟩ := hSw; first | (go_simp; done) | (go_simp; with_reducible rfl))
                · assumption
                try simp only [Act.put, List.setIfInBounds_toArray, List.set_cons_zero, List.set_cons_succ]
                refine wpAnyH_ready (rs := [19]) (by kernel_rfl) (by simp) ?_
                refine AllReadyH.cons (o := ?_) ?_ ?_ ?_; rotate_left 1
                · (simp only [List.getElem?_toArray, List.getElem?_cons_succ, List.getElem?_cons_zero]; rfl)
                · intro K' hK
                  have hcb := hb.cell0
                  have hfb := hb.frozen 0
                  go_simp
                  refine hK.out _ _ ?_ (fun hHeld => ?_)
                  · exact (hz.setOther (g := b) (fun e => by have h1 := hz.own; have h2 := hb.own; rw [e, h2] at h1; exact hi.1 h1) 0 _).facts6.1
                  clear hK K'
                  try simp only [Act.put, List.setIfInBounds_toArray, List.set_cons_zero, List.set_cons_succ]
                  refine wpAnyH_done (by kernel_rfl) ?_ _
                  go_wp2_with fail
                  go_ret2
                  have hrN : Row wM oM (i + 1) 30 6 (.slice aM (n + 1) cM) (fl ++ [((⟨3, a, c, x', y, .slice ac l.length cc⟩ : Fr), l, j)]).length (frs ((fl ++ [((⟨3, a, c, x', y, .slice ac l.length cc⟩ : Fr), l, j)]).map Prod.fst)) := by
                    rw [List.length_append, List.length_singleton, HN.out, List.map_append, List.map_singleton, frs_app]
                    exact hM
                  obtain ⟨g1, g2⟩ := RT.put hb hrN (by rw [List.length_append, List.length_singleton, HN.out]; omega) (fun p hp => by
                    rcases List.mem_append.1 hp with hp | hp
                    · obtain ⟨q1, q2, q3, q4, q5⟩ := HL.out p hp
                      exact ⟨q1, q2, q3, q4, q5.frame st (by simpa using q3)⟩
                    · rw [List.mem_singleton] at hp
                      subst hp
                      exact ⟨HLL.out, hj.1, hj.2.1, hj.2.2, hrowC⟩)
                  first | exact ⟨oM, _, rfl, g1, (st.weaken (by simp)).trans (g2.weaken (by simp))⟩ | exact ⟨rfl, oM, ⟨_, g1⟩, (st.weaken (by simp)).trans (g2.weaken (by simp))⟩ | exact ⟨rfl, oM, _, g1, (st.weaken (by simp)).trans (g2.weaken (by simp))⟩
                exact AllReadyH.nil
              exact AllReadyH.nil
            exact AllReadyH.nil
          exact AllReadyH.nil
        exact AllReadyH.nil
      refine AllReadyH.cons (o := ?_) ?_ ?_ ?_; rotate_left 1
      · (simp only [List.getElem?_toArray, List.getElem?_cons_succ, List.getElem?_cons_zero]; rfl)
      · intro K' hK
        go_simp
        obtain ⟨jX, hX⟩ := hb.freshR 3 a c x' y (.slice ac l.length cc)
        replace hb := hb.frame ((Step.refl [] _ _).alloc (.cells #[.int .i64 3, .int .i64 a, .int .i64 c, .int .i64 x', .int .i64 y, .slice ac l.length cc] 30)) (by simp)
        replace hz := hz.frame ((Step.refl [] _ _).alloc (.cells #[.int .i64 3, .int .i64 a, .int .i64 c, .int .i64 x', .int .i64 y, .slice ac l.length cc] 30)) (by simp)
        replace hrowC := hrowC.frame ((Step.refl [] _ _).alloc (.cells #[.int .i64 3, .int .i64 a, .int .i64 c, .int .i64 x', .int .i64 y, .slice ac l.length cc] 30)) (by simp)
        replace hpre := hpre.frame ((Step.refl [] _ _).alloc (.cells #[.int .i64 3, .int .i64 a, .int .i64 c, .int .i64 x', .int .i64 y, .slice ac l.length cc] 30)) (by simp)
        replace st := st.trans ((Step.refl [] _ _).alloc (.cells #[.int .i64 3, .int .i64 a, .int .i64 c, .int .i64 x', .int .i64 y, .slice ac l.length cc] 30))
        refine hK.out _ _ ?_ (fun hHeld => ?_)
        · exact hz.facts6.1
        clear hK K'
        try simp only [Act.put, List.setIfInBounds_toArray, List.set_cons_zero, List.set_cons_succ]
        refine wpAnyH_ready (rs := [1, 5]) (by kernel_rfl) (by simp) ?_
        refine AllReadyH.cons (o := ?_) ?_ ?_ ?_; rotate_left 1
        · (simp only [List.getElem?_toArray, List.getElem?_cons_succ, List.getElem?_cons_zero]; rfl)
        · intro K' hK
          go_simp
          replace hb := hb.frame ((Step.refl [] _ _).alloc (.cells #[] 30)) (by simp)
          replace hz := hz.frame ((Step.refl [] _ _).alloc (.cells #[] 30)) (by simp)
          replace hrowC := hrowC.frame ((Step.refl [] _ _).alloc (.cells #[] 30)) (by simp)
          replace hpre := hpre.frame ((Step.refl [] _ _).alloc (.cells #[] 30)) (by simp)
          replace hX := hX.frame ((Step.refl [] _ _).alloc (.cells #[] 30)) (by simp)
          replace st := st.trans ((Step.refl [] _ _).alloc (.cells #[] 30))
          refine hK.out _ _ ?_ (fun hHeld => ?_)
          · exact hz.facts6.1
          clear hK K'
          try simp only [Act.put, List.setIfInBounds_toArray, List.set_cons_zero, List.set_cons_succ]
          refine wpAnyH_ready (rs := [5]) (by kernel_rfl) (by simp) ?_
          refine AllReadyH.cons (o := ?_) ?_ ?_ ?_; rotate_left 1
          · (simp only [List.getElem?_toArray, List.getElem?_cons_succ, List.getElem?_cons_zero]; rfl)
          · intro K' hK
            have hcb := hb.cell0
            go_simp
            clear hcb
            refine hK.out _ _ ?_ (fun hHeld => ?_)
            · exact hz.facts6.1
            clear hK K'
            try simp only [Act.put, List.setIfInBounds_toArray, List.set_cons_zero, List.set_cons_succ]
            refine wpAnyH_take (i := 12) (oi := ?_) (v := ?_) ?_ (by kernel_rfl) (by kernel_rfl) (by kernel_rfl) ?_ (Or.inl ⟨?_, ?_⟩) ?_ ?_; rotate_left 2
            · (simp only [List.getElem?_toArray, List.getElem?_cons_succ, List.getElem?_cons_zero]; rfl)
            · exact fun _ _ _ h => h
            · rfl
            · (intro w hSw; (try dsimp only at hSw); obtain ⟨s0, s1, s2, s3, s4, s5⟩ := hSw; first | (go_simp; done) | (go_simp; with_reducible rfl))
            · assumption
            try simp only [Act.put, List.setIfInBounds_toArray, List.set_cons_zero, List.set_cons_succ]
            refine wpAnyH_ready (rs := [13]) (by kernel_rfl) (by simp) ?_
            refine AllReadyH.cons (o := ?_) ?_ ?_ ?_; rotate_left 1
            · (simp only [List.getElem?_toArray, List.getElem?_cons_succ, List.getElem?_cons_zero]; rfl)
            · intro K' hK
              refine step_app0 (.tmp 72) (.tmp 83) 38 rfl o3 (i + 1) Try.underlying38 info30 rfl (by rfl) (by rfl) (by rfl) hpre (by omega) (by omega) ?_
              intro vN wN oN hN sN
              obtain ⟨aN, cN, rfl, -, -⟩ := hN.slice
              replace hb := hb.frame sN (by simp)
              replace hz := hz.frame sN (by simp)
              replace hrowC := hrowC.frame sN (by simp)
              replace hpre := hpre.frame sN (by simp)
              replace hX := hX.frame sN (by simp)
              replace st := st.trans sN
              refine hK.out _ _ ?_ (fun hHeld => ?_)
              · exact hz.facts6.1
              clear hK K'
              try simp only [Act.put, List.setIfInBounds_toArray, List.set_cons_zero, List.set_cons_succ]
              refine wpAnyH_ready (rs := [16]) (by kernel_rfl) (by simp) ?_
              refine AllReadyH.cons (o := ?_) ?_ ?_ ?_; rotate_left 1
              · (simp only [List.getElem?_toArray, List.getElem?_cons_succ, List.getElem?_cons_zero]; rfl)
              · intro K' hK
                refine step_app (.tmp 84) (.tmp 86) 38 rfl Try.underlying38 info30 rfl (by rfl) (by rfl) hN (by first | rfl | simp [Act.eval, Act.put]) hX (by simp [Value.oneCell']) (by omega) (by omega) ?_
                intro vM wM oM hM sM
                obtain ⟨aM, cM, rfl, -, -⟩ := hM.slice
                replace hb := hb.frame sM (by simp)
                replace hz := hz.frame sM (by simpa using hi.2.symm)
                replace hrowC := hrowC.frame sM (by simpa using hj.2.1)
                replace st := st.nil.trans sM
                refine hK.out _ _ ?_ (fun hHeld => ?_)
                · exact hz.facts6.1
                clear hK K'
                try simp only [Act.put, List.setIfInBounds_toArray, List.set_cons_zero, List.set_cons_succ]
                refine wpAnyH_take (i := 17) (oi := ?_) (v := ?_) ?_ (by kernel_rfl) (by kernel_rfl) (by kernel_rfl) ?_ (Or.inl ⟨?_, ?_⟩) ?_ ?_; rotate_left 2
                · (simp only [List.getElem?_toArray, List.getElem?_cons_succ, List.getElem?_cons_zero]; rfl)
                · exact fun _ _ _ h => h
                · rfl
                · (intro w hSw; (try dsimp only at hSw); obtain ⟨s0, s1, s2, s3, s4, s5⟩ := hSw; first | (go_simp; done) | (go_simp; with_reducible rfl))
                · assumption
                try simp only [Act.put, List.setIfInBounds_toArray, List.set_cons_zero, List.set_cons_succ]
                refine wpAnyH_take (i := 18) (oi := ?_) (v := ?_) ?_ (by kernel_rfl) (by kernel_rfl) (by kernel_rfl) ?_ (Or.inl ⟨?_, ?_⟩) ?_ ?_; rotate_left 2
                · (simp only [List.getElem?_toArray, List.getElem?_cons_succ, List.getElem?_cons_zero]; rfl)
                · exact fun _ _ _ h => h
                · rfl
                · (intro w hSw; (try dsimp only at hSw); obtain ⟨s0, s1, s2, s3, s4, s5⟩ := hSw; first | (go_simp; done) | (go_simp; with_reducible rfl))
                · assumption
                try simp only [Act.put, List.setIfInBounds_toArray, List.set_cons_zero, List.set_cons_succ]
                refine wpAnyH_ready (rs := [19]) (by kernel_rfl) (by simp) ?_
                refine AllReadyH.cons (o := ?_) ?_ ?_ ?_; rotate_left 1
                · (simp only [List.getElem?_toArray, List.getElem?_cons_succ, List.getElem?_cons_zero]; rfl)
                · intro K' hK
                  have hcb := hb.cell0
                  have hfb := hb.frozen 0
                  go_simp
                  refine hK.out _ _ ?_ (fun hHeld => ?_)
                  · exact (hz.setOther (g := b) (fun e => by have h1 := hz.own; have h2 := hb.own; rw [e, h2] at h1; exact hi.1 h1) 0 _).facts6.1
                  clear hK K'
                  try simp only [Act.put, List.setIfInBounds_toArray, List.set_cons_zero, List.set_cons_succ]
                  refine wpAnyH_done (by kernel_rfl) ?_ _
                  go_wp2_with fail
                  go_ret2
                  have hrN : Row wM oM (i + 1) 30 6 (.slice aM (n + 1) cM) (fl ++ [((⟨3, a, c, x', y, .slice ac l.length cc⟩ : Fr), l, j)]).length (frs ((fl ++ [((⟨3, a, c, x', y, .slice ac l.length cc⟩ : Fr), l, j)]).map Prod.fst)) := by
                    rw [List.length_append, List.length_singleton, HN.out, List.map_append, List.map_singleton, frs_app]
                    exact hM
                  obtain ⟨g1, g2⟩ := RT.put hb hrN (by rw [List.length_append, List.length_singleton, HN.out]; omega) (fun p hp => by
                    rcases List.mem_append.1 hp with hp | hp
                    · obtain ⟨q1, q2, q3, q4, q5⟩ := HL.out p hp
                      exact ⟨q1, q2, q3, q4, q5.frame st (by simpa using q3)⟩
                    · rw [List.mem_singleton] at hp
                      subst hp
                      exact ⟨HLL.out, hj.1, hj.2.1, hj.2.2, hrowC⟩)
                  first | exact ⟨oM, _, rfl, g1, (st.weaken (by simp)).trans (g2.weaken (by simp))⟩ | exact ⟨rfl, oM, ⟨_, g1⟩, (st.weaken (by simp)).trans (g2.weaken (by simp))⟩ | exact ⟨rfl, oM, _, g1, (st.weaken (by simp)).trans (g2.weaken (by simp))⟩
                exact AllReadyH.nil
              exact AllReadyH.nil
            exact AllReadyH.nil
          exact AllReadyH.nil
        refine AllReadyH.cons (o := ?_) ?_ ?_ ?_; rotate_left 1
        · (simp only [List.getElem?_toArray, List.getElem?_cons_succ, List.getElem?_cons_zero]; rfl)
        · intro K' hK
          have hcb := hb.cell0
          go_simp
          clear hcb
          refine hK.out _ _ ?_ (fun hHeld => ?_)
          · exact hz.facts6.1
          clear hK K'
          try simp only [Act.put, List.setIfInBounds_toArray, List.set_cons_zero, List.set_cons_succ]
          refine wpAnyH_take (i := 12) (oi := ?_) (v := ?_) ?_ (by kernel_rfl) (by kernel_rfl) (by kernel_rfl) ?_ (Or.inl ⟨?_, ?_⟩) ?_ ?_; rotate_left 2
          · (simp only [List.getElem?_toArray, List.getElem?_cons_succ, List.getElem?_cons_zero]; rfl)
          · exact fun _ _ _ h => h
          · rfl
          · (intro w hSw; (try dsimp only at hSw); obtain ⟨s0, s1, s2, s3, s4, s5⟩ := hSw; first | (go_simp; done) | (go_simp; with_reducible rfl))
          · assumption
          try simp only [Act.put, List.setIfInBounds_toArray, List.set_cons_zero, List.set_cons_succ]
          refine wpAnyH_ready (rs := [1]) (by kernel_rfl) (by simp) ?_
          refine AllReadyH.cons (o := ?_) ?_ ?_ ?_; rotate_left 1
          · (simp only [List.getElem?_toArray, List.getElem?_cons_succ, List.getElem?_cons_zero]; rfl)
          · intro K' hK
            go_simp
            replace hb := hb.frame ((Step.refl [] _ _).alloc (.cells #[] 30)) (by simp)
            replace hz := hz.frame ((Step.refl [] _ _).alloc (.cells #[] 30)) (by simp)
            replace hrowC := hrowC.frame ((Step.refl [] _ _).alloc (.cells #[] 30)) (by simp)
            replace hpre := hpre.frame ((Step.refl [] _ _).alloc (.cells #[] 30)) (by simp)
            replace hX := hX.frame ((Step.refl [] _ _).alloc (.cells #[] 30)) (by simp)
            replace st := st.trans ((Step.refl [] _ _).alloc (.cells #[] 30))
            refine hK.out _ _ ?_ (fun hHeld => ?_)
            · exact hz.facts6.1
            clear hK K'
            try simp only [Act.put, List.setIfInBounds_toArray, List.set_cons_zero, List.set_cons_succ]
            refine wpAnyH_ready (rs := [13]) (by kernel_rfl) (by simp) ?_
            refine AllReadyH.cons (o := ?_) ?_ ?_ ?_; rotate_left 1
            · (simp only [List.getElem?_toArray, List.getElem?_cons_succ, List.getElem?_cons_zero]; rfl)
            · intro K' hK
              refine step_app0 (.tmp 72) (.tmp 83) 38 rfl o3 (i + 1) Try.underlying38 info30 rfl (by rfl) (by rfl) (by rfl) hpre (by omega) (by omega) ?_
              intro vN wN oN hN sN
              obtain ⟨aN, cN, rfl, -, -⟩ := hN.slice
              replace hb := hb.frame sN (by simp)
              replace hz := hz.frame sN (by simp)
              replace hrowC := hrowC.frame sN (by simp)
              replace hpre := hpre.frame sN (by simp)
              replace hX := hX.frame sN (by simp)
              replace st := st.trans sN
              refine hK.out _ _ ?_ (fun hHeld => ?_)
              · exact hz.facts6.1
              clear hK K'
              try simp only [Act.put, List.setIfInBounds_toArray, List.set_cons_zero, List.set_cons_succ]
              refine wpAnyH_ready (rs := [16]) (by kernel_rfl) (by simp) ?_
              refine AllReadyH.cons (o := ?_) ?_ ?_ ?_; rotate_left 1
              · (simp only [List.getElem?_toArray, List.getElem?_cons_succ, List.getElem?_cons_zero]; rfl)
              · intro K' hK
                refine step_app (.tmp 84) (.tmp 86) 38 rfl Try.underlying38 info30 rfl (by rfl) (by rfl) hN (by first | rfl | simp [Act.eval, Act.put]) hX (by simp [Value.oneCell']) (by omega) (by omega) ?_
                intro vM wM oM hM sM
                obtain ⟨aM, cM, rfl, -, -⟩ := hM.slice
                replace hb := hb.frame sM (by simp)
                replace hz := hz.frame sM (by simpa using hi.2.symm)
                replace hrowC := hrowC.frame sM (by simpa using hj.2.1)
                replace st := st.nil.trans sM
                refine hK.out _ _ ?_ (fun hHeld => ?_)
                · exact hz.facts6.1
                clear hK K'
                try simp only [Act.put, List.setIfInBounds_toArray, List.set_cons_zero, List.set_cons_succ]
                refine wpAnyH_take (i := 17) (oi := ?_) (v := ?_) ?_ (by kernel_rfl) (by kernel_rfl) (by kernel_rfl) ?_ (Or.inl ⟨?_, ?_⟩) ?_ ?_; rotate_left 2
                · (simp only [List.getElem?_toArray, List.getElem?_cons_succ, List.getElem?_cons_zero]; rfl)
                · exact fun _ _ _ h => h
                · rfl
                · (intro w hSw; (try dsimp only at hSw); obtain ⟨s0, s1, s2, s3, s4, s5⟩ := hSw; first | (go_simp; done) | (go_simp; with_reducible rfl))
                · assumption
                try simp only [Act.put, List.setIfInBounds_toArray, List.set_cons_zero, List.set_cons_succ]
                refine wpAnyH_take (i := 18) (oi := ?_) (v := ?_) ?_ (by kernel_rfl) (by kernel_rfl) (by kernel_rfl) ?_ (Or.inl ⟨?_, ?_⟩) ?_ ?_; rotate_left 2
                · (simp only [List.getElem?_toArray, List.getElem?_cons_succ, List.getElem?_cons_zero]; rfl)
                · exact fun _ _ _ h => h
                · rfl
                · (intro w hSw; (try dsimp only at hSw); obtain ⟨s0, s1, s2, s3, s4, s5⟩ := hSw; first | (go_simp; done) | (go_simp; with_reducible rfl))
                · assumption
                try simp only [Act.put, List.setIfInBounds_toArray, List.set_cons_zero, List.set_cons_succ]
                refine wpAnyH_ready (rs := [19]) (by kernel_rfl) (by simp) ?_
                refine AllReadyH.cons (o := ?_) ?_ ?_ ?_; rotate_left 1
                · (simp only [List.getElem?_toArray, List.getElem?_cons_succ, List.getElem?_cons_zero]; rfl)
                · intro K' hK
                  have hcb := hb.cell0
                  have hfb := hb.frozen 0
                  go_simp
                  refine hK.out _ _ ?_ (fun hHeld => ?_)
                  · exact (hz.setOther (g := b) (fun e => by have h1 := hz.own; have h2 := hb.own; rw [e, h2] at h1; exact hi.1 h1) 0 _).facts6.1
                  clear hK K'
                  try simp only [Act.put, List.setIfInBounds_toArray, List.set_cons_zero, List.set_cons_succ]
                  refine wpAnyH_done (by kernel_rfl) ?_ _
                  go_wp2_with fail
                  go_ret2
                  have hrN : Row wM oM (i + 1) 30 6 (.slice aM (n + 1) cM) (fl ++ [((⟨3, a, c, x', y, .slice ac l.length cc⟩ : Fr), l, j)]).length (frs ((fl ++ [((⟨3, a, c, x', y, .slice ac l.length cc⟩ : Fr), l, j)]).map Prod.fst)) := by
                    rw [List.length_append, List.length_singleton, HN.out, List.map_append, List.map_singleton, frs_app]
                    exact hM
                  obtain ⟨g1, g2⟩ := RT.put hb hrN (by rw [List.length_append, List.length_singleton, HN.out]; omega) (fun p hp => by
                    rcases List.mem_append.1 hp with hp | hp
                    · obtain ⟨q1, q2, q3, q4, q5⟩ := HL.out p hp
                      exact ⟨q1, q2, q3, q4, q5.frame st (by simpa using q3)⟩
                    · rw [List.mem_singleton] at hp
                      subst hp
                      exact ⟨HLL.out, hj.1, hj.2.1, hj.2.2, hrowC⟩)
                  first | exact ⟨oM, _, rfl, g1, (st.weaken (by simp)).trans (g2.weaken (by simp))⟩ | exact ⟨rfl, oM, ⟨_, g1⟩, (st.weaken (by simp)).trans (g2.weaken (by simp))⟩ | exact ⟨rfl, oM, _, g1, (st.weaken (by simp)).trans (g2.weaken (by simp))⟩
                exact AllReadyH.nil
              exact AllReadyH.nil
            exact AllReadyH.nil
          exact AllReadyH.nil
        exact AllReadyH.nil
      exact AllReadyH.nil
    refine AllReadyH.cons (o := ?_) ?_ ?_ ?_; rotate_left 1
    · (simp only [List.getElem?_toArray, List.getElem?_cons_succ, List.getElem?_cons_zero]; rfl)
    · intro K' hK
      go_simp
      obtain ⟨jX, hX⟩ := hb.freshR 3 a c x' y (.slice ac l.length cc)
      replace hb := hb.frame ((Step.refl [] _ _).alloc (.cells #[.int .i64 3, .int .i64 a, .int .i64 c, .int .i64 x', .int .i64 y, .slice ac l.length cc] 30)) (by simp)
      replace hz := hz.frame ((Step.refl [] _ _).alloc (.cells #[.int .i64 3, .int .i64 a, .int .i64 c, .int .i64 x', .int .i64 y, .slice ac l.length cc] 30)) (by simp)
      replace hrowC := hrowC.frame ((Step.refl [] _ _).alloc (.cells #[.int .i64 3, .int .i64 a, .int .i64 c, .int .i64 x', .int .i64 y, .slice ac l.length cc] 30)) (by simp)
      replace hpre := hpre.frame ((Step.refl [] _ _).alloc (.cells #[.int .i64 3, .int .i64 a, .int .i64 c, .int .i64 x', .int .i64 y, .slice ac l.length cc] 30)) (by simp)
      replace st := st.trans ((Step.refl [] _ _).alloc (.cells #[.int .i64 3, .int .i64 a, .int .i64 c, .int .i64 x', .int .i64 y, .slice ac l.length cc] 30))
      refine hK.out _ _ ?_ (fun hHeld => ?_)
      · exact hz.facts6.1
      clear hK K'
      try simp only [Act.put, List.setIfInBounds_toArray, List.set_cons_zero, List.set_cons_succ]
      refine wpAnyH_ready (rs := [1, 5, 9]) (by kernel_rfl) (by simp) ?_
      refine AllReadyH.cons (o := ?_) ?_ ?_ ?_; rotate_left 1
      · (simp only [List.getElem?_toArray, List.getElem?_cons_succ, List.getElem?_cons_zero]; rfl)
      · intro K' hK
        go_simp
        replace hb := hb.frame ((Step.refl [] _ _).alloc (.cells #[] 30)) (by simp)
        replace hz := hz.frame ((Step.refl [] _ _).alloc (.cells #[] 30)) (by simp)
        replace hrowC := hrowC.frame ((Step.refl [] _ _).alloc (.cells #[] 30)) (by simp)
        replace hpre := hpre.frame ((Step.refl [] _ _).alloc (.cells #[] 30)) (by simp)
        replace hX := hX.frame ((Step.refl [] _ _).alloc (.cells #[] 30)) (by simp)
        replace st := st.trans ((Step.refl [] _ _).alloc (.cells #[] 30))
        refine hK.out _ _ ?_ (fun hHeld => ?_)
        · exact hz.facts6.1
        clear hK K'
        try simp only [Act.put, List.setIfInBounds_toArray, List.set_cons_zero, List.set_cons_succ]
        refine wpAnyH_ready (rs := [5, 9]) (by kernel_rfl) (by simp) ?_
        refine AllReadyH.cons (o := ?_) ?_ ?_ ?_; rotate_left 1
        · (simp only [List.getElem?_toArray, List.getElem?_cons_succ, List.getElem?_cons_zero]; rfl)
        · intro K' hK
          have hcb := hb.cell0
          go_simp
          clear hcb
          refine hK.out _ _ ?_ (fun hHeld => ?_)
          · exact hz.facts6.1
          clear hK K'
          try simp only [Act.put, List.setIfInBounds_toArray, List.set_cons_zero, List.set_cons_succ]
          refine wpAnyH_ready (rs := [9]) (by kernel_rfl) (by simp) ?_
          refine AllReadyH.cons (o := ?_) ?_ ?_ ?_; rotate_left 1
          · (simp only [List.getElem?_toArray, List.getElem?_cons_succ, List.getElem?_cons_zero]; rfl)
          · intro K' hK
            have hcb := hb.cell0
            go_simp
            clear hcb
            refine hK.out _ _ ?_ (fun hHeld => ?_)
            · exact hz.facts6.1
            clear hK K'
            try simp only [Act.put, List.setIfInBounds_toArray, List.set_cons_zero, List.set_cons_succ]
            refine wpAnyH_take (i := 10) (oi := ?_) (v := ?_) ?_ (by kernel_rfl) (by kernel_rfl) (by kernel_rfl) ?_ (Or.inl ⟨?_, ?_⟩) ?_ ?_; rotate_left 2
            · (simp only [List.getElem?_toArray, List.getElem?_cons_succ, List.getElem?_cons_zero]; rfl)
            · exact fun _ _ _ h => h
            · rfl
            · (intro w hSw; (try dsimp only at hSw); obtain ⟨s0, s1, s2, s3, s4, s5⟩ := hSw; first | (go_simp; done) | (go_simp; with_reducible rfl))
            · assumption
            try simp only [Act.put, List.setIfInBounds_toArray, List.set_cons_zero, List.set_cons_succ]
            refine wpAnyH_take (i := 11) (oi := ?_) (v := ?_) ?_ (by kernel_rfl) (by kernel_rfl) (by kernel_rfl) ?_ (Or.inl ⟨?_, ?_⟩) ?_ ?_; rotate_left 2
            · (simp only [List.getElem?_toArray, List.getElem?_cons_succ, List.getElem?_cons_zero]; rfl)
            · exact fun _ _ _ h => h
            · rfl
            · (intro w hSw; (try dsimp only at hSw); obtain ⟨s0, s1, s2, s3, s4, s5⟩ := hSw; first | (go_simp; done) | (go_simp; with_reducible rfl))
            · assumption
            try simp only [Act.put, List.setIfInBounds_toArray, List.set_cons_zero, List.set_cons_succ]
            refine wpAnyH_take (i := 12) (oi := ?_) (v := ?_) ?_ (by kernel_rfl) (by kernel_rfl) (by kernel_rfl) ?_ (Or.inl ⟨?_, ?_⟩) ?_ ?_; rotate_left 2
            · (simp only [List.getElem?_toArray, List.getElem?_cons_succ, List.getElem?_cons_zero]; rfl)
            · exact fun _ _ _ h => h
            · rfl
            · (intro w hSw; (try dsimp only at hSw); obtain ⟨s0, s1, s2, s3, s4, s5⟩ := hSw; first | (go_simp; done) | (go_simp; with_reducible rfl))
            · assumption
            try simp only [Act.put, List.setIfInBounds_toArray, List.set_cons_zero, List.set_cons_succ]
            refine wpAnyH_ready (rs := [13]) (by kernel_rfl) (by simp) ?_
            refine AllReadyH.cons (o := ?_) ?_ ?_ ?_; rotate_left 1
            · (simp only [List.getElem?_toArray, List.getElem?_cons_succ, List.getElem?_cons_zero]; rfl)
            · intro K' hK
              refine step_app0 (.tmp 72) (.tmp 83) 38 rfl o3 (i + 1) Try.underlying38 info30 rfl (by rfl) (by rfl) (by rfl) hpre (by omega) (by omega) ?_
              intro vN wN oN hN sN
              obtain ⟨aN, cN, rfl, -, -⟩ := hN.slice
              replace hb := hb.frame sN (by simp)
              replace hz := hz.frame sN (by simp)
              replace hrowC := hrowC.frame sN (by simp)
              replace hpre := hpre.frame sN (by simp)
              replace hX := hX.frame sN (by simp)
              replace st := st.trans sN
              refine hK.out _ _ ?_ (fun hHeld => ?_)
              · exact hz.facts6.1
              clear hK K'
              try simp only [Act.put, List.setIfInBounds_toArray, List.set_cons_zero, List.set_cons_succ]
              refine wpAnyH_ready (rs := [16]) (by kernel_rfl) (by simp) ?_
              refine AllReadyH.cons (o := ?_) ?_ ?_ ?_; rotate_left 1
              · (simp only [List.getElem?_toArray, List.getElem?_cons_succ, List.getElem?_cons_zero]; rfl)
              · intro K' hK
                refine step_app (.tmp 84) (.tmp 86) 38 rfl Try.underlying38 info30 rfl (by rfl) (by rfl) hN (by first | rfl | simp [Act.eval, Act.put]) hX (by simp [Value.oneCell']) (by omega) (by omega) ?_
                intro vM wM oM hM sM
                obtain ⟨aM, cM, rfl, -, -⟩ := hM.slice
                replace hb := hb.frame sM (by simp)
                replace hz := hz.frame sM (by simpa using hi.2.symm)
                replace hrowC := hrowC.frame sM (by simpa using hj.2.1)
                replace st := st.nil.trans sM
                refine hK.out _ _ ?_ (fun hHeld => ?_)
                · exact hz.facts6.1
                clear hK K'
                try simp only [Act.put, List.setIfInBounds_toArray, List.set_cons_zero, List.set_cons_succ]
                refine wpAnyH_take (i := 17) (oi := ?_) (v := ?_) ?_ (by kernel_rfl) (by kernel_rfl) (by kernel_rfl) ?_ (Or.inl ⟨?_, ?_⟩) ?_ ?_; rotate_left 2
                · (simp only [List.getElem?_toArray, List.getElem?_cons_succ, List.getElem?_cons_zero]; rfl)
                · exact fun _ _ _ h => h
                · rfl
                · (intro w hSw; (try dsimp only at hSw); obtain ⟨s0, s1, s2, s3, s4, s5⟩ := hSw; first | (go_simp; done) | (go_simp; with_reducible rfl))
                · assumption
                try simp only [Act.put, List.setIfInBounds_toArray, List.set_cons_zero, List.set_cons_succ]
                refine wpAnyH_take (i := 18) (oi := ?_) (v := ?_) ?_ (by kernel_rfl) (by kernel_rfl) (by kernel_rfl) ?_ (Or.inl ⟨?_, ?_⟩) ?_ ?_; rotate_left 2
                · (simp only [List.getElem?_toArray, List.getElem?_cons_succ, List.getElem?_cons_zero]; rfl)
                · exact fun _ _ _ h => h
                · rfl
                · (intro w hSw; (try dsimp only at hSw); obtain ⟨s0, s1, s2, s3, s4, s5⟩ := hSw; first | (go_simp; done) | (go_simp; with_reducible rfl))
                · assumption
                try simp only [Act.put, List.setIfInBounds_toArray, List.set_cons_zero, List.set_cons_succ]
                refine wpAnyH_ready (rs := [19]) (by kernel_rfl) (by simp) ?_
                refine AllReadyH.cons (o := ?_) ?_ ?_ ?_; rotate_left 1
                · (simp only [List.getElem?_toArray, List.getElem?_cons_succ, List.getElem?_cons_zero]; rfl)
                · intro K' hK
                  have hcb := hb.cell0
                  have hfb := hb.frozen 0
                  go_simp
                  refine hK.out _ _ ?_ (fun hHeld => ?_)
                  · exact (hz.setOther (g := b) (fun e => by have h1 := hz.own; have h2 := hb.own; rw [e, h2] at h1; exact hi.1 h1) 0 _).facts6.1
                  clear hK K'
                  try simp only [Act.put, List.setIfInBounds_toArray, List.set_cons_zero, List.set_cons_succ]
                  refine wpAnyH_done (by kernel_rfl) ?_ _
                  go_wp2_with fail
                  go_ret2
                  have hrN : Row wM oM (i + 1) 30 6 (.slice aM (n + 1) cM) (fl ++ [((⟨3, a, c, x', y, .slice ac l.length cc⟩ : Fr), l, j)]).length (frs ((fl ++ [((⟨3, a, c, x', y, .slice ac l.length cc⟩ : Fr), l, j)]).map Prod.fst)) := by
                    rw [List.length_append, List.length_singleton, HN.out, List.map_append, List.map_singleton, frs_app]
                    exact hM
                  obtain ⟨g1, g2⟩ := RT.put hb hrN (by rw [List.length_append, List.length_singleton, HN.out]; omega) (fun p hp => by
                    rcases List.mem_append.1 hp with hp | hp
                    · obtain ⟨q1, q2, q3, q4, q5⟩ := HL.out p hp
                      exact ⟨q1, q2, q3, q4, q5.frame st (by simpa using q3)⟩
                    · rw [List.mem_singleton] at hp
                      subst hp
                      exact ⟨HLL.out, hj.1, hj.2.1, hj.2.2, hrowC⟩)
                  first | exact ⟨oM, _, rfl, g1, (st.weaken (by simp)).trans (g2.weaken (by simp))⟩ | exact ⟨rfl, oM, ⟨_, g1⟩, (st.weaken (by simp)).trans (g2.weaken (by simp))⟩ | exact ⟨rfl, oM, _, g1, (st.weaken (by simp)).trans (g2.weaken (by simp))⟩
                exact AllReadyH.nil
              exact AllReadyH.nil
            exact AllReadyH.nil
          exact AllReadyH.nil
        refine AllReadyH.cons (o := ?_) ?_ ?_ ?_; rotate_left 1
        · (simp only [List.getElem?_toArray, List.getElem?_cons_succ, List.getElem?_cons_zero]; rfl)
        · intro K' hK
          have hcb := hb.cell0
          go_simp
          clear hcb
          refine hK.out _ _ ?_ (fun hHeld => ?_)
          · exact hz.facts6.1
          clear hK K'
          try simp only [Act.put, List.setIfInBounds_toArray, List.set_cons_zero, List.set_cons_succ]
          refine wpAnyH_take (i := 10) (oi := ?_) (v := ?_) ?_ (by kernel_rfl) (by kernel_rfl) (by kernel_rfl) ?_ (Or.inl ⟨?_, ?_⟩) ?_ ?_; rotate_left 2
          · (simp only [List.getElem?_toArray, List.getElem?_cons_succ, List.getElem?_cons_zero]; rfl)
          · exact fun _ _ _ h => h
          · rfl
          · (intro w hSw; (try dsimp only at hSw); obtain ⟨s0, s1, s2, s3, s4, s5⟩ := hSw; first | (go_simp; done) | (go_simp; with_reducible rfl))
          · assumption
          try simp only [Act.put, List.setIfInBounds_toArray, List.set_cons_zero, List.set_cons_succ]
          refine wpAnyH_take (i := 11) (oi := ?_) (v := ?_) ?_ (by kernel_rfl) (by kernel_rfl) (by kernel_rfl) ?_ (Or.inl ⟨?_, ?_⟩) ?_ ?_; rotate_left 2
          · (simp only [List.getElem?_toArray, List.getElem?_cons_succ, List.getElem?_cons_zero]; rfl)
          · exact fun _ _ _ h => h
          · rfl
          · (intro w hSw; (try dsimp only at hSw); obtain ⟨s0, s1, s2, s3, s4, s5⟩ := hSw; first | (go_simp; done) | (go_simp; with_reducible rfl))
          · assumption
          try simp only [Act.put, List.setIfInBounds_toArray, List.set_cons_zero, List.set_cons_succ]
          refine wpAnyH_ready (rs := [5]) (by kernel_rfl) (by simp) ?_
          refine AllReadyH.cons (o := ?_) ?_ ?_ ?_; rotate_left 1
          · (simp only [List.getElem?_toArray, List.getElem?_cons_succ, List.getElem?_cons_zero]; rfl)
          · intro K' hK
            have hcb := hb.cell0
            go_simp
            clear hcb
            refine hK.out _ _ ?_ (fun hHeld => ?_)
            · exact hz.facts6.1
            clear hK K'
            try simp only [Act.put, List.setIfInBounds_toArray, List.set_cons_zero, List.set_cons_succ]
            refine wpAnyH_take (i := 12) (oi := ?_) (v := ?_) ?_ (by kernel_rfl) (by kernel_rfl) (by kernel_rfl) ?_ (Or.inl ⟨?_, ?_⟩) ?_ ?_; rotate_left 2
            · (simp only [List.getElem?_toArray, List.getElem?_cons_succ, List.getElem?_cons_zero]; rfl)
            · exact fun _ _ _ h => h
            · rfl
            · (intro w hSw; (try dsimp only at hSw); obtain ⟨s0, s1, s2, s3, s4, s5⟩ := hSw; first | (go_simp; done) | (go_simp; with_reducible rfl))
            · assumption
            try simp only [Act.put, List.setIfInBounds_toArray, List.set_cons_zero, List.set_cons_succ]
            refine wpAnyH_ready (rs := [13]) (by kernel_rfl) (by simp) ?_
            refine AllReadyH.cons (o := ?_) ?_ ?_ ?_; rotate_left 1
            · (simp only [List.getElem?_toArray, List.getElem?_cons_succ, List.getElem?_cons_zero]; rfl)
            · intro K' hK
              refine step_app0 (.tmp 72) (.tmp 83) 38 rfl o3 (i + 1) Try.underlying38 info30 rfl (by rfl) (by rfl) (by rfl) hpre (by omega) (by omega) ?_
              intro vN wN oN hN sN
              obtain ⟨aN, cN, rfl, -, -⟩ := hN.slice
              replace hb := hb.frame sN (by simp)
              replace hz := hz.frame sN (by simp)
              replace hrowC := hrowC.frame sN (by simp)
              replace hpre := hpre.frame sN (by simp)
              replace hX := hX.frame sN (by simp)
              replace st := st.trans sN
              refine hK.out _ _ ?_ (fun hHeld => ?_)
              · exact hz.facts6.1
              clear hK K'
              try simp only [Act.put, List.setIfInBounds_toArray, List.set_cons_zero, List.set_cons_succ]
              refine wpAnyH_ready (rs := [16]) (by kernel_rfl) (by simp) ?_
              refine AllReadyH.cons (o := ?_) ?_ ?_ ?_; rotate_left 1
              · (simp only [List.getElem?_toArray, List.getElem?_cons_succ, List.getElem?_cons_zero]; rfl)
              · intro K' hK
                refine step_app (.tmp 84) (.tmp 86) 38 rfl Try.underlying38 info30 rfl (by rfl) (by rfl) hN (by first | rfl | simp [Act.eval, Act.put]) hX (by simp [Value.oneCell']) (by omega) (by omega) ?_
                intro vM wM oM hM sM
                obtain ⟨aM, cM, rfl, -, -⟩ := hM.slice
                replace hb := hb.frame sM (by simp)
                replace hz := hz.frame sM (by simpa using hi.2.symm)
                replace hrowC := hrowC.frame sM (by simpa using hj.2.1)
                replace st := st.nil.trans sM
                refine hK.out _ _ ?_ (fun hHeld => ?_)
                · exact hz.facts6.1
                clear hK K'
                try simp only [Act.put, List.setIfInBounds_toArray, List.set_cons_zero, List.set_cons_succ]
                refine wpAnyH_take (i := 17) (oi := ?_) (v := ?_) ?_ (by kernel_rfl) (by kernel_rfl) (by kernel_rfl) ?_ (Or.inl ⟨?_, ?_⟩) ?_ ?_; rotate_left 2
                · (simp only [List.getElem?_toArray, List.getElem?_cons_succ, List.getElem?_cons_zero]; rfl)
                · exact fun _ _ _ h => h
                · rfl
                · (intro w hSw; (try dsimp only at hSw); obtain ⟨s0, s1, s2, s3, s4, s5⟩ := hSw; first | (go_simp; done) | (go_simp; with_reducible rfl))
                · assumption
                try simp only [Act.put, List.setIfInBounds_toArray, List.set_cons_zero, List.set_cons_succ]
                refine wpAnyH_take (i := 18) (oi := ?_) (v := ?_) ?_ (by kernel_rfl) (by kernel_rfl) (by kernel_rfl) ?_ (Or.inl ⟨?_, ?_⟩) ?_ ?_; rotate_left 2
                · (simp only [List.getElem?_toArray, List.getElem?_cons_succ, List.getElem?_cons_zero]; rfl)
                · exact fun _ _ _ h => h
                · rfl
                · (intro w hSw; (try dsimp only at hSw); obtain ⟨s0, s1, s2, s3, s4, s5⟩ := hSw; first | (go_simp; done) | (go_simp; with_reducible rfl))
                · assumption
                try simp only [Act.put, List.setIfInBounds_toArray, List.set_cons_zero, List.set_cons_succ]
                refine wpAnyH_ready (rs := [19]) (by kernel_rfl) (by simp) ?_
                refine AllReadyH.cons (o := ?_) ?_ ?_ ?_; rotate_left 1
                · (simp only [List.getElem?_toArray, List.getElem?_cons_succ, List.getElem?_cons_zero]; rfl)
                · intro K' hK
                  have hcb := hb.cell0
                  have hfb := hb.frozen 0
                  go_simp
                  refine hK.out _ _ ?_ (fun hHeld => ?_)
                  · exact (hz.setOther (g := b) (fun e => by have h1 := hz.own; have h2 := hb.own; rw [e, h2] at h1; exact hi.1 h1) 0 _).facts6.1
                  clear hK K'
                  try simp only [Act.put, List.setIfInBounds_toArray, List.set_cons_zero, List.set_cons_succ]
                  refine wpAnyH_done (by kernel_rfl) ?_ _
                  go_wp2_with fail
                  go_ret2
                  have hrN : Row wM oM (i + 1) 30 6 (.slice aM (n + 1) cM) (fl ++ [((⟨3, a, c, x', y, .slice ac l.length cc⟩ : Fr), l, j)]).length (frs ((fl ++ [((⟨3, a, c, x', y, .slice ac l.length cc⟩ : Fr), l, j)]).map Prod.fst)) := by
                    rw [List.length_append, List.length_singleton, HN.out, List.map_append, List.map_singleton, frs_app]
                    exact hM
                  obtain ⟨g1, g2⟩ := RT.put hb hrN (by rw [List.length_append, List.length_singleton, HN.out]; omega) (fun p hp => by
                    rcases List.mem_append.1 hp with hp | hp
                    · obtain ⟨q1, q2, q3, q4, q5⟩ := HL.out p hp
                      exact ⟨q1, q2, q3, q4, q5.frame st (by simpa using q3)⟩
                    · rw [List.mem_singleton] at hp
                      subst hp
                      exact ⟨HLL.out, hj.1, hj.2.1, hj.2.2, hrowC⟩)
                  first | exact ⟨oM, _, rfl, g1, (st.weaken (by simp)).trans (g2.weaken (by simp))⟩ | exact ⟨rfl, oM, ⟨_, g1⟩, (st.weaken (by simp)).trans (g2.weaken (by simp))⟩ | exact ⟨rfl, oM, _, g1, (st.weaken (by simp)).trans (g2.weaken (by simp))⟩
                exact AllReadyH.nil
              exact AllReadyH.nil
            exact AllReadyH.nil
          exact AllReadyH.nil
        exact AllReadyH.nil
      refine AllReadyH.cons (o := ?_) ?_ ?_ ?_; rotate_left 1
      · (simp only [List.getElem?_toArray, List.getElem?_cons_succ, List.getElem?_cons_zero]; rfl)
      · intro K' hK
        have hcb := hb.cell0
        go_simp
        clear hcb
        refine hK.out _ _ ?_ (fun hHeld => ?_)
        · exact hz.facts6.1
        clear hK K'
        try simp only [Act.put, List.setIfInBounds_toArray, List.set_cons_zero, List.set_cons_succ]
        refine wpAnyH_ready (rs := [1, 9]) (by kernel_rfl) (by simp) ?_
        refine AllReadyH.cons (o := ?_) ?_ ?_ ?_; rotate_left 1
        · (simp only [List.getElem?_toArray, List.getElem?_cons_succ, List.getElem?_cons_zero]; rfl)
        · intro K' hK
          go_simp
          replace hb := hb.frame ((Step.refl [] _ _).alloc (.cells #[] 30)) (by simp)
          replace hz := hz.frame ((Step.refl [] _ _).alloc (.cells #[] 30)) (by simp)
          replace hrowC := hrowC.frame ((Step.refl [] _ _).alloc (.cells #[] 30)) (by simp)
          replace hpre := hpre.frame ((Step.refl [] _ _).alloc (.cells #[] 30)) (by simp)
          replace hX := hX.frame ((Step.refl [] _ _).alloc (.cells #[] 30)) (by simp)
          replace st := st.trans ((Step.refl [] _ _).alloc (.cells #[] 30))
          refine hK.out _ _ ?_ (fun hHeld => ?_)
          · exact hz.facts6.1
          clear hK K'
          try simp only [Act.put, List.setIfInBounds_toArray, List.set_cons_zero, List.set_cons_succ]
          refine wpAnyH_ready (rs := [9]) (by kernel_rfl) (by simp) ?_
          refine AllReadyH.cons (o := ?_) ?_ ?_ ?_; rotate_left 1
          · (simp only [List.getElem?_toArray, List.getElem?_cons_succ, List.getElem?_cons_zero]; rfl)
          · intro K' hK
            have hcb := hb.cell0
            go_simp
            clear hcb
            refine hK.out _ _ ?_ (fun hHeld => ?_)
            · exact hz.facts6.1
            clear hK K'
            try simp only [Act.put, List.setIfInBounds_toArray, List.set_cons_zero, List.set_cons_succ]
            refine wpAnyH_take (i := 10) (oi := ?_) (v := ?_) ?_ (by kernel_rfl) (by kernel_rfl) (by kernel_rfl) ?_ (Or.inl ⟨?_, ?_⟩) ?_ ?_; rotate_left 2
            · (simp only [List.getElem?_toArray, List.getElem?_cons_succ, List.getElem?_cons_zero]; rfl)
            · exact fun _ _ _ h => h
            · rfl
            · (intro w hSw; (try dsimp only at hSw); obtain ⟨s0, s1, s2, s3, s4, s5⟩ := hSw; first | (go_simp; done) | (go_simp; with_reducible rfl))
            · assumption
            try simp only [Act.put, List.setIfInBounds_toArray, List.set_cons_zero, List.set_cons_succ]
            refine wpAnyH_take (i := 11) (oi := ?_) (v := ?_) ?_ (by kernel_rfl) (by kernel_rfl) (by kernel_rfl) ?_ (Or.inl ⟨?_, ?_⟩) ?_ ?_; rotate_left 2
            · (simp only [List.getElem?_toArray, List.getElem?_cons_succ, List.getElem?_cons_zero]; rfl)
            · exact fun _ _ _ h => h
            · rfl
            · (intro w hSw; (try dsimp only at hSw); obtain ⟨s0, s1, s2, s3, s4, s5⟩ := hSw; first | (go_simp; done) | (go_simp; with_reducible rfl))
            · assumption
            try simp only [Act.put, List.setIfInBounds_toArray, List.set_cons_zero, List.set_cons_succ]
            refine wpAnyH_take (i := 12) (oi := ?_) (v := ?_) ?_ (by kernel_rfl) (by kernel_rfl) (by kernel_rfl) ?_ (Or.inl ⟨?_, ?_⟩) ?_ ?_; rotate_left 2
            · (simp only [List.getElem?_toArray, List.getElem?_cons_succ, List.getElem?_cons_zero]; rfl)
            · exact fun _ _ _ h => h
            · rfl
            · (intro w hSw; (try dsimp only at hSw); obtain ⟨s0, s1, s2, s3, s4, s5⟩ := hSw; first | (go_simp; done) | (go_simp; with_reducible rfl))
            · assumption
            try simp only [Act.put, List.setIfInBounds_toArray, List.set_cons_zero, List.set_cons_succ]
            refine wpAnyH_ready (rs := [13]) (by kernel_rfl) (by simp) ?_
            refine AllReadyH.cons (o := ?_) ?_ ?_ ?_; rotate_left 1
            · (simp only [List.getElem?_toArray, List.getElem?_cons_succ, List.getElem?_cons_zero]; rfl)
            · intro K' hK
              refine step_app0 (.tmp 72) (.tmp 83) 38 rfl o3 (i + 1) Try.underlying38 info30 rfl (by rfl) (by rfl) (by rfl) hpre (by omega) (by omega) ?_
              intro vN wN oN hN sN
              obtain ⟨aN, cN, rfl, -, -⟩ := hN.slice
              replace hb := hb.frame sN (by simp)
              replace hz := hz.frame sN (by simp)
              replace hrowC := hrowC.frame sN (by simp)
              replace hpre := hpre.frame sN (by simp)
              replace hX := hX.frame sN (by simp)
              replace st := st.trans sN
              refine hK.out _ _ ?_ (fun hHeld => ?_)
              · exact hz.facts6.1
              clear hK K'
              try simp only [Act.put, List.setIfInBounds_toArray, List.set_cons_zero, List.set_cons_succ]
              refine wpAnyH_ready (rs := [16]) (by kernel_rfl) (by simp) ?_
              refine AllReadyH.cons (o := ?_) ?_ ?_ ?_; rotate_left 1
              · (simp only [List.getElem?_toArray, List.getElem?_cons_succ, List.getElem?_cons_zero]; rfl)
              · intro K' hK
                refine step_app (.tmp 84) (.tmp 86) 38 rfl Try.underlying38 info30 rfl (by rfl) (by rfl) hN (by first | rfl | simp [Act.eval, Act.put]) hX (by simp [Value.oneCell']) (by omega) (by omega) ?_
                intro vM wM oM hM sM
                obtain ⟨aM, cM, rfl, -, -⟩ := hM.slice
                replace hb := hb.frame sM (by simp)
                replace hz := hz.frame sM (by simpa using hi.2.symm)
                replace hrowC := hrowC.frame sM (by simpa using hj.2.1)
                replace st := st.nil.trans sM
                refine hK.out _ _ ?_ (fun hHeld => ?_)
                · exact hz.facts6.1
                clear hK K'
                try simp only [Act.put, List.setIfInBounds_toArray, List.set_cons_zero, List.set_cons_succ]
                refine wpAnyH_take (i := 17) (oi := ?_) (v := ?_) ?_ (by kernel_rfl) (by kernel_rfl) (by kernel_rfl) ?_ (Or.inl ⟨?_, ?_⟩) ?_ ?_; rotate_left 2
                · (simp only [List.getElem?_toArray, List.getElem?_cons_succ, List.getElem?_cons_zero]; rfl)
                · exact fun _ _ _ h => h
                · rfl
                · (intro w hSw; (try dsimp only at hSw); obtain ⟨s0, s1, s2, s3, s4, s5⟩ := hSw; first | (go_simp; done) | (go_simp; with_reducible rfl))
                · assumption
                try simp only [Act.put, List.setIfInBounds_toArray, List.set_cons_zero, List.set_cons_succ]
                refine wpAnyH_take (i := 18) (oi := ?_) (v := ?_) ?_ (by kernel_rfl) (by kernel_rfl) (by kernel_rfl) ?_ (Or.inl ⟨?_, ?_⟩) ?_ ?_; rotate_left 2
                · (simp only [List.getElem?_toArray, List.getElem?_cons_succ, List.getElem?_cons_zero]; rfl)
                · exact fun _ _ _ h => h
                · rfl
                · (intro w hSw; (try dsimp only at hSw); obtain ⟨s0, s1, s2, s3, s4, s5⟩ := hSw; first | (go_simp; done) | (go_simp; with_reducible rfl))
                · assumption
                try simp only [Act.put, List.setIfInBounds_toArray, List.set_cons_zero, List.set_cons_succ]
                refine wpAnyH_ready (rs := [19]) (by kernel_rfl) (by simp) ?_
                refine AllReadyH.cons (o := ?_) ?_ ?_ ?_; rotate_left 1
                · (simp only [List.getElem?_toArray, List.getElem?_cons_succ, List.getElem?_cons_zero]; rfl)
                · intro K' hK
                  have hcb := hb.cell0
                  have hfb := hb.frozen 0
                  go_simp
                  refine hK.out _ _ ?_ (fun hHeld => ?_)
                  · exact (hz.setOther (g := b) (fun e => by have h1 := hz.own; have h2 := hb.own; rw [e, h2] at h1; exact hi.1 h1) 0 _).facts6.1
                  clear hK K'
                  try simp only [Act.put, List.setIfInBounds_toArray, List.set_cons_zero, List.set_cons_succ]
                  refine wpAnyH_done (by kernel_rfl) ?_ _
                  go_wp2_with fail
                  go_ret2
                  have hrN : Row wM oM (i + 1) 30 6 (.slice aM (n + 1) cM) (fl ++ [((⟨3, a, c, x', y, .slice ac l.length cc⟩ : Fr), l, j)]).length (frs ((fl ++ [((⟨3, a, c, x', y, .slice ac l.length cc⟩ : Fr), l, j)]).map Prod.fst)) := by
                    rw [List.length_append, List.length_singleton, HN.out, List.map_append, List.map_singleton, frs_app]
                    exact hM
                  obtain ⟨g1, g2⟩ := RT.put hb hrN (by rw [List.length_append, List.length_singleton, HN.out]; omega) (fun p hp => by
                    rcases List.mem_append.1 hp with hp | hp
                    · obtain ⟨q1, q2, q3, q4, q5⟩ := HL.out p hp
                      exact ⟨q1, q2, q3, q4, q5.frame st (by simpa using q3)⟩
                    · rw [List.mem_singleton] at hp
                      subst hp
                      exact ⟨HLL.out, hj.1, hj.2.1, hj.2.2, hrowC⟩)
                  first | exact ⟨oM, _, rfl, g1, (st.weaken (by simp)).trans (g2.weaken (by simp))⟩ | exact ⟨rfl, oM, ⟨_, g1⟩, (st.weaken (by simp)).trans (g2.weaken (by simp))⟩ | exact ⟨rfl, oM, _, g1, (st.weaken (by simp)).trans (g2.weaken (by simp))⟩
                exact AllReadyH.nil
              exact AllReadyH.nil
            exact AllReadyH.nil
          exact AllReadyH.nil
        refine AllReadyH.cons (o := ?_) ?_ ?_ ?_; rotate_left 1
        · (simp only [List.getElem?_toArray, List.getElem?_cons_succ, List.getElem?_cons_zero]; rfl)
        · intro K' hK
          have hcb := hb.cell0
          go_simp
          clear hcb
          refine hK.out _ _ ?_ (fun hHeld => ?_)
          · exact hz.facts6.1
          clear hK K'
          try simp only [Act.put, List.setIfInBounds_toArray, List.set_cons_zero, List.set_cons_succ]
          refine wpAnyH_take (i := 10) (oi := ?_) (v := ?_) ?_ (by kernel_rfl) (by kernel_rfl) (by kernel_rfl) ?_ (Or.inl ⟨?_, ?_⟩) ?_ ?_; rotate_left 2
          · (simp only [List.getElem?_toArray, List.getElem?_cons_succ, List.getElem?_cons_zero]; rfl)
          · exact fun _ _ _ h => h
          · rfl
          · (intro w hSw; (try dsimp only at hSw); obtain ⟨s0, s1, s2, s3, s4, s5⟩ := hSw; first | (go_simp; done) | (go_simp; with_reducible rfl))
          · assumption
          try simp only [Act.put, List.setIfInBounds_toArray, List.set_cons_zero, List.set_cons_succ]
          refine wpAnyH_take (i := 11) (oi := ?_) (v := ?_) ?_ (by kernel_rfl) (by kernel_rfl) (by kernel_rfl) ?_ (Or.inl ⟨?_, ?_⟩) ?_ ?_; rotate_left 2
          · (simp only [List.getElem?_toArray, List.getElem?_cons_succ, List.getElem?_cons_zero]; rfl)
          · exact fun _ _ _ h => h
          · rfl
          · (intro w hSw; (try dsimp only at hSw); obtain ⟨s0, s1, s2, s3, s4, s5⟩ := hSw; first | (go_simp; done) | (go_simp; with_reducible rfl))
          · assumption
          try simp only [Act.put, List.setIfInBounds_toArray, List.set_cons_zero, List.set_cons_succ]
          refine wpAnyH_take (i := 12) (oi := ?_) (v := ?_) ?_ (by kernel_rfl) (by kernel_rfl) (by kernel_rfl) ?_ (Or.inl ⟨?_, ?_⟩) ?_ ?_; rotate_left 2
          · (simp only [List.getElem?_toArray, List.getElem?_cons_succ, List.getElem?_cons_zero]; rfl)
          · exact fun _ _ _ h => h
          · rfl
          · (intro w hSw; (try dsimp only at hSw); obtain ⟨s0, s1, s2, s3, s4, s5⟩ := hSw; first | (go_simp; done) | (go_simp; with_reducible rfl))
          · assumption
          try simp only [Act.put, List.setIfInBounds_toArray, List.set_cons_zero, List.set_cons_succ]
          refine wpAnyH_ready (rs := [1]) (by kernel_rfl) (by simp) ?_
          refine AllReadyH.cons (o := ?_) ?_ ?_ ?_; rotate_left 1
          · (simp only [List.getElem?_toArray, List.getElem?_cons_succ, List.getElem?_cons_zero]; rfl)
          · intro K' hK
            go_simp
            replace hb := hb.frame ((Step.refl [] _ _).alloc (.cells #[] 30)) (by simp)
            replace hz := hz.frame ((Step.refl [] _ _).alloc (.cells #[] 30)) (by simp)
            replace hrowC := hrowC.frame ((Step.refl [] _ _).alloc (.cells #[] 30)) (by simp)
            replace hpre := hpre.frame ((Step.refl [] _ _).alloc (.cells #[] 30)) (by simp)
            replace hX := hX.frame ((Step.refl [] _ _).alloc (.cells #[] 30)) (by simp)
            replace st := st.trans ((Step.refl [] _ _).alloc (.cells #[] 30))
            refine hK.out _ _ ?_ (fun hHeld => ?_)
            · exact hz.facts6.1
            clear hK K'
            try simp only [Act.put, List.setIfInBounds_toArray, List.set_cons_zero, List.set_cons_succ]
            refine wpAnyH_ready (rs := [13]) (by kernel_rfl) (by simp) ?_
            refine AllReadyH.cons (o := ?_) ?_ ?_ ?_; rotate_left 1
            · (simp only [List.getElem?_toArray, List.getElem?_cons_succ, List.getElem?_cons_zero]; rfl)
            · intro K' hK
              refine step_app0 (.tmp 72) (.tmp 83) 38 rfl o3 (i + 1) Try.underlying38 info30 rfl (by rfl) (by rfl) (by rfl) hpre (by omega) (by omega) ?_
              intro vN wN oN hN sN
              obtain ⟨aN, cN, rfl, -, -⟩ := hN.slice
              replace hb := hb.frame sN (by simp)
              replace hz := hz.frame sN (by simp)
              replace hrowC := hrowC.frame sN (by simp)
              replace hpre := hpre.frame sN (by simp)
              replace hX := hX.frame sN (by simp)
              replace st := st.trans sN
              refine hK.out _ _ ?_ (fun hHeld => ?_)
              · exact hz.facts6.1
              clear hK K'
              try simp only [Act.put, List.setIfInBounds_toArray, List.set_cons_zero, List.set_cons_succ]
              refine wpAnyH_ready (rs := [16]) (by kernel_rfl) (by simp) ?_
              refine AllReadyH.cons (o := ?_) ?_ ?_ ?_; rotate_left 1
              · (simp only [List.getElem?_toArray, List.getElem?_cons_succ, List.getElem?_cons_zero]; rfl)
              · intro K' hK
                refine step_app (.tmp 84) (.tmp 86) 38 rfl Try.underlying38 info30 rfl (by rfl) (by rfl) hN (by first | rfl | simp [Act.eval, Act.put]) hX (by simp [Value.oneCell']) (by omega) (by omega) ?_
                intro vM wM oM hM sM
                obtain ⟨aM, cM, rfl, -, -⟩ := hM.slice
                replace hb := hb.frame sM (by simp)
                replace hz := hz.frame sM (by simpa using hi.2.symm)
                replace hrowC := hrowC.frame sM (by simpa using hj.2.1)
                replace st := st.nil.trans sM
                refine hK.out _ _ ?_ (fun hHeld => ?_)
                · exact hz.facts6.1
                clear hK K'
                try simp only [Act.put, List.setIfInBounds_toArray, List.set_cons_zero, List.set_cons_succ]
                refine wpAnyH_take (i := 17) (oi := ?_) (v := ?_) ?_ (by kernel_rfl) (by kernel_rfl) (by kernel_rfl) ?_ (Or.inl ⟨?_, ?_⟩) ?_ ?_; rotate_left 2
                · (simp only [List.getElem?_toArray, List.getElem?_cons_succ, List.getElem?_cons_zero]; rfl)
                · exact fun _ _ _ h => h
                · rfl
                · (intro w hSw; (try dsimp only at hSw); obtain ⟨s0, s1, s2, s3, s4, s5⟩ := hSw; first | (go_simp; done) | (go_simp; with_reducible rfl))
                · assumption
                try simp only [Act.put, List.setIfInBounds_toArray, List.set_cons_zero, List.set_cons_succ]
                refine wpAnyH_take (i := 18) (oi := ?_) (v := ?_) ?_ (by kernel_rfl) (by kernel_rfl) (by kernel_rfl) ?_ (Or.inl ⟨?_, ?_⟩) ?_ ?_; rotate_left 2
                · (simp only [List.getElem?_toArray, List.getElem?_cons_succ, List.getElem?_cons_zero]; rfl)
                · exact fun _ _ _ h => h
                · rfl
                · (intro w hSw; (try dsimp only at hSw); obtain ⟨s0, s1, s2, s3, s4, s5⟩ := hSw; first | (go_simp; done) | (go_simp; with_reducible rfl))
                · assumption
                try simp only [Act.put, List.setIfInBounds_toArray, List.set_cons_zero, List.set_cons_succ]
                refine wpAnyH_ready (rs := [19]) (by kernel_rfl) (by simp) ?_
                refine AllReadyH.cons (o := ?_) ?_ ?_ ?_; rotate_left 1
                · (simp only [List.getElem?_toArray, List.getElem?_cons_succ, List.getElem?_cons_zero]; rfl)
                · intro K' hK
                  have hcb := hb.cell0
                  have hfb := hb.frozen 0
                  go_simp
                  refine hK.out _ _ ?_ (fun hHeld => ?_)
                  · exact (hz.setOther (g := b) (fun e => by have h1 := hz.own; have h2 := hb.own; rw [e, h2] at h1; exact hi.1 h1) 0 _).facts6.1
                  clear hK K'
                  try simp only [Act.put, List.setIfInBounds_toArray, List.set_cons_zero, List.set_cons_succ]
                  refine wpAnyH_done (by kernel_rfl) ?_ _
                  go_wp2_with fail
                  go_ret2
                  have hrN : Row wM oM (i + 1) 30 6 (.slice aM (n + 1) cM) (fl ++ [((⟨3, a, c, x', y, .slice ac l.length cc⟩ : Fr), l, j)]).length (frs ((fl ++ [((⟨3, a, c, x', y, .slice ac l.length cc⟩ : Fr), l, j)]).map Prod.fst)) := by
                    rw [List.length_append, List.length_singleton, HN.out, List.map_append, List.map_singleton, frs_app]
                    exact hM
                  obtain ⟨g1, g2⟩ := RT.put hb hrN (by rw [List.length_append, List.length_singleton, HN.out]; omega) (fun p hp => by
                    rcases List.mem_append.1 hp with hp | hp
                    · obtain ⟨q1, q2, q3, q4, q5⟩ := HL.out p hp
                      exact ⟨q1, q2, q3, q4, q5.frame st (by simpa using q3)⟩
                    · rw [List.mem_singleton] at hp
                      subst hp
                      exact ⟨HLL.out, hj.1, hj.2.1, hj.2.2, hrowC⟩)
                  first | exact ⟨oM, _, rfl, g1, (st.weaken (by simp)).trans (g2.weaken (by simp))⟩ | exact ⟨rfl, oM, ⟨_, g1⟩, (st.weaken (by simp)).trans (g2.weaken (by simp))⟩ | exact ⟨rfl, oM, _, g1, (st.weaken (by simp)).trans (g2.weaken (by simp))⟩
                exact AllReadyH.nil
              exact AllReadyH.nil
            exact AllReadyH.nil
          exact AllReadyH.nil
        exact AllReadyH.nil
      refine AllReadyH.cons (o := ?_) ?_ ?_ ?_; rotate_left 1
      · (simp only [List.getElem?_toArray, List.getElem?_cons_succ, List.getElem?_cons_zero]; rfl)
      · intro K' hK
        have hcb := hb.cell0
        go_simp
        clear hcb
        refine hK.out _ _ ?_ (fun hHeld => ?_)
        · exact hz.facts6.1
        clear hK K'
        try simp only [Act.put, List.setIfInBounds_toArray, List.set_cons_zero, List.set_cons_succ]
        refine wpAnyH_take (i := 10) (oi := ?_) (v := ?_) ?_ (by kernel_rfl) (by kernel_rfl) (by kernel_rfl) ?_ (Or.inl ⟨?_, ?_⟩) ?_ ?_; rotate_left 2
        · (simp only [List.getElem?_toArray, List.getElem?_cons_succ, List.getElem?_cons_zero]; rfl)
        · exact fun _ _ _ h => h
        · rfl
        · (intro w hSw; (try dsimp only at hSw); obtain ⟨s0, s1, s2, s3, s4, s5⟩ := hSw; first | (go_simp; done) | (go_simp; with_reducible rfl))
        · assumption
        try simp only [Act.put, List.setIfInBounds_toArray, List.set_cons_zero, List.set_cons_succ]
        refine wpAnyH_take (i := 11) (oi := ?_) (v := ?_) ?_ (by kernel_rfl) (by kernel_rfl) (by kernel_rfl) ?_ (Or.inl ⟨?_, ?_⟩) ?_ ?_; rotate_left 2
        · (simp only [List.getElem?_toArray, List.getElem?_cons_succ, List.getElem?_cons_zero]; rfl)
        · exact fun _ _ _ h => h
        · rfl
        · (intro w hSw; (try dsimp only at hSw); obtain ⟨s0, s1, s2, s3, s4, s5⟩ := hSw; first | (go_simp; done) | (go_simp; with_reducible rfl))
        · assumption
        try simp only [Act.put, List.setIfInBounds_toArray, List.set_cons_zero, List.set_cons_succ]
        refine wpAnyH_ready (rs := [1, 5]) (by kernel_rfl) (by simp) ?_
        refine AllReadyH.cons (o := ?_) ?_ ?_ ?_; rotate_left 1
        · (simp only [List.getElem?_toArray, List.getElem?_cons_succ, List.getElem?_cons_zero]; rfl)
        · intro K' hK
          go_simp
          replace hb := hb.frame ((Step.refl [] _ _).alloc (.cells #[] 30)) (by simp)
          replace hz := hz.frame ((Step.refl [] _ _).alloc (.cells #[] 30)) (by simp)
          replace hrowC := hrowC.frame ((Step.refl [] _ _).alloc (.cells #[] 30)) (by simp)
          replace hpre := hpre.frame ((Step.refl [] _ _).alloc (.cells #[] 30)) (by simp)
          replace hX := hX.frame ((Step.refl [] _ _).alloc (.cells #[] 30)) (by simp)
          replace st := st.trans ((Step.refl [] _ _).alloc (.cells #[] 30))
          refine hK.out _ _ ?_ (fun hHeld => ?_)
          · exact hz.facts6.1
          clear hK K'
          try simp only [Act.put, List.setIfInBounds_toArray, List.set_cons_zero, List.set_cons_succ]
          refine wpAnyH_ready (rs := [5]) (by kernel_rfl) (by simp) ?_
          refine AllReadyH.cons (o := ?_) ?_ ?_ ?_; rotate_left 1
          · (simp only [List.getElem?_toArray, List.getElem?_cons_succ, List.getElem?_cons_zero]; rfl)
          · intro K' hK
            have hcb := hb.cell0
            go_simp
            clear hcb
            refine hK.out _ _ ?_ (fun hHeld => ?_)
            · exact hz.facts6.1
            clear hK K'
            try simp only [Act.put, List.setIfInBounds_toArray, List.set_cons_zero, List.set_cons_succ]
            refine wpAnyH_take (i := 12) (oi := ?_) (v := ?_) ?_ (by kernel_rfl) (by kernel_rfl) (by kernel_rfl) ?_ (Or.inl ⟨?_, ?_⟩) ?_ ?_; rotate_left 2
            · (simp only [List.getElem?_toArray, List.getElem?_cons_succ, List.getElem?_cons_zero]; rfl)
            · exact fun _ _ _ h => h
            · rfl
            · (intro w hSw; (try dsimp only at hSw); obtain ⟨s0, s1, s2, s3, s4, s5⟩ := hSw; first | (go_simp; done) | (go_simp; with_reducible rfl))
            · assumption
            try simp only [Act.put, List.setIfInBounds_toArray, List.set_cons_zero, List.set_cons_succ]
            refine wpAnyH_ready (rs := [13]) (by kernel_rfl) (by simp) ?_
            refine AllReadyH.cons (o := ?_) ?_ ?_ ?_; rotate_left 1
            · (simp only [List.getElem?_toArray, List.getElem?_cons_succ, List.getElem?_cons_zero]; rfl)
            · intro K' hK
              refine step_app0 (.tmp 72) (.tmp 83) 38 rfl o3 (i + 1) Try.underlying38 info30 rfl (by rfl) (by rfl) (by rfl) hpre (by omega) (by omega) ?_
              intro vN wN oN hN sN
              obtain ⟨aN, cN, rfl, -, -⟩ := hN.slice
              replace hb := hb.frame sN (by simp)
              replace hz := hz.frame sN (by simp)
              replace hrowC := hrowC.frame sN (by simp)
              replace hpre := hpre.frame sN (by simp)
              replace hX := hX.frame sN (by simp)
              replace st := st.trans sN
              refine hK.out _ _ ?_ (fun hHeld => ?_)
              · exact hz.facts6.1
              clear hK K'
              try simp only [Act.put, List.setIfInBounds_toArray, List.set_cons_zero, List.set_cons_succ]
              refine wpAnyH_ready (rs := [16]) (by kernel_rfl) (by simp) ?_
              refine AllReadyH.cons (o := ?_) ?_ ?_ ?_; rotate_left 1
              · (simp only [List.getElem?_toArray, List.getElem?_cons_succ, List.getElem?_cons_zero]; rfl)
              · intro K' hK
                refine step_app (.tmp 84) (.tmp 86) 38 rfl Try.underlying38 info30 rfl (by rfl) (by rfl) hN (by first | rfl | simp [Act.eval, Act.put]) hX (by simp [Value.oneCell']) (by omega) (by omega) ?_
                intro vM wM oM hM sM
                obtain ⟨aM, cM, rfl, -, -⟩ := hM.slice
                replace hb := hb.frame sM (by simp)
                replace hz := hz.frame sM (by simpa using hi.2.symm)
                replace hrowC := hrowC.frame sM (by simpa using hj.2.1)
                replace st := st.nil.trans sM
                refine hK.out _ _ ?_ (fun hHeld => ?_)
                · exact hz.facts6.1
                clear hK K'
                try simp only [Act.put, List.setIfInBounds_toArray, List.set_cons_zero, List.set_cons_succ]
                refine wpAnyH_take (i := 17) (oi := ?_) (v := ?_) ?_ (by kernel_rfl) (by kernel_rfl) (by kernel_rfl) ?_ (Or.inl ⟨?_, ?_⟩) ?_ ?_; rotate_left 2
                · (simp only [List.getElem?_toArray, List.getElem?_cons_succ, List.getElem?_cons_zero]; rfl)
                · exact fun _ _ _ h => h
                · rfl
                · (intro w hSw; (try dsimp only at hSw); obtain ⟨s0, s1, s2, s3, s4, s5⟩ := hSw; first | (go_simp; done) | (go_simp; with_reducible rfl))
                · assumption
                try simp only [Act.put, List.setIfInBounds_toArray, List.set_cons_zero, List.set_cons_succ]
                refine wpAnyH_take (i := 18) (oi := ?_) (v := ?_) ?_ (by kernel_rfl) (by kernel_rfl) (by kernel_rfl) ?_ (Or.inl ⟨?_, ?_⟩) ?_ ?_; rotate_left 2
                · (simp only [List.getElem?_toArray, List.getElem?_cons_succ, List.getElem?_cons_zero]; rfl)
                · exact fun _ _ _ h => h
                · rfl
                · (intro w hSw; (try dsimp only at hSw); obtain ⟨s0, s1, s2, s3, s4, s5⟩ := hSw; first | (go_simp; done) | (go_simp; with_reducible rfl))
                · assumption
                try simp only [Act.put, List.setIfInBounds_toArray, List.set_cons_zero, List.set_cons_succ]
                refine wpAnyH_ready (rs := [19]) (by kernel_rfl) (by simp) ?_
                refine AllReadyH.cons (o := ?_) ?_ ?_ ?_; rotate_left 1
                · (simp only [List.getElem?_toArray, List.getElem?_cons_succ, List.getElem?_cons_zero]; rfl)
                · intro K' hK
                  have hcb := hb.cell0
                  have hfb := hb.frozen 0
                  go_simp
                  refine hK.out _ _ ?_ (fun hHeld => ?_)
                  · exact (hz.setOther (g := b) (fun e => by have h1 := hz.own; have h2 := hb.own; rw [e, h2] at h1; exact hi.1 h1) 0 _).facts6.1
                  clear hK K'
                  try simp only [Act.put, List.setIfInBounds_toArray, List.set_cons_zero, List.set_cons_succ]
                  refine wpAnyH_done (by kernel_rfl) ?_ _
                  go_wp2_with fail
                  go_ret2
                  have hrN : Row wM oM (i + 1) 30 6 (.slice aM (n + 1) cM) (fl ++ [((⟨3, a, c, x', y, .slice ac l.length cc⟩ : Fr), l, j)]).length (frs ((fl ++ [((⟨3, a, c, x', y, .slice ac l.length cc⟩ : Fr), l, j)]).map Prod.fst)) := by
                    rw [List.length_append, List.length_singleton, HN.out, List.map_append, List.map_singleton, frs_app]
                    exact hM
                  obtain ⟨g1, g2⟩ := RT.put hb hrN (by rw [List.length_append, List.length_singleton, HN.out]; omega) (fun p hp => by
                    rcases List.mem_append.1 hp with hp | hp
                    · obtain ⟨q1, q2, q3, q4, q5⟩ := HL.out p hp
                      exact ⟨q1, q2, q3, q4, q5.frame st (by simpa using q3)⟩
                    · rw [List.mem_singleton] at hp
                      subst hp
                      exact ⟨HLL.out, hj.1, hj.2.1, hj.2.2, hrowC⟩)
                  first | exact ⟨oM, _, rfl, g1, (st.weaken (by simp)).trans (g2.weaken (by simp))⟩ | exact ⟨rfl, oM, ⟨_, g1⟩, (st.weaken (by simp)).trans (g2.weaken (by simp))⟩ | exact ⟨rfl, oM, _, g1, (st.weaken (by simp)).trans (g2.weaken (by simp))⟩
                exact AllReadyH.nil
              exact AllReadyH.nil
            exact AllReadyH.nil
          exact AllReadyH.nil
        refine AllReadyH.cons (o := ?_) ?_ ?_ ?_; rotate_left 1
        · (simp only [List.getElem?_toArray, List.getElem?_cons_succ, List.getElem?_cons_zero]; rfl)
        · intro K' hK
          have hcb := hb.cell0
          go_simp
          clear hcb
          refine hK.out _ _ ?_ (fun hHeld => ?_)
          · exact hz.facts6.1
          clear hK K'
          try simp only [Act.put, List.setIfInBounds_toArray, List.set_cons_zero, List.set_cons_succ]
          refine wpAnyH_take (i := 12) (oi := ?_) (v := ?_) ?_ (by kernel_rfl) (by kernel_rfl) (by kernel_rfl) ?_ (Or.inl ⟨?_, ?_⟩) ?_ ?_; rotate_left 2
          · (simp only [List.getElem?_toArray, List.getElem?_cons_succ, List.getElem?_cons_zero]; rfl)
          · exact fun _ _ _ h => h
          · rfl
          · (intro w hSw; (try dsimp only at hSw); obtain ⟨s0, s1, s2, s3, s4, s5⟩ := hSw; first | (go_simp; done) | (go_simp; with_reducible rfl))
          · assumption
          try simp only [Act.put, List.setIfInBounds_toArray, List.set_cons_zero, List.set_cons_succ]
          refine wpAnyH_ready (rs := [1]) (by kernel_rfl) (by simp) ?_
          refine AllReadyH.cons (o := ?_) ?_ ?_ ?_; rotate_left 1
          · (simp only [List.getElem?_toArray, List.getElem?_cons_succ, List.getElem?_cons_zero]; rfl)
          · intro K' hK
            go_simp
            replace hb := hb.frame ((Step.refl [] _ _).alloc (.cells #[] 30)) (by simp)
            replace hz := hz.frame ((Step.refl [] _ _).alloc (.cells #[] 30)) (by simp)
            replace hrowC := hrowC.frame ((Step.refl [] _ _).alloc (.cells #[] 30)) (by simp)
            replace hpre := hpre.frame ((Step.refl [] _ _).alloc (.cells #[] 30)) (by simp)
            replace hX := hX.frame ((Step.refl [] _ _).alloc (.cells #[] 30)) (by simp)
            replace st := st.trans ((Step.refl [] _ _).alloc (.cells #[] 30))
            refine hK.out _ _ ?_ (fun hHeld => ?_)
            · exact hz.facts6.1
            clear hK K'
            try simp only [Act.put, List.setIfInBounds_toArray, List.set_cons_zero, List.set_cons_succ]
            refine wpAnyH_ready (rs := [13]) (by kernel_rfl) (by simp) ?_
            refine AllReadyH.cons (o := ?_) ?_ ?_ ?_; rotate_left 1
            · (simp only [List.getElem?_toArray, List.getElem?_cons_succ, List.getElem?_cons_zero]; rfl)
            · intro K' hK
              refine step_app0 (.tmp 72) (.tmp 83) 38 rfl o3 (i + 1) Try.underlying38 info30 rfl (by rfl) (by rfl) (by rfl) hpre (by omega) (by omega) ?_
              intro vN wN oN hN sN
              obtain ⟨aN, cN, rfl, -, -⟩ := hN.slice
              replace hb := hb.frame sN (by simp)
              replace hz := hz.frame sN (by simp)
              replace hrowC := hrowC.frame sN (by simp)
              replace hpre := hpre.frame sN (by simp)
              replace hX := hX.frame sN (by simp)
              replace st := st.trans sN
              refine hK.out _ _ ?_ (fun hHeld => ?_)
              · exact hz.facts6.1
              clear hK K'
              try simp only [Act.put, List.setIfInBounds_toArray, List.set_cons_zero, List.set_cons_succ]
              refine wpAnyH_ready (rs := [16]) (by kernel_rfl) (by simp) ?_
              refine AllReadyH.cons (o := ?_) ?_ ?_ ?_; rotate_left 1
              · (simp only [List.getElem?_toArray, List.getElem?_cons_succ, List.getElem?_cons_zero]; rfl)
              · intro K' hK
                refine step_app (.tmp 84) (.tmp 86) 38 rfl Try.underlying38 info30 rfl (by rfl) (by rfl) hN (by first | rfl | simp [Act.eval, Act.put]) hX (by simp [Value.oneCell']) (by omega) (by omega) ?_
                intro vM wM oM hM sM
                obtain ⟨aM, cM, rfl, -, -⟩ := hM.slice
                replace hb := hb.frame sM (by simp)
                replace hz := hz.frame sM (by simpa using hi.2.symm)
                replace hrowC := hrowC.frame sM (by simpa using hj.2.1)
                replace st := st.nil.trans sM
                refine hK.out _ _ ?_ (fun hHeld => ?_)
                · exact hz.facts6.1
                clear hK K'
                try simp only [Act.put, List.setIfInBounds_toArray, List.set_cons_zero, List.set_cons_succ]
                refine wpAnyH_take (i := 17) (oi := ?_) (v := ?_) ?_ (by kernel_rfl) (by kernel_rfl) (by kernel_rfl) ?_ (Or.inl ⟨?_, ?_⟩) ?_ ?_; rotate_left 2
                · (simp only [List.getElem?_toArray, List.getElem?_cons_succ, List.getElem?_cons_zero]; rfl)
                · exact fun _ _ _ h => h
                · rfl
                · (intro w hSw; (try dsimp only at hSw); obtain ⟨s0, s1, s2, s3, s4, s5⟩ := hSw; first | (go_simp; done) | (go_simp; with_reducible rfl))
                · assumption
                try simp only [Act.put, List.setIfInBounds_toArray, List.set_cons_zero, List.set_cons_succ]
                refine wpAnyH_take (i := 18) (oi := ?_) (v := ?_) ?_ (by kernel_rfl) (by kernel_rfl) (by kernel_rfl) ?_ (Or.inl ⟨?_, ?_⟩) ?_ ?_; rotate_left 2
                · (simp only [List.getElem?_toArray, List.getElem?_cons_succ, List.getElem?_cons_zero]; rfl)
                · exact fun _ _ _ h => h
                · rfl
                · (intro w hSw; (try dsimp only at hSw); obtain ⟨s0, s1, s2, s3, s4, s5⟩ := hSw; first | (go_simp; done) | (go_simp; with_reducible rfl))
                · assumption
                try simp only [Act.put, List.setIfInBounds_toArray, List.set_cons_zero, List.set_cons_succ]
                refine wpAnyH_ready (rs := [19]) (by kernel_rfl) (by simp) ?_
                refine AllReadyH.cons (o := ?_) ?_ ?_ ?_; rotate_left 1
                · (simp only [List.getElem?_toArray, List.getElem?_cons_succ, List.getElem?_cons_zero]; rfl)
                · intro K' hK
                  have hcb := hb.cell0
                  have hfb := hb.frozen 0
                  go_simp
                  refine hK.out _ _ ?_ (fun hHeld => ?_)
                  · exact (hz.setOther (g := b) (fun e => by have h1 := hz.own; have h2 := hb.own; rw [e, h2] at h1; exact hi.1 h1) 0 _).facts6.1
                  clear hK K'
                  try simp only [Act.put, List.setIfInBounds_toArray, List.set_cons_zero, List.set_cons_succ]
                  refine wpAnyH_done (by kernel_rfl) ?_ _
                  go_wp2_with fail
                  go_ret2
                  have hrN : Row wM oM (i + 1) 30 6 (.slice aM (n + 1) cM) (fl ++ [((⟨3, a, c, x', y, .slice ac l.length cc⟩ : Fr), l, j)]).length (frs ((fl ++ [((⟨3, a, c, x', y, .slice ac l.length cc⟩ : Fr), l, j)]).map Prod.fst)) := by
                    rw [List.length_append, List.length_singleton, HN.out, List.map_append, List.map_singleton, frs_app]
                    exact hM
                  obtain ⟨g1, g2⟩ := RT.put hb hrN (by rw [List.length_append, List.length_singleton, HN.out]; omega) (fun p hp => by
                    rcases List.mem_append.1 hp with hp | hp
                    · obtain ⟨q1, q2, q3, q4, q5⟩ := HL.out p hp
                      exact ⟨q1, q2, q3, q4, q5.frame st (by simpa using q3)⟩
                    · rw [List.mem_singleton] at hp
                      subst hp
                      exact ⟨HLL.out, hj.1, hj.2.1, hj.2.2, hrowC⟩)
                  first | exact ⟨oM, _, rfl, g1, (st.weaken (by simp)).trans (g2.weaken (by simp))⟩ | exact ⟨rfl, oM, ⟨_, g1⟩, (st.weaken (by simp)).trans (g2.weaken (by simp))⟩ | exact ⟨rfl, oM, _, g1, (st.weaken (by simp)).trans (g2.weaken (by simp))⟩
                exact AllReadyH.nil
              exact AllReadyH.nil
            exact AllReadyH.nil
          exact AllReadyH.nil
        exact AllReadyH.nil
      exact AllReadyH.nil
    exact AllReadyH.nil
end Go.Proofs.Ytegcpjheglcbcaa
