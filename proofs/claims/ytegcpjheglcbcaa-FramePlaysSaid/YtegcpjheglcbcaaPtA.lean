/- Frames whose locals are written: Pop, Top, Push where there is no room, Step, Local and SetLocal where there are none. -/
import Derived.Test.YtegcpjheglcbcaaFrmT
namespace Go.Proofs.Ytegcpjheglcbcaa
open Go Go.RowKit Go.Shelf
set_option linter.unusedSimpArgs false
set_option linter.unusedVariables false

theorem top_none {w : World} {o : Owner} {i b : Nat} (hs : FStk w o i b []) : Calls Try.prog 20 #[.pointer (some ⟨b, 0, none⟩)] w fun e w' => e = .returned (.tuple #[Z6, .bool false]) ∧ Step [] w o w' o := by
  have sA : Step [] w o (ZB w) o := (Step.refl _ _ _).alloc _
  have hd := depth_ok (hs.frame sA (by simp) (by simp))
  go_enter Try.func20, Try.ntmps20
  go_wp2_with (go_at_call 17; refine hd.mono ?_; rintro e w' ⟨rfl, rfl⟩)
  simp [bodyPost, results, Try.results20, go_sem]
  exact sA

set_option maxHeartbeats 2000000 in
theorem pop_t {w : World} {o : Owner} {i b : Nat} {fl : List (Fr × List Int × Nat)} {k a c x y : Int} {lv : Value} {l : List Int} {t : Nat} (hs : LT w o i b (fl ++ [(⟨k, a, c, x, y, lv⟩, l, t)])) (j : Nat) (hj : j ≠ i) :
    Calls Try.prog 18 #[.pointer (some ⟨b, 0, none⟩), .int .i64 k] w fun e w' => ∃ o' lv', e = .returned (.tuple #[.agg #[.int .i64 k, .int .i64 a, .int .i64 c, .int .i64 x, .int .i64 y, lv'], .int .i64 0]) ∧ Row w' o' j 22 1 lv' l.length (cellsOf l) ∧ LT w' o' i b fl ∧ Step [i] w o w' o' := by
  obtain ⟨hF, hL⟩ := hs
  obtain ⟨hll, -, -, hlv0⟩ := hL (⟨k, a, c, x, y, lv⟩, l, t) (by simp)
  have hlv := hlv0.rd
  clear hlv0
  have hLo : ∀ p ∈ fl, p.2.1.length ≤ 1000000 ∧ p.2.2 ≠ i ∧ p.2.2 ≠ i + 1 ∧ Row w o p.2.2 22 1 p.1.lv p.2.1.length (cellsOf p.2.1) := fun p hp => hL p (by simp [hp])
  obtain ⟨fs, hfs⟩ : ∃ fs, fs = fl.map Prod.fst := ⟨_, rfl⟩
  rw [List.map_append, ← hfs, show List.map Prod.fst [((⟨k, a, c, x, y, lv⟩ : Fr), l, t)] = [⟨k, a, c, x, y, lv⟩] from rfl] at hF
  dsimp only at hlv hll
  obtain ⟨O, hO⟩ : ∃ O, O = o.cap w.heap.size (i + 3 + j) := ⟨_, rfl⟩
  have hs := hF.cap (i + 3 + j)
  rw [← hO] at hs
  have hOz : ∀ q, w.heap.size ≤ q → O q = i + 3 + j := fun q hq => by rw [hO, Owner.cap_hi o _ hq]
  have sA : Step [] w O (ZB w) O := (Step.refl _ _ _).alloc _
  have hsA := hs.frame sA (by simp) (by simp)
  have hfz := FB.new w 0 0 0 0 0 (.slice none 0 0)
  obtain ⟨h0, v, hb, hr⟩ := id hsA
  simp only [List.length_append, List.length_cons, List.length_nil, Nat.zero_add] at h0
  have hlen : (fs ++ [(⟨k, a, c, x, y, lv⟩ : Fr)]).length = fs.length + 1 := by simp
  obtain ⟨g, cap, rfl, hx⟩ := hr.rowx (by omega)
  have hkd := kinds_of hx
  rw [hlen] at hx hb hkd
  have hc := hb.cell0
  have hu := upper_some (len := fs.length + 1) (by omega) (by omega) k _ hc hkd
  have hkt : ((fs ++ [(⟨k, a, c, x, y, lv⟩ : Fr)])[fs.length + 1 - 1]?.getD ⟨0, 0, 0, 0, 0, undef⟩).k = k := by simp
  rw [if_pos hkt, show fs.length + 1 - 1 = fs.length by omega] at hu
  obtain ⟨alv, clv, rfl, _, _, _, _⟩ := id hlv
  have HLEN := Lib.hid hlen
  have HLV := hlv
  have HFS := Lib.hid hfs
  have HL0 := Lib.hid hLo
  have HLL := Lib.hid hll
  have HOZ := Lib.hid hOz
  have HO := Lib.hid hO
  clear hkt hkd hc hlen hr hs hlv hfs hLo hL hll hOz hO hF
  go_enter Try.func18, Try.ntmps18
  go_wp2_with (go_at_call 30; refine hu.mono ?_; rintro e w1 ⟨rfl, hB1⟩; have s1 := Step.ofBelow hB1 O; have hs1 := hsA.frame s1 (by simp) (by simp); have hx1 := hx.frame s1 (by simp); have hb1 := hb.frame s1 (by simp); have hc1 := hb1.cell0; have q0 : w1.cell? ⟨g, fs.length * 6, none⟩ = some (.int .i64 k) := hx1.cell (frs_top fs (⟨k, a, c, x, y, .slice alv l.length clv⟩ : Fr) 0 (by omega)); have q1 : w1.cell? ⟨g, fs.length * 6 + 1, none⟩ = some (.int .i64 a) := hx1.cell (frs_top fs (⟨k, a, c, x, y, .slice alv l.length clv⟩ : Fr) 1 (by omega)); have q2 : w1.cell? ⟨g, fs.length * 6 + 2, none⟩ = some (.int .i64 c) := hx1.cell (frs_top fs (⟨k, a, c, x, y, .slice alv l.length clv⟩ : Fr) 2 (by omega)); have q3 : w1.cell? ⟨g, fs.length * 6 + 3, none⟩ = some (.int .i64 x) := hx1.cell (frs_top fs (⟨k, a, c, x, y, .slice alv l.length clv⟩ : Fr) 3 (by omega)); have q4 : w1.cell? ⟨g, fs.length * 6 + 4, none⟩ = some (.int .i64 y) := hx1.cell (frs_top fs (⟨k, a, c, x, y, .slice alv l.length clv⟩ : Fr) 4 (by omega)); have q5 : w1.cell? ⟨g, fs.length * 6 + 5, none⟩ = some (.slice alv l.length clv) := hx1.cell (frs_top fs (⟨k, a, c, x, y, .slice alv l.length clv⟩ : Fr) 5 (by omega)))
  have hl1 := (HLV.frame ((Step.refl [] w o).alloc (.cells #[.int .i64 0, .int .i64 0, .int .i64 0, .int .i64 0, .int .i64 0, .slice none 0 0] 30)) (by simp)).frame (Step.ofBelow hB1 o) (by simp)
  refine (own_ok hl1 HLL.out O j k a c x y).mono ?_
  rintro e w2 ⟨lv', o2, rfl, hrow, s2⟩
  obtain ⟨ao', cap', rfl, _, _⟩ := hrow.slice
  have sW := (sA.trans s1).trans s2
  have hw2 : w.heap.size ≤ w2.heap.size := sW.size
  have hw2' : w.heap.size < w2.heap.size := Nat.lt_of_lt_of_le (by simp) (s1.trans s2).size
  have hoz2 : o2 w.heap.size = i + 3 + j := by rw [(s1.trans s2).own _ (by simp)]; exact HOZ.out _ (Nat.le_refl _)
  obtain ⟨o3, ho3⟩ : ∃ o3, o3 = o2.set w2.heap.size (i + 3 + j) := ⟨_, rfl⟩
  have hoz3 : o3 w.heap.size = i + 3 + j := by rw [ho3, Owner.set_ne o2 _ (by omega)]; exact hoz2
  have hot3 : o3 w2.heap.size = i + 3 + j := by rw [ho3, Owner.set_self]
  have sT : Step [] w2 o2 (w2.alloc (.cells #[.int .i64 k, .int .i64 a, .int .i64 c, .int .i64 x, .int .i64 y, .slice ao' l.length cap'] 30)) o3 := by rw [ho3]; exact ((Step.refl _ _ _).alloc _).give (Nat.le_refl _) _
  have fT := FB.new w2 k a c x y (.slice ao' l.length cap')
  have hs3 := (hs1.frame s2 (by simp) (by simp)).frame sT (by simp) (by simp)
  have hb3 := (hb1.frame s2 (by simp)).frame sT (by simp)
  have hc3 := hb3.cell0
  have hr3 := hrow.frame sT (by simp)
  have hz3 := ((hfz.step s1 (by simp)).step s2 (by simp)).step sT (by simp)
  have hcut := cut_ok hs3 fs.length
  rw [show cutF (fs ++ [(⟨k, a, c, x, y, .slice alv l.length clv⟩ : Fr)]) fs.length = fs by simp [cutF]] at hcut
  have HO3 := Lib.hid ho3
  have HOZ2 := Lib.hid hoz2
  have HOZ3 := Lib.hid hoz3
  have HOT3 := Lib.hid hot3
  clear q0 q1 q2 q3 q4 q5 hu hx1 hb1 hx hc1 ho3 hoz2 hoz3 hot3
  go_wp2_with (go_at_call 16; refine hcut.mono ?_; rintro e w4 ⟨rfl, hs4, s4⟩; have fT4 := fT.step s4 (by rw [HOT3.out]; simp; omega); have fz4 := hz3.step s4 (by rw [HOZ3.out]; simp; omega); obtain ⟨⟨t0, t1, t2, t3, t4, t5⟩, _⟩ := fT4.facts; obtain ⟨⟨z0, z1, z2, z3, z4, z5⟩, y0, y1, y2, y3, y4, y5⟩ := fz4.facts)
  obtain ⟨⟨r0, r1, r2, r3, r4, r5⟩, _⟩ := (fz4.set6 k a c x y (.slice ao' l.length cap')).facts
  have hz2 : o3 w.heap.size ∈ [i + 3 + j] := by rw [HOZ3.out]; simp
  have s5 : Step [i + 3 + j] w4 o3 (set6 w4 w.heap.size k a c x y (.slice ao' l.length cap')) o3 := step_set6 (Step.refl _ _ _) (fun _ => hz2) k a c x y _
  have hsF := hs4.frame s5 (by simp; omega) (by simp; omega)
  have hrF := (hr3.frame s4 (by simpa using hj)).frame s5 (by simp)
  have sF : Step [i] w O (set6 w4 w.heap.size k a c x y (.slice ao' l.length cap')) o3 := step_set6 (((sW.trans sT).nil).trans s4) (fun h => absurd h (Nat.lt_irrefl _)) k a c x y _
  rw [HO.out] at sF
  have sG := sF.uncap
  have hLS : LT (set6 w4 w.heap.size k a c x y (.slice ao' l.length cap')) o3 i b fl := ⟨by rw [← HFS.out]; exact hsF, fun p hp => ⟨(HL0.out p hp).1, (HL0.out p hp).2.1, (HL0.out p hp).2.2.1, (HL0.out p hp).2.2.2.frame sG (by simpa using (HL0.out p hp).2.1)⟩⟩
  refine bodyPost_ret (v := .tuple #[.agg #[.int .i64 k, .int .i64 a, .int .i64 c, .int .i64 x, .int .i64 y, .slice ao' l.length cap'], .int .i64 0]) (by simp [results, Try.results18, go_sem, r0, r1, r2, r3, r4, r5]) rfl ?_
  exact ⟨_, _, rfl, hrF, hLS, sG⟩

set_option maxHeartbeats 2000000 in
theorem top_t {w : World} {o : Owner} {i b : Nat} {fl : List (Fr × List Int × Nat)} {k a c x y : Int} {lv : Value} {l : List Int} {t : Nat} (hs : LT w o i b (fl ++ [(⟨k, a, c, x, y, lv⟩, l, t)])) (j : Nat) :
    Calls Try.prog 20 #[.pointer (some ⟨b, 0, none⟩)] w fun e w' => ∃ o' lv', e = .returned (.tuple #[.agg #[.int .i64 k, .int .i64 a, .int .i64 c, .int .i64 x, .int .i64 y, lv'], .bool true]) ∧ Row w' o' j 22 1 lv' l.length (cellsOf l) ∧ Step [] w o w' o' := by
  obtain ⟨hF, hL⟩ := hs
  obtain ⟨hll, -, -, hlv0⟩ := hL (⟨k, a, c, x, y, lv⟩, l, t) (by simp)
  have hlv := hlv0.rd
  clear hlv0
  obtain ⟨fs, hfs⟩ : ∃ fs, fs = fl.map Prod.fst := ⟨_, rfl⟩
  rw [List.map_append, ← hfs, show List.map Prod.fst [((⟨k, a, c, x, y, lv⟩ : Fr), l, t)] = [⟨k, a, c, x, y, lv⟩] from rfl] at hF
  dsimp only at hlv hll
  clear hL hfs
  obtain ⟨O, hO⟩ : ∃ O, O = o.cap w.heap.size (j + 1) := ⟨_, rfl⟩
  have sA : Step [] w o (ZB w) o := (Step.refl _ _ _).alloc _
  have sAD : Step [] w o (ZB w).drew o := sA.drew
  have hd := depth_ok (hF.frame sA (by simp) (by simp))
  have hsA := hF.frame sAD (by simp) (by simp)
  have fzA := (FB.new w 0 0 0 0 0 (.slice none 0 0)).step ((Step.refl [] (ZB w) o).drew) (by simp)
  obtain ⟨h0, v, hb, hr⟩ := id hsA
  simp only [List.length_append, List.length_cons, List.length_nil, Nat.zero_add] at h0
  have hlen : (fs ++ [(⟨k, a, c, x, y, lv⟩ : Fr)]).length = fs.length + 1 := by simp
  obtain ⟨g, cap, rfl, hx⟩ := hr.rowx (by omega)
  rw [hlen] at hx hb hd
  have hc := hb.cell0
  obtain ⟨alv, clv, rfl, _, _, _, _⟩ := id hlv
  have q0 : (ZB w).drew.cell? ⟨g, fs.length * 6, none⟩ = some (.int .i64 k) := hx.cell (frs_top fs (⟨k, a, c, x, y, .slice alv l.length clv⟩ : Fr) 0 (by omega))
  have q1 : (ZB w).drew.cell? ⟨g, fs.length * 6 + 1, none⟩ = some (.int .i64 a) := hx.cell (frs_top fs (⟨k, a, c, x, y, .slice alv l.length clv⟩ : Fr) 1 (by omega))
  have q2 : (ZB w).drew.cell? ⟨g, fs.length * 6 + 2, none⟩ = some (.int .i64 c) := hx.cell (frs_top fs (⟨k, a, c, x, y, .slice alv l.length clv⟩ : Fr) 2 (by omega))
  have q3 : (ZB w).drew.cell? ⟨g, fs.length * 6 + 3, none⟩ = some (.int .i64 x) := hx.cell (frs_top fs (⟨k, a, c, x, y, .slice alv l.length clv⟩ : Fr) 3 (by omega))
  have q4 : (ZB w).drew.cell? ⟨g, fs.length * 6 + 4, none⟩ = some (.int .i64 y) := hx.cell (frs_top fs (⟨k, a, c, x, y, .slice alv l.length clv⟩ : Fr) 4 (by omega))
  have q5 : (ZB w).drew.cell? ⟨g, fs.length * 6 + 5, none⟩ = some (.slice alv l.length clv) := hx.cell (frs_top fs (⟨k, a, c, x, y, .slice alv l.length clv⟩ : Fr) 5 (by omega))
  have hl1 := hlv.frame sAD (by simp)
  have hcal : Calls Try.prog 28 #[.agg #[.int .i64 k, .int .i64 a, .int .i64 c, .int .i64 x, .int .i64 y, .slice alv l.length clv]] (ZB w).drew (fun e w' => ∃ v, e = .returned v ∧ ∃ lv' o', v = .agg #[.int .i64 k, .int .i64 a, .int .i64 c, .int .i64 x, .int .i64 y, lv'] ∧ Row w' o' j 22 1 lv' l.length (cellsOf l) ∧ Step [] (ZB w).drew O w' o') := (own_ok hl1 hll O j k a c x y).mono fun e w' ⟨lv', o', h⟩ => ⟨_, h.1, lv', o', rfl, h.2.1, h.2.2⟩
  have hOz : O w.heap.size = j + 1 := by rw [hO, Owner.cap_hi o _ (Nat.le_refl _)]
  have hi0 : IntKind.i64.wrap (fs.length : Int) = fs.length := by rw [IntKind.wrap_i64]; omega
  have hi1 : (fs.length : Int) < (fs.length : Int) + 1 := by omega
  have HLEN := Lib.hid hlen
  have HOZ := Lib.hid hOz
  have HO := Lib.hid hO
  clear hlen hlv hOz hO hF hsA hr hl1
  go_enter Try.func20, Try.ntmps20
  go_wp2_with (go_at_call 17; refine hd.mono ?_; rintro e w' ⟨rfl, rfl⟩)
  go_region_law (first
    | (refine step_call (by kernel_rfl) ?_ hcal ?_; (focus go_simp); rintro v1 w1 ⟨lv1, o1', rfl, hrow, s1⟩; obtain ⟨ao1, cap1, rfl, _, _⟩ := hrow.slice; obtain ⟨⟨z0, z1, z2, z3, z4, z5⟩, y0, y1, y2, y3, y4, y5⟩ := (fzA.step s1 (by simp)).facts))
  all_goals
    obtain ⟨⟨r0, r1, r2, r3, r4, r5⟩, _⟩ := ((fzA.step s1 (by simp)).set6 k a c x y (.slice ao1 l.length cap1)).facts
    have hoz : o1' w.heap.size = j + 1 := (s1.own _ (by simp)).trans HOZ.out
    have s5 : Step [j + 1] w1 o1' (set6 w1 w.heap.size k a c x y (.slice ao1 l.length cap1)) o1' := step_set6 (Step.refl _ _ _) (fun _ => by rw [hoz]; simp) k a c x y _
    have hrF := hrow.frame s5 (by simp)
    have sF : Step [] w O (set6 w1 w.heap.size k a c x y (.slice ao1 l.length cap1)) o1' := step_set6 ((((Step.refl [] w O).alloc _).drew).trans s1) (fun h => absurd h (Nat.lt_irrefl _)) k a c x y _
    rw [HO.out] at sF
    have HOH := Lib.hid hoz
    clear hoz
    go_wp2
    refine bodyPost_ret (v := .tuple #[.agg #[.int .i64 k, .int .i64 a, .int .i64 c, .int .i64 x, .int .i64 y, .slice ao1 l.length cap1], .bool true]) (by simp [results, Try.results20, go_sem, r0, r1, r2, r3, r4, r5]) rfl ?_
    exact ⟨_, _, rfl, hrF, sF.uncap⟩

theorem push_full {w : World} {o : Owner} {i b : Nat} {fs : List Fr} (hs : FStk w o i b fs) (hfit : ¬ fs.length < 128) (k a c x y : Int) (lv : Value) (h1 : ∃ ao n cap, lv = .slice ao n cap) :
    Calls Try.prog 13 #[.pointer (some ⟨b, 0, none⟩), .agg #[.int .i64 k, .int .i64 a, .int .i64 c, .int .i64 x, .int .i64 y, lv]] w fun e w' => e = .returned (.int .i64 (-5)) ∧ Step [] w o w' o := by
  obtain ⟨ax, nx, cx, rfl⟩ := h1
  obtain ⟨h0, v, hb, hr⟩ := hs
  obtain ⟨ao, cap, rfl, _, _⟩ := hr.slice
  have s1 : Step [] w o (w.alloc (.cells #[.int .i64 k, .int .i64 a, .int .i64 c, .int .i64 x, .int .i64 y, .slice ax nx cx] 30)) o := (Step.refl _ _ _).alloc _
  have hc1 := (hb.frame s1 (by simp)).cell0
  have hi : (128 : Int) ≤ fs.length := by omega
  have hc := hb.cell0
  have hlt := hb.lt
  clear hb hr
  go_enter Try.func13, Try.ntmps13
  go_wp2_with fail
  go_ret
  exact ⟨rfl, s1⟩

theorem LT.rows {w w' : World} {o o' : Owner} {i b : Nat} {fl fl' : List (Fr × List Int × Nat)} (h : LT w o i b fl) (hF : FStk w' o' i b (fl'.map Prod.fst)) (st : Step [i, i + 1] w o w' o') (hsub : ∀ p ∈ fl', ∃ q ∈ fl, q.2 = p.2 ∧ q.1.lv = p.1.lv) : LT w' o' i b fl' :=
  ⟨hF, fun p hp => by
    obtain ⟨q, hq, e1, e2⟩ := hsub p hp
    obtain ⟨q1, q2, q3, q4⟩ := h.2 q hq
    rw [e1, e2] at q4
    rw [e1] at q1 q2 q3
    exact ⟨q1, q2, q3, q4.frame st (by simp [q2, q3])⟩⟩

theorem step_t {w : World} {o : Owner} {i b : Nat} {fl : List (Fr × List Int × Nat)} {a c x y : Int} {lv : Value} {l : List Int} {t : Nat} (hs : LT w o i b (fl ++ [(⟨3, a, c, x, y, lv⟩, l, t)])) (by_ : Int) :
    Calls Try.prog 15 #[.pointer (some ⟨b, 0, none⟩), .int .i64 by_] w fun e w' => ∃ o', e = .returned (.tuple #[.bool (endF x y by_), .int .i64 0]) ∧ LT w' o' i b (if endF x y by_ = true then fl else fl ++ [(⟨3, a, c, wrap64 (x + by_), y, lv⟩, l, t)]) ∧ Step [i, i + 1] w o w' o' := by
  have hF := hs.1
  rw [List.map_append, show List.map Prod.fst [((⟨3, a, c, x, y, lv⟩ : Fr), l, t)] = [⟨3, a, c, x, y, lv⟩] from rfl] at hF
  refine (step_loop hF rfl by_).mono ?_
  rintro e w' ⟨o', rfl, h1, h2⟩
  refine ⟨o', rfl, ?_, h2⟩
  rw [stepF] at h1
  dsimp only at h1
  by_cases he : endF x y by_ = true
  · rw [if_pos he] at h1 ⊢
    exact hs.rows h1 h2 (fun p hp => ⟨p, by simp [hp], rfl, rfl⟩)
  · rw [if_neg he] at h1 ⊢
    refine hs.rows (by simpa using h1) h2 (fun p hp => ?_)
    rcases List.mem_append.1 hp with hp | hp
    · exact ⟨p, by simp [hp], rfl, rfl⟩
    · rw [List.mem_singleton] at hp
      subst hp
      exact ⟨(⟨3, a, c, x, y, lv⟩, l, t), by simp, rfl, rfl⟩

theorem place_none {w : World} {o : Owner} {i b : Nat} {fl : List (Fr × List Int × Nat)} (hs : LT w o i b fl) (hh : ∀ p ∈ fl, ¬ isL p.1.k) (n : Int) (hn : -9223372036854775808 ≤ n ∧ n ≤ 9223372036854775807) :
    Calls Try.prog 31 #[.pointer (some ⟨b, 0, none⟩), .int .i64 n] w fun e w' => Step [] w o w' o ∧ e = .returned (.pointer none) := by
  obtain ⟨⟨h0, v, hb, hr⟩, hrow⟩ := hs
  have hlen : (fl.map Prod.fst).length = fl.length := by simp
  rw [hlen] at h0 hr
  let D : Fr × List Int × Nat := (⟨0, 0, 0, 0, 0, .slice none 0 0⟩, [], 0)
  have hget : ∀ x (h : x < fl.length), fl.getD x D = fl[x] := fun x h => by simp [List.getD, h]
  have hrw : ∀ x (h : x < fl.length), Row w o fl[x].2.2 22 1 fl[x].1.lv fl[x].2.1.length (cellsOf fl[x].2.1) ∧ fl[x].2.1.length ≤ 1000000 := fun x h => ⟨(hrow _ (List.getElem_mem h)).2.2.2, (hrow _ (List.getElem_mem h)).1⟩
  have hfr : ∀ x r (h : x < fl.length) (hr : r < 6), (frs (fl.map Prod.fst))[x * 6 + r]? = (fl[x].1.cells)[r]? := fun x r h hr => by
    have := frs_get (fl.map Prod.fst) x r (by simpa using h) hr
    simpa using this
  have key : ∃ ao cap g, v = .slice ao fl.length cap ∧ (0 < fl.length → ao = some ⟨g, 0, none⟩) ∧ ∀ x r u, x < fl.length → r < 6 → (frs (fl.map Prod.fst))[x * 6 + r]? = some u → w.cell? ⟨g, x * 6 + r, none⟩ = some u := by
    by_cases hz : 0 < fl.length
    · obtain ⟨g, cap, rfl, hx⟩ := hr.rowx hz
      exact ⟨_, cap, g, rfl, fun _ => rfl, fun x r u _ _ h => hx.cell h⟩
    · obtain ⟨ao, cap, rfl, _, _⟩ := hr.slice
      exact ⟨ao, cap, 0, rfl, fun h => absurd h hz, fun x r u h => by omega⟩
  obtain ⟨ao, cap, g, rfl, hg, hcl⟩ := key
  have hlocal := local_raw (w := w) (b := b) (g := g) (len := fl.length) (cap := cap) (ao := ao) (by omega) hg n hn (fun x => (fl.getD x D).1.k) (fun x => (fl.getD x D).2.1.length) (fun x => lvA (fl.getD x D).1.lv) (fun x => lvC (fl.getD x D).1.lv) hb.cell0
    (fun x h => by simp only [hget x h]; exact hcl x 0 _ h (by omega) ((hfr x 0 h (by omega)).trans rfl))
    (fun x h => by
      simp only [hget x h]
      obtain ⟨ax, cx, e, _, _⟩ := (hrw x h).1.slice
      have := hcl x 5 _ h (by omega) ((hfr x 5 h (by omega)).trans (show _ = some fl[x].1.lv from rfl))
      rw [this, e]; rfl)
    (fun x h => by simp only [hget x h]; exact (hrw x h).2)
    (fun x h hpos => by
      simp only [hget x h] at hpos ⊢
      obtain ⟨gx, cx, e, _⟩ := (hrw x h).1.rowx hpos
      exact ⟨gx, 0, by rw [e]; rfl⟩)
  refine hlocal.mono ?_
  rintro e w' ⟨⟨x, hx1, hx2, hx3, rfl⟩ | ⟨hno, rfl⟩, hB⟩
  · exact absurd (by simpa only [hget x hx1] using hx3) (hh _ (List.getElem_mem hx1))
  · exact ⟨Step.ofBelow hB o, rfl⟩

theorem local_none {w : World} {o : Owner} {i b : Nat} {fl : List (Fr × List Int × Nat)} (hs : LT w o i b fl) (hh : ∀ p ∈ fl, ¬ isL p.1.k) (n : Int) (hn : -9223372036854775808 ≤ n ∧ n ≤ 9223372036854775807) :
    Calls Try.prog 22 #[.pointer (some ⟨b, 0, none⟩), .int .i64 n] w fun e w' => Step [] w o w' o ∧ e = .returned (.tuple #[.int .i64 0, .int .i64 (-6)]) := by
  have hpl := place_none hs hh n hn
  clear hs hh
  go_enter Try.func22, Try.ntmps22
  go_wp2_with (go_at_call 31; refine hpl.mono ?_; rintro e w1 ⟨s1, rfl⟩)
  go_ret2
  first | exact ⟨s1, rfl⟩ | exact s1

theorem setlocal_none {w : World} {o : Owner} {i b : Nat} {fl : List (Fr × List Int × Nat)} (hs : LT w o i b fl) (hh : ∀ p ∈ fl, ¬ isL p.1.k) (n : Int) (hn : -9223372036854775808 ≤ n ∧ n ≤ 9223372036854775807) (x : Int) :
    Calls Try.prog 23 #[.pointer (some ⟨b, 0, none⟩), .int .i64 n, .int .i64 x] w fun e w' => Step [] w o w' o ∧ e = .returned (.int .i64 (-6)) := by
  have hpl := place_none hs hh n hn
  clear hs hh
  go_enter Try.func23, Try.ntmps23
  go_wp2_with (go_at_call 31; refine hpl.mono ?_; rintro e w1 ⟨s1, rfl⟩)
  go_ret
  first | exact ⟨s1, rfl⟩ | exact s1
end Go.Proofs.Ytegcpjheglcbcaa
