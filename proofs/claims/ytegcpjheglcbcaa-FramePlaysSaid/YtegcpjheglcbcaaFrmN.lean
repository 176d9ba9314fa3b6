/- Frames with locals: Pop, Top, Step of nothing. -/
import Derived.Test.YtegcpjheglcbcaaFrmM
namespace Go.Proofs.Ytegcpjheglcbcaa
open Go Go.RowKit Go.Shelf
set_option linter.unusedSimpArgs false
set_option linter.unusedVariables false

abbrev ZB (w : World) : World := w.alloc (.cells #[.int .i64 0, .int .i64 0, .int .i64 0, .int .i64 0, .int .i64 0, .slice none 0 0] 30)

/-- The uppermost frame is none of that kind, or there is none. -/
theorem upper_miss {w : World} {o : Owner} {i b : Nat} {fs : List Fr} (hs : FStk w o i b fs) (k : Int) (hk : ∀ f, fs.getLast? = some f → ¬ f.k = k) :
    Calls Try.prog 30 #[.pointer (some ⟨b, 0, none⟩), .int .i64 k] w fun e w' => e = .returned (.pointer none) ∧ Below w.heap.size w w' := by
  rcases List.eq_nil_or_concat fs with rfl | ⟨gs, f, rfl⟩
  · obtain ⟨_, v, hb, hr⟩ := hs
    obtain ⟨ao, cap, rfl, h1, h2⟩ := hr.slice
    exact upper_zero _ k (fun W hB => depth_raw ((hB.cell (p := ⟨b, 0, none⟩) hb.lt).trans hb.cell0))
  · rw [List.concat_eq_append] at hs hk
    obtain ⟨h0, v, hb, hr⟩ := hs
    have hlen : (gs ++ [f]).length = gs.length + 1 := by simp
    rw [hlen] at h0
    obtain ⟨g, cap, rfl, hx⟩ := hr.rowx (by omega)
    have hkd := kinds_of hx
    rw [hlen] at hx hb hkd
    have hu := upper_some (len := gs.length + 1) (by omega) (by omega) k _ hb.cell0 hkd
    have hkt : ¬ ((gs ++ [f])[gs.length + 1 - 1]?.getD ⟨0, 0, 0, 0, 0, undef⟩).k = k := by simpa using hk f (by simp)
    rw [if_neg hkt] at hu
    exact hu

theorem pop_miss {w : World} {o : Owner} {i b : Nat} {fs : List Fr} (hs : FStk w o i b fs) (k : Int) (hk : ∀ f, fs.getLast? = some f → ¬ f.k = k) :
    Calls Try.prog 18 #[.pointer (some ⟨b, 0, none⟩), .int .i64 k] w fun e w' => e = .returned (.tuple #[Z6, .int .i64 (-6)]) ∧ Step [] w o w' o := by
  have sA : Step [] w o (ZB w) o := (Step.refl _ _ _).alloc _
  have hB : Below w.heap.size w (ZB w) := (Below.refl _ _).alloc (Nat.le_refl _) _
  have hu := upper_miss (hs.frame sA (by simp) (by simp)) k hk
  clear hk hs
  go_enter Try.func18, Try.ntmps18
  go_wp2_with (go_at_call 30; refine hu.mono ?_; rintro e w1 ⟨rfl, hB1⟩; have fz := (FB.new w 0 0 0 0 0 (.slice none 0 0)).below hB1 (by simp); obtain ⟨⟨z0, z1, z2, z3, z4, z5⟩, y0, y1, y2, y3, y4, y5⟩ := fz.facts)
  obtain ⟨⟨x0, x1, x2, x3, x4, x5⟩, _⟩ := (fz.set6 0 0 0 0 0 (.slice none 0 0)).facts
  simp [bodyPost, results, Try.results18, go_sem, x0, x1, x2, x3, x4, x5]
  exact Step.ofBelow (below_set6 (hB.trans (hB1.mono (by simp))) (Nat.le_refl _) 0 0 0 0 0 (.slice none 0 0)) o

theorem step_miss {w : World} {o : Owner} {i b : Nat} {fs : List Fr} (hs : FStk w o i b fs) (hk : ∀ f, fs.getLast? = some f → ¬ f.k = 3) (by_ : Int) :
    Calls Try.prog 15 #[.pointer (some ⟨b, 0, none⟩), .int .i64 by_] w fun e w' => e = .returned (.tuple #[.bool false, .int .i64 (-26)]) ∧ Step [] w o w' o := by
  have hu := upper_miss hs 3 hk
  clear hk hs
  go_enter Try.func15, Try.ntmps15
  go_wp2_with (go_at_call 30; refine hu.mono ?_; rintro e w1 ⟨rfl, hB1⟩)
  go_ret2
  exact ⟨rfl, Step.ofBelow hB1 o⟩

set_option maxHeartbeats 2000000 in
theorem pop_l {w : World} {o : Owner} {i b : Nat} {fl : List (Fr × List Int)} {k a c x y : Int} {lv : Value} {l : List Int} (hs : LS w o i b (fl ++ [(⟨k, a, c, x, y, lv⟩, l)])) (j : Nat) (hj : j ≠ i) :
    Calls Try.prog 18 #[.pointer (some ⟨b, 0, none⟩), .int .i64 k] w fun e w' => ∃ o' lv', e = .returned (.tuple #[.agg #[.int .i64 k, .int .i64 a, .int .i64 c, .int .i64 x, .int .i64 y, lv'], .int .i64 0]) ∧ Row w' o' j 22 1 lv' l.length (cellsOf l) ∧ LS w' o' i b fl ∧ Step [i] w o w' o' := by
  obtain ⟨hF, hL⟩ := hs
  obtain ⟨hll, hlv⟩ := hL (⟨k, a, c, x, y, lv⟩, l) (by simp)
  have hLo : ∀ p ∈ fl, p.2.length ≤ 1000000 ∧ Rd w o (i + 2) 1 p.1.lv p.2.length (cellsOf p.2) := fun p hp => hL p (by simp [hp])
  obtain ⟨fs, hfs⟩ : ∃ fs, fs = fl.map Prod.fst := ⟨_, rfl⟩
  rw [List.map_append, ← hfs, show List.map Prod.fst [((⟨k, a, c, x, y, lv⟩ : Fr), l)] = [⟨k, a, c, x, y, lv⟩] from rfl] at hF
  dsimp only at hlv hll
  obtain ⟨O, hO⟩ : ∃ O, O = o.cap w.heap.size (i + 3 + j) := ⟨_, rfl⟩
  have hs := hF.cap (i + 3 + j)
  rw [← hO] at hs
  have hOz : ∀ q, w.heap.size ≤ q → O q = i + 3 + j := fun q hq => by rw [hO, Owner.cap_hi o _ hq]
  have sA : Step [] w O (ZB w) O := (Step.refl _ _ _).alloc _
  have hsA := hs.frame sA (by simp) (by simp)
  have hfz := FB.new w 0 0 0 0 0 (.slice none 0 0)
  obtain ⟨h0, v, hb, hr⟩ := id hsA
  simp only [List.length_append, List.length_cons, List.length_nil, Nat.zero_add] at h0
  have hlen : (fs ++ [(⟨k, a, c, x, y, lv⟩ : Fr)]).length = fs.length + 1 := by simp
  obtain ⟨g, cap, rfl, hx⟩ := hr.rowx (by omega)
  have hkd := kinds_of hx
  rw [hlen] at hx hb hkd
  have hc := hb.cell0
  have hu := upper_some (len := fs.length + 1) (by omega) (by omega) k _ hc hkd
  have hkt : ((fs ++ [(⟨k, a, c, x, y, lv⟩ : Fr)])[fs.length + 1 - 1]?.getD ⟨0, 0, 0, 0, 0, undef⟩).k = k := by simp
  rw [if_pos hkt, show fs.length + 1 - 1 = fs.length by omega] at hu
  obtain ⟨alv, clv, rfl, _, _, _, _⟩ := id hlv
  have HLEN := Lib.hid hlen
  have HLV := hlv
  have HFS := Lib.hid hfs
  have HL0 := Lib.hid hLo
  have HLL := Lib.hid hll
  have HOZ := Lib.hid hOz
  have HO := Lib.hid hO
  clear hkt hkd hc hlen hr hs hlv hfs hLo hL hll hOz hO hF
  go_enter Try.func18, Try.ntmps18
  go_wp2_with (go_at_call 30; refine hu.mono ?_; rintro e w1 ⟨rfl, hB1⟩; have s1 := Step.ofBelow hB1 O; have hs1 := hsA.frame s1 (by simp) (by simp); have hx1 := hx.frame s1 (by simp); have hb1 := hb.frame s1 (by simp); have hc1 := hb1.cell0; have q0 : w1.cell? ⟨g, fs.length * 6, none⟩ = some (.int .i64 k) := hx1.cell (frs_top fs (⟨k, a, c, x, y, .slice alv l.length clv⟩ : Fr) 0 (by omega)); have q1 : w1.cell? ⟨g, fs.length * 6 + 1, none⟩ = some (.int .i64 a) := hx1.cell (frs_top fs (⟨k, a, c, x, y, .slice alv l.length clv⟩ : Fr) 1 (by omega)); have q2 : w1.cell? ⟨g, fs.length * 6 + 2, none⟩ = some (.int .i64 c) := hx1.cell (frs_top fs (⟨k, a, c, x, y, .slice alv l.length clv⟩ : Fr) 2 (by omega)); have q3 : w1.cell? ⟨g, fs.length * 6 + 3, none⟩ = some (.int .i64 x) := hx1.cell (frs_top fs (⟨k, a, c, x, y, .slice alv l.length clv⟩ : Fr) 3 (by omega)); have q4 : w1.cell? ⟨g, fs.length * 6 + 4, none⟩ = some (.int .i64 y) := hx1.cell (frs_top fs (⟨k, a, c, x, y, .slice alv l.length clv⟩ : Fr) 4 (by omega)); have q5 : w1.cell? ⟨g, fs.length * 6 + 5, none⟩ = some (.slice alv l.length clv) := hx1.cell (frs_top fs (⟨k, a, c, x, y, .slice alv l.length clv⟩ : Fr) 5 (by omega)))
  have hl1 := (HLV.frame ((Step.refl [] w o).alloc (.cells #[.int .i64 0, .int .i64 0, .int .i64 0, .int .i64 0, .int .i64 0, .slice none 0 0] 30)) (by simp)).frame (Step.ofBelow hB1 o) (by simp)
  refine (own_ok hl1 HLL.out O j k a c x y).mono ?_
  rintro e w2 ⟨lv', o2, rfl, hrow, s2⟩
  obtain ⟨ao', cap', rfl, _, _⟩ := hrow.slice
  have sW := (sA.trans s1).trans s2
  have hw2 : w.heap.size ≤ w2.heap.size := sW.size
  have hw2' : w.heap.size < w2.heap.size := Nat.lt_of_lt_of_le (by simp) (s1.trans s2).size
  have hoz2 : o2 w.heap.size = i + 3 + j := by rw [(s1.trans s2).own _ (by simp)]; exact HOZ.out _ (Nat.le_refl _)
  obtain ⟨o3, ho3⟩ : ∃ o3, o3 = o2.set w2.heap.size (i + 3 + j) := ⟨_, rfl⟩
  have hoz3 : o3 w.heap.size = i + 3 + j := by rw [ho3, Owner.set_ne o2 _ (by omega)]; exact hoz2
  have hot3 : o3 w2.heap.size = i + 3 + j := by rw [ho3, Owner.set_self]
  have sT : Step [] w2 o2 (w2.alloc (.cells #[.int .i64 k, .int .i64 a, .int .i64 c, .int .i64 x, .int .i64 y, .slice ao' l.length cap'] 30)) o3 := by rw [ho3]; exact ((Step.refl _ _ _).alloc _).give (Nat.le_refl _) _
  have fT := FB.new w2 k a c x y (.slice ao' l.length cap')
  have hs3 := (hs1.frame s2 (by simp) (by simp)).frame sT (by simp) (by simp)
  have hb3 := (hb1.frame s2 (by simp)).frame sT (by simp)
  have hc3 := hb3.cell0
  have hr3 := hrow.frame sT (by simp)
  have hz3 := ((hfz.step s1 (by simp)).step s2 (by simp)).step sT (by simp)
  have hcut := cut_ok hs3 fs.length
  rw [show cutF (fs ++ [(⟨k, a, c, x, y, .slice alv l.length clv⟩ : Fr)]) fs.length = fs by simp [cutF]] at hcut
  have HO3 := Lib.hid ho3
  have HOZ2 := Lib.hid hoz2
  have HOZ3 := Lib.hid hoz3
  have HOT3 := Lib.hid hot3
  clear q0 q1 q2 q3 q4 q5 hu hx1 hb1 hx hc1 ho3 hoz2 hoz3 hot3
  go_wp2_with (go_at_call 16; refine hcut.mono ?_; rintro e w4 ⟨rfl, hs4, s4⟩; have fT4 := fT.step s4 (by rw [HOT3.out]; simp; omega); have fz4 := hz3.step s4 (by rw [HOZ3.out]; simp; omega); obtain ⟨⟨t0, t1, t2, t3, t4, t5⟩, _⟩ := fT4.facts; obtain ⟨⟨z0, z1, z2, z3, z4, z5⟩, y0, y1, y2, y3, y4, y5⟩ := fz4.facts)
  obtain ⟨⟨r0, r1, r2, r3, r4, r5⟩, _⟩ := (fz4.set6 k a c x y (.slice ao' l.length cap')).facts
  have hz2 : o3 w.heap.size ∈ [i + 3 + j] := by rw [HOZ3.out]; simp
  have s5 : Step [i + 3 + j] w4 o3 (set6 w4 w.heap.size k a c x y (.slice ao' l.length cap')) o3 := step_set6 (Step.refl _ _ _) (fun _ => hz2) k a c x y _
  have hsF := hs4.frame s5 (by simp; omega) (by simp; omega)
  have hrF := (hr3.frame s4 (by simpa using hj)).frame s5 (by simp)
  have sF : Step [i] w O (set6 w4 w.heap.size k a c x y (.slice ao' l.length cap')) o3 := step_set6 (((sW.trans sT).nil).trans s4) (fun h => absurd h (Nat.lt_irrefl _)) k a c x y _
  rw [HO.out] at sF
  have sG := sF.uncap
  have hLS : LS (set6 w4 w.heap.size k a c x y (.slice ao' l.length cap')) o3 i b fl := ⟨by rw [← HFS.out]; exact hsF, fun p hp => ⟨(HL0.out p hp).1, (HL0.out p hp).2.frame sG (by simp)⟩⟩
  refine bodyPost_ret (v := .tuple #[.agg #[.int .i64 k, .int .i64 a, .int .i64 c, .int .i64 x, .int .i64 y, .slice ao' l.length cap'], .int .i64 0]) (by simp [results, Try.results18, go_sem, r0, r1, r2, r3, r4, r5]) rfl ?_
  exact ⟨_, _, rfl, hrF, hLS, sG⟩

set_option maxHeartbeats 2000000 in
theorem top_l {w : World} {o : Owner} {i b : Nat} {fl : List (Fr × List Int)} {k a c x y : Int} {lv : Value} {l : List Int} (hs : LS w o i b (fl ++ [(⟨k, a, c, x, y, lv⟩, l)])) (j : Nat) :
    Calls Try.prog 20 #[.pointer (some ⟨b, 0, none⟩)] w fun e w' => ∃ o' lv', e = .returned (.tuple #[.agg #[.int .i64 k, .int .i64 a, .int .i64 c, .int .i64 x, .int .i64 y, lv'], .bool true]) ∧ Row w' o' j 22 1 lv' l.length (cellsOf l) ∧ Step [] w o w' o' := by
  obtain ⟨hF, hL⟩ := hs
  obtain ⟨hll, hlv⟩ := hL (⟨k, a, c, x, y, lv⟩, l) (by simp)
  obtain ⟨fs, hfs⟩ : ∃ fs, fs = fl.map Prod.fst := ⟨_, rfl⟩
  rw [List.map_append, ← hfs, show List.map Prod.fst [((⟨k, a, c, x, y, lv⟩ : Fr), l)] = [⟨k, a, c, x, y, lv⟩] from rfl] at hF
  dsimp only at hlv hll
  clear hL hfs
  obtain ⟨O, hO⟩ : ∃ O, O = o.cap w.heap.size (j + 1) := ⟨_, rfl⟩
  have sA : Step [] w o (ZB w) o := (Step.refl _ _ _).alloc _
  have sAD : Step [] w o (ZB w).drew o := sA.drew
  have hd := depth_ok (hF.frame sA (by simp) (by simp))
  have hsA := hF.frame sAD (by simp) (by simp)
  have fzA := (FB.new w 0 0 0 0 0 (.slice none 0 0)).step ((Step.refl [] (ZB w) o).drew) (by simp)
  obtain ⟨h0, v, hb, hr⟩ := id hsA
  simp only [List.length_append, List.length_cons, List.length_nil, Nat.zero_add] at h0
  have hlen : (fs ++ [(⟨k, a, c, x, y, lv⟩ : Fr)]).length = fs.length + 1 := by simp
  obtain ⟨g, cap, rfl, hx⟩ := hr.rowx (by omega)
  rw [hlen] at hx hb hd
  have hc := hb.cell0
  obtain ⟨alv, clv, rfl, _, _, _, _⟩ := id hlv
  have q0 : (ZB w).drew.cell? ⟨g, fs.length * 6, none⟩ = some (.int .i64 k) := hx.cell (frs_top fs (⟨k, a, c, x, y, .slice alv l.length clv⟩ : Fr) 0 (by omega))
  have q1 : (ZB w).drew.cell? ⟨g, fs.length * 6 + 1, none⟩ = some (.int .i64 a) := hx.cell (frs_top fs (⟨k, a, c, x, y, .slice alv l.length clv⟩ : Fr) 1 (by omega))
  have q2 : (ZB w).drew.cell? ⟨g, fs.length * 6 + 2, none⟩ = some (.int .i64 c) := hx.cell (frs_top fs (⟨k, a, c, x, y, .slice alv l.length clv⟩ : Fr) 2 (by omega))
  have q3 : (ZB w).drew.cell? ⟨g, fs.length * 6 + 3, none⟩ = some (.int .i64 x) := hx.cell (frs_top fs (⟨k, a, c, x, y, .slice alv l.length clv⟩ : Fr) 3 (by omega))
  have q4 : (ZB w).drew.cell? ⟨g, fs.length * 6 + 4, none⟩ = some (.int .i64 y) := hx.cell (frs_top fs (⟨k, a, c, x, y, .slice alv l.length clv⟩ : Fr) 4 (by omega))
  have q5 : (ZB w).drew.cell? ⟨g, fs.length * 6 + 5, none⟩ = some (.slice alv l.length clv) := hx.cell (frs_top fs (⟨k, a, c, x, y, .slice alv l.length clv⟩ : Fr) 5 (by omega))
  have hl1 := hlv.frame sAD (by simp)
  have hcal : Calls Try.prog 28 #[.agg #[.int .i64 k, .int .i64 a, .int .i64 c, .int .i64 x, .int .i64 y, .slice alv l.length clv]] (ZB w).drew (fun e w' => ∃ v, e = .returned v ∧ ∃ lv' o', v = .agg #[.int .i64 k, .int .i64 a, .int .i64 c, .int .i64 x, .int .i64 y, lv'] ∧ Row w' o' j 22 1 lv' l.length (cellsOf l) ∧ Step [] (ZB w).drew O w' o') := (own_ok hl1 hll O j k a c x y).mono fun e w' ⟨lv', o', h⟩ => ⟨_, h.1, lv', o', rfl, h.2.1, h.2.2⟩
  have hOz : O w.heap.size = j + 1 := by rw [hO, Owner.cap_hi o _ (Nat.le_refl _)]
  have hi0 : IntKind.i64.wrap (fs.length : Int) = fs.length := by rw [IntKind.wrap_i64]; omega
  have hi1 : (fs.length : Int) < (fs.length : Int) + 1 := by omega
  have HLEN := Lib.hid hlen
  have HOZ := Lib.hid hOz
  have HO := Lib.hid hO
  clear hlen hlv hOz hO hF hsA hr hl1
  go_enter Try.func20, Try.ntmps20
  go_wp2_with (go_at_call 17; refine hd.mono ?_; rintro e w' ⟨rfl, rfl⟩)
  go_region_law (first
    | (refine step_call (by kernel_rfl) ?_ hcal ?_; (focus go_simp); rintro v1 w1 ⟨lv1, o1', rfl, hrow, s1⟩; obtain ⟨ao1, cap1, rfl, _, _⟩ := hrow.slice; obtain ⟨⟨z0, z1, z2, z3, z4, z5⟩, y0, y1, y2, y3, y4, y5⟩ := (fzA.step s1 (by simp)).facts))
  all_goals
    obtain ⟨⟨r0, r1, r2, r3, r4, r5⟩, _⟩ := ((fzA.step s1 (by simp)).set6 k a c x y (.slice ao1 l.length cap1)).facts
    have hoz : o1' w.heap.size = j + 1 := (s1.own _ (by simp)).trans HOZ.out
    have s5 : Step [j + 1] w1 o1' (set6 w1 w.heap.size k a c x y (.slice ao1 l.length cap1)) o1' := step_set6 (Step.refl _ _ _) (fun _ => by rw [hoz]; simp) k a c x y _
    have hrF := hrow.frame s5 (by simp)
    have sF : Step [] w O (set6 w1 w.heap.size k a c x y (.slice ao1 l.length cap1)) o1' := step_set6 ((((Step.refl [] w O).alloc _).drew).trans s1) (fun h => absurd h (Nat.lt_irrefl _)) k a c x y _
    rw [HO.out] at sF
    have HOH := Lib.hid hoz
    clear hoz
    go_wp2
    refine bodyPost_ret (v := .tuple #[.agg #[.int .i64 k, .int .i64 a, .int .i64 c, .int .i64 x, .int .i64 y, .slice ao1 l.length cap1], .bool true]) (by simp [results, Try.results20, go_sem, r0, r1, r2, r3, r4, r5]) rfl ?_
    exact ⟨_, _, rfl, hrF, sF.uncap⟩
end Go.Proofs.Ytegcpjheglcbcaa
