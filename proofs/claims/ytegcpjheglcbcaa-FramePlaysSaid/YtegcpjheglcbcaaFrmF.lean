/- Frames of the program: no stack at all; Pop; are two frames one (without locals)? -/
import Derived.Test.YtegcpjheglcbcaaFrmE
namespace Go.Proofs.Ytegcpjheglcbcaa
open Go Go.RowKit Go.Shelf
set_option linter.unusedSimpArgs false
set_option linter.unusedVariables false
attribute [local go_sem] Oper.semAt_some

/-- The frame that is none. -/
abbrev Z6 : Value := .agg #[.int .i64 0, .int .i64 0, .int .i64 0, .int .i64 0, .int .i64 0, .slice none 0 0]

/-- Block b is one frame. -/
def FB (w : World) (b : Nat) (k a c x y : Int) (lv : Value) : Prop := w.heap[b]? = some (.cells #[.int .i64 k, .int .i64 a, .int .i64 c, .int .i64 x, .int .i64 y, lv] 30 (0, 0))
theorem FB.facts {w : World} {b : Nat} {k a c x y : Int} {lv : Value} (h : FB w b k a c x y lv) :
    (w.cell? ⟨b, 0, none⟩ = some (.int .i64 k) ∧ w.cell? ⟨b, 1, none⟩ = some (.int .i64 a) ∧ w.cell? ⟨b, 2, none⟩ = some (.int .i64 c) ∧ w.cell? ⟨b, 3, none⟩ = some (.int .i64 x) ∧ w.cell? ⟨b, 4, none⟩ = some (.int .i64 y) ∧ w.cell? ⟨b, 5, none⟩ = some lv) ∧
    (w.frozen? ⟨b, 0, none⟩ = false ∧ w.frozen? ⟨b, 1, none⟩ = false ∧ w.frozen? ⟨b, 2, none⟩ = false ∧ w.frozen? ⟨b, 3, none⟩ = false ∧ w.frozen? ⟨b, 4, none⟩ = false ∧ w.frozen? ⟨b, 5, none⟩ = false) := by
  have hb : Blk w (fun _ => 0) 0 b 30 #[.int .i64 k, .int .i64 a, .int .i64 c, .int .i64 x, .int .i64 y, lv] := ⟨h, rfl⟩
  exact ⟨⟨hb.cell 0, hb.cell 1, hb.cell 2, hb.cell 3, hb.cell 4, hb.cell 5⟩, hb.frozen 0, hb.frozen 1, hb.frozen 2, hb.frozen 3, hb.frozen 4, hb.frozen 5⟩
abbrev set6 (w : World) (b : Nat) (k a c x y : Int) (lv : Value) : World := (((((w.setCell ⟨b, 0, none⟩ (.int .i64 k)).setCell ⟨b, 1, none⟩ (.int .i64 a)).setCell ⟨b, 2, none⟩ (.int .i64 c)).setCell ⟨b, 3, none⟩ (.int .i64 x)).setCell ⟨b, 4, none⟩ (.int .i64 y)).setCell ⟨b, 5, none⟩ lv
theorem FB.set6 {w : World} {b : Nat} {k a c x y : Int} {lv : Value} (h : FB w b k a c x y lv) (k' a' c' x' y' : Int) (lv' : Value) : FB (set6 w b k' a' c' x' y' lv') b k' a' c' x' y' lv' := by
  have hb : Blk w (fun _ => 0) 0 b 30 #[.int .i64 k, .int .i64 a, .int .i64 c, .int .i64 x, .int .i64 y, lv] := ⟨h, rfl⟩
  exact ((((((hb.set 0 (.int .i64 k')).set 1 (.int .i64 a')).set 2 (.int .i64 c')).set 3 (.int .i64 x')).set 4 (.int .i64 y')).set 5 lv').heap
theorem FB.new (w : World) (k a c x y : Int) (lv : Value) : FB (w.alloc (.cells #[.int .i64 k, .int .i64 a, .int .i64 c, .int .i64 x, .int .i64 y, lv] 30)) w.heap.size k a c x y lv := heap_alloc_new _ _
theorem FB.below {n₀ : Nat} {w w' : World} {b : Nat} {k a c x y : Int} {lv : Value} (h : FB w b k a c x y lv) (hB : Below n₀ w w') (hb : b < n₀) : FB w' b k a c x y lv := (hB.block b hb).trans h
theorem FB.step {S : List Nat} {w w' : World} {o o' : Owner} {b : Nat} {k a c x y : Int} {lv : Value} (h : FB w b k a c x y lv) (s : Step S w o w' o') (hb : o b ∉ S) : FB w' b k a c x y lv := s.obj h hb
theorem below_set6 {n₀ : Nat} {w w' : World} (h : Below n₀ w w') {b : Nat} (hb : n₀ ≤ b) (k a c x y : Int) (lv : Value) : Below n₀ w (set6 w' b k a c x y lv) :=
  (((((h.setCell (p := ⟨b, 0, none⟩) hb _).setCell (p := ⟨b, 1, none⟩) hb _).setCell (p := ⟨b, 2, none⟩) hb _).setCell (p := ⟨b, 3, none⟩) hb _).setCell (p := ⟨b, 4, none⟩) hb _).setCell (p := ⟨b, 5, none⟩) hb _

theorem step_set6 {S : List Nat} {w w' : World} {o o' : Owner} (h : Step S w o w' o') {b : Nat} (hb : b < w.heap.size → o b ∈ S) (k a c x y : Int) (lv : Value) : Step S w o (set6 w' b k a c x y lv) o' :=
  (((((h.setCell (a := ⟨b, 0, none⟩) hb _).setCell (a := ⟨b, 1, none⟩) hb _).setCell (a := ⟨b, 2, none⟩) hb _).setCell (a := ⟨b, 3, none⟩) hb _).setCell (a := ⟨b, 4, none⟩) hb _).setCell (a := ⟨b, 5, none⟩) hb _

theorem push_nil (w : World) (k a c x y : Int) (lv : Value) (h1 : lv.oneCell' = true) : Calls Try.prog 13 #[.pointer none, .agg #[.int .i64 k, .int .i64 a, .int .i64 c, .int .i64 x, .int .i64 y, .slice none 0 0]] w fun e w' => e = .returned (.int .i64 2) ∧ Below w.heap.size w w' := by
  go_enter Try.func13, Try.ntmps13
  go_wp2
  go_ret
  exact ⟨rfl, (Below.refl _ _).alloc (Nat.le_refl _) _⟩

theorem top_nil (w : World) : Calls Try.prog 20 #[.pointer none] w fun e w' => e = .returned (.tuple #[Z6, .bool false]) ∧ Below w.heap.size w w' := by
  go_enter Try.func20, Try.ntmps20
  go_wp2_with (go_at_call 17; refine (depth_nil _).mono ?_; rintro e w' ⟨rfl, rfl⟩)
  simp [bodyPost, results, Try.results20, go_sem]
  exact (Below.refl _ _).alloc (Nat.le_refl _) _

set_option maxRecDepth 100000 in
set_option maxHeartbeats 2000000 in
/-- The iterator where there is nothing. -/
theorem down0_in (n : Nat) (hn : 1 ≤ n) (l Bs n₀ : Nat) (p : Option Addr) (J Jx : List (Pl 0) → World → Prop)
    (W : World) (hBs : W.cell? ⟨Bs, 0, none⟩ = some (.pointer p)) (hd : Calls Try.prog 17 #[.pointer p] W fun e w' => e = .returned (.int .i64 0) ∧ W = w') (h0 : J [] W) :
    CallsIn Fence.wide n Try.prog 41 #[.func (.yield l) #[] #[], .pointer (some ⟨Bs, 0, none⟩)] W fun e W' => (∃ v, e = .returned v) ∧
      ((∃ ys, ys.map Subtype.val = Dn 0 0 ∧ J ys W') ∨ (∃ pre, (∃ k, k ≤ 0 ∧ pre.map Subtype.val = Dn 0 k) ∧ Jx pre W')) := by
  refine callsIn_of_wp Try.func41 rfl trivial ?_ rfl
  simp only [Try.ntmps41, List.size_toArray, List.length_cons, List.length_nil, Nat.reduceAdd, Nat.reduceSub, Array.replicate_succ, Array.replicate_zero, List.push_toArray, List.append_toArray, List.nil_append, List.cons_append]
  gi_wp2_with (refine ⟨trivial, ?_⟩; gi_at_call 17; refine (callsIn_wide.2 hd).mono ?_; rintro e w' ⟨rfl, rfl⟩)
  gi_loopw [3] (fun i wr => i = .int .i64 (-1) ∧ J [] wr) (fun i _ => 0)
  case atStart => exact ⟨rfl, h0⟩
  case round =>
    obtain ⟨rfl, hJs⟩ := hrel
    gi_wp2
    go_end0
    exact ⟨⟨_, rfl⟩, .inl ⟨[], rfl, hJs⟩⟩

set_option maxRecDepth 100000 in
set_option maxHeartbeats 2000000 in
theorem upper_zero {w : World} (p : Option Addr) (k : Int) (hd : ∀ W, Below w.heap.size w W → Calls Try.prog 17 #[.pointer p] W fun e w' => e = .returned (.int .i64 0) ∧ W = w') :
    Calls Try.prog 30 #[.pointer p, .int .i64 k] w fun e w' => e = .returned (.pointer none) ∧ Below w.heap.size w w' := by
  refine (callsIn_wide (n := 9)).1 ?_
  refine callsIn_of_wp_marks Try.func30 rfl trivial ?_ rfl
  simp only [Try.ntmps30, List.size_toArray, List.length_cons, List.length_nil, Nat.reduceAdd, Nat.reduceSub, Array.replicate_succ, Array.replicate_zero, List.push_toArray, List.append_toArray, List.nil_append, List.cons_append]
  gi_wp2_with (refine ⟨trivial, ?_⟩; gi_at_call 29; refine (callsIn_wide.2 (down_ok _ _)).mono ?_; rintro e w' ⟨rfl, rfl⟩)
  have bR := Boxed.new (w.alloc (.cells #[.int .i64 k] 3)) 68 (.pointer none)
  have bF := Boxed.new ((w.alloc (.cells #[.int .i64 k] 3)).alloc (.cells #[.pointer none] 68)) 24 (.pointer p)
  rw [World.size_alloc] at bR
  rw [World.size_alloc, World.size_alloc] at bF
  have hB0 : Below w.heap.size w (((w.alloc (.cells #[.int .i64 k] 3)).alloc (.cells #[.pointer none] 68)).alloc (.cells #[.pointer p] 24)) := (((Below.refl _ w).alloc (Nat.le_refl _) _).alloc (by simp) _).alloc (by simp; omega) _
  refine wpIn_rangeFunc_ownG rfl (by omega) (gf := 41) (lb := #[.pointer (some ⟨w.heap.size + 1 + 1, 0, none⟩)]) (α := Pl 0) (encs := fun x : Pl 0 => #[Value.int .i64 x.1, Value.pointer none]) (Kp := Below (w.heap.size + 1 + 1 + 1)) (S := fun ys => ys.map Subtype.val = Dn 0 0) (Sp := fun pre => ∃ k, k ≤ 0 ∧ pre.map Subtype.val = Dn 0 k) (N := 0)
    (w0 := ((w.alloc (.cells #[.int .i64 k] 3)).alloc (.cells #[.pointer none] 68)).alloc (.cells #[.pointer p] 24)) rfl trivial (enters_of Try.func41 (by kernel_rfl) rfl)
    (fun l J Jx W hW _ _ hY h0 => down0_in (9 - 1) (by omega) l (w.heap.size + 1 + 1) 0 p J Jx W ((hW.cell (p := ⟨w.heap.size + 1 + 1, 0, none⟩) (by simp)).trans bF.cell) (hd W (hB0.trans (hW.mono (by simp; omega)))) h0) belowK_t (belowK_b (by simp)) (Below.refl _ _) (fun _ => rfl)
    (fun pre W => (W.cell? ⟨w.heap.size + 1, 0, none⟩ = some (.pointer none) ∧ W.frozen? ⟨w.heap.size + 1, 0, none⟩ = false) ∧ Below w.heap.size w W)
    (fun _ _ _ => False)
    (OwnFrom.and (Own.from (fun s A B row hs hg hr => ⟨cell_kept hs.1 hg hr, (frozen_kept hs.1 hg hr).trans hs.2⟩) _) (ownFrom_below (Nat.le_refl _) (by simp; omega)))
    (fun _ _ _ _ _ hs _ _ => hs)
    ⟨⟨(bR.alloc _).cell, (bR.alloc _).frozen⟩, hB0⟩
    (fun x => { tmps := #[], defers := [] }) ?assign ?body ?done ?stop
  case assign =>
    intro l x
    exact absurd x.2 (by omega)
  case body =>
    rintro l pre x
    exact absurd x.2 (by omega)
  case done =>
    rintro D ys W hD hys ⟨⟨hcR, hfR⟩, hB⟩ hK
    gi_wp2
    have hK' := (KeepsOthers.setCell W ⟨w.heap.size + 1, 0, none⟩ (.pointer none)).same D _ hK rfl
    refine ⟨by simp, .inl ⟨_, _, rfl, run_takeDeferred hK', ?_⟩⟩
    have hc5 := cell_kept (World.cell?_setCell_same' W ⟨w.heap.size + 1, 0, none⟩ (.pointer none) (by rw [hcR]; rfl)) (grownBy_putObj' _ D (.deferred none)) (fun r e => by cases e; exact ⟨_, hK', rfl⟩)
    refine ⟨.pointer none, ?_, rfl, (hB.setCell (p := ⟨w.heap.size + 1, 0, none⟩) (by show w.heap.size ≤ w.heap.size + 1; omega) _).trans (belowK_b (w := w) (Nat.le_refl _) _ D _ _ (by simp at hD; omega) hK' rfl rfl)⟩
    simp [results, Try.f30, go_sem, hc5]
  case stop =>
    rintro D c pre W _ _ h _
    exact h.elim

theorem pop_nil (w : World) (k : Int) : Calls Try.prog 18 #[.pointer none, .int .i64 k] w fun e w' => e = .returned (.tuple #[Z6, .int .i64 2]) ∧ Below w.heap.size w w' := by
  have hB : Below w.heap.size w (w.alloc (.cells #[.int .i64 0, .int .i64 0, .int .i64 0, .int .i64 0, .int .i64 0, .slice none 0 0] 30)) := (Below.refl _ _).alloc (Nat.le_refl _) _
  have hu := upper_zero (w := w.alloc (.cells #[.int .i64 0, .int .i64 0, .int .i64 0, .int .i64 0, .int .i64 0, .slice none 0 0] 30)) none k (fun W _ => (depth_nil W).mono fun e w' h => ⟨h.1, h.2.symm⟩)
  go_enter Try.func18, Try.ntmps18
  go_wp2_with (go_at_call 30; refine hu.mono ?_; rintro e w1 ⟨rfl, hB1⟩; have fz := (FB.new w 0 0 0 0 0 (.slice none 0 0)).below hB1 (by simp); obtain ⟨⟨z0, z1, z2, z3, z4, z5⟩, y0, y1, y2, y3, y4, y5⟩ := fz.facts)
  obtain ⟨⟨x0, x1, x2, x3, x4, x5⟩, _⟩ := (fz.set6 0 0 0 0 0 (.slice none 0 0)).facts
  simp [bodyPost, results, Try.results18, go_sem, x0, x1, x2, x3, x4, x5]
  exact below_set6 (hB.trans (hB1.mono (by simp))) (Nat.le_refl _) 0 0 0 0 0 (.slice none 0 0)

/-- Blocks that come are nobody's of those that count. -/
def Owner.cap (o : Owner) (n j : Nat) : Owner := fun k => if k < n then o k else j
theorem Owner.cap_lo (o : Owner) {n k : Nat} (j : Nat) (h : k < n) : o.cap n j k = o k := by simp [Owner.cap, h]
theorem Owner.cap_hi (o : Owner) {n k : Nat} (j : Nat) (h : n ≤ k) : o.cap n j k = j := by simp [Owner.cap, show ¬ k < n by omega]
theorem FStk.cap {w : World} {o : Owner} {i b : Nat} {fs : List Fr} (h : FStk w o i b fs) (j : Nat) : FStk w (o.cap w.heap.size j) i b fs := by
  obtain ⟨h0, v, hb, hr⟩ := h
  exact ⟨h0, v, ⟨hb.heap, by rw [Owner.cap_lo o j hb.lt]; exact hb.own⟩, hr.owner (fun g hg e => by rw [Owner.cap_lo o j hg]; exact e)⟩
theorem Step.uncap {S : List Nat} {w w' : World} {o o' : Owner} {j : Nat} (h : Step S w (o.cap w.heap.size j) w' o') : Step S w o w' o' :=
  ⟨h.os, h.tape, h.output, h.size, fun b hb => (h.own b hb).trans (Owner.cap_lo o j hb), fun b hb hn => h.blk b hb (by rw [Owner.cap_lo o j hb]; exact hn)⟩

set_option maxHeartbeats 2000000 in
theorem pop_some {w : World} {o : Owner} {i b : Nat} {fs : List Fr} {k a c x y : Int} (hs : FStk w o i b (fs ++ [⟨k, a, c, x, y, .slice none 0 0⟩])) :
    Calls Try.prog 18 #[.pointer (some ⟨b, 0, none⟩), .int .i64 k] w fun e w' => ∃ o', e = .returned (.tuple #[.agg #[.int .i64 k, .int .i64 a, .int .i64 c, .int .i64 x, .int .i64 y, .slice none 0 0], .int .i64 0]) ∧ FStk w' o' i b fs ∧ Step [i] w o w' o' := by
  obtain ⟨O, hO⟩ : ∃ O, O = o.cap w.heap.size (i + 2) := ⟨_, rfl⟩
  have hs := hs.cap (i + 2)
  rw [← hO] at hs
  have hOz : ∀ q, w.heap.size ≤ q → O q ∉ [i] := fun q hq => by rw [hO, Owner.cap_hi o _ hq]; simp
  have sA : Step [] w O (w.alloc (.cells #[.int .i64 0, .int .i64 0, .int .i64 0, .int .i64 0, .int .i64 0, .slice none 0 0] 30)) O := (Step.refl _ _ _).alloc _
  have hsA := hs.frame sA (by simp) (by simp)
  have hfz := FB.new w 0 0 0 0 0 (.slice none 0 0)
  obtain ⟨h0, v, hb, hr⟩ := id hsA
  simp only [List.length_append, List.length_cons, List.length_nil, Nat.zero_add] at h0
  have hlen : (fs ++ [(⟨k, a, c, x, y, .slice none 0 0⟩ : Fr)]).length = fs.length + 1 := by simp
  obtain ⟨g, cap, rfl, hx⟩ := hr.rowx (by omega)
  have hkd := kinds_of hx
  rw [hlen] at hx hb hkd
  have hc := hb.cell0
  have hu := upper_some (len := fs.length + 1) (by omega) (by omega) k _ hc hkd
  have hkt : ((fs ++ [(⟨k, a, c, x, y, .slice none 0 0⟩ : Fr)])[fs.length + 1 - 1]?.getD ⟨0, 0, 0, 0, 0, undef⟩).k = k := by simp
  rw [if_pos hkt, show fs.length + 1 - 1 = fs.length by omega] at hu
  have HLEN := Lib.hid hlen
  clear hkt hkd hc hlen hr hs
  go_enter Try.func18, Try.ntmps18
  go_wp2_with (go_at_call 30; refine hu.mono ?_; rintro e w1 ⟨rfl, hB1⟩; have s1 := Step.ofBelow hB1 O; have hs1 := hsA.frame s1 (by simp) (by simp); have hx1 := hx.frame s1 (by simp); have hb1 := hb.frame s1 (by simp); have hc1 := hb1.cell0; have q0 : w1.cell? ⟨g, fs.length * 6, none⟩ = some (.int .i64 k) := hx1.cell (frs_top fs (⟨k, a, c, x, y, .slice none 0 0⟩ : Fr) 0 (by omega)); have q1 : w1.cell? ⟨g, fs.length * 6 + 1, none⟩ = some (.int .i64 a) := hx1.cell (frs_top fs (⟨k, a, c, x, y, .slice none 0 0⟩ : Fr) 1 (by omega)); have q2 : w1.cell? ⟨g, fs.length * 6 + 2, none⟩ = some (.int .i64 c) := hx1.cell (frs_top fs (⟨k, a, c, x, y, .slice none 0 0⟩ : Fr) 2 (by omega)); have q3 : w1.cell? ⟨g, fs.length * 6 + 3, none⟩ = some (.int .i64 x) := hx1.cell (frs_top fs (⟨k, a, c, x, y, .slice none 0 0⟩ : Fr) 3 (by omega)); have q4 : w1.cell? ⟨g, fs.length * 6 + 4, none⟩ = some (.int .i64 y) := hx1.cell (frs_top fs (⟨k, a, c, x, y, .slice none 0 0⟩ : Fr) 4 (by omega)); have q5 : w1.cell? ⟨g, fs.length * 6 + 5, none⟩ = some (.slice none 0 0) := hx1.cell (frs_top fs (⟨k, a, c, x, y, .slice none 0 0⟩ : Fr) 5 (by omega)))
  refine (own_bare w1 O k a c x y).mono ?_
  rintro e w2 ⟨rfl, s2⟩
  have sT : Step [] w2 O (w2.alloc (.cells #[.int .i64 k, .int .i64 a, .int .i64 c, .int .i64 x, .int .i64 y, .slice none 0 0] 30)) O := (Step.refl _ _ _).alloc _
  have sW := (sA.trans s1).trans s2
  have fT := FB.new w2 k a c x y (.slice none 0 0)
  have hs3 := (hs1.frame s2 (by simp) (by simp)).frame sT (by simp) (by simp)
  have hb3 := (hb1.frame s2 (by simp)).frame sT (by simp)
  have hc3 := hb3.cell0
  have hz3 := ((hfz.step s1 (by simp)).step s2 (by simp)).step sT (by simp)
  have hcut := cut_ok hs3 fs.length
  rw [show cutF (fs ++ [(⟨k, a, c, x, y, .slice none 0 0⟩ : Fr)]) fs.length = fs by simp [cutF]] at hcut
  have hw2 : w.heap.size ≤ w2.heap.size := sW.size
  clear q0 q1 q2 q3 q4 q5 hu hx1 hb1 hx hc1
  go_wp2_with (go_at_call 16; refine hcut.mono ?_; rintro e w4 ⟨rfl, hs4, s4⟩; have fT4 := fT.step s4 (hOz _ hw2); have fz4 := hz3.step s4 (hOz _ (Nat.le_refl _)); obtain ⟨⟨t0, t1, t2, t3, t4, t5⟩, _⟩ := fT4.facts; obtain ⟨⟨z0, z1, z2, z3, z4, z5⟩, y0, y1, y2, y3, y4, y5⟩ := fz4.facts)
  obtain ⟨⟨r0, r1, r2, r3, r4, r5⟩, _⟩ := (fz4.set6 k a c x y (.slice none 0 0)).facts
  have hz2 : O w.heap.size ∈ [i + 2] := by rw [hO, Owner.cap_hi o _ (Nat.le_refl _)]; simp
  have s5 : Step [i + 2] w4 O (set6 w4 w.heap.size k a c x y (.slice none 0 0)) O := step_set6 (Step.refl _ _ _) (fun _ => hz2) k a c x y _
  have hsF := hs4.frame s5 (by simp) (by simp)
  have sF : Step [i] w O (set6 w4 w.heap.size k a c x y (.slice none 0 0)) O := step_set6 (((sW.trans sT).nil).trans s4) (fun h => absurd h (Nat.lt_irrefl _)) k a c x y _
  rw [hO] at sF
  simp [bodyPost, results, Try.results18, go_sem, r0, r1, r2, r3, r4, r5]
  exact ⟨_, hsF, hO ▸ sF.uncap⟩

/-- A frame without locals is itself. -/
theorem one_bare (w : World) (o : Owner) (k a c x y : Int) : Calls Try.prog 19 #[.agg #[.int .i64 k, .int .i64 a, .int .i64 c, .int .i64 x, .int .i64 y, .slice none 0 0], .agg #[.int .i64 k, .int .i64 a, .int .i64 c, .int .i64 x, .int .i64 y, .slice none 0 0]] w fun e w' => e = .returned (.bool true) ∧ Step [] w o w' o := by
  go_enter Try.func19, Try.ntmps19
  go_wp2_with fail
  go_loopg [5] 0 (fun g v wr => g = 0 ∧ v = .int .i64 0 ∧ wr = (w.alloc (.cells #[.int .i64 k, .int .i64 a, .int .i64 c, .int .i64 x, .int .i64 y, .slice none 0 0] 30)).alloc (.cells #[.int .i64 k, .int .i64 a, .int .i64 c, .int .i64 x, .int .i64 y, .slice none 0 0] 30))
  case atStart => exact ⟨rfl, rfl, rfl⟩
  case round =>
    obtain ⟨rfl, rfl, rfl⟩ := hrel
    go_wp2
    go_ret
    exact ⟨rfl, ((Step.refl _ _ _).alloc _).alloc _⟩
end Go.Proofs.Ytegcpjheglcbcaa
