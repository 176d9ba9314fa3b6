/- Frames of the program: Catch of stacks of frames. -/
import Derived.Test.YtegcpjheglcbcaaFrmG
namespace Go.Proofs.Ytegcpjheglcbcaa
open Go Go.RowKit Go.Shelf
set_option linter.unusedSimpArgs false
set_option linter.unusedVariables false
attribute [local go_sem] Oper.semAt_some

set_option maxRecDepth 100000 in
set_option maxHeartbeats 2000000 in
theorem catch_zero {w : World} (p : Option Addr) (hd : ∀ W, Below w.heap.size w W → Calls Try.prog 17 #[.pointer p] W fun e w' => e = .returned (.int .i64 0) ∧ W = w') :
    Calls Try.prog 21 #[.pointer p] w fun e w' => e = .returned (.tuple #[Z6, .bool false]) ∧ Below w.heap.size w w' := by
  refine (callsIn_wide (n := 9)).1 ?_
  refine callsIn_of_wp_marks Try.func21 rfl trivial ?_ rfl
  simp only [Try.ntmps21, List.size_toArray, List.length_cons, List.length_nil, Nat.reduceAdd, Nat.reduceSub, Array.replicate_succ, Array.replicate_zero, List.push_toArray, List.append_toArray, List.nil_append, List.cons_append]
  gi_wp2_with (refine ⟨trivial, ?_⟩; gi_at_call 29; refine (callsIn_wide.2 (down_ok _ _)).mono ?_; rintro e w' ⟨rfl, rfl⟩)
  obtain ⟨w1, hw1⟩ : ∃ w1, w1 = w.alloc (.cells #[.pointer p] 24) := ⟨_, rfl⟩
  obtain ⟨w2, hw2⟩ : ∃ w2, w2 = w1.alloc (.cells #[.int .i64 0, .int .i64 0, .int .i64 0, .int .i64 0, .int .i64 0, .slice none 0 0] 30) := ⟨_, rfl⟩
  obtain ⟨w3, hw3⟩ : ∃ w3, w3 = w2.alloc (.cells #[.bool false] 4) := ⟨_, rfl⟩
  obtain ⟨w4, hw4⟩ : ∃ w4, w4 = w3.alloc (.cells #[.pointer p] 24) := ⟨_, rfl⟩
  rw [← hw1, ← hw2, ← hw3, ← hw4]
  have z1 : w1.heap.size = w.heap.size + 1 := by rw [hw1, World.size_alloc]
  have z2 : w2.heap.size = w.heap.size + 1 + 1 := by rw [hw2, World.size_alloc, z1]
  have z3 : w3.heap.size = w.heap.size + 1 + 1 + 1 := by rw [hw3, World.size_alloc, z2]
  have z4 : w4.heap.size = w.heap.size + 1 + 1 + 1 + 1 := by rw [hw4, World.size_alloc, z3]
  have bV := FB.new w1 0 0 0 0 0 (.slice none 0 0)
  have bE := Boxed.new w2 4 (.bool false)
  have bD := Boxed.new w3 24 (.pointer p)
  rw [← hw2, z1] at bV
  rw [← hw3, z2] at bE
  rw [← hw4, z3] at bD
  have B1 : Below w.heap.size w w1 := by rw [hw1]; exact (Below.refl _ w).alloc (Nat.le_refl _) _
  have B14 : Below (w.heap.size + 1) w1 w4 := by rw [hw4, hw3, hw2]; exact (((Below.refl _ _).alloc (by omega) _).alloc (by simp; omega) _).alloc (by simp; omega) _
  have B24 : Below (w.heap.size + 1 + 1) w2 w4 := by rw [hw4, hw3]; exact ((Below.refl _ _).alloc (by omega) _).alloc (by simp; omega) _
  have B34 : Below (w.heap.size + 1 + 1 + 1) w3 w4 := by rw [hw4]; exact (Below.refl _ _).alloc (by omega) _
  have hB0 : Below w.heap.size w w4 := B1.trans (B14.mono (by omega))
  have cV := bV.below B24 (by omega)
  have cE := (B34.cell (p := ⟨w.heap.size + 1 + 1, 0, none⟩) (by show w.heap.size + 1 + 1 < w.heap.size + 1 + 1 + 1; omega)).trans bE.cell
  have fE := (B34.frozen (p := ⟨w.heap.size + 1 + 1, 0, none⟩) (by show w.heap.size + 1 + 1 < w.heap.size + 1 + 1 + 1; omega)).trans bE.frozen
  clear bV bE B1 B14 B24 B34 hw1 hw2 hw3 hw4
  refine wpIn_rangeFunc_ownG rfl (by omega) (gf := 41) (lb := #[.pointer (some ⟨w.heap.size + 1 + 1 + 1, 0, none⟩)]) (α := Pl 0) (encs := fun x : Pl 0 => #[Value.int .i64 x.1, Value.pointer none]) (Kp := Below (w.heap.size + 1 + 1 + 1 + 1)) (S := fun ys => ys.map Subtype.val = Dn 0 0) (Sp := fun pre => ∃ k, k ≤ 0 ∧ pre.map Subtype.val = Dn 0 k) (N := 0)
    (w0 := w4) rfl trivial (enters_of Try.func41 (by kernel_rfl) rfl)
    (fun l J Jx W hW _ _ hY h0 => down0_in (9 - 1) (by omega) l (w.heap.size + 1 + 1 + 1) 0 p J Jx W ((hW.cell (p := ⟨w.heap.size + 1 + 1 + 1, 0, none⟩) (by show w.heap.size + 1 + 1 + 1 < w4.heap.size; omega)).trans bD.cell) (hd W (hB0.trans (hW.mono (by omega)))) h0) belowK_t (belowK_b (by omega)) (Below.refl _ _) (fun _ => rfl)
    (fun pre W => (FB W (w.heap.size + 1) 0 0 0 0 0 (.slice none 0 0) ∧ W.cell? ⟨w.heap.size + 1 + 1, 0, none⟩ = some (.bool false) ∧ W.frozen? ⟨w.heap.size + 1 + 1, 0, none⟩ = false) ∧ Below w.heap.size w W)
    (fun _ _ _ => False)
    (OwnFrom.and (Own.from (fun s A B row hs hg hr => ⟨hs.1.kept hg hr, cell_kept hs.2.1 hg hr, (frozen_kept hs.2.1 hg hr).trans hs.2.2⟩) _) (ownFrom_below (Nat.le_refl _) (by omega)))
    (fun _ _ _ _ _ hs _ _ => hs)
    ⟨⟨cV, cE, fE⟩, hB0⟩
    (fun x => { tmps := #[], defers := [] }) ?assign ?body ?done ?stop
  case assign =>
    intro l x
    exact absurd x.2 (by omega)
  case body =>
    rintro l pre x
    exact absurd x.2 (by omega)
  case done =>
    rintro D ys W hD hys ⟨⟨hV, hE, hfE⟩, hB⟩ hK
    obtain ⟨⟨v0, v1, v2, v3, v4, v5⟩, u0, u1, u2, u3, u4, u5⟩ := hV.facts
    gi_wp2
    have c6 := (cell_set6 W (b := w.heap.size + 1) (q := w.heap.size + 1 + 1) (by omega) 0 0 0 0 0 (.slice none 0 0)).trans hE
    have hV2 := FB.other (hV.set6 0 0 0 0 0 (.slice none 0 0)) (q := ⟨w.heap.size + 1 + 1, 0, none⟩) (by show w.heap.size + 1 ≠ w.heap.size + 1 + 1; omega) (.bool false)
    have hE2 := World.cell?_setCell_same' (set6 W (w.heap.size + 1) 0 0 0 0 0 (.slice none 0 0)) ⟨w.heap.size + 1 + 1, 0, none⟩ (.bool false) (by rw [c6]; rfl)
    have hK' := ((KeepsOthers.set6 W (w.heap.size + 1) 0 0 0 0 0 (.slice none 0 0)).trans (KeepsOthers.setCell _ ⟨w.heap.size + 1 + 1, 0, none⟩ (.bool false))).same D _ hK rfl
    refine ⟨by simp, .inl ⟨_, _, rfl, run_takeDeferred hK', ?_⟩⟩
    have hgr := grownBy_putObj' ((set6 W (w.heap.size + 1) 0 0 0 0 0 (.slice none 0 0)).setCell ⟨w.heap.size + 1 + 1, 0, none⟩ (.bool false)) D (.deferred none)
    have hrow : ∀ r, some D = some r → ∃ ob : Obj, ((set6 W (w.heap.size + 1) 0 0 0 0 0 (.slice none 0 0)).setCell ⟨w.heap.size + 1 + 1, 0, none⟩ (.bool false)).heap[r]? = some ob ∧ ob.isCells = false := fun r e => by cases e; exact ⟨_, hK', rfl⟩
    obtain ⟨⟨r0, r1, r2, r3, r4, r5⟩, _⟩ := (hV2.kept hgr hrow).facts
    have hc6 := cell_kept hE2 hgr hrow
    refine ⟨.tuple #[Z6, .bool false], ?_, rfl, ((below_set6 hB (b := w.heap.size + 1) (by omega) 0 0 0 0 0 _).setCell (p := ⟨w.heap.size + 1 + 1, 0, none⟩) (by show w.heap.size ≤ w.heap.size + 1 + 1; omega) _).trans (belowK_b (w := w) (Nat.le_refl _) _ D _ _ (by omega) hK' rfl rfl)⟩
    simp [results, Try.f21, go_sem, r0, r1, r2, r3, r4, r5, hc6]
  case stop =>
    rintro D c pre W _ _ h _
    exact h.elim

theorem catch_nil {w : World} {o : Owner} {i b : Nat} (hs : FStk w o i b []) : Calls Try.prog 21 #[.pointer (some ⟨b, 0, none⟩)] w fun e w' => e = .returned (.tuple #[Z6, .bool false]) ∧ Step [] w o w' o := by
  refine (catch_zero _ (fun W hB => ?_)).mono ?_
  · refine (depth_ok (hs.frame (Step.ofBelow hB o) (by simp) (by simp))).mono ?_
    rintro e w' ⟨rfl, rfl⟩
    exact ⟨rfl, rfl⟩
  · rintro e w' ⟨rfl, hB⟩
    exact ⟨rfl, Step.ofBelow hB o⟩

theorem catch_ok {w : World} {o : Owner} {i b : Nat} {lo hi : List Fr} {a c x y : Int} (hs : FStk w o i b (lo ++ ⟨5, a, c, x, y, .slice none 0 0⟩ :: hi)) (hbare : ∀ f ∈ lo ++ ⟨5, a, c, x, y, .slice none 0 0⟩ :: hi, f.lv = .slice none 0 0) (hup : ∀ f ∈ hi, ¬ f.k = 5) :
    Calls Try.prog 21 #[.pointer (some ⟨b, 0, none⟩)] w fun e w' => ∃ o', e = .returned (.tuple #[.agg #[.int .i64 5, .int .i64 a, .int .i64 c, .int .i64 x, .int .i64 y, .slice none 0 0], .bool true]) ∧ FStk w' o' i b lo ∧ Step [i] w o w' o' := by
  obtain ⟨h0, v, hb, hr⟩ := hs.cap (i + 2)
  have hlen : (lo ++ (⟨5, a, c, x, y, .slice none 0 0⟩ : Fr) :: hi).length = lo.length + (hi.length + 1) := by simp
  obtain ⟨g, cap, rfl, hx⟩ := hr.rowx (by omega)
  have hget : (lo ++ (⟨5, a, c, x, y, .slice none 0 0⟩ : Fr) :: hi)[lo.length]'(by omega) = ⟨5, a, c, x, y, .slice none 0 0⟩ := by simp
  refine (catch_raw (fun q hq => Owner.cap_hi o _ hq) (by omega) h0 hbare hb hx lo.length (by omega) (by rw [hget]) (fun u hu hlt => ?_)).mono ?_
  · rw [List.getElem_append_right (by omega)]
    obtain ⟨u', hu'⟩ : ∃ u', u - lo.length = u' + 1 := ⟨u - lo.length - 1, by omega⟩
    simp only [hu', List.getElem_cons_succ]
    exact hup _ (List.getElem_mem _)
  · rintro e w' ⟨rfl, h1, h2⟩
    rw [List.take_left' rfl] at h1
    refine ⟨_, ?_, h1, h2.uncap⟩
    rw [hget]
end Go.Proofs.Ytegcpjheglcbcaa
