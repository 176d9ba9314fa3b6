/- Frames of the program: the iterator 'down', and 'upper'. -/
import Derived.RangeFuncNested
import Derived.RangeFuncBound
import Derived.RangeFuncCalls
import Derived.RangeFuncLeaves
import Derived.Shelf.Abstract
import Derived.Shelf.RegionOpen
import Derived.WalkKit
import Derived.OwnWalkIn
import Derived.TacticsInMore
import Derived.LoopNIn
import Derived.LoopIn
import Derived.Test.YtegcpjheglcbcaaFrmA
namespace Go.Proofs.Ytegcpjheglcbcaa
open Go Go.RowKit Go.Shelf
set_option linter.unusedSimpArgs false
set_option linter.unusedVariables false
attribute [local go_sem] Oper.semAt_some

/-- What has come when k rounds are over: the places, from the uppermost down. -/
def Dn (len k : Nat) : List Nat := (List.range k).map fun j => len - 1 - j
theorem Dn_succ (len k : Nat) : Dn len (k + 1) = Dn len k ++ [len - 1 - k] := by simp [Dn, List.range_succ]
theorem Dn_length (len k : Nat) : (Dn len k).length = k := by simp [Dn]

theorem depth_raw {w : World} {b len cap : Nat} {ao : Option Addr} (hc : w.cell? ⟨b, 0, none⟩ = some (.slice ao len cap)) :
    Calls Try.prog 17 #[.pointer (some ⟨b, 0, none⟩)] w fun e w' => e = .returned (.int .i64 len) ∧ w = w' := by
  go_enter Try.func17, Try.ntmps17
  go_wp2
  go_ret
  exact ⟨rfl, rfl⟩

theorem down_ok (w : World) (p : Option Addr) :
    Calls Try.prog 29 #[.pointer p] w fun e w' => e = .returned (.func (.func 41) #[] #[.pointer (some ⟨w.heap.size, 0, none⟩)]) ∧ w' = w.alloc (.cells #[.pointer p] 24) := by
  go_enter Try.func29, Try.ntmps29
  go_wp2
  go_ret
  exact ⟨rfl, rfl⟩

/-- A place of a frame. -/
abbrev Pl (len : Nat) : Type := { x : Nat // x < len }

set_option maxRecDepth 100000 in
set_option maxHeartbeats 2000000 in
/-- The iterator's closure: for every loop body that keeps what lay below n₀. -/
theorem down1_in (n : Nat) (hn : 1 ≤ n) (l Bs b g n₀ len cap : Nat) (ao : Option Addr) (hB : Bs < n₀) (hb : b < n₀) (hl : len ≤ 1000) (hg : 0 < len → ao = some ⟨g, 0, none⟩) (J Jx : List (Pl len) → World → Prop)
    (hY : ∀ pre x W, J pre W → pre.length < len → YieldAt Fence.wide (n - 1) Try.prog l #[.int .i64 x.1, .pointer (some ⟨g, x.1 * 6, none⟩)] W fun e W' =>
      (e = .returned (.bool true) ∧ J (pre ++ [x]) W' ∧ Below n₀ W W') ∨ (e = .returned (.bool false) ∧ Jx (pre ++ [x]) W'))
    (W : World) (hBs : W.cell? ⟨Bs, 0, none⟩ = some (.pointer (some ⟨b, 0, none⟩))) (hc : W.cell? ⟨b, 0, none⟩ = some (.slice ao len cap)) (h0 : J [] W) :
    CallsIn Fence.wide n Try.prog 41 #[.func (.yield l) #[] #[], .pointer (some ⟨Bs, 0, none⟩)] W fun e W' => (∃ v, e = .returned v) ∧
      ((∃ ys, ys.map Subtype.val = Dn len len ∧ J ys W') ∨ (∃ pre, (∃ k, k ≤ len ∧ pre.map Subtype.val = Dn len k) ∧ Jx pre W')) := by
  refine callsIn_of_wp Try.func41 rfl trivial ?_ rfl
  simp only [Try.ntmps41, List.size_toArray, List.length_cons, List.length_nil, Nat.reduceAdd, Nat.reduceSub, Array.replicate_succ, Array.replicate_zero, List.push_toArray, List.append_toArray, List.nil_append, List.cons_append]
  gi_wp2_with (refine ⟨trivial, ?_⟩; gi_at_call 17; refine (callsIn_wide.2 (depth_raw hc)).mono ?_; rintro e w' ⟨rfl, rfl⟩)
  gi_loopw [3] (fun i wr => ∃ (k : Nat) (pre : List (Pl len)), k ≤ len ∧ i = .int .i64 ((len : Int) - 1 - k) ∧ pre.map Subtype.val = Dn len k ∧ J pre wr ∧ Below n₀ W wr)
    (fun i _ => (intOf i + 1).toNat)
  case atStart => exact ⟨0, [], Nat.zero_le _, by simp, rfl, h0, Below.refl _ _⟩
  case round =>
    obtain ⟨k, pre, hk, rfl, hpre, hJs, hnx⟩ := hrel
    have hplen : pre.length = k := by have := congrArg List.length hpre; simpa [Dn_length] using this
    by_cases hlt : k < len
    · obtain ⟨x, hx⟩ : ∃ x : Nat, x = len - 1 - k := ⟨_, rfl⟩
      have hxi : (len : Int) - 1 - k = x := by omega
      have hxl : x < len := by omega
      obtain ⟨fn, tmps, assign, body, hy, hR⟩ := hY pre ⟨x, hxl⟩ wr hJs (by omega)
      (try dsimp only at hy)
      have hBs' := (hnx.cell (p := ⟨Bs, 0, none⟩) hB).trans hBs
      have hc' := (hnx.cell (p := ⟨b, 0, none⟩) hb).trans hc
      have e := hg (by omega)
      subst e
      have hx0 : (0 : Int) ≤ x := by omega
      have hx1 : (x : Int) < len := by omega
      rw [hxi]
      have HX := Lib.hid hx
      have HLT := Lib.hid hlt
      have HP := Lib.hid hpre
      clear hBs hc hx hxi hlt hJs hpre hplen
      gi_wp2
      refine hR.mono ?_
      rintro e W3 (⟨rfl, hJ3, hk3⟩ | ⟨rfl, hJx3⟩)
      · gi_wp2
        go_roundw
        case rel => exact ⟨k + 1, _, by have := HLT.out; omega, by have := HX.out; have := HLT.out; congr 1; omega, by rw [Dn_succ, ← HX.out, ← HP.out]; simp, hJ3, hnx.trans hk3⟩
        case measure => simp [intOf]
      · gi_wp2
        refine bodyPost_ret (results_none rfl _ _ _) rfl ?_
        exact ⟨⟨_, rfl⟩, .inr ⟨_, ⟨k + 1, by have := HLT.out; omega, by rw [Dn_succ, ← HX.out, ← HP.out]; simp⟩, hJx3⟩⟩
    · obtain rfl : k = len := by omega
      have hxi : (k : Int) - 1 - k = -1 := by omega
      rw [hxi]
      gi_wp2
      go_end0
      exact ⟨⟨_, rfl⟩, .inl ⟨_, hpre, hJs⟩⟩

theorem down_stops (n : Nat) (hn : 1 ≤ n) (Bs b g n₀ len cap : Nat) (ao : Option Addr) (w : World) (hB : Bs < n₀) (hb : b < n₀) (hl : len ≤ 1000) (hg : 0 < len → ao = some ⟨g, 0, none⟩) (hn₀ : n₀ ≤ w.heap.size)
    (hBs : w.cell? ⟨Bs, 0, none⟩ = some (.pointer (some ⟨b, 0, none⟩))) (hc : w.cell? ⟨b, 0, none⟩ = some (.slice ao len cap)) :
    SeqStopsK Fence.wide n Try.prog 41 #[.pointer (some ⟨Bs, 0, none⟩)] (fun x : Pl len => #[Value.int .i64 x.1, Value.pointer (some ⟨g, x.1 * 6, none⟩)]) (Below n₀) (fun ys => ys.map Subtype.val = Dn len len) (fun pre => ∃ k, k ≤ len ∧ pre.map Subtype.val = Dn len k) len w := fun l J Jx W hW _ _ hY h0 =>
  down1_in n hn l Bs b g n₀ len cap ao hB hb hl hg J Jx hY W ((hW.cell (p := ⟨Bs, 0, none⟩) (by show Bs < w.heap.size; omega)).trans hBs) ((hW.cell (p := ⟨b, 0, none⟩) (by show b < w.heap.size; omega)).trans hc) h0

theorem Step.ofBelow {w w' : World} (h : Below w.heap.size w w') (o : Owner) : Step [] w o w' o := ⟨h.os, h.tape, h.output, h.size, fun _ _ => rfl, fun b hb _ => h.block b hb⟩

theorem cell_block {w : World} {a : Addr} {v : Value} (h : w.cell? a = some v) : a.block < w.heap.size := World.block_lt_of_cell? w _ h

set_option maxRecDepth 100000 in
set_option maxHeartbeats 2000000 in
/-- The uppermost frame is looked at: its place, if it is of that kind. -/
theorem upper_some {w : World} {b g len cap : Nat} (hl : len ≤ 1000) (hlp : 0 < len) (k : Int) (kf : Nat → Int) (hc : w.cell? ⟨b, 0, none⟩ = some (.slice (some ⟨g, 0, none⟩) len cap))
    (hk : ∀ x, x < len → w.cell? ⟨g, x * 6, none⟩ = some (.int .i64 (kf x))) :
    Calls Try.prog 30 #[.pointer (some ⟨b, 0, none⟩), .int .i64 k] w fun e w' => e = .returned (.pointer (if kf (len - 1) = k then some ⟨g, (len - 1) * 6, none⟩ else none)) ∧ Below w.heap.size w w' := by
  have hb : b < w.heap.size := cell_block hc
  have hgs : g < w.heap.size := cell_block (hk 0 hlp)
  refine (callsIn_wide (n := 9)).1 ?_
  refine callsIn_of_wp_marks Try.func30 rfl trivial ?_ rfl
  simp only [Try.ntmps30, List.size_toArray, List.length_cons, List.length_nil, Nat.reduceAdd, Nat.reduceSub, Array.replicate_succ, Array.replicate_zero, List.push_toArray, List.append_toArray, List.nil_append, List.cons_append]
  gi_wp2_with (refine ⟨trivial, ?_⟩; gi_at_call 29; refine (callsIn_wide.2 (down_ok _ _)).mono ?_; rintro e w' ⟨rfl, rfl⟩)
  have bK := Boxed.new w 3 (.int .i64 k)
  have bR := Boxed.new (w.alloc (.cells #[.int .i64 k] 3)) 68 (.pointer none)
  have bF := Boxed.new ((w.alloc (.cells #[.int .i64 k] 3)).alloc (.cells #[.pointer none] 68)) 24 (.pointer (some ⟨b, 0, none⟩))
  rw [World.size_alloc] at bR
  rw [World.size_alloc, World.size_alloc] at bF
  have hB0 : Below w.heap.size w (((w.alloc (.cells #[.int .i64 k] 3)).alloc (.cells #[.pointer none] 68)).alloc (.cells #[.pointer (some ⟨b, 0, none⟩)] 24)) := (((Below.refl _ w).alloc (Nat.le_refl _) _).alloc (by simp) _).alloc (by simp; omega) _
  have hk3 : ∀ x, x < len → (((w.alloc (.cells #[.int .i64 k] 3)).alloc (.cells #[.pointer none] 68)).alloc (.cells #[.pointer (some ⟨b, 0, none⟩)] 24)).cell? ⟨g, x * 6, none⟩ = some (.int .i64 (kf x)) := fun x hx => (hB0.cell (p := ⟨g, x * 6, none⟩) hgs).trans (hk x hx)
  have hc3 := (hB0.cell (p := ⟨b, 0, none⟩) hb).trans hc
  refine wpIn_rangeFunc_ownG rfl (by omega) (gf := 41) (lb := #[.pointer (some ⟨w.heap.size + 1 + 1, 0, none⟩)]) rfl trivial (enters_of Try.func41 (by kernel_rfl) rfl)
    (down_stops (9 - 1) (by omega) (w.heap.size + 1 + 1) b g (w.heap.size + 1 + 1 + 1) len cap _ _ (by omega) (by omega) hl (fun _ => rfl) (by simp) bF.cell hc3) belowK_t (belowK_b (by simp)) (Below.refl _ _) (fun _ => rfl)
    (fun pre W => (pre = [] ∧ W.cell? ⟨w.heap.size, 0, none⟩ = some (.int .i64 k) ∧ W.cell? ⟨w.heap.size + 1, 0, none⟩ = some (.pointer none) ∧ W.frozen? ⟨w.heap.size + 1, 0, none⟩ = false ∧ ∀ x, x < len → W.cell? ⟨g, x * 6, none⟩ = some (.int .i64 (kf x))) ∧ Below w.heap.size w W)
    (fun c pre W => (∃ x : Pl len, pre = [x] ∧ W.frozen? ⟨w.heap.size + 1, 0, none⟩ = false ∧ ((c = .ret ∧ kf x.1 = k ∧ W.cell? ⟨w.heap.size + 1, 0, none⟩ = some (.pointer (some ⟨g, x.1 * 6, none⟩))) ∨ (c = .exit 0 ∧ ¬ kf x.1 = k ∧ W.cell? ⟨w.heap.size + 1, 0, none⟩ = some (.pointer none)))) ∧ Below w.heap.size w W)
    (OwnFrom.and (Own.from (fun s A B row hs hg hr => ⟨hs.1, cell_kept hs.2.1 hg hr, cell_kept hs.2.2.1 hg hr, (frozen_kept hs.2.2.1 hg hr).trans hs.2.2.2.1, fun x hx => cell_kept (hs.2.2.2.2 x hx) hg hr⟩) _) (ownFrom_below (Nat.le_refl _) (by simp; omega)))
    (fun c => OwnFrom.and (Own.from (fun s A B row hs hg hr => by
      obtain ⟨x, e1, e2, h | h⟩ := hs
      · exact ⟨x, e1, (frozen_kept h.2.2 hg hr).trans e2, .inl ⟨h.1, h.2.1, cell_kept h.2.2 hg hr⟩⟩
      · exact ⟨x, e1, (frozen_kept h.2.2 hg hr).trans e2, .inr ⟨h.1, h.2.1, cell_kept h.2.2 hg hr⟩⟩) _) (ownFrom_below (Nat.le_refl _) (by simp; omega)))
    ⟨⟨rfl, ((bK.alloc _).alloc _).cell, (bR.alloc _).cell, (bR.alloc _).frozen, hk3⟩, hB0⟩
    (fun x => { tmps := #[.pointer (some ⟨b, 0, none⟩), .int .i64 k, undef, .pointer (some ⟨w.heap.size, 0, none⟩), .pointer (some ⟨w.heap.size + 1, 0, none⟩), undef, .pointer (some ⟨g, x.1 * 6, none⟩), .pointer (some ⟨b, 0, none⟩), .func (.func 41) #[] #[.pointer (some ⟨w.heap.size + 1 + 1, 0, none⟩)], .int .i64 x.1, .pointer (some ⟨g, x.1 * 6, none⟩), undef, undef, undef, undef, undef, undef, undef], defers := [] }) ?assign ?body ?done ?stop
  case assign =>
    intro l x W K hK
    gi_wp2
    exact hK
  case body =>
    rintro l pre x W ⟨⟨rfl, hcK, hcR, hfR, hkW⟩, hB⟩ _
    have hkx := hkW x.1 x.2
    clear hk hk3 hkW hc3
    have hmx : Try.prog.follows .mixedOrders = true := by kernel_rfl
    by_cases hxk : kf x.1 = k
    · have hkb : (kf x.1 == k) = true := by simpa using hxk
      have HXK := Lib.hid hxk
      clear hxk
      gi_wp2
      gi_region_o
      all_goals gi_wp2
      all_goals exact ⟨((KeepsOthers.setCell W ⟨w.heap.size + 1, 0, none⟩ (.pointer (some ⟨g, x.1 * 6, none⟩))).trans (KeepsOthers.drew _)).from _, ⟨⟨x, rfl, (World.frozen?_setCell W ⟨w.heap.size + 1, 0, none⟩ ⟨w.heap.size + 1, 0, none⟩ (.pointer (some ⟨g, x.1 * 6, none⟩))).trans hfR, .inl ⟨rfl, HXK.out, World.cell?_setCell_same' W ⟨w.heap.size + 1, 0, none⟩ (.pointer (some ⟨g, x.1 * 6, none⟩)) (by rw [hcR]; rfl)⟩⟩, (hB.setCell (p := ⟨w.heap.size + 1, 0, none⟩) (by show w.heap.size ≤ w.heap.size + 1; omega) _).drew⟩⟩
    · have hkb : (kf x.1 == k) = false := by simpa using hxk
      have HXK := Lib.hid hxk
      clear hxk
      gi_wp2
      gi_region_o
      all_goals gi_wp2
      all_goals exact ⟨(KeepsOthers.drew W).from _, ⟨⟨x, rfl, hfR, .inr ⟨rfl, HXK.out, hcR⟩⟩, hB.drew⟩⟩
  case done =>
    rintro D ys W hD hys ⟨⟨rfl, _⟩, hB⟩ hK
    exfalso
    have := congrArg List.length hys
    simp [Dn_length] at this
    omega
  case stop =>
    rintro D c pre W hD ⟨j, hj, hpre⟩ ⟨⟨x, rfl, hfR, h⟩, hB⟩ hK
    have hxl : x.1 = len - 1 := by
      cases j with
      | zero => simp [Dn] at hpre
      | succ j =>
        rw [Dn_succ] at hpre
        cases j with
        | zero => simpa [Dn] using hpre
        | succ j => rw [Dn_succ] at hpre; have := congrArg List.length hpre; simp at this
    rw [hxl] at h
    rcases h with ⟨rfl, hkk, hcr⟩ | ⟨rfl, hkk, hcr⟩
    · gi_wp2
      refine ⟨by simp, .inl ⟨_, _, rfl, run_takeDeferred hK, ?_⟩⟩
      have hc5 := cell_kept hcr (grownBy_putObj' _ D (.deferred none)) (fun r e => by cases e; exact ⟨_, hK, rfl⟩)
      refine ⟨.pointer (some ⟨g, (len - 1) * 6, none⟩), ?_, by first | rfl | simp [hkk], hB.trans (belowK_b (w := w) (Nat.le_refl _) W D _ _ (by simp at hD; omega) hK rfl rfl)⟩
      simp [results, Try.f30, go_sem, hc5]
    · gi_wp2
      have hK' := (KeepsOthers.setCell W ⟨w.heap.size + 1, 0, none⟩ (.pointer none)).same D _ hK rfl
      refine ⟨by simp, .inl ⟨_, _, rfl, run_takeDeferred hK', ?_⟩⟩
      have hc5 := cell_kept (World.cell?_setCell_same' W ⟨w.heap.size + 1, 0, none⟩ (.pointer none) (by rw [hcr]; rfl)) (grownBy_putObj' _ D (.deferred none)) (fun r e => by cases e; exact ⟨_, hK', rfl⟩)
      refine ⟨.pointer none, ?_, by first | rfl | simp [hkk], (hB.setCell (p := ⟨w.heap.size + 1, 0, none⟩) (by show w.heap.size ≤ w.heap.size + 1; omega) _).trans (belowK_b (w := w) (Nat.le_refl _) _ D _ _ (by simp at hD; omega) hK' rfl rfl)⟩
      simp [results, Try.f30, go_sem, hc5]
end Go.Proofs.Ytegcpjheglcbcaa
