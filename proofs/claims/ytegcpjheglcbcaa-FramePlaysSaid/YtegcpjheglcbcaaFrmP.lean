/- Frames of the program: the place of a local. -/
import Derived.Test.YtegcpjheglcbcaaFrmN
namespace Go.Proofs.Ytegcpjheglcbcaa
open Go Go.RowKit Go.Shelf
set_option linter.unusedSimpArgs false
set_option linter.unusedVariables false
attribute [local go_sem] Oper.semAt_some

/-- Of locals, or of a call: where it is looked for no farther. -/
def isL (k : Int) : Prop := k = 4 ∨ k = 1

def locR (k n : Int) (nf : Nat) (af : Option Addr) : Option Addr := if k = 4 ∧ 0 ≤ n ∧ n < nf then af.map (fun a => ⟨a.block, a.off + n.toNat, none⟩) else none

set_option maxRecDepth 100000 in
set_option maxHeartbeats 4000000 in
theorem local_raw {w : World} {b g len cap : Nat} {ao : Option Addr} (hl : len ≤ 1000) (hg : 0 < len → ao = some ⟨g, 0, none⟩) (n : Int) (hn : -9223372036854775808 ≤ n ∧ n ≤ 9223372036854775807) (kf : Nat → Int) (nf : Nat → Nat) (af : Nat → Option Addr) (cf : Nat → Nat) (hc : w.cell? ⟨b, 0, none⟩ = some (.slice ao len cap))
    (hk : ∀ x, x < len → w.cell? ⟨g, x * 6, none⟩ = some (.int .i64 (kf x))) (hx : ∀ x, x < len → w.cell? ⟨g, x * 6 + 5, none⟩ = some (.slice (af x) (nf x) (cf x))) (hnf : ∀ x, x < len → nf x ≤ 1000000) (haf : ∀ x, x < len → 0 < nf x → ∃ lb lo, af x = some ⟨lb, lo, none⟩) :
    Calls Try.prog 31 #[.pointer (some ⟨b, 0, none⟩), .int .i64 n] w fun e w' => ((∃ x, x < len ∧ (∀ y, x < y → y < len → ¬ isL (kf y)) ∧ isL (kf x) ∧ e = .returned (.pointer (locR (kf x) n (nf x) (af x)))) ∨ ((∀ y, y < len → ¬ isL (kf y)) ∧ e = .returned (.pointer none))) ∧ Below w.heap.size w w' := by
  have hb : b < w.heap.size := cell_block hc
  refine (callsIn_wide (n := 9)).1 ?_
  refine callsIn_of_wp_marks Try.func31 rfl trivial ?_ rfl
  simp only [Try.ntmps31, List.size_toArray, List.length_cons, List.length_nil, Nat.reduceAdd, Nat.reduceSub, Array.replicate_succ, Array.replicate_zero, List.push_toArray, List.append_toArray, List.nil_append, List.cons_append]
  gi_wp2_with (refine ⟨trivial, ?_⟩; gi_at_call 29; refine (callsIn_wide.2 (down_ok _ _)).mono ?_; rintro e w' ⟨rfl, rfl⟩)
  have bK := Boxed.new w 3 (.int .i64 n)
  have bR := Boxed.new (w.alloc (.cells #[.int .i64 n] 3)) 70 (.pointer none)
  have bF := Boxed.new ((w.alloc (.cells #[.int .i64 n] 3)).alloc (.cells #[.pointer none] 70)) 24 (.pointer (some ⟨b, 0, none⟩))
  rw [World.size_alloc] at bR
  rw [World.size_alloc, World.size_alloc] at bF
  have hB0 : Below w.heap.size w (((w.alloc (.cells #[.int .i64 n] 3)).alloc (.cells #[.pointer none] 70)).alloc (.cells #[.pointer (some ⟨b, 0, none⟩)] 24)) := (((Below.refl _ w).alloc (Nat.le_refl _) _).alloc (by simp) _).alloc (by simp; omega) _
  have hk3 : ∀ x, x < len → (((w.alloc (.cells #[.int .i64 n] 3)).alloc (.cells #[.pointer none] 70)).alloc (.cells #[.pointer (some ⟨b, 0, none⟩)] 24)).cell? ⟨g, x * 6, none⟩ = some (.int .i64 (kf x)) := fun x h => (hB0.cell (p := ⟨g, x * 6, none⟩) (cell_block (hk x h))).trans (hk x h)
  have hx3 : ∀ x, x < len → (((w.alloc (.cells #[.int .i64 n] 3)).alloc (.cells #[.pointer none] 70)).alloc (.cells #[.pointer (some ⟨b, 0, none⟩)] 24)).cell? ⟨g, x * 6 + 5, none⟩ = some (.slice (af x) (nf x) (cf x)) := fun x h => (hB0.cell (p := ⟨g, x * 6 + 5, none⟩) (cell_block (hx x h))).trans (hx x h)
  have hc3 := (hB0.cell (p := ⟨b, 0, none⟩) hb).trans hc
  have hmx : Try.prog.follows .mixedOrders = true := by kernel_rfl
  refine wpIn_rangeFunc_ownG rfl (by omega) (gf := 41) (lb := #[.pointer (some ⟨w.heap.size + 1 + 1, 0, none⟩)]) rfl trivial (enters_of Try.func41 (by kernel_rfl) rfl)
    (down_stops (9 - 1) (by omega) (w.heap.size + 1 + 1) b g (w.heap.size + 1 + 1 + 1) len cap ao _ (by omega) (by omega) hl hg (by simp) bF.cell hc3) belowK_t (belowK_b (by simp)) (Below.refl _ _) (fun _ => rfl)
    (fun pre W => ((∀ p ∈ pre, ¬ isL (kf p.1)) ∧ W.cell? ⟨w.heap.size, 0, none⟩ = some (.int .i64 n) ∧ W.cell? ⟨w.heap.size + 1, 0, none⟩ = some (.pointer none) ∧ W.frozen? ⟨w.heap.size + 1, 0, none⟩ = false ∧ (∀ x, x < len → W.cell? ⟨g, x * 6, none⟩ = some (.int .i64 (kf x))) ∧ ∀ x, x < len → W.cell? ⟨g, x * 6 + 5, none⟩ = some (.slice (af x) (nf x) (cf x))) ∧ Below w.heap.size w W)
    (fun c pre W => (∃ (ini : List (Pl len)) (last : Pl len), pre = ini ++ [last] ∧ (∀ p ∈ ini, ¬ isL (kf p.1)) ∧ c = .ret ∧ isL (kf last.1) ∧ W.cell? ⟨w.heap.size + 1, 0, none⟩ = some (.pointer (locR (kf last.1) n (nf last.1) (af last.1)))) ∧ Below w.heap.size w W)
    (OwnFrom.and (Own.from (fun s A B row hs hg hr => ⟨hs.1, cell_kept hs.2.1 hg hr, cell_kept hs.2.2.1 hg hr, (frozen_kept hs.2.2.1 hg hr).trans hs.2.2.2.1, fun x h => cell_kept (hs.2.2.2.2.1 x h) hg hr, fun x h => cell_kept (hs.2.2.2.2.2 x h) hg hr⟩) _) (ownFrom_below (Nat.le_refl _) (by simp; omega)))
    (fun c => OwnFrom.and (Own.from (fun s A B row hs hg hr => by
      obtain ⟨ini, last, e1, e2, h1, h2, h3⟩ := hs
      exact ⟨ini, last, e1, e2, h1, h2, cell_kept h3 hg hr⟩) _) (ownFrom_below (Nat.le_refl _) (by simp; omega)))
    ⟨⟨by simp, ((bK.alloc _).alloc _).cell, (bR.alloc _).cell, (bR.alloc _).frozen, hk3, hx3⟩, hB0⟩
    (fun x => { tmps := #[.pointer (some ⟨b, 0, none⟩), .int .i64 n, undef, .pointer (some ⟨w.heap.size, 0, none⟩), .pointer (some ⟨w.heap.size + 1, 0, none⟩), undef, .pointer (some ⟨g, x.1 * 6, none⟩), .pointer (some ⟨b, 0, none⟩), .func (.func 41) #[] #[.pointer (some ⟨w.heap.size + 1 + 1, 0, none⟩)], .int .i64 x.1, .pointer (some ⟨g, x.1 * 6, none⟩), undef, undef, undef, undef, undef, undef, undef, undef, undef, undef, undef, undef, undef, undef, undef, undef, undef, undef, undef, undef, undef, undef, undef, undef, undef, undef, undef, undef, undef, undef, undef, undef, undef, undef, undef, undef, undef, undef], defers := [] }) ?assign ?body ?done ?stop
  case assign =>
    intro l x W K hK
    gi_wp2
    exact hK
  case body =>
    rintro l pre x W ⟨⟨hp, hcK, hcR, hfR, hkW, hxW⟩, hB⟩ _
    have hkx := hkW x.1 x.2
    have hxx := hxW x.1 x.2
    have hnx := hnf x.1 x.2
    have hax := haf x.1 x.2
    have HKW := Lib.hid hkW
    have HXW := Lib.hid hxW
    have HP := Lib.hid hp
    clear hk hk3 hx hx3 hkW hxW hc3 hp hnf haf
    obtain ⟨K, hK⟩ : ∃ K, kf x.1 = K := ⟨_, rfl⟩
    obtain ⟨N, hN⟩ : ∃ N, nf x.1 = N := ⟨_, rfl⟩
    rw [hK] at hkx
    rw [hN] at hxx hax hnx
    have HK := Lib.hid hK
    have HN := Lib.hid hN
    clear hK hN
    by_cases h4 : K = 4
    · subst h4
      by_cases h0 : 0 ≤ n
      · by_cases h1 : n < N
        · obtain ⟨lb, lo, ha⟩ := hax (by omega)
          rw [ha] at hxx
          have HA := Lib.hid ha
          obtain ⟨m, rfl⟩ : ∃ m : Nat, n = m := ⟨n.toNat, by omega⟩
          clear ha hax
          gi_wp2
          gi_region_o
          all_goals gi_wp2
          all_goals gi_region_o
          all_goals gi_wp2
          all_goals exact ⟨(((KeepsOthers.setCell W ⟨w.heap.size + 1, 0, none⟩ (.pointer (some ⟨lb, lo + m, none⟩))).trans (KeepsOthers.drew _)).trans (KeepsOthers.drew _)).from _, ⟨⟨pre, x, rfl, HP.out, rfl, by rw [HK.out]; exact .inl rfl, (World.cell?_setCell_same' W ⟨w.heap.size + 1, 0, none⟩ (.pointer (some ⟨lb, lo + m, none⟩)) (by rw [hcR]; rfl)).trans (by rw [HK.out, HN.out, HA.out, locR, if_pos ⟨rfl, by omega, h1⟩]; rfl)⟩, ((hB.setCell (p := ⟨w.heap.size + 1, 0, none⟩) (by show w.heap.size ≤ w.heap.size + 1; omega) _).drew).drew⟩⟩
        · have HLOC : locR 4 n N (af x.1) = none := by rw [locR, if_neg (fun h => h1 h.2.2)]
          have HH := Lib.hid HLOC
          clear HLOC
          gi_wp2
          gi_region_o
          all_goals gi_wp2
          all_goals exact ⟨((KeepsOthers.setCell W ⟨w.heap.size + 1, 0, none⟩ (.pointer none)).trans (KeepsOthers.drew _)).from _, ⟨⟨pre, x, rfl, HP.out, rfl, by rw [HK.out]; exact .inl rfl, (World.cell?_setCell_same' W ⟨w.heap.size + 1, 0, none⟩ (.pointer none) (by rw [hcR]; rfl)).trans (by rw [HK.out, HN.out, HH.out])⟩, (hB.setCell (p := ⟨w.heap.size + 1, 0, none⟩) (by show w.heap.size ≤ w.heap.size + 1; omega) _).drew⟩⟩
      · have HLOC : locR 4 n N (af x.1) = none := by rw [locR, if_neg (fun h => h0 h.2.1)]
        have HH := Lib.hid HLOC
        clear HLOC
        gi_wp2
        gi_region_o
        all_goals gi_wp2
        all_goals exact ⟨((KeepsOthers.setCell W ⟨w.heap.size + 1, 0, none⟩ (.pointer none)).trans (KeepsOthers.drew _)).from _, ⟨⟨pre, x, rfl, HP.out, rfl, by rw [HK.out]; exact .inl rfl, (World.cell?_setCell_same' W ⟨w.heap.size + 1, 0, none⟩ (.pointer none) (by rw [hcR]; rfl)).trans (by rw [HK.out, HN.out, HH.out])⟩, (hB.setCell (p := ⟨w.heap.size + 1, 0, none⟩) (by show w.heap.size ≤ w.heap.size + 1; omega) _).drew⟩⟩
    · have h4b : (K == 4) = false := by simpa using h4
      by_cases h1 : K = 1
      · subst h1
        have HLOC : locR 1 n N (af x.1) = none := by rw [locR, if_neg (fun h => absurd h.1 (by decide))]
        have HH := Lib.hid HLOC
        clear HLOC h4
        gi_wp2
        gi_region_o
        all_goals gi_wp2
        all_goals exact ⟨((KeepsOthers.setCell W ⟨w.heap.size + 1, 0, none⟩ (.pointer none)).trans (KeepsOthers.drew _)).from _, ⟨⟨pre, x, rfl, HP.out, rfl, by rw [HK.out]; exact .inr rfl, (World.cell?_setCell_same' W ⟨w.heap.size + 1, 0, none⟩ (.pointer none) (by rw [hcR]; rfl)).trans (by rw [HK.out, HN.out, HH.out])⟩, (hB.setCell (p := ⟨w.heap.size + 1, 0, none⟩) (by show w.heap.size ≤ w.heap.size + 1; omega) _).drew⟩⟩
      · have h1b : (K == 1) = false := by simpa using h1
        have H4 := Lib.hid h4
        have H1 := Lib.hid h1
        clear h4 h1
        gi_wp2
        gi_region_o
        all_goals gi_wp2
        all_goals exact ⟨(KeepsOthers.drew W).from _, (Below.refl _ W).drew, ⟨fun p hq => (List.mem_append.1 hq).elim (HP.out p) (fun e => by rw [List.mem_singleton] at e; subst e; rw [HK.out]; exact fun h => h.elim H4.out H1.out), hcK, hcR, hfR, HKW.out, HXW.out⟩, hB.drew⟩
  case done =>
    rintro D ys W hD hys ⟨⟨hp, hcK, hcR, hfR, -, -⟩, hB⟩ hK
    have hno : ∀ y, y < len → ¬ isL (kf y) := by
      intro y hy
      have hm : y ∈ ys.map Subtype.val := by
        rw [hys]
        have := mem_Dn (len := len) (k := len) (j := len - 1 - y) (by omega)
        rwa [show len - 1 - (len - 1 - y) = y by omega] at this
      obtain ⟨p, hpm, hpe⟩ := List.mem_map.1 hm
      have := hp p hpm
      rwa [hpe] at this
    have HNO := Lib.hid hno
    clear hno hk hk3 hx hx3 hp hys
    gi_wp2
    have hK' := (KeepsOthers.setCell W ⟨w.heap.size + 1, 0, none⟩ (.pointer none)).same D _ hK rfl
    refine ⟨by simp, .inl ⟨_, _, rfl, run_takeDeferred hK', ?_⟩⟩
    have hc5 := cell_kept (World.cell?_setCell_same' W ⟨w.heap.size + 1, 0, none⟩ (.pointer none) (by rw [hcR]; rfl)) (grownBy_putObj' _ D (.deferred none)) (fun r e => by cases e; exact ⟨_, hK', rfl⟩)
    refine ⟨.pointer none, ?_, .inr ⟨HNO.out, rfl⟩, (hB.setCell (p := ⟨w.heap.size + 1, 0, none⟩) (by show w.heap.size ≤ w.heap.size + 1; omega) _).trans (belowK_b (w := w) (Nat.le_refl _) _ D _ _ (by simp at hD; omega) hK' rfl rfl)⟩
    simp [results, Try.f31, go_sem, hc5]
  case stop =>
    rintro D c pre W hD ⟨j, hj, hpre⟩ ⟨⟨ini, last, rfl, hini, rfl, hL, hcr⟩, hB⟩ hK
    have hj1 : ∃ j', j = j' + 1 := by
      cases j with
      | zero => simp [Dn] at hpre
      | succ j' => exact ⟨j', rfl⟩
    obtain ⟨j, rfl⟩ := hj1
    rw [Dn_succ, List.map_append, List.map_singleton] at hpre
    obtain ⟨e1, e2⟩ := List.append_inj' hpre rfl
    have e3 : last.1 = len - 1 - j := by simpa using e2
    have hup : ∀ y, last.1 < y → y < len → ¬ isL (kf y) := by
      intro y hy1 hy2
      have hm : y ∈ ini.map Subtype.val := by
        rw [e1]
        have := mem_Dn (len := len) (k := j) (j := len - 1 - y) (by omega)
        rwa [show len - 1 - (len - 1 - y) = y by omega] at this
      obtain ⟨p, hpm, hpe⟩ := List.mem_map.1 hm
      have := hini p hpm
      rwa [hpe] at this
    have HUP := Lib.hid hup
    clear hpre e1 e2 e3 hini hk hk3 hx hx3 hup hnf haf
    gi_wp2
    refine ⟨by simp, .inl ⟨_, _, rfl, run_takeDeferred hK, ?_⟩⟩
    have hc5 := cell_kept hcr (grownBy_putObj' _ D (.deferred none)) (fun r e => by cases e; exact ⟨_, hK, rfl⟩)
    refine ⟨.pointer (locR (kf last.1) n (nf last.1) (af last.1)), ?_, .inl ⟨last.1, last.2, HUP.out, hL, rfl⟩, hB.trans (belowK_b (w := w) (Nat.le_refl _) W D _ _ (by simp at hD; omega) hK rfl rfl)⟩
    simp [results, Try.f31, go_sem, hc5]
end Go.Proofs.Ytegcpjheglcbcaa
