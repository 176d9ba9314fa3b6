/- Frames of the program: Index. -/
import Derived.Test.YtegcpjheglcbcaaFrmC
namespace Go.Proofs.Ytegcpjheglcbcaa
open Go Go.RowKit Go.Shelf
set_option linter.unusedSimpArgs false
set_option linter.unusedVariables false
attribute [local go_sem] Oper.semAt_some

/-- There is a loop so far out, and none but loops upon it. -/
def idxOk (kf : Nat → Int) (len : Nat) (outer : Int) : Prop := 0 ≤ outer ∧ outer < len ∧ ∀ j : Nat, (j : Int) ≤ outer → kf (len - 1 - j) = 3

theorem Dn_mem {len k x : Nat} (h : x ∈ Dn len k) : ∃ j, j < k ∧ x = len - 1 - j := by
  simp only [Dn, List.mem_map, List.mem_range] at h
  obtain ⟨j, hj, rfl⟩ := h
  exact ⟨j, hj, rfl⟩
theorem mem_Dn {len k j : Nat} (h : j < k) : len - 1 - j ∈ Dn len k := by
  simp only [Dn, List.mem_map, List.mem_range]
  exact ⟨j, h, rfl⟩

theorem setCell_other {W : World} {a b : Addr} (h : b.block ≠ a.block) (v : Value) : (W.setCell a v).cell? b = W.cell? b := by
  refine World.cell?_of_block ?_
  exact Below.heap_setCell W a v b.block h
theorem two_a' {W : World} {z : Nat} {u : Value} (h : W.cell? ⟨z, 0, none⟩ = some u) (v v' : Value) : ((W.setCell ⟨z, 0, none⟩ v).setCell ⟨z + 1, 0, none⟩ v').cell? ⟨z, 0, none⟩ = some v := by
  rw [setCell_other (by show z ≠ z + 1; omega)]
  exact World.cell?_setCell_same' _ _ _ (by rw [h]; rfl)
theorem two_b' {W : World} {z : Nat} {u : Value} (h : W.cell? ⟨z + 1, 0, none⟩ = some u) (v v' : Value) : ((W.setCell ⟨z, 0, none⟩ v).setCell ⟨z + 1, 0, none⟩ v').cell? ⟨z + 1, 0, none⟩ = some v' :=
  World.cell?_setCell_same' _ _ _ (by rw [setCell_other (by show z + 1 ≠ z; omega), h]; rfl)
theorem two_a {W : World} {z : Nat} {u v v' : Value} (h : W.cell? ⟨z, 0, none⟩ = some u) : ((W.setCell ⟨z, 0, none⟩ v).setCell ⟨z + 1, 0, none⟩ v').drew.cell? ⟨z, 0, none⟩ = some v := two_a' h v v'
theorem two_b {W : World} {z : Nat} {u v v' : Value} (h : W.cell? ⟨z + 1, 0, none⟩ = some u) : ((W.setCell ⟨z, 0, none⟩ v).setCell ⟨z + 1, 0, none⟩ v').drew.cell? ⟨z + 1, 0, none⟩ = some v' := two_b' h v v'

set_option maxRecDepth 100000 in
set_option maxHeartbeats 4000000 in
theorem index_raw {w : World} {b g len cap : Nat} {ao : Option Addr} (hl : len ≤ 1000) (hg : 0 < len → ao = some ⟨g, 0, none⟩) (outer : Int) (ho : -9223372036854775808 ≤ outer ∧ outer ≤ 9223372036854775807) (kf xf : Nat → Int) (hc : w.cell? ⟨b, 0, none⟩ = some (.slice ao len cap))
    (hk : ∀ x, x < len → w.cell? ⟨g, x * 6, none⟩ = some (.int .i64 (kf x))) (hx : ∀ x, x < len → w.cell? ⟨g, x * 6 + 3, none⟩ = some (.int .i64 (xf x))) :
    Calls Try.prog 14 #[.pointer (some ⟨b, 0, none⟩), .int .i64 outer] w fun e w' => ((idxOk kf len outer ∧ e = .returned (.tuple #[.int .i64 (xf (len - 1 - outer.toNat)), .int .i64 0])) ∨ (¬ idxOk kf len outer ∧ e = .returned (.tuple #[.int .i64 0, .int .i64 (-26)]))) ∧ Below w.heap.size w w' := by
  have hb : b < w.heap.size := cell_block hc
  refine (callsIn_wide (n := 9)).1 ?_
  refine callsIn_of_wp_marks Try.func14 rfl trivial ?_ rfl
  simp only [Try.ntmps14, List.size_toArray, List.length_cons, List.length_nil, Nat.reduceAdd, Nat.reduceSub, Array.replicate_succ, Array.replicate_zero, List.push_toArray, List.append_toArray, List.nil_append, List.cons_append]
  gi_wp2_with (refine ⟨trivial, ?_⟩; gi_at_call 29; refine (callsIn_wide.2 (down_ok _ _)).mono ?_; rintro e w' ⟨rfl, rfl⟩)
  obtain ⟨sz, hsz⟩ : ∃ sz, sz = w.heap.size := ⟨_, rfl⟩
  have bF := Boxed.new w 24 (.pointer (some ⟨b, 0, none⟩))
  have bO := Boxed.new (w.alloc (.cells #[.pointer (some ⟨b, 0, none⟩)] 24)) 3 (.int .i64 outer)
  have bV := Boxed.new ((w.alloc (.cells #[.pointer (some ⟨b, 0, none⟩)] 24)).alloc (.cells #[.int .i64 outer] 3)) 22 (.int .i64 0)
  have bE := Boxed.new (((w.alloc (.cells #[.pointer (some ⟨b, 0, none⟩)] 24)).alloc (.cells #[.int .i64 outer] 3)).alloc (.cells #[.int .i64 0] 22)) 26 (.int .i64 0)
  have bD := Boxed.new ((((w.alloc (.cells #[.pointer (some ⟨b, 0, none⟩)] 24)).alloc (.cells #[.int .i64 outer] 3)).alloc (.cells #[.int .i64 0] 22)).alloc (.cells #[.int .i64 0] 26)) 24 (.pointer (some ⟨b, 0, none⟩))
  simp only [World.size_alloc] at bO bV bE bD
  have cF := ((((bF.alloc (.cells #[.int .i64 outer] 3)).alloc (.cells #[.int .i64 0] 22)).alloc (.cells #[.int .i64 0] 26)).alloc (.cells #[.pointer (some ⟨b, 0, none⟩)] 24)).cell
  have cO := (((bO.alloc (.cells #[.int .i64 0] 22)).alloc (.cells #[.int .i64 0] 26)).alloc (.cells #[.pointer (some ⟨b, 0, none⟩)] 24)).cell
  have cV := ((bV.alloc (.cells #[.int .i64 0] 26)).alloc (.cells #[.pointer (some ⟨b, 0, none⟩)] 24))
  have cE := (bE.alloc (.cells #[.pointer (some ⟨b, 0, none⟩)] 24))
  have hB0 : Below w.heap.size w (((((w.alloc (.cells #[.pointer (some ⟨b, 0, none⟩)] 24)).alloc (.cells #[.int .i64 outer] 3)).alloc (.cells #[.int .i64 0] 22)).alloc (.cells #[.int .i64 0] 26)).alloc (.cells #[.pointer (some ⟨b, 0, none⟩)] 24)) :=
    (((((Below.refl _ w).alloc (Nat.le_refl _) _).alloc (by simp) _).alloc (by simp; omega) _).alloc (by simp; omega) _).alloc (by simp; omega) _
  have hk3 : ∀ x, x < len → (((((w.alloc (.cells #[.pointer (some ⟨b, 0, none⟩)] 24)).alloc (.cells #[.int .i64 outer] 3)).alloc (.cells #[.int .i64 0] 22)).alloc (.cells #[.int .i64 0] 26)).alloc (.cells #[.pointer (some ⟨b, 0, none⟩)] 24)).cell? ⟨g, x * 6, none⟩ = some (.int .i64 (kf x)) := fun x h => (hB0.cell (p := ⟨g, x * 6, none⟩) (cell_block (hk x h))).trans (hk x h)
  have hx3 : ∀ x, x < len → (((((w.alloc (.cells #[.pointer (some ⟨b, 0, none⟩)] 24)).alloc (.cells #[.int .i64 outer] 3)).alloc (.cells #[.int .i64 0] 22)).alloc (.cells #[.int .i64 0] 26)).alloc (.cells #[.pointer (some ⟨b, 0, none⟩)] 24)).cell? ⟨g, x * 6 + 3, none⟩ = some (.int .i64 (xf x)) := fun x h => (hB0.cell (p := ⟨g, x * 6 + 3, none⟩) (cell_block (hx x h))).trans (hx x h)
  have hc3 := (hB0.cell (p := ⟨b, 0, none⟩) hb).trans hc
  have hmx : Try.prog.follows .mixedOrders = true := by kernel_rfl
  refine wpIn_rangeFunc_ownG rfl (by omega) (gf := 41) (lb := #[.pointer (some ⟨w.heap.size + 1 + 1 + 1 + 1, 0, none⟩)]) rfl trivial (enters_of Try.func41 (by kernel_rfl) rfl)
    (down_stops (9 - 1) (by omega) (w.heap.size + 1 + 1 + 1 + 1) b g (w.heap.size + 1 + 1 + 1 + 1 + 1) len cap ao _ (by omega) (by omega) hl hg (by simp) bD.cell hc3) belowK_t (belowK_b (by simp)) (Below.refl _ _) (fun _ => rfl)
    (fun pre W => ((∀ p ∈ pre, kf p.1 = 3 ∧ ¬ ((len : Int) - 1 - p.1 = outer)) ∧ W.cell? ⟨w.heap.size, 0, none⟩ = some (.pointer (some ⟨b, 0, none⟩)) ∧ W.cell? ⟨w.heap.size + 1, 0, none⟩ = some (.int .i64 outer) ∧ W.cell? ⟨w.heap.size + 1 + 1, 0, none⟩ = some (.int .i64 0) ∧ W.frozen? ⟨w.heap.size + 1 + 1, 0, none⟩ = false ∧ W.cell? ⟨w.heap.size + 1 + 1 + 1, 0, none⟩ = some (.int .i64 0) ∧ W.frozen? ⟨w.heap.size + 1 + 1 + 1, 0, none⟩ = false ∧ W.cell? ⟨b, 0, none⟩ = some (.slice ao len cap) ∧ (∀ x, x < len → W.cell? ⟨g, x * 6, none⟩ = some (.int .i64 (kf x))) ∧ ∀ x, x < len → W.cell? ⟨g, x * 6 + 3, none⟩ = some (.int .i64 (xf x))) ∧ Below w.heap.size w W)
    (fun c pre W => (∃ (ini : List (Pl len)) (last : Pl len), pre = ini ++ [last] ∧ (∀ p ∈ ini, kf p.1 = 3 ∧ ¬ ((len : Int) - 1 - p.1 = outer)) ∧ ((c = .ret ∧ kf last.1 = 3 ∧ (len : Int) - 1 - last.1 = outer ∧ W.cell? ⟨w.heap.size + 1 + 1, 0, none⟩ = some (.int .i64 (xf last.1)) ∧ W.cell? ⟨w.heap.size + 1 + 1 + 1, 0, none⟩ = some (.int .i64 0)) ∨ (c = .exit 0 ∧ ¬ kf last.1 = 3 ∧ W.cell? ⟨w.heap.size + 1 + 1, 0, none⟩ = some (.int .i64 0) ∧ W.frozen? ⟨w.heap.size + 1 + 1, 0, none⟩ = false ∧ W.cell? ⟨w.heap.size + 1 + 1 + 1, 0, none⟩ = some (.int .i64 0) ∧ W.frozen? ⟨w.heap.size + 1 + 1 + 1, 0, none⟩ = false))) ∧ Below w.heap.size w W)
    (OwnFrom.and (Own.from (fun s A B row hs hg hr => ⟨hs.1, cell_kept hs.2.1 hg hr, cell_kept hs.2.2.1 hg hr, cell_kept hs.2.2.2.1 hg hr, (frozen_kept hs.2.2.2.1 hg hr).trans hs.2.2.2.2.1, cell_kept hs.2.2.2.2.2.1 hg hr, (frozen_kept hs.2.2.2.2.2.1 hg hr).trans hs.2.2.2.2.2.2.1, cell_kept hs.2.2.2.2.2.2.2.1 hg hr, fun x h => cell_kept (hs.2.2.2.2.2.2.2.2.1 x h) hg hr, fun x h => cell_kept (hs.2.2.2.2.2.2.2.2.2 x h) hg hr⟩) _) (ownFrom_below (Nat.le_refl _) (by simp; omega)))
    (fun c => OwnFrom.and (Own.from (fun s A B row hs hg hr => by
      obtain ⟨ini, last, e1, e2, ⟨h1, h2, h3, h4, h5⟩ | ⟨h1, h2, h3, h4, h5, h6⟩⟩ := hs
      · exact ⟨ini, last, e1, e2, .inl ⟨h1, h2, h3, cell_kept h4 hg hr, cell_kept h5 hg hr⟩⟩
      · exact ⟨ini, last, e1, e2, .inr ⟨h1, h2, cell_kept h3 hg hr, (frozen_kept h3 hg hr).trans h4, cell_kept h5 hg hr, (frozen_kept h5 hg hr).trans h6⟩⟩) _) (ownFrom_below (Nat.le_refl _) (by simp; omega)))
    ⟨⟨by simp, cF, cO, cV.cell, cV.frozen, cE.cell, cE.frozen, hc3, hk3, hx3⟩, hB0⟩
    (fun x => { tmps := #[.pointer (some ⟨b, 0, none⟩), .int .i64 outer, .pointer (some ⟨w.heap.size, 0, none⟩), .pointer (some ⟨w.heap.size + 1, 0, none⟩), .pointer (some ⟨w.heap.size + 1 + 1, 0, none⟩), .pointer (some ⟨w.heap.size + 1 + 1 + 1, 0, none⟩), .int .i64 x.1, .pointer (some ⟨g, x.1 * 6, none⟩), .pointer (some ⟨b, 0, none⟩), .bool false, .pointer (some ⟨b, 0, none⟩), .func (.func 41) #[] #[.pointer (some ⟨w.heap.size + 1 + 1 + 1 + 1, 0, none⟩)], .int .i64 x.1, .pointer (some ⟨g, x.1 * 6, none⟩), undef, undef, undef, undef, undef, undef, undef, undef, undef, undef, undef, undef, undef, undef, undef, undef, undef, undef, undef], defers := [] }) ?assign ?body ?done ?stop
  case assign =>
    intro l x W K hK
    gi_wp2
    exact hK
  case body =>
    rintro l pre x W ⟨⟨hp, hcF, hcO, hcV, hfV, hcE, hfE, hcb, hkW, hxW⟩, hB⟩ _
    have hkx := hkW x.1 x.2
    have hxx := hxW x.1 x.2
    have hx1 : (x.1 : Int) < len := by have := x.2; omega
    have hw1 : IntKind.i64.wrap ((len : Int) - 1) = (len : Int) - 1 := by rw [IntKind.wrap_i64]; omega
    have hw2 : IntKind.i64.wrap ((len : Int) - 1 - x.1) = (len : Int) - 1 - x.1 := by rw [IntKind.wrap_i64]; omega
    have HKW := Lib.hid hkW
    have HXW := Lib.hid hxW
    have HP := Lib.hid hp
    clear hk hk3 hkW hxW hx hx3 hc3 cF cO cV cE bF bO bV bE bD hp hc
    by_cases hk3 : kf x.1 = 3
    · have hkb : (kf x.1 != 3) = false := by simp [hk3]
      have HK3 := Lib.hid hk3
      clear hk3
      by_cases he : (len : Int) - 1 - x.1 = outer
      · have heb : ((len : Int) - 1 - x.1 == outer) = true := by simpa using he
        have HE := Lib.hid he
        clear he
        -- RET
        gi_wp2
        gi_region_o
        all_goals gi_wp2
        all_goals exact ⟨(((KeepsOthers.setCell W ⟨w.heap.size + 1 + 1, 0, none⟩ (.int .i64 (xf x.1))).trans (KeepsOthers.setCell _ ⟨w.heap.size + 1 + 1 + 1, 0, none⟩ (.int .i64 0))).trans (KeepsOthers.drew _)).from _, ⟨⟨pre, x, rfl, HP.out, .inl ⟨rfl, HK3.out, HE.out, two_a hcV, two_b hcE⟩⟩, ((hB.setCell (p := ⟨w.heap.size + 1 + 1, 0, none⟩) (by show w.heap.size ≤ w.heap.size + 1 + 1; omega) _).setCell (p := ⟨w.heap.size + 1 + 1 + 1, 0, none⟩) (by show w.heap.size ≤ w.heap.size + 1 + 1 + 1; omega) _).drew⟩⟩
      · have heb : ((len : Int) - 1 - x.1 == outer) = false := by simpa using he
        have HE := Lib.hid he
        clear he
        -- GO ON
        gi_wp2
        gi_region_o
        all_goals gi_wp2
        all_goals exact ⟨(KeepsOthers.drew W).from _, (Below.refl _ W).drew, ⟨fun p hq => (List.mem_append.1 hq).elim (HP.out p) (fun e => by rw [List.mem_singleton] at e; subst e; exact ⟨HK3.out, HE.out⟩), hcF, hcO, hcV, hfV, hcE, hfE, hcb, HKW.out, HXW.out⟩, hB.drew⟩
    · have hkb : (kf x.1 != 3) = true := by simpa using hk3
      have HK3 := Lib.hid hk3
      clear hk3
      gi_wp2
      exact ⟨(KeepsOthers.refl W).from _, ⟨⟨pre, x, rfl, HP.out, .inr ⟨rfl, HK3.out, hcV, hfV, hcE, hfE⟩⟩, hB⟩⟩
  case done =>
    rintro D ys W hD hys ⟨⟨hp, hcF, hcO, hcV, hfV, hcE, hfE, hcb, -, -⟩, hB⟩ hK
    have hno : ¬ idxOk kf len outer := by
      rintro ⟨h1, h2, h3⟩
      have hm : len - 1 - outer.toNat ∈ ys.map Subtype.val := by rw [hys]; exact mem_Dn (by omega)
      obtain ⟨p, hpm, hpe⟩ := List.mem_map.1 hm
      have := (hp p hpm).2
      omega
    have HNO := Lib.hid hno
    clear hno hk hk3 hx hx3 hp hys
    gi_wp2
    have hK' := ((KeepsOthers.setCell W ⟨w.heap.size + 1 + 1, 0, none⟩ (.int .i64 0)).trans (KeepsOthers.setCell _ ⟨w.heap.size + 1 + 1 + 1, 0, none⟩ (.int .i64 (-26)))).same D _ hK rfl
    refine ⟨by simp, .inl ⟨_, _, rfl, run_takeDeferred hK', ?_⟩⟩
    have hc5 := cell_kept (two_a' hcV (.int .i64 0) (.int .i64 (-26))) (grownBy_putObj' _ D (.deferred none)) (fun r e => by cases e; exact ⟨_, hK', rfl⟩)
    have hc6 := cell_kept (two_b' hcE (.int .i64 0) (.int .i64 (-26))) (grownBy_putObj' _ D (.deferred none)) (fun r e => by cases e; exact ⟨_, hK', rfl⟩)
    refine ⟨.tuple #[.int .i64 0, .int .i64 (-26)], ?_, .inr ⟨HNO.out, rfl⟩, ((hB.setCell (p := ⟨w.heap.size + 1 + 1, 0, none⟩) (by show w.heap.size ≤ w.heap.size + 1 + 1; omega) _).setCell (p := ⟨w.heap.size + 1 + 1 + 1, 0, none⟩) (by show w.heap.size ≤ w.heap.size + 1 + 1 + 1; omega) _).trans (belowK_b (w := w) (Nat.le_refl _) _ D _ _ (by simp at hD; omega) hK' rfl rfl)⟩
    simp [results, Try.f14, go_sem, hc5, hc6]
  case stop =>
    rintro D c pre W hD ⟨j, hj, hpre⟩ ⟨⟨ini, last, rfl, hini, h⟩, hB⟩ hK
    have hj1 : ∃ j', j = j' + 1 := by
      cases j with
      | zero => simp [Dn] at hpre
      | succ j' => exact ⟨j', rfl⟩
    obtain ⟨j, rfl⟩ := hj1
    rw [Dn_succ, List.map_append, List.map_singleton] at hpre
    obtain ⟨e1, e2⟩ := List.append_inj' hpre rfl
    have e3 : last.1 = len - 1 - j := by simpa using e2
    have hup : ∀ i, i < j → kf (len - 1 - i) = 3 ∧ ¬ ((len : Int) - 1 - (len - 1 - i : Nat) = outer) := by
      intro i hi
      have hm : len - 1 - i ∈ ini.map Subtype.val := by rw [e1]; exact mem_Dn hi
      obtain ⟨p, hpm, hpe⟩ := List.mem_map.1 hm
      rw [← hpe]
      exact hini p hpm
    rcases h with ⟨rfl, hk0, ho0, hcV, hcE⟩ | ⟨rfl, hk0, hcV, hfV, hcE, hfE⟩
    · have hok : idxOk kf len outer ∧ last.1 = len - 1 - outer.toNat := by
        rw [e3] at ho0 hk0
        refine ⟨⟨by omega, by omega, fun i hi => ?_⟩, by omega⟩
        by_cases hij : i < j
        · exact (hup i hij).1
        · have : i = j := by omega
          rw [this]; exact hk0
      rw [hok.2] at hcV
      have HOK := Lib.hid hok.1
      clear hok hup hini hpre e1 e2 e3 hk0 ho0 hk hk3 hx hx3
      gi_wp2
      refine ⟨by simp, .inl ⟨_, _, rfl, run_takeDeferred hK, ?_⟩⟩
      have hc5 := cell_kept hcV (grownBy_putObj' _ D (.deferred none)) (fun r e => by cases e; exact ⟨_, hK, rfl⟩)
      have hc6 := cell_kept hcE (grownBy_putObj' _ D (.deferred none)) (fun r e => by cases e; exact ⟨_, hK, rfl⟩)
      refine ⟨.tuple #[.int .i64 (xf (len - 1 - outer.toNat)), .int .i64 0], ?_, .inl ⟨HOK.out, rfl⟩, hB.trans (belowK_b (w := w) (Nat.le_refl _) _ D _ _ (by simp at hD; omega) hK rfl rfl)⟩
      simp [results, Try.f14, go_sem, hc5, hc6]
    · have hno : ¬ idxOk kf len outer := by
        rintro ⟨h1, h2, h3⟩
        by_cases hoj : (j : Int) ≤ outer
        · exact hk0 (by rw [e3]; exact h3 j hoj)
        · have := (hup outer.toNat (by omega)).2
          omega
      have HNO := Lib.hid hno
      clear hno hup hini hpre e1 e2 e3 hk0 hk hk3 hx hx3
      gi_wp2
      have hK' := ((KeepsOthers.setCell W ⟨w.heap.size + 1 + 1, 0, none⟩ (.int .i64 0)).trans (KeepsOthers.setCell _ ⟨w.heap.size + 1 + 1 + 1, 0, none⟩ (.int .i64 (-26)))).same D _ hK rfl
      refine ⟨by simp, .inl ⟨_, _, rfl, run_takeDeferred hK', ?_⟩⟩
      have hc5 := cell_kept (two_a' hcV (.int .i64 0) (.int .i64 (-26))) (grownBy_putObj' _ D (.deferred none)) (fun r e => by cases e; exact ⟨_, hK', rfl⟩)
      have hc6 := cell_kept (two_b' hcE (.int .i64 0) (.int .i64 (-26))) (grownBy_putObj' _ D (.deferred none)) (fun r e => by cases e; exact ⟨_, hK', rfl⟩)
      refine ⟨.tuple #[.int .i64 0, .int .i64 (-26)], ?_, .inr ⟨HNO.out, rfl⟩, ((hB.setCell (p := ⟨w.heap.size + 1 + 1, 0, none⟩) (by show w.heap.size ≤ w.heap.size + 1 + 1; omega) _).setCell (p := ⟨w.heap.size + 1 + 1 + 1, 0, none⟩) (by show w.heap.size ≤ w.heap.size + 1 + 1 + 1; omega) _).trans (belowK_b (w := w) (Nat.le_refl _) _ D _ _ (by simp at hD; omega) hK' rfl rfl)⟩
      simp [results, Try.f14, go_sem, hc5, hc6]
end Go.Proofs.Ytegcpjheglcbcaa
