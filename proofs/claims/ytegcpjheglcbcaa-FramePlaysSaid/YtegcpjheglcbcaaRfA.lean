/- The document's frames: what they are in memory; a copy of a frame. -/
import Derived.Test.YtegcpjheglcbcaaFrmT
import Derived.Deep.RegionHeld3
namespace Go.Proofs.Ytegcpjheglcbcaa
open Go Go.RowKit Go.Shelf
set_option linter.unusedSimpArgs false
set_option linter.unusedVariables false

/-- Block b, of owner i, is the document's frames, the uppermost last; its row is of owner i + 1; each frame's locals are of the owner that stands with it. -/
def RT (w : World) (o : Owner) (i b : Nat) (fl : List (Fr × List Int × Nat)) : Prop :=
  fl.length ≤ 128 ∧ (∃ v, Blk w o i b 56 #[v] ∧ Row w o (i + 1) 30 6 v fl.length (frs (fl.map Prod.fst))) ∧ ∀ p ∈ fl, p.2.1.length ≤ 1000000 ∧ p.2.2 ≠ i ∧ p.2.2 ≠ i + 1 ∧ p.2.2 ≠ 77 ∧ Row w o p.2.2 22 1 p.1.lv p.2.1.length (cellsOf p.2.1)

theorem RT.frame {S : List Nat} {w w' : World} {o o' : Owner} {i b : Nat} {fl : List (Fr × List Int × Nat)} (h : RT w o i b fl) (st : Step S w o w' o') (hi : i ∉ S) (hi1 : i + 1 ∉ S) (hi2 : ∀ p ∈ fl, p.2.2 ∉ S) : RT w' o' i b fl := by
  obtain ⟨h0, ⟨v, h1, h2⟩, h3⟩ := h
  exact ⟨h0, ⟨v, h1.frame st hi, h2.frame st hi1⟩, fun p hp => ⟨(h3 p hp).1, (h3 p hp).2.1, (h3 p hp).2.2.1, (h3 p hp).2.2.2.1, (h3 p hp).2.2.2.2.frame st (hi2 p hp)⟩⟩
theorem RT.frame0 {w w' : World} {o o' : Owner} {i b : Nat} {fl : List (Fr × List Int × Nat)} (h : RT w o i b fl) (st : Step [] w o w' o') : RT w' o' i b fl := h.frame st (by simp) (by simp) (by simp)

theorem Blk.facts6 {w : World} {o : Owner} {i b : Nat} {T : TypeId} {c0 c1 c2 c3 c4 c5 : Value} (h : Blk w o i b T #[c0, c1, c2, c3, c4, c5]) :
    (w.cell? ⟨b, 0, none⟩ = some c0 ∧ w.cell? ⟨b, 1, none⟩ = some c1 ∧ w.cell? ⟨b, 2, none⟩ = some c2 ∧ w.cell? ⟨b, 3, none⟩ = some c3 ∧ w.cell? ⟨b, 4, none⟩ = some c4 ∧ w.cell? ⟨b, 5, none⟩ = some c5) ∧
    (w.frozen? ⟨b, 0, none⟩ = false ∧ w.frozen? ⟨b, 1, none⟩ = false ∧ w.frozen? ⟨b, 2, none⟩ = false ∧ w.frozen? ⟨b, 3, none⟩ = false ∧ w.frozen? ⟨b, 4, none⟩ = false ∧ w.frozen? ⟨b, 5, none⟩ = false) :=
  ⟨⟨h.cell 0, h.cell 1, h.cell 2, h.cell 3, h.cell 4, h.cell 5⟩, h.frozen 0, h.frozen 1, h.frozen 2, h.frozen 3, h.frozen 4, h.frozen 5⟩
theorem Blk.set6 {w : World} {o : Owner} {i b : Nat} {T : TypeId} {c0 c1 c2 c3 c4 c5 : Value} (h : Blk w o i b T #[c0, c1, c2, c3, c4, c5]) (k a c x y : Int) (lv : Value) : Blk (set6 w b k a c x y lv) o i b T #[.int .i64 k, .int .i64 a, .int .i64 c, .int .i64 x, .int .i64 y, lv] :=
  (((((h.set 0 (.int .i64 k)).set 1 (.int .i64 a)).set 2 (.int .i64 c)).set 3 (.int .i64 x)).set 4 (.int .i64 y)).set 5 lv

theorem copied_ok {w : World} {o : Owner} {k2 : Nat} {l : List Int} {lv : Value} (hr : Rd w o k2 1 lv l.length (cellsOf l)) (hl : l.length ≤ 1000000) (j : Nat) (hj : j ≠ 77) (k a b x y : Int) :
    Calls Try.prog 39 #[.agg #[.int .i64 k, .int .i64 a, .int .i64 b, .int .i64 x, .int .i64 y, lv]] w fun e w' => ∃ lv' o', e = .returned (.agg #[.int .i64 k, .int .i64 a, .int .i64 b, .int .i64 x, .int .i64 y, lv']) ∧ Row w' o' j 22 1 lv' l.length (cellsOf l) ∧ Step [] w o w' o' := by
  obtain ⟨ao, cap, rfl, h1, h2, h3, h4⟩ := id hr
  have s1 : Step [] w o (w.alloc (.cells #[.int .i64 k, .int .i64 a, .int .i64 b, .int .i64 x, .int .i64 y, .slice ao l.length cap] 30)) (o.set w.heap.size 77) := ((Step.refl _ _ _).alloc _).give (Nat.le_refl _) _
  have hb := Blk.new w o 77 30 #[.int .i64 k, .int .i64 a, .int .i64 b, .int .i64 x, .int .i64 y, .slice ao l.length cap]
  have s2 : Step [] (w.alloc (.cells #[.int .i64 k, .int .i64 a, .int .i64 b, .int .i64 x, .int .i64 y, .slice ao l.length cap] 30)) (o.set w.heap.size 77) ((w.alloc (.cells #[.int .i64 k, .int .i64 a, .int .i64 b, .int .i64 x, .int .i64 y, .slice ao l.length cap] 30)).alloc (.cells #[.int .i64 0, .int .i64 0, .int .i64 0, .int .i64 0, .int .i64 0, .slice none 0 0] 30)) ((o.set w.heap.size 77).set (w.heap.size + 1) 77) := ((Step.refl _ _ _).alloc _).give (by simp) _
  have hz := Blk.new (w.alloc (.cells #[.int .i64 k, .int .i64 a, .int .i64 b, .int .i64 x, .int .i64 y, .slice ao l.length cap] 30)) (o.set w.heap.size 77) 77 30 #[.int .i64 0, .int .i64 0, .int .i64 0, .int .i64 0, .int .i64 0, .slice none 0 0]
  rw [World.size_alloc] at hz
  replace hb := hb.frame s2 (by simp)
  have hrA := (hr.frame s1 (by simp)).frame s2 (by simp)
  have s12 := s1.trans s2
  generalize ((o.set w.heap.size 77).set (w.heap.size + 1) 77) = o2 at hb hz hrA s12
  have s3 : Step [] ((w.alloc (.cells #[.int .i64 k, .int .i64 a, .int .i64 b, .int .i64 x, .int .i64 y, .slice ao l.length cap] 30)).alloc (.cells #[.int .i64 0, .int .i64 0, .int .i64 0, .int .i64 0, .int .i64 0, .slice none 0 0] 30)) o2 (((w.alloc (.cells #[.int .i64 k, .int .i64 a, .int .i64 b, .int .i64 x, .int .i64 y, .slice ao l.length cap] 30)).alloc (.cells #[.int .i64 0, .int .i64 0, .int .i64 0, .int .i64 0, .int .i64 0, .slice none 0 0] 30)).alloc (.cells #[] 22)) o2 := (Step.refl _ _ _).alloc _
  replace hb := hb.frame s3 (by simp)
  replace hz := hz.frame s3 (by simp)
  have hrB := hrA.frame s3 (by simp)
  obtain ⟨⟨c0, c1, c2, c3, c4, c5⟩, _⟩ := hb.facts6
  clear h3 h4 s1 s2 hr hrA
  go_enter Try.func39, Try.ntmps39
  go_wp2_with (at_builtin; refine wpList_app0 rfl (.tmp 3) (.tmp 5) 28 rfl o2 j Try.underlying28 info22 rfl rfl rfl hrB (by omega) (by omega) ?_)
  intro v' w3 o3 hrow s4
  obtain ⟨ao', cap', rfl, _, _⟩ := hrow.slice
  replace hb := hb.frame s4 (by simp)
  replace hz := hz.frame s4 (by simp)
  obtain ⟨⟨x0, x1, x2, x3, x4, x5⟩, y0, y1, y2, y3, y4, y5⟩ := hb.facts6
  obtain ⟨⟨z0, z1, z2, z3, z4, z5⟩, u0, u1, u2, u3, u4, u5⟩ := hz.facts6
  have hob := hb.own
  have hoz := hz.own
  clear c0 c1 c2 c3 c4 c5
  go_wp2_with fail
  have hz5 := (hz.setOther (g := w.heap.size) (by omega) 5 (.slice ao' l.length cap')).set6 k a b x y (.slice ao' l.length cap')
  obtain ⟨⟨r0, r1, r2, r3, r4, r5⟩, _⟩ := hz5.facts6
  have sE : Step [77] w3 o3 (Proofs.Ytegcpjheglcbcaa.set6 (w3.setCell ⟨w.heap.size, 5, none⟩ (.slice ao' l.length cap')) (w.heap.size + 1) k a b x y (.slice ao' l.length cap')) o3 :=
    step_set6 ((Step.refl _ _ _).setCell (fun _ => by show o3 w.heap.size ∈ [77]; rw [hob]; simp) _) (fun _ => by rw [hoz]; simp) k a b x y _
  have sF : Step [] w o (Proofs.Ytegcpjheglcbcaa.set6 (w3.setCell ⟨w.heap.size, 5, none⟩ (.slice ao' l.length cap')) (w.heap.size + 1) k a b x y (.slice ao' l.length cap')) o3 :=
    step_set6 (((s12.trans s3).trans s4).setCell (fun h => absurd h (Nat.lt_irrefl _)) _) (fun h => absurd h (by omega)) k a b x y _
  have hrF := hrow.frame sE (by simpa using hj)
  refine bodyPost_ret (v := .agg #[.int .i64 k, .int .i64 a, .int .i64 b, .int .i64 x, .int .i64 y, .slice ao' l.length cap']) (by simp [results, Try.results39, go_sem, r0, r1, r2, r3, r4, r5]) rfl ?_
  exact ⟨_, o3, rfl, hrF, sF⟩
end Go.Proofs.Ytegcpjheglcbcaa
