/- Frames of the program: Step, where the uppermost frame is a loop's. -/
import Derived.Test.YtegcpjheglcbcaaFrmB
namespace Go.Proofs.Ytegcpjheglcbcaa
open Go Go.RowKit Go.Shelf
set_option linter.unusedSimpArgs false
set_option linter.unusedVariables false

theorem frs_set (fs : List Fr) (f : Fr) (v : Int) : (frs (fs ++ [f])).set (fs.length * 6 + 3) (.int .i64 v) = frs (fs ++ [{ f with x := v }]) := by
  rw [frs_app, frs_app, List.set_append_right _ _ (by rw [frs_len]; omega), frs_len]
  congr 1
  rw [show fs.length * 6 + 3 - fs.length * 6 = 3 by omega]
  rfl

theorem frs_top (fs : List Fr) (f : Fr) (r : Nat) (hr : r < 6) : (frs (fs ++ [f]))[fs.length * 6 + r]? = f.cells[r]? := by
  rw [frs_app, List.getElem?_append_right (by rw [frs_len]; omega), frs_len, show fs.length * 6 + r - fs.length * 6 = r by omega]
  simp [frs]

/-- A loop at x, up to y, is at its end by 'by'. -/
def endF (x y by_ : Int) : Bool := (decide (wrap64 (x - y) < 0) == decide (0 ≤ by_)) && (decide (wrap64 (x - y) < 0) != decide (wrap64 (wrap64 (x - y) + by_) < 0))

def stepF (fs : List Fr) (f : Fr) (by_ : Int) : List Fr := if endF f.x f.y by_ = true then fs else fs ++ [{ f with x := wrap64 (f.x + by_) }]

theorem kinds_of {w : World} {o : Owner} {i g cap : Nat} {fs : List Fr} (hx : Rowx w o i 30 6 g fs.length cap (frs fs)) : ∀ x, x < fs.length → w.cell? ⟨g, x * 6, none⟩ = some (.int .i64 ((fs[x]?.getD ⟨0, 0, 0, 0, 0, undef⟩).k)) := by
  intro x h
  have := frs_get fs x 0 h (by omega)
  rw [Nat.add_zero] at this
  rw [hx.cell this]
  simp [Fr.cells, h]

theorem step_loop {w : World} {o : Owner} {i b : Nat} {fs : List Fr} {f : Fr} (hs : FStk w o i b (fs ++ [f])) (hk : f.k = 3) (by_ : Int) :
    Calls Try.prog 15 #[.pointer (some ⟨b, 0, none⟩), .int .i64 by_] w fun e w' => ∃ o', e = .returned (.tuple #[.bool (endF f.x f.y by_), .int .i64 0]) ∧ FStk w' o' i b (stepF fs f by_) ∧ Step [i, i + 1] w o w' o' := by
  obtain ⟨h0, v, hb, hr⟩ := id hs
  simp only [List.length_append, List.length_cons, List.length_nil, Nat.zero_add] at h0
  have hlen : (fs ++ [f]).length = fs.length + 1 := by simp
  obtain ⟨g, cap, rfl, hx⟩ := hr.rowx (by omega)
  have hkd := kinds_of hx
  rw [hlen] at hx hb hkd
  have hc := hb.cell0
  have hu := upper_some (len := fs.length + 1) (by omega) (by omega) 3 _ hc hkd
  have hkt : ((fs ++ [f])[fs.length + 1 - 1]?.getD ⟨0, 0, 0, 0, 0, undef⟩).k = 3 := by simp [hk]
  rw [if_pos hkt, show fs.length + 1 - 1 = fs.length by omega] at hu
  clear hkt hkd
  have hgb := hx.ne hb (by decide)
  have cX := hx.cell (frs_top fs f 3 (by omega))
  have cY := hx.cell (frs_top fs f 4 (by omega))
  have hgl : g < w.heap.size := cell_block cX
  have hbl := hb.lt
  have hcap := hx.le
  have HLEN := Lib.hid hlen
  have go : ∀ (L M N : Bool), decide (wrap64 (f.x - f.y) < 0) = L → decide (0 ≤ by_) = M → decide (wrap64 (wrap64 (f.x - f.y) + by_) < 0) = N →
      Calls Try.prog 15 #[.pointer (some ⟨b, 0, none⟩), .int .i64 by_] w fun e w' => ∃ o', e = .returned (.tuple #[.bool (endF f.x f.y by_), .int .i64 0]) ∧ FStk w' o' i b (stepF fs f by_) ∧ Step [i, i + 1] w o w' o' := by
    intro L M N hL hM hN
    have hE : endF f.x f.y by_ = ((L == M) && (L != N)) := by rw [endF, hL, hM, hN]
    rw [stepF, hE]
    clear hE hr hs hk
    cases L <;> cases M <;> cases N
    all_goals
      go_enter Try.func15, Try.ntmps15
      go_wp2_with (go_at_call 30; refine hu.mono ?_; rintro e w1 ⟨rfl, hB1⟩; have s1 := Step.ofBelow hB1 o; have hx1 := hx.frame s1 (by simp); have hb1 := hb.frame s1 (by simp); have cX1 : w1.cell? ⟨g, fs.length * 6 + 3, none⟩ = some (.int .i64 f.x) := hx1.cell (frs_top fs f 3 (by omega)); have cY1 : w1.cell? ⟨g, fs.length * 6 + 4, none⟩ = some (.int .i64 f.y) := hx1.cell (frs_top fs f 4 (by omega)); obtain ⟨hsp, hfz⟩ := hx1.spare (j := fs.length * 6 + 3) (by omega))
      go_quiet (fail)
      have hx2 := hx1.frame ((Step.refl [] w1 o).drewN nq) (by simp)
      have hb2 := hb1.frame ((Step.refl [] w1 o).drewN nq) (by simp)
      have hx3 := hx2.setElem (fs.length * 6 + 3) (.int .i64 (wrap64 (f.x + by_)))
      rw [frs_set] at hx3
      have hb3 := hb2.setOther hgb (fs.length * 6 + 3) (.int .i64 (wrap64 (f.x + by_)))
      have hc3 := hb3.cell0
      have hs3 : FStk ((w1.drewN nq).setCell ⟨g, fs.length * 6 + 3, none⟩ (.int .i64 (wrap64 (f.x + by_)))) o i b (fs ++ [{ f with x := wrap64 (f.x + by_) }]) :=
        ⟨by simpa using h0, _, hb3, by simpa using hx3.row⟩
      have s3 : Step [i, i + 1] w o ((w1.drewN nq).setCell ⟨g, fs.length * 6 + 3, none⟩ (.int .i64 (wrap64 (f.x + by_)))) o := ((s1.drewN nq).nil).setCell (fun _ => by simp [hx.own]) _
      have hcut := cut_ok hs3 fs.length
      rw [show cutF (fs ++ [{ f with x := wrap64 (f.x + by_) }]) fs.length = fs by simp [cutF]] at hcut
      clear hx2 hb2 hx3 hb3 hu hcap hx1 hb1
      go_wp2_with (go_at_call 16; refine hcut.mono ?_; rintro e w4 ⟨rfl, hs4, s4⟩)
      go_ret2
      first
        | exact ⟨o, rfl, hs4, s3.trans (s4.weaken (by simp))⟩
        | exact ⟨o, rfl, hs3, s3⟩
        | exact ⟨rfl, o, hs4, s3.trans (s4.weaken (by simp))⟩
        | exact ⟨rfl, o, hs3, s3⟩
  exact go _ _ _ rfl rfl rfl
end Go.Proofs.Ytegcpjheglcbcaa
