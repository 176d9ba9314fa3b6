/- Frames with locals: the model; Push, One. -/
import Derived.Test.YtegcpjheglcbcaaFrmL
import Derived.Test.YtegcpjheglcbcaaNests
namespace Go.Proofs.Ytegcpjheglcbcaa
open Go Go.RowKit Go.Shelf
set_option linter.unusedSimpArgs false
set_option linter.unusedVariables false

/-- Frames with their locals; the rows of these are of owner i + 2. -/
def LS (w : World) (o : Owner) (i b : Nat) (fl : List (Fr × List Int)) : Prop :=
  FStk w o i b (fl.map Prod.fst) ∧ ∀ p ∈ fl, p.2.length ≤ 1000000 ∧ Rd w o (i + 2) 1 p.1.lv p.2.length (cellsOf p.2)

theorem LS.frame {S : List Nat} {w w' : World} {o o' : Owner} {i b : Nat} {fl : List (Fr × List Int)} (h : LS w o i b fl) (st : Step S w o w' o') (hi : i ∉ S) (hi1 : i + 1 ∉ S) (hi2 : i + 2 ∉ S) : LS w' o' i b fl :=
  ⟨h.1.frame st hi hi1, fun p hp => ⟨(h.2 p hp).1, (h.2 p hp).2.frame st hi2⟩⟩
theorem LS.ofBare {w : World} {o : Owner} {i b : Nat} (h : FStk w o i b []) : LS w o i b [] := ⟨h, by simp⟩
theorem LS.len {w : World} {o : Owner} {i b : Nat} {fl : List (Fr × List Int)} (h : LS w o i b fl) : fl.length ≤ 128 := by simpa using h.1.1

set_option maxHeartbeats 2000000 in
theorem push_l {w : World} {o : Owner} {i b : Nat} {fl : List (Fr × List Int)} (hs : LS w o i b fl) (hfit : fl.length < 128) {o1 : Owner} {k2 : Nat} {l : List Int} {lv : Value} (hl : Rd w o1 k2 1 lv l.length (cellsOf l)) (hll : l.length ≤ 1000000) (k a c x y : Int) :
    Calls Try.prog 13 #[.pointer (some ⟨b, 0, none⟩), .agg #[.int .i64 k, .int .i64 a, .int .i64 c, .int .i64 x, .int .i64 y, lv]] w fun e w' => ∃ o' lv', e = .returned (.int .i64 0) ∧ LS w' o' i b (fl ++ [(⟨k, a, c, x, y, lv'⟩, l)]) ∧ Step [i, i + 1] w o w' o' := by
  obtain ⟨hs0, hls⟩ := hs
  obtain ⟨fs, hfs⟩ : ∃ fs, fs = fl.map Prod.fst := ⟨_, rfl⟩
  have hfl : fs.length = fl.length := by rw [hfs]; simp
  rw [← hfs] at hs0
  obtain ⟨h0, v, hb, hr⟩ := hs0
  obtain ⟨ao, cap, rfl, h1, h2⟩ := hr.slice
  have sL0 : Step [] w o1 ((w.alloc (.cells #[.int .i64 k, .int .i64 a, .int .i64 c, .int .i64 x, .int .i64 y, lv] 30)).drew) o1 := ((Step.refl _ _ _).alloc _).drew
  have hlA := hl.frame sL0 (by simp)
  have sA : Step [] w o ((w.alloc (.cells #[.int .i64 k, .int .i64 a, .int .i64 c, .int .i64 x, .int .i64 y, lv] 30)).drew) o := ((Step.refl _ _ _).alloc _).drew
  have hc := hb.cell0
  have hlt := hb.lt
  have hi : ¬ ((128 : Int) ≤ fs.length) := by omega
  have hbA := hb.frame sA (by simp)
  have hrA := hr.frame sA (by simp)
  have hcA := hbA.cell0
  obtain ⟨alv, clv, rfl, _, _, _, _⟩ := id hl
  have hcal : Calls Try.prog 28 #[.agg #[.int .i64 k, .int .i64 a, .int .i64 c, .int .i64 x, .int .i64 y, .slice alv l.length clv]] ((w.alloc (.cells #[.int .i64 k, .int .i64 a, .int .i64 c, .int .i64 x, .int .i64 y, .slice alv l.length clv] 30)).drew) (fun e w' => ∃ v, e = .returned v ∧ ∃ lv' o', v = .agg #[.int .i64 k, .int .i64 a, .int .i64 c, .int .i64 x, .int .i64 y, lv'] ∧ Row w' o' (i + 2) 22 1 lv' l.length (cellsOf l) ∧ Step [] ((w.alloc (.cells #[.int .i64 k, .int .i64 a, .int .i64 c, .int .i64 x, .int .i64 y, .slice alv l.length clv] 30)).drew) o w' o') := (own_ok hlA hll o (i + 2) k a c x y).mono fun e w' ⟨lv', o', h⟩ => ⟨_, h.1, lv', o', rfl, h.2.1, h.2.2⟩
  have HFS := Lib.hid hfs
  have HLS := Lib.hid hls
  have HFL := Lib.hid hfl
  have HB := hb
  have HR := hr
  clear hfs hls hfl hl hlA sL0
  go_enter Try.func13, Try.ntmps13
  go_wp2_with fail
  go_region_law (first
    | (refine step_app (.tmp 19) (.tmp 22) 38 rfl Try.underlying38 info30 rfl (by kernel_rfl) (by rfl) hrL (by rfl) (Rd.fresh w1 o1' 6 30 #[.int .i64 k, .int .i64 a, .int .i64 c, .int .i64 x, .int .i64 y, .slice ao1 l.length cap1] 1 (by simp [maxLen]) (by simp)) (by simp [Value.oneCell']) (by omega) (by omega) ?_; intro v' w2 o2 hr2 s2; obtain ⟨ao', cap', rfl, _, _⟩ := hr2.slice; have hb2 := hbL.frame s2 (by simp); have hc2 := hb2.cell0; have hf2 := hb2.frozen 0)
    | (refine step_call (by kernel_rfl) ?_ hcal ?_; (focus go_simp); rintro v1 w1 ⟨lv1, o1', rfl, hrow, s1⟩; obtain ⟨ao1, cap1, rfl, _, _⟩ := hrow.slice; have hb1 := hbA.frame s1 (by simp); have hr1 := hrA.frame s1 (by simp); have hc1 := hb1.cell0; have sL : Step [] w1 o1' (w1.alloc (.cells #[.int .i64 k, .int .i64 a, .int .i64 c, .int .i64 x, .int .i64 y, .slice ao1 l.length cap1] 30)) o1' := (Step.refl _ _ _).alloc _; have hbL := hb1.frame sL (by simp); have hrL := hr1.frame sL (by simp); have hcL := hbL.cell0))
  all_goals
    go_wp2
    go_ret
    have hr3 : Row w2 o2 (i + 1) 30 6 (.slice ao' (fs.length + 1) cap') (fs ++ [(⟨k, a, c, x, y, .slice ao1 l.length cap1⟩ : Fr)]).length (frs (fs ++ [(⟨k, a, c, x, y, .slice ao1 l.length cap1⟩ : Fr)])) := by
      rw [frs_app, List.length_append]
      exact hr2
    have sAll : Step [i + 1] w o w2 o2 := ((sA.trans (s1.trans sL)).nil).trans s2
    have hN := (((hrow.frame sL (by simp)).frame s2 (by simp)).setOther hb2 (by decide) 0 (.slice ao' (fs.length + 1) cap')).rd
    obtain ⟨g1, g2⟩ := FStk.put HB hr3 sAll (by simp; omega)
    have gL : LS (w2.setCell ⟨b, 0, none⟩ (.slice ao' (fs.length + 1) cap')) o2 i b (fl ++ [(⟨k, a, c, x, y, .slice ao1 l.length cap1⟩, l)]) := by
      refine ⟨?_, ?_⟩
      · rw [List.map_append, ← HFS.out]; exact g1
      · intro p hp
        rcases List.mem_append.1 hp with hp | hp
        · exact ⟨(HLS.out p hp).1, (HLS.out p hp).2.frame g2 (by simp)⟩
        · rw [List.mem_singleton] at hp; subst hp; exact ⟨hll, hN⟩
    first | exact ⟨o2, _, rfl, gL, g2⟩ | exact ⟨rfl, o2, ⟨_, gL⟩, g2⟩

/-- Frames of the same numbers and the same locals are the same. -/
theorem one_l {w : World} {o1 o2 : Owner} {k1 k2 : Nat} {lv1 lv2 : Value} {l : List Int} (h1 : Rd w o1 k1 1 lv1 l.length (cellsOf l)) (h2 : Rd w o2 k2 1 lv2 l.length (cellsOf l)) (hll : l.length ≤ 1000000) (o : Owner) (k a c x y : Int) : Calls Try.prog 19 #[.agg #[.int .i64 k, .int .i64 a, .int .i64 c, .int .i64 x, .int .i64 y, lv1], .agg #[.int .i64 k, .int .i64 a, .int .i64 c, .int .i64 x, .int .i64 y, lv2]] w fun e w' => e = .returned (.bool true) ∧ Step [] w o w' o := by
  obtain ⟨a1, c1, rfl, p1, p2, p3, p4⟩ := id h1
  obtain ⟨a2, c2, rfl, q1, q2, q3, q4⟩ := id h2
  obtain ⟨W, hW⟩ : ∃ W, W = (w.alloc (.cells #[.int .i64 k, .int .i64 a, .int .i64 c, .int .i64 x, .int .i64 y, .slice a1 l.length c1] 30)).alloc (.cells #[.int .i64 k, .int .i64 a, .int .i64 c, .int .i64 x, .int .i64 y, .slice a2 l.length c2] 30) := ⟨_, rfl⟩
  have st : ∀ o, Step [] w o W o := fun o => by rw [hW]; exact ((Step.refl _ _ _).alloc _).alloc _
  have f1 : FB W w.heap.size k a c x y (.slice a1 l.length c1) := by
    rw [hW]; exact (FB.new w k a c x y (.slice a1 l.length c1)).below ((Below.refl (w.heap.size + 1) _).alloc (by simp) _) (by omega)
  have f2 : FB W (w.heap.size + 1) k a c x y (.slice a2 l.length c2) := by
    have := FB.new (w.alloc (.cells #[.int .i64 k, .int .i64 a, .int .i64 c, .int .i64 x, .int .i64 y, .slice a1 l.length c1] 30)) k a c x y (.slice a2 l.length c2)
    rw [World.size_alloc] at this
    rw [hW]; exact this
  clear p3 p4 q3 q4
  go_enter Try.func19, Try.ntmps19
  go_wp2_with fail
  go_loopg [5] l.length (fun g v wr => ∃ (p : Nat) (n : Nat), g = l.length - p ∧ p ≤ l.length ∧ v = .int .i64 p ∧ wr = W.drewN n)
  case atStart => exact ⟨0, 0, rfl, Nat.zero_le _, rfl, by rw [hW]; rfl⟩
  case round =>
    obtain ⟨p, n, hg, hp, rfl, rfl⟩ := hrel
    have sn : ∀ o, Step [] w o (W.drewN n) o := fun o => (st o).drewN n
    obtain ⟨⟨x0, x1, x2, x3, x4, x5⟩, _⟩ := f1.facts
    obtain ⟨⟨y0, y1, y2, y3, y4, y5⟩, _⟩ := f2.facts
    have HG := Lib.hid hg
    have HW := Lib.hid hW
    clear hg hW
    by_cases hlt : p < l.length
    · obtain ⟨b1, z1, rfl, hc1⟩ := Rd.cellInt (x := l) (h1.frame (st _) (by simp)) (by omega)
      obtain ⟨b2, z2, rfl, hc2⟩ := Rd.cellInt (x := l) (h2.frame (st _) (by simp)) (by omega)
      have c1 := hc1 p hlt
      have c2 := hc2 p hlt
      have hpi : (p : Int) < l.length := by omega
      generalize l[p] = u at c1 c2
      clear hc1 hc2 hlt h1 h2
      go_wp2_with fail
      go_quiet (fail)
      go_wp2_with fail
      go_roundg (l.length - (p + 1))
      case measure => rw [HG.out]; omega
      case rel => exact ⟨p + 1, n + nq, rfl, by omega, by go_num, rfl⟩
    · have hpi : ¬ (p : Int) < l.length := by omega
      go_wp2
      go_ret
      exact ⟨rfl, (sn o)⟩
end Go.Proofs.Ytegcpjheglcbcaa
