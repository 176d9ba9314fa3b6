/- Frames whose locals are written: each row of its own owner. Push, Cut, Local, SetLocal. -/
import Derived.Test.YtegcpjheglcbcaaFrmP
namespace Go.Proofs.Ytegcpjheglcbcaa
open Go Go.RowKit Go.Shelf
set_option linter.unusedSimpArgs false
set_option linter.unusedVariables false

theorem Row.elem' {w : World} {o : Owner} {j : Nat} {v : Value} {l : List Int} (h : Row w o j 22 1 v l.length (cellsOf l)) {p : Nat} (hp : p < l.length) :
    ∃ g cap, v = .slice (some ⟨g, 0, none⟩) l.length cap ∧ w.cell? ⟨g, p, none⟩ = some (.int .i64 l[p]) ∧ w.frozen? ⟨g, p, none⟩ = false ∧ o g = j ∧ ∀ u, Row (w.setCell ⟨g, p, none⟩ (.int .i64 u)) o j 22 1 v l.length (cellsOf (l.set p u)) := by
  obtain ⟨g, cap, rfl, hx⟩ := h.rowx (by omega)
  have hle := hx.le
  refine ⟨g, cap, rfl, hx.cell (by simp [hp]), (hx.spare (by omega)).2, hx.own, fun u => ?_⟩
  have := (hx.setElem p (.int .i64 u)).row
  rw [show (cellsOf l).set p (.int .i64 u) = cellsOf (l.set p u) by simp [cellsOf, List.map_set]] at this
  exact this

/-- Frames with their locals, each row of the owner that stands with it. -/
def LT (w : World) (o : Owner) (i b : Nat) (fl : List (Fr × List Int × Nat)) : Prop :=
  FStk w o i b (fl.map Prod.fst) ∧ ∀ p ∈ fl, p.2.1.length ≤ 1000000 ∧ p.2.2 ≠ i ∧ p.2.2 ≠ i + 1 ∧ Row w o p.2.2 22 1 p.1.lv p.2.1.length (cellsOf p.2.1)

theorem LT.frame {S : List Nat} {w w' : World} {o o' : Owner} {i b : Nat} {fl : List (Fr × List Int × Nat)} (h : LT w o i b fl) (st : Step S w o w' o') (hi : i ∉ S) (hi1 : i + 1 ∉ S) (hi2 : ∀ p ∈ fl, p.2.2 ∉ S) : LT w' o' i b fl :=
  ⟨h.1.frame st hi hi1, fun p hp => ⟨(h.2 p hp).1, (h.2 p hp).2.1, (h.2 p hp).2.2.1, (h.2 p hp).2.2.2.frame st (hi2 p hp)⟩⟩
theorem LT.nil {w : World} {o : Owner} {i b : Nat} (h : FStk w o i b []) : LT w o i b [] := ⟨h, by simp⟩

set_option maxHeartbeats 2000000 in
theorem push_t {w : World} {o : Owner} {i b : Nat} {fl : List (Fr × List Int × Nat)} (hs : LT w o i b fl) (j : Nat) (hj : j ≠ i ∧ j ≠ i + 1) (hfit : fl.length < 128) {o1 : Owner} {k2 : Nat} {l : List Int} {lv : Value} (hl : Rd w o1 k2 1 lv l.length (cellsOf l)) (hll : l.length ≤ 1000000) (k a c x y : Int) :
    Calls Try.prog 13 #[.pointer (some ⟨b, 0, none⟩), .agg #[.int .i64 k, .int .i64 a, .int .i64 c, .int .i64 x, .int .i64 y, lv]] w fun e w' => ∃ o' lv', e = .returned (.int .i64 0) ∧ LT w' o' i b (fl ++ [(⟨k, a, c, x, y, lv'⟩, l, j)]) ∧ Step [i, i + 1] w o w' o' := by
  obtain ⟨hs0, hls⟩ := hs
  obtain ⟨fs, hfs⟩ : ∃ fs, fs = fl.map Prod.fst := ⟨_, rfl⟩
  have hfl : fs.length = fl.length := by rw [hfs]; simp
  rw [← hfs] at hs0
  obtain ⟨h0, v, hb, hr⟩ := hs0
  obtain ⟨ao, cap, rfl, h1, h2⟩ := hr.slice
  have sL0 : Step [] w o1 ((w.alloc (.cells #[.int .i64 k, .int .i64 a, .int .i64 c, .int .i64 x, .int .i64 y, lv] 30)).drew) o1 := ((Step.refl _ _ _).alloc _).drew
  have hlA := hl.frame sL0 (by simp)
  have sA : Step [] w o ((w.alloc (.cells #[.int .i64 k, .int .i64 a, .int .i64 c, .int .i64 x, .int .i64 y, lv] 30)).drew) o := ((Step.refl _ _ _).alloc _).drew
  have hc := hb.cell0
  have hlt := hb.lt
  have hi : ¬ ((128 : Int) ≤ fs.length) := by omega
  have hbA := hb.frame sA (by simp)
  have hrA := hr.frame sA (by simp)
  have hcA := hbA.cell0
  obtain ⟨alv, clv, rfl, _, _, _, _⟩ := id hl
  have hcal : Calls Try.prog 28 #[.agg #[.int .i64 k, .int .i64 a, .int .i64 c, .int .i64 x, .int .i64 y, .slice alv l.length clv]] ((w.alloc (.cells #[.int .i64 k, .int .i64 a, .int .i64 c, .int .i64 x, .int .i64 y, .slice alv l.length clv] 30)).drew) (fun e w' => ∃ v, e = .returned v ∧ ∃ lv' o', v = .agg #[.int .i64 k, .int .i64 a, .int .i64 c, .int .i64 x, .int .i64 y, lv'] ∧ Row w' o' j 22 1 lv' l.length (cellsOf l) ∧ Step [] ((w.alloc (.cells #[.int .i64 k, .int .i64 a, .int .i64 c, .int .i64 x, .int .i64 y, .slice alv l.length clv] 30)).drew) o w' o') := (own_ok hlA hll o j k a c x y).mono fun e w' ⟨lv', o', h⟩ => ⟨_, h.1, lv', o', rfl, h.2.1, h.2.2⟩
  have HFS := Lib.hid hfs
  have HLS := Lib.hid hls
  have HFL := Lib.hid hfl
  have HB := hb
  have HR := hr
  clear hfs hls hfl hl hlA sL0
  go_enter Try.func13, Try.ntmps13
  go_wp2_with fail
  go_region_law (first
    | (refine step_app (.tmp 19) (.tmp 22) 38 rfl Try.underlying38 info30 rfl (by kernel_rfl) (by rfl) hrL (by rfl) (Rd.fresh w1 o1' 6 30 #[.int .i64 k, .int .i64 a, .int .i64 c, .int .i64 x, .int .i64 y, .slice ao1 l.length cap1] 1 (by simp [maxLen]) (by simp)) (by simp [Value.oneCell']) (by omega) (by omega) ?_; intro v' w2 o2 hr2 s2; obtain ⟨ao', cap', rfl, _, _⟩ := hr2.slice; have hb2 := hbL.frame s2 (by simp); have hc2 := hb2.cell0; have hf2 := hb2.frozen 0)
    | (refine step_call (by kernel_rfl) ?_ hcal ?_; (focus go_simp); rintro v1 w1 ⟨lv1, o1', rfl, hrow, s1⟩; obtain ⟨ao1, cap1, rfl, _, _⟩ := hrow.slice; have hb1 := hbA.frame s1 (by simp); have hr1 := hrA.frame s1 (by simp); have hc1 := hb1.cell0; have sL : Step [] w1 o1' (w1.alloc (.cells #[.int .i64 k, .int .i64 a, .int .i64 c, .int .i64 x, .int .i64 y, .slice ao1 l.length cap1] 30)) o1' := (Step.refl _ _ _).alloc _; have hbL := hb1.frame sL (by simp); have hrL := hr1.frame sL (by simp); have hcL := hbL.cell0))
  all_goals
    go_wp2
    go_ret
    have hr3 : Row w2 o2 (i + 1) 30 6 (.slice ao' (fs.length + 1) cap') (fs ++ [(⟨k, a, c, x, y, .slice ao1 l.length cap1⟩ : Fr)]).length (frs (fs ++ [(⟨k, a, c, x, y, .slice ao1 l.length cap1⟩ : Fr)])) := by
      rw [frs_app, List.length_append]
      exact hr2
    have sAll : Step [i + 1] w o w2 o2 := ((sA.trans (s1.trans sL)).nil).trans s2
    have hN := ((hrow.frame sL (by simp)).frame s2 (by simpa using hj.2)).setOther hb2 (by decide) 0 (.slice ao' (fs.length + 1) cap')
    obtain ⟨g1, g2⟩ := FStk.put HB hr3 sAll (by simp; omega)
    have gL : LT (w2.setCell ⟨b, 0, none⟩ (.slice ao' (fs.length + 1) cap')) o2 i b (fl ++ [(⟨k, a, c, x, y, .slice ao1 l.length cap1⟩, l, j)]) := by
      refine ⟨?_, ?_⟩
      · rw [List.map_append, ← HFS.out]; exact g1
      · intro p hp
        rcases List.mem_append.1 hp with hp | hp
        · exact ⟨(HLS.out p hp).1, (HLS.out p hp).2.1, (HLS.out p hp).2.2.1, (HLS.out p hp).2.2.2.frame g2 (by simp [(HLS.out p hp).2.1, (HLS.out p hp).2.2.1])⟩
        · rw [List.mem_singleton] at hp; subst hp; exact ⟨hll, hj.1, hj.2, hN⟩
    first | exact ⟨o2, _, rfl, gL, g2⟩ | exact ⟨rfl, o2, ⟨_, gL⟩, g2⟩

theorem cut_t {w : World} {o : Owner} {i b : Nat} {fl : List (Fr × List Int × Nat)} (hs : LT w o i b fl) (n : Nat) :
    Calls Try.prog 16 #[.pointer (some ⟨b, 0, none⟩), .int .i64 n] w fun e w' => e = .returned (.tuple #[]) ∧ LT w' o i b (fl.take n) ∧ Step [i] w o w' o := by
  refine (cut_ok hs.1 n).mono ?_
  rintro e w' ⟨rfl, h, st⟩
  refine ⟨rfl, ⟨?_, fun p hp => ?_⟩, st⟩
  · rw [List.map_take]; simpa [cutF] using h
  · obtain ⟨h1, h2, h3, h4⟩ := hs.2 p (List.mem_of_mem_take hp)
    exact ⟨h1, h2, h3, h4.frame st (by simpa using h2)⟩

def lvA : Value → Option Addr
  | .slice a _ _ => a
  | _ => none
def lvC : Value → Nat
  | .slice _ _ c => c
  | _ => 0

theorem place_t {w : World} {o : Owner} {i b : Nat} {fl lo hi : List (Fr × List Int × Nat)} {t : Fr × List Int × Nat} (hs : LT w o i b fl) (hfl : fl = lo ++ t :: hi) (hL : isL t.1.k) (hh : ∀ p ∈ hi, ¬ isL p.1.k) (n : Int) (hn : -9223372036854775808 ≤ n ∧ n ≤ 9223372036854775807) :
    Calls Try.prog 31 #[.pointer (some ⟨b, 0, none⟩), .int .i64 n] w fun e w' => Step [] w o w' o ∧ ((t.1.k = 4 ∧ 0 ≤ n ∧ n < t.2.1.length ∧ ∃ g cap, t.1.lv = .slice (some ⟨g, 0, none⟩) t.2.1.length cap ∧ e = .returned (.pointer (some ⟨g, n.toNat, none⟩))) ∨ (¬ (t.1.k = 4 ∧ 0 ≤ n ∧ n < t.2.1.length) ∧ e = .returned (.pointer none))) := by
  obtain ⟨⟨h0, v, hb, hr⟩, hrow⟩ := hs
  have hlen : (fl.map Prod.fst).length = fl.length := by simp
  rw [hlen] at h0 hr
  obtain ⟨ao, cap, rfl, _, _⟩ := hr.slice
  have hpos : 0 < fl.length := by rw [hfl]; simp only [List.length_append, List.length_cons]; omega
  obtain ⟨g, cap', hv, hx⟩ := hr.rowx hpos
  simp only [Value.slice.injEq, true_and] at hv
  obtain ⟨rfl, rfl⟩ := hv
  let D : Fr × List Int × Nat := (⟨0, 0, 0, 0, 0, .slice none 0 0⟩, [], 0)
  have hget : ∀ x (h : x < fl.length), fl.getD x D = fl[x] := fun x h => by simp [List.getD, h]
  have hrw : ∀ x (h : x < fl.length), Row w o fl[x].2.2 22 1 fl[x].1.lv fl[x].2.1.length (cellsOf fl[x].2.1) ∧ fl[x].2.1.length ≤ 1000000 := fun x h => ⟨(hrow _ (List.getElem_mem h)).2.2.2, (hrow _ (List.getElem_mem h)).1⟩
  have hfr : ∀ x r (h : x < fl.length) (hr : r < 6), (frs (fl.map Prod.fst))[x * 6 + r]? = (fl[x].1.cells)[r]? := fun x r h hr => by
    have := frs_get (fl.map Prod.fst) x r (by simpa using h) hr
    simpa using this
  have hlocal := local_raw (w := w) (b := b) (g := g) (len := fl.length) (cap := cap) (ao := some ⟨g, 0, none⟩) (by omega) (fun _ => rfl) n hn (fun x => (fl.getD x D).1.k) (fun x => (fl.getD x D).2.1.length) (fun x => lvA (fl.getD x D).1.lv) (fun x => lvC (fl.getD x D).1.lv) hb.cell0
    (fun x h => by simp only [hget x h]; exact hx.cell ((hfr x 0 h (by omega)).trans rfl))
    (fun x h => by
      simp only [hget x h]
      obtain ⟨ax, cx, e, _, _⟩ := (hrw x h).1.slice
      have := hx.cell ((hfr x 5 h (by omega)).trans (show _ = some fl[x].1.lv from rfl))
      rw [this, e]; rfl)
    (fun x h => by simp only [hget x h]; exact (hrw x h).2)
    (fun x h hpos => by
      simp only [hget x h] at hpos ⊢
      obtain ⟨gx, cx, e, _⟩ := (hrw x h).1.rowx hpos
      exact ⟨gx, 0, by rw [e]; rfl⟩)
  have htl : fl.getD lo.length D = t := by rw [hfl]; simp [List.getD]
  have hll : lo.length < fl.length := by rw [hfl]; simp
  refine hlocal.mono ?_
  rintro e w' ⟨⟨x, hx1, hx2, hx3, rfl⟩ | ⟨hno, rfl⟩, hB⟩
  · have hxl : x = lo.length := by
      rcases Nat.lt_trichotomy x lo.length with h | h | h
      · exact absurd (by rw [htl]; exact hL) (hx2 lo.length h hll)
      · exact h
      · exfalso
        have hm : fl.getD x D ∈ hi := by
          rw [hget x hx1]
          simp only [hfl]
          rw [List.getElem_append_right (by omega)]
          obtain ⟨y, hy⟩ : ∃ y, x - lo.length = y + 1 := ⟨x - lo.length - 1, by omega⟩
          simp only [hy, List.getElem_cons_succ]
          exact List.getElem_mem _
        exact hh _ hm hx3
    subst hxl
    rw [htl]
    refine ⟨Step.ofBelow hB o, ?_⟩
    by_cases hcnd : t.1.k = 4 ∧ 0 ≤ n ∧ n < t.2.1.length
    · obtain ⟨c1, c2, c3⟩ := hcnd
      have hr2 := (hrw lo.length hll).1
      rw [← hget _ hll, htl] at hr2
      obtain ⟨gx, cx, e1, _⟩ := hr2.rowx (by omega)
      refine .inl ⟨c1, c2, c3, gx, cx, e1, ?_⟩
      rw [locR, if_pos ⟨c1, c2, c3⟩, e1]
      simp [lvA]
    · exact .inr ⟨hcnd, by rw [locR, if_neg hcnd]⟩
  · exact absurd (by rw [htl]; exact hL) (hno lo.length hll)

theorem local_t {w : World} {o : Owner} {i b : Nat} {fl lo hi : List (Fr × List Int × Nat)} {t : Fr × List Int × Nat} (hs : LT w o i b fl) (hfl : fl = lo ++ t :: hi) (hL : isL t.1.k) (hh : ∀ p ∈ hi, ¬ isL p.1.k) (n : Int) (hn : -9223372036854775808 ≤ n ∧ n ≤ 9223372036854775807) :
    Calls Try.prog 22 #[.pointer (some ⟨b, 0, none⟩), .int .i64 n] w fun e w' => Step [] w o w' o ∧ ((∃ h : t.1.k = 4 ∧ 0 ≤ n ∧ n < t.2.1.length, e = .returned (.tuple #[.int .i64 (t.2.1[n.toNat]'(by omega)), .int .i64 0])) ∨ (¬ (t.1.k = 4 ∧ 0 ≤ n ∧ n < t.2.1.length) ∧ e = .returned (.tuple #[.int .i64 0, .int .i64 (-6)]))) := by
  have hpl := place_t hs hfl hL hh n hn
  have hrt := (hs.2 t (by rw [hfl]; simp)).2.2.2
  by_cases hcnd : t.1.k = 4 ∧ 0 ≤ n ∧ n < t.2.1.length
  · obtain ⟨c1, c2, c3⟩ := id hcnd
    have HC := Lib.hid hcnd
    clear hcnd hs hfl hh hL c1
    go_enter Try.func22, Try.ntmps22
    go_wp2_with fail
    refine hpl.mono ?_
    rintro e w1 ⟨s1, ⟨_, _, _, g, cap, hlv, rfl⟩ | ⟨hno, _⟩⟩
    · obtain ⟨g', cap', hlv', hc, _⟩ := Row.elem' (p := n.toNat) (hrt.frame s1 (by simp)) (by omega)
      rw [hlv] at hlv'
      simp only [Value.slice.injEq, true_and, Option.some.injEq, Addr.mk.injEq, and_true] at hlv'
      obtain ⟨rfl, rfl⟩ := hlv'
      have HLV := Lib.hid hlv
      clear hlv hpl hrt
      go_wp2_with fail
      go_ret2
      exact ⟨s1, .inl ⟨HC.out, rfl⟩⟩
    · exact absurd HC.out hno
  · have HC := Lib.hid hcnd
    clear hcnd hs hfl hh hL
    go_enter Try.func22, Try.ntmps22
    go_wp2_with fail
    refine hpl.mono ?_
    rintro e w1 ⟨s1, ⟨c1, c2, c3, _⟩ | ⟨hno, rfl⟩⟩
    · exact absurd ⟨c1, c2, c3⟩ HC.out
    · clear hpl
      go_wp2_with fail
      go_ret2
      exact ⟨s1, .inr ⟨HC.out, rfl⟩⟩

theorem setlocal_t {w : World} {o : Owner} {i b : Nat} {fl lo hi : List (Fr × List Int × Nat)} {t : Fr × List Int × Nat} (hs : LT w o i b fl) (hfl : fl = lo ++ t :: hi) (hL : isL t.1.k) (hh : ∀ p ∈ hi, ¬ isL p.1.k) (hd : ∀ p ∈ lo ++ hi, p.2.2 ≠ t.2.2) (n : Int) (hn : -9223372036854775808 ≤ n ∧ n ≤ 9223372036854775807) (x : Int) :
    Calls Try.prog 23 #[.pointer (some ⟨b, 0, none⟩), .int .i64 n, .int .i64 x] w fun e w' => Step [t.2.2] w o w' o ∧ ((t.1.k = 4 ∧ 0 ≤ n ∧ n < t.2.1.length ∧ e = .returned (.int .i64 0) ∧ LT w' o i b (lo ++ (t.1, t.2.1.set n.toNat x, t.2.2) :: hi)) ∨ (¬ (t.1.k = 4 ∧ 0 ≤ n ∧ n < t.2.1.length) ∧ e = .returned (.int .i64 (-6)) ∧ LT w' o i b fl)) := by
  have hpl := place_t hs hfl hL hh n hn
  obtain ⟨ht1, ht2, ht3, hrt⟩ := hs.2 t (by rw [hfl]; simp)
  have HS := Lib.hid hs
  have HF := Lib.hid hfl
  have HH := Lib.hid hh
  have HD := Lib.hid hd
  by_cases hcnd : t.1.k = 4 ∧ 0 ≤ n ∧ n < t.2.1.length
  · obtain ⟨c1, c2, c3⟩ := id hcnd
    have HC := Lib.hid hcnd
    clear hcnd hs hfl hh hL c1 hd
    go_enter Try.func23, Try.ntmps23
    go_wp2_with fail
    refine hpl.mono ?_
    rintro e w1 ⟨s1, ⟨_, _, _, g, cap, hlv, rfl⟩ | ⟨hno, _⟩⟩
    · obtain ⟨g', cap', hlv', hc, hf, hog, hset⟩ := Row.elem' (p := n.toNat) (hrt.frame s1 (by simp)) (by omega)
      rw [hlv] at hlv'
      simp only [Value.slice.injEq, true_and, Option.some.injEq, Addr.mk.injEq, and_true] at hlv'
      obtain ⟨rfl, rfl⟩ := hlv'
      have hset1 := hset x
      have s2 : Step [t.2.2] w1 o (w1.setCell ⟨g, n.toNat, none⟩ (.int .i64 x)) o := (Step.refl _ _ _).setCell (fun _ => by simp [hog]) _
      have HS1 := (HS.out).frame s1 (by simp) (by simp) (by simp)
      have hF : FStk (w1.setCell ⟨g, n.toNat, none⟩ (.int .i64 x)) o i b (fl.map Prod.fst) := HS1.1.frame s2 (by simpa using fun h => ht2 h.symm) (by simpa using fun h => ht3 h.symm)
      have hT : LT (w1.setCell ⟨g, n.toNat, none⟩ (.int .i64 x)) o i b (lo ++ (t.1, t.2.1.set n.toNat x, t.2.2) :: hi) := by
        refine ⟨?_, ?_⟩
        · rw [HF.out] at hF
          simpa using hF
        · intro p hp
          have hcase : p = (t.1, t.2.1.set n.toNat x, t.2.2) ∨ p ∈ lo ++ hi := by
            simp only [List.mem_append, List.mem_cons] at hp ⊢
            rcases hp with h | h | h
            · exact .inr (.inl h)
            · exact .inl h
            · exact .inr (.inr h)
          rcases hcase with rfl | hp
          · refine ⟨by simpa using ht1, ht2, ht3, ?_⟩
            simpa using hset1
          · have hpf : p ∈ fl := by rw [HF.out]; simp only [List.mem_append, List.mem_cons] at hp ⊢; rcases hp with h | h; exact .inl h; exact .inr (.inr h)
            obtain ⟨q1, q2, q3, q4⟩ := HS1.2 p hpf
            exact ⟨q1, q2, q3, q4.frame s2 (by simpa using HD.out p hp)⟩
      have HLV := Lib.hid hlv
      have HOG := Lib.hid hog
      have st := s1.nil.trans s2
      clear hlv hpl hrt hset hset1 hog hF
      go_wp2_with fail
      go_ret
      exact ⟨st, .inl ⟨HC.out.1, HC.out.2.1, HC.out.2.2, rfl, hT⟩⟩
    · exact absurd HC.out hno
  · have HC := Lib.hid hcnd
    clear hcnd hs hfl hh hL hd
    go_enter Try.func23, Try.ntmps23
    go_wp2_with fail
    refine hpl.mono ?_
    rintro e w1 ⟨s1, ⟨c1, c2, c3, _⟩ | ⟨hno, rfl⟩⟩
    · exact absurd ⟨c1, c2, c3⟩ HC.out
    · clear hpl
      go_wp2_with fail
      go_ret
      exact ⟨s1.nil, .inr ⟨HC.out, rfl, (HS.out).frame s1 (by simp) (by simp) (by simp)⟩⟩
end Go.Proofs.Ytegcpjheglcbcaa
