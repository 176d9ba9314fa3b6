/- InsMay: the walk. -/
import Derived.Test.YtglchagfclafgaaDoorRefN
import Derived.Test.YtglchagfclafgaaDoorCalmA
namespace Go.Proofs.YtglchagfclafgaaDoor
open Go Go.RowKit
set_option linter.unusedSimpArgs false
set_option linter.unusedVariables false

section
variable {w : World} {v : Value} {l : List In} (hl : Rd w Z0 0 3 v l.length (icells l)) (hok : ∀ x ∈ l, x.ok) (hn : l.length ≤ 1000)
include hl hok hn
theorem rmay_calm {words : Int} (hw : I64 words) : Calls Tryd.prog 14 #[.agg #[v], .int .i64 words] w fun e w' => e = .returned (.bool (mayB l words)) ∧ Calm w w' :=
  (rmay_ok hl hok hn (by decide) hw).mono fun e w' ⟨b, o', he, hb, s⟩ => ⟨by
    subst he
    have e : b = mayB l words := by
      cases b with
      | true => exact (mayB_true.2 (hb.1 rfl)).symm
      | false => exact (mayB_false.2 (fun h => by have := hb.2 h; cases this)).symm
    rw [e], s.calm (by decide)⟩
theorem rloops_calm : Calls Tryd.prog 12 #[.agg #[v]] w fun e w' => ((Good l ∧ ∃ v', e = .returned (.tuple #[v', .bool true]) ∧ Rd w' Z0 0 1 v' l.length (ints (labs l))) ∨ (¬ Good l ∧ e = .returned (.tuple #[.slice none 0 0, .bool false]))) ∧ Calm w w' :=
  (rloops_ok hl hok hn (by decide)).mono fun e w' h => by
    rcases h with ⟨h1, v', o', he, hr, s⟩ | ⟨h1, o', he, s⟩
    · exact ⟨.inl ⟨h1, v', he, hr.rd.zero⟩, s.calm (by decide)⟩
    · exact ⟨.inr ⟨h1, he⟩, s.calm (by decide)⟩
end

/-- What Loops tells, both alike: nothing, or the labels. -/
noncomputable def LabsV (l : List In) : List Int := open Classical in if Good l then labs l else []
noncomputable def goodB (l : List In) : Bool := open Classical in decide (Good l)
theorem loops_both {w : World} {v : Value} {l : List In} (hl : Rd w Z0 0 3 v l.length (icells l)) (hok : ∀ x ∈ l, x.ok) (hn : l.length ≤ 1000) :
    Calls Tryd.prog 11 #[.agg #[v]] w fun e w' => ∃ a c, e = .returned (.tuple #[.slice a (LabsV l).length c, .bool (goodB l)]) ∧ Rd w' Z0 0 1 (.slice a (LabsV l).length c) (LabsV l).length (ints (LabsV l)) ∧ Calm w w' := by
  refine (loops_calm hl hok hn).mono ?_
  rintro e w' ⟨⟨h1, v', rfl, hr⟩ | ⟨h1, rfl⟩, s⟩
  · have e1 : LabsV l = labs l := by simp [LabsV, h1]
    have e2 : goodB l = true := by simp [goodB, h1]
    rw [e1, e2, labs_len]
    obtain ⟨a, c, rfl, -⟩ := hr.form
    exact ⟨a, c, rfl, hr, s⟩
  · have e1 : LabsV l = [] := by simp [LabsV, h1]
    have e2 : goodB l = false := by simp [goodB, h1]
    rw [e1, e2]
    exact ⟨none, 0, rfl, Rd.nil _ _ _ _ _ _ (by decide), s⟩
theorem rloops_both {w : World} {v : Value} {l : List In} (hl : Rd w Z0 0 3 v l.length (icells l)) (hok : ∀ x ∈ l, x.ok) (hn : l.length ≤ 1000) :
    Calls Tryd.prog 12 #[.agg #[v]] w fun e w' => ∃ a c, e = .returned (.tuple #[.slice a (LabsV l).length c, .bool (goodB l)]) ∧ Rd w' Z0 0 1 (.slice a (LabsV l).length c) (LabsV l).length (ints (LabsV l)) ∧ Calm w w' := by
  refine (rloops_calm hl hok hn).mono ?_
  rintro e w' ⟨⟨h1, v', rfl, hr⟩ | ⟨h1, rfl⟩, s⟩
  · have e1 : LabsV l = labs l := by simp [LabsV, h1]
    have e2 : goodB l = true := by simp [goodB, h1]
    rw [e1, e2, labs_len]
    obtain ⟨a, c, rfl, -⟩ := hr.form
    exact ⟨a, c, rfl, hr, s⟩
  · have e1 : LabsV l = [] := by simp [LabsV, h1]
    have e2 : goodB l = false := by simp [goodB, h1]
    rw [e1, e2]
    exact ⟨none, 0, rfl, Rd.nil _ _ _ _ _ _ (by decide), s⟩
theorem Rd.one {w : World} {size n cap : Nat} {a : Option Addr} {xs : List Value} (h : Rd w Z0 0 size (.slice a n cap) n xs) (hn : 0 < n) : ∃ b off, a = some ⟨b, off, none⟩ ∧ ∀ j u, xs[j]? = some u → w.cell? ⟨b, off + j, none⟩ = some u := by
  obtain ⟨a', c', hv, h1, h2, h3, h4⟩ := h
  simp only [Value.slice.injEq, true_and] at hv
  obtain ⟨rfl, rfl⟩ := hv
  obtain ⟨b, off, ha, _, _, hc⟩ := h4 hn
  exact ⟨b, off, ha, hc⟩

set_option maxRecDepth 100000 in
set_option maxHeartbeats 8000000 in
theorem may_walk {w : World} {v : Value} {l : List In} (hl : Rd w Z0 0 3 v l.length (icells l)) (hok : ∀ x ∈ l, x.ok) (hwl : WL w Z0) {y : Int} (hy : 0 ≤ y ∧ y ≤ 255) :
    Calls Tryd.prog 3 #[.agg #[v], .int .u8 y] w fun e w' => e = .returned (.bool true) ∧ Below w.heap.size w w' := by
  have s1 : Calm w (w.alloc (.cells #[v] 24)) := (Calm.refl w).alloc _
  have hb := Blk.new w Z0 0 24 #[v]
  have hl1 := hl.calm s1
  have hwl1 := hwl.calm s1
  have hsh := shown_calm hwl1
  obtain ⟨ao, cap, rfl, g1, g2⟩ := hl.form
  have HOK := Lib.hid hok
  obtain ⟨ym, hym⟩ : ∃ ym, y % 64 = ym := ⟨_, rfl⟩
  have ym0 : 0 ≤ ym ∧ ym < 64 := by omega
  obtain ⟨ym1, ym2⟩ := ym0
  obtain ⟨y1, y2⟩ := hy
  clear hl hwl hok
  go_enter Tryd.func3, Tryd.ntmps3
  go_wp2_with fail
  refine hsh.mono ?_
  rintro e w2 ⟨rfl, s2⟩
  replace hb := hb.frame (s2 _) (by simp)
  replace hl1 := hl1.calm s2
  replace hwl1 := hwl1.calm s2
  have st := s1.trans s2
  have cb := hb.cell0
  have hfw := few_calm hl1
  clear hsh s1 s2
  go_wp2_with fail
  refine hfw.mono ?_
  rintro e w3 ⟨v3, rfl, hr3, s3⟩
  obtain ⟨a3, c3, rfl, j1, j2⟩ := hr3.form
  have hlen : (l.take 60).length ≤ 1000 := by rw [List.length_take]; omega
  have hok6 := ok_take HOK.out 60
  replace st := st.trans s3
  have s4 : Calm w3 (w3.alloc (.cells #[.slice a3 (l.take 60).length c3] 24)) := (Calm.refl _).alloc _
  have hb4 := Blk.new w3 Z0 0 24 #[.slice a3 (l.take 60).length c3]
  have hr4 := hr3.calm s4
  have st4 := st.trans s4
  have hp := fun W (h : Calm (w3.alloc (.cells #[.slice a3 (l.take 60).length c3] 24)) W) => loops_both (hr4.calm h) hok6 hlen
  have hq := fun W (h : Calm (w3.alloc (.cells #[.slice a3 (l.take 60).length c3] 24)) W) => rloops_both (hr4.calm h) hok6 hlen
  have hM := fun W (h : Calm (w3.alloc (.cells #[.slice a3 (l.take 60).length c3] 24)) W) => may_calm (hr4.calm h) hok6 hlen (words := ym) ⟨by omega, by omega⟩
  have hR := fun W (h : Calm (w3.alloc (.cells #[.slice a3 (l.take 60).length c3] 24)) W) => rmay_calm (hr4.calm h) hok6 hlen (words := ym) ⟨by omega, by omega⟩
  have hC := fun W (h : Calm (w3.alloc (.cells #[.slice a3 (l.take 60).length c3] 24)) W) => (h.cell (a := ⟨w3.heap.size, 0, none⟩) (by simp)).trans hb4.cell0
  generalize mayB (l.take 60) ym = B at hM hR
  generalize goodB (l.take 60) = G at hp hq
  generalize LabsV (l.take 60) = LV at hp hq
  generalize (l.take 60).length = n at *
  obtain ⟨W4, hW4⟩ : ∃ W, w3.alloc (.cells #[.slice a3 n c3] 24) = W := ⟨_, rfl⟩
  rw [hW4] at hp hq hM hR hC st4
  have HW4 := Lib.hid hW4
  have c4 := hC W4 (Calm.refl _)
  rw [← hW4] at c4
  have hp4 := hp W4 (Calm.refl _)
  rw [← hW4] at hp4
  clear hfw hl1 hwl1 hb cb hr3 hr4 hb4 hok6 hW4 s4
  go_wp2_with fail
  refine hp4.mono ?_
  rintro e w5 ⟨a5, c5, rfl, hr5, s5⟩
  rw [HW4.out] at s5
  have c5' := hC w5 s5
  have hq5 := hq w5 s5
  clear hp hp4 c4
  go_wp2_with fail
  refine hq5.mono ?_
  rintro e w6 ⟨a6, c6, rfl, hr6, s6⟩
  have s46 := s5.trans s6
  replace hr5 := hr5.calm s6
  have c6' := hC w6 s46
  clear hq hq5 c5' s5 s6
  have k1 := hr5.form
  have k2 := hr6.form
  have hLV : LV.length ≤ 9223372036854775807 := by obtain ⟨_, _, _, h1, h2⟩ := k1; omega
  obtain ⟨nL, hnL⟩ : ∃ nL, LV.length = nL := ⟨_, rfl⟩
  rw [hnL] at hr5 hr6 hLV ⊢
  clear k1 k2
  have e5 : ((G : Bool) != G) = false := by cases G <;> rfl
  go_wp2_with fail
  have HNL := Lib.hid hnL
  have HYM := Lib.hid hym
  clear hnL hym c6'
  go_loopg [37] (nL + 1) (fun gm a37 wr => ∃ q : Nat, Hid (gm = nL + 1 - q) ∧ q ≤ nL ∧ a37 = .int .i64 (q : Int) ∧ Calm w6 wr)
  case atStart => exact ⟨0, Lib.hid (by omega), by omega, rfl, Calm.refl _⟩
  case round =>
    obtain ⟨q, HGM, hq, rfl, sr⟩ := hrel
    rcases Nat.lt_or_ge q nL with hqn | hqn
    · obtain ⟨u, hu⟩ : ∃ u, LV[q]? = some u := ⟨_, List.getElem?_eq_getElem (by rw [HNL.out]; exact hqn)⟩
      obtain ⟨b5, off5, rfl, h5⟩ := (hr5.calm sr).one (by omega)
      obtain ⟨b6, off6, rfl, h6⟩ := (hr6.calm sr).one (by omega)
      have d5 := h5 q (.int .i64 u) (by simp [hu])
      have d6 := h6 q (.int .i64 u) (by simp [hu])
      have hqi : (q : Int) < nL := by omega
      clear h5 h6 hu
      go_wp2_with fail
      go_region
      go_wp2_with fail
      go_roundg (nL + 1 - (q + 1))
      case measure => rw [HGM.out]; omega
      case rel => exact ⟨q + 1, Lib.hid rfl, hqn, by go_num, sr.drew⟩
    · obtain rfl : q = nL := by omega
      have sW := s46.trans sr
      have e64 : y.tmod 64 = ym := by rw [Int.tmod_eq_emod_of_nonneg y1]; exact HYM.out
      have w64 : IntKind.i64.wrap ym = ym := by simp [IntKind.wrap, IntKind.signed, IntKind.bits]; omega
      clear hr5 hr6
      go_wp2_with fail
      refine q_start (fun W => Calm W4 W) (by kernel_rfl) sW.drew ?_
      repeat (first
        | (refine q_off (by rfl) ?_; simp only [Act.put, List.setIfInBounds_toArray, List.set_cons_zero, List.set_cons_succ])
        | (refine q_on (by rfl) ?_; apply Exists.intro; refine ⟨fun W hW => ?_, ?_⟩; (have c0 := hC W hW; go_simp; first | done | with_reducible rfl | (go_at_call 13; exact (hM W hW).mono fun e w' k => ⟨k.1, hW.trans k.2⟩) | (go_at_call 14; exact (hR W hW).mono fun e w' k => ⟨k.1, hW.trans k.2⟩)); simp only [Act.put, List.setIfInBounds_toArray, List.set_cons_zero, List.set_cons_succ])
        | fail)
      refine q_end ?_
      intro w9 s9
      go_wp2
      go_ret
      exact ⟨by simp, (st4.trans s9).below⟩
end Go.Proofs.YtglchagfclafgaaDoor
