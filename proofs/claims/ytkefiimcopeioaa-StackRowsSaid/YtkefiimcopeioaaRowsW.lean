/- StackRows: the walk. -/
import Derived.Test.YtkefiimcopeioaaDoLaws
import Derived.Test.YtkefiimcopeioaaShown
namespace Go.Proofs.Ytkefiimcopeioaa
open Go Go.RowKit
set_option linter.unusedSimpArgs false
set_option linter.unusedVariables false

theorem rfitsL {l y : List Int} (h : l.length + y.length ≤ 128) : putL l y = l ++ y := by rw [putL, if_pos h]
theorem rfitsE {l y : List Int} (h : l.length + y.length ≤ 128) : putE l y = 0 := by rw [putE, if_pos h]

/-- A slice that was just written out, owned. -/
theorem Row.lit (w : World) (o : Owner) (i : Nat) (c : Int) : Row (w.alloc (.cells #[.int .i64 c] 35)) (o.set w.heap.size i) i 35 1 (.slice (some ⟨w.heap.size, 0, none⟩) 1 1) 1 (ints [c]) :=
  ⟨by simp, .inr ⟨w.heap.size, 1, #[.int .i64 c], rfl, Owner.set_self _ _ _, heap_alloc_new _ _, Nat.le_refl _, by simp [maxLen], by simp, by simp⟩⟩

theorem drop_step (z : List Int) (p : Nat) (h : p < z.length) : [(z.take (z.length - p)).getLastD 0] ++ z.drop (z.length - p) = z.drop (z.length - (p + 1)) ∧ (z.take (z.length - p)).dropLast = z.take (z.length - (p + 1)) ∧ z.take (z.length - p) ≠ [] := by
  obtain ⟨q, hq⟩ : ∃ q, q = z.length - (p + 1) := ⟨_, rfl⟩
  have e : z.length - p = q + 1 := by omega
  have h1 : q < z.length := by omega
  have h2 : z.take (q + 1) = z.take q ++ [z[q]] := by simp
  have h3 := List.drop_eq_getElem_cons h1
  rw [e, ← hq, h2, h3]
  generalize z.take q = u
  generalize z[q] = c
  exact ⟨by simp [List.getLastD_eq_getLast?], by rw [List.dropLast_concat], by simp⟩

theorem getLastD_app (y u : List Int) (h : u ≠ []) : (y ++ u).getLastD 0 = u.getLastD 0 := by
  simp only [List.getLastD_eq_getLast?, List.getLast?_append]
  cases hu : u.getLast? with
  | none => rw [List.getLast?_eq_none_iff] at hu; exact absurd hu h
  | some v => rfl

set_option maxHeartbeats 8000000 in
theorem rows_walk {w : World} {v0 : Value} {z0 : List Int} (h0 : Rd w (fun _ => 0) 0 1 v0 z0.length (ints z0)) (hz0 : ∀ x ∈ z0, I64 x) (many : Int) (hm : 0 ≤ many ∧ many ≤ 255) :
    Calls Try.prog 7 #[v0, .int .u8 many] w fun e w' => e = .returned (.bool true) ∧ Below w.heap.size w w' := by
  have hB := Base.start w
  obtain ⟨a0, c0, rfl, p1, p2, _, _⟩ := id h0
  unfold maxLen at p2
  obtain ⟨x, hxz, hN, hN1, hN2, hN3, h0⟩ := h0.few 100 (M := 100) rfl
  clear hxz hz0
  have hk0 := Int.emod_nonneg many (show ((x.length : Int) + 1) ≠ 0 by omega)
  have hk3 := Int.emod_lt_of_pos many (show 0 < (x.length : Int) + 1 by omega)
  obtain ⟨k, hk⟩ : ∃ k : Nat, many % ((x.length : Int) + 1) = k := ⟨(many % ((x.length : Int) + 1)).toNat, by omega⟩
  have hk1 : k ≤ x.length := by omega
  clear hk0 hk3
  have hk2 : many.tmod ((x.length : Int) + 1) = k := by rw [Int.tmod_eq_emod_of_nonneg hm.1]; exact hk
  obtain ⟨m1, m2⟩ := hm
  obtain ⟨y, z, rfl, rfl⟩ : ∃ y z, x = y ++ z ∧ k = z.length := ⟨x.take (x.length - k), x.drop (x.length - k), (List.take_append_drop _ _).symm, by simp; omega⟩
  clear hk hk1
  simp only [List.length_append, Int.natCast_add] at hN hN1 hN2 hN3 h0 hk2
  go_enter Try.func7, Try.ntmps7
  go_wp2_with fail
  refine (shown_ok w (fun _ => 0)).mono ?_
  rintro e w1 ⟨rfl, s1⟩
  replace hB := hB.step s1 (by decide)
  replace h0 := h0.frame s1 (by decide)
  clear s1
  go_wp2_with fail
  refine (new_ok w1 (fun _ => 0) 10).mono ?_
  rintro e w2 ⟨s, o2, rfl, hs, s1⟩
  replace hB := hB.step s1 (by decide)
  replace h0 := h0.frame s1 (by decide)
  clear s1
  go_wp2_with fail
  refine (new_ok w2 o2 20).mono ?_
  rintro e w3 ⟨t, o3, rfl, ht, s1⟩
  replace hB := hB.step s1 (by decide)
  replace h0 := h0.frame s1 (by decide)
  replace hs := hs.frame s1 (by decide) (by decide)
  clear s1
  have hp := put_ok (y := y ++ z) hs (by simpa using h0)
  rw [rfitsL (by simp; omega), rfitsE (by simp; omega), List.nil_append] at hp
  go_wp2_with fail
  refine hp.mono ?_
  rintro e w4 ⟨o4, rfl, hs, s1⟩
  replace hB := hB.step s1 (by decide)
  replace h0 := h0.frame s1 (by decide)
  replace ht := ht.frame s1 (by decide) (by decide)
  clear s1 hp
  go_wp2_with fail
  go_loopg [41] (y.length + z.length) (fun g v wr => ∃ (p : Nat) (o' : Owner), g = y.length + z.length - p ∧ p ≤ y.length + z.length ∧ v = .int .i64 p ∧ Stk 55 wr o' 20 t ((y ++ z).take p) ∧ Step [20, 21] w4 o4 wr o')
  case atStart => exact ⟨0, o4, rfl, Nat.zero_le _, rfl, by simpa using ht, Step.refl _ _ _⟩
  case round =>
    obtain ⟨p, o5, hg, hp1, rfl, ht5, s5⟩ := hrel
    have HG := Lib.hid hg
    clear hg ht
    by_cases hlt : p < y.length + z.length
    · obtain ⟨bo, off, rfl, hco⟩ := Rd.cellInt (x := y ++ z) (by simpa using h0.frame s5 (by decide)) (by omega)
      have hlt' : p < (y ++ z).length := by simpa using hlt
      have ho := hco p hlt'
      have hpi : (p : Int) < y.length + z.length := by omega
      have hstep : (y ++ z).take p ++ [(y ++ z)[p]] = (y ++ z).take (p + 1) := by simp
      generalize (y ++ z)[p] = c at ho hstep
      have hp := push_ok ht5 c
      rw [rfitsE (by simp; omega), rfitsL (by simp; omega), hstep] at hp
      clear hstep hco hlt' ht5
      go_wp2_with fail
      refine hp.mono ?_
      rintro e w6 ⟨o6, rfl, ht6, s6⟩
      clear hp
      go_wp2_with fail
      go_roundg (y.length + z.length - (p + 1))
      case measure => rw [HG.out]; omega
      case rel => exact ⟨p + 1, o6, rfl, by omega, by go_num, ht6, s5.trans s6⟩
    · have ht : Stk 55 wr o5 20 t (y ++ z) := by
        rwa [List.take_of_length_le (by simp; omega)] at ht5
      have hpi : ¬ (p : Int) < y.length + z.length := by omega
      clear ht5 HG hp1 hlt
      replace hB := hB.step s5 (by decide)
      replace h0 := h0.frame s5 (by decide)
      replace hs := hs.frame s5 (by decide) (by decide)
      clear s5
      have HK := Lib.hid hk2
      have hk2' : many.tmod ((y.length : Int) + z.length + 1) = z.length := HK.out
      have htk := take_split hs 30
      go_wp2_with fail
      refine htk.mono ?_
      rintro e w6 ⟨va, o6, rfl, hva, hs, s1⟩
      replace hB := hB.step s1 (by decide)
      replace h0 := h0.frame s1 (by decide)
      replace ht := ht.frame s1 (by decide) (by decide)
      clear s1 htk hk2 hk2'
      obtain ⟨aoa, capa, rfl, ha1, ha2⟩ := hva.slice
      go_wp2_with fail
      go_loopg [63, 14] z.length (fun g v vb wr => ∃ (p : Nat) (o' : Owner), g = z.length - p ∧ p ≤ z.length ∧ v = .int .i64 p ∧ Row wr o' 43 35 1 vb p (ints (z.drop (z.length - p))) ∧ Stk 55 wr o' 20 t (y ++ z.take (z.length - p)) ∧ Step [20, 21, 43] w6 o6 wr o')
      case atStart => exact ⟨0, o6, rfl, Nat.zero_le _, rfl, by simpa using Row.nil _ _ _ _ _ _, by simpa using ht, Step.refl _ _ _⟩
      case round =>
        obtain ⟨p, o7, hg, hp1, rfl, hb7, ht7, s7⟩ := hrel
        have HG := Lib.hid hg
        clear hg ht
        by_cases hlt : p < z.length
        · have hpi : (p : Int) < z.length := by omega
          obtain ⟨d1, d2, d3⟩ := drop_step z p hlt
          have hp := pop_ok ht7
          rw [show popV (y ++ z.take (z.length - p)) = (z.take (z.length - p)).getLastD 0 from getLastD_app _ _ d3, show popE (y ++ z.take (z.length - p)) = 0 by rw [popE, if_neg (by simp [d3])], List.dropLast_append_of_ne_nil d3, d2] at hp
          have D1 := Lib.hid d1
          clear ht7 d1 d2 d3
          generalize (z.take (z.length - p)).getLastD 0 = c at hp D1
          obtain ⟨aob, capb, rfl, hb1, hb2⟩ := hb7.slice
          go_wp2_with fail
          refine hp.mono ?_
          rintro e w8 ⟨o8, rfl, ht8, s8⟩
          have hb8 := hb7.frame s8 (by decide)
          have hl := Row.lit w8 o8 43 c
          have s9 : Step [] w8 o8 (w8.alloc (.cells #[.int .i64 c] 35)) (o8.set w8.heap.size 43) := ((Step.refl _ _ _).alloc _).give (Nat.le_refl _) _
          have hb9 := hb8.rd.frame s9 (by decide)
          have ht9 := ht8.frame s9 (by decide) (by decide)
          clear hp hb7 hb8 ht8
          go_wp2_with (at_builtin; refine wpList_app rfl (.tmp 73) (.tmp 74) 22 rfl Try.underlying22 info35 rfl rfl hl rfl hb9 (ints_one _ _) (by omega) (by omega) ?_)
          intro v' w10 o10 hrow s10
          have hrow' : Row w10 o10 43 35 1 v' (p + 1) (ints (z.drop (z.length - (p + 1)))) := by
            have e := D1.out
            rw [← e]
            simpa [ints, Nat.add_comm] using hrow
          have ht10 := ht9.frame s10 (by decide) (by decide)
          have s11 := ((s7.trans (s8.weaken (by decide))).trans s9.nil).trans (s10.weaken (by decide))
          clear hrow hl hb9 ht9 s7 s8 s9 s10
          go_wp2_with fail
          go_roundg (z.length - (p + 1))
          case measure => rw [HG.out]; omega
          case rel => exact ⟨p + 1, o10, rfl, by omega, by go_num, hrow', ht10, s11⟩
        · obtain rfl : p = z.length := by omega
          have hpi : ¬ (z.length : Int) < z.length := by omega
          rw [Nat.sub_self, List.drop_zero] at hb7
          rw [Nat.sub_self, List.take_zero, List.append_nil] at ht7
          clear HG hp1 hlt
          replace hB := hB.step s7 (by decide)
          replace h0 := h0.frame s7 (by decide)
          replace hs := hs.frame s7 (by decide) (by decide)
          replace hva := hva.frame s7 (by decide)
          clear s7
          have hal := all_ok hs 44
          go_wp2_with fail
          refine hal.mono ?_
          rintro e w8 ⟨vl, o8, rfl, hvl, s1⟩
          replace hB := hB.step s1 (by decide)
          replace h0 := h0.frame s1 (by decide)
          replace hs := hs.frame s1 (by decide) (by decide)
          replace ht7 := ht7.frame s1 (by decide) (by decide)
          replace hb7 := hb7.frame s1 (by decide)
          replace hva := hva.frame s1 (by decide)
          clear s1 hal
          go_wp2_with fail
          go_loopg [81] z.length (fun g v wr => ∃ (p : Nat) (o' : Owner) (ys : List Int), g = z.length - p ∧ p ≤ z.length ∧ v = .int .i64 p ∧ Row wr o' 30 35 1 (.slice aoa z.length capa) z.length (ints ys) ∧ Step [30] w8 o8 wr o')
          case atStart => exact ⟨0, o8, z, rfl, Nat.zero_le _, rfl, hva, Step.refl _ _ _⟩
          case round =>
            obtain ⟨p, o9, ys, hg, hp1, rfl, hr9, s9⟩ := hrel
            have HG := Lib.hid hg
            clear hg hva
            by_cases hlt : p < z.length
            · have hpi : (p : Int) < z.length := by omega
              have hys : ys.length = z.length := by simpa [ints] using hr9.len
              obtain ⟨g, capg, hvg, hx9⟩ := hr9.rowx (by omega)
              simp only [Value.slice.injEq, true_and] at hvg
              obtain ⟨rfl, rfl⟩ := hvg
              have hyp : ys[p]? = some (ys[p]'(by omega)) := by simp [hys, hlt]
              have hc := hx9.cell (ints_get hyp)
              obtain ⟨hsp, hfz⟩ := hx9.spare (j := p) (by have := hx9.le; omega)
              have hset := hx9.setElem p (.int .i64 (wrap64 (ys[p]'(by omega) + 1)))
              have hset' : Row (wr.setCell ⟨g, p, none⟩ (.int .i64 (wrap64 (ys[p]'(by omega) + 1)))) o9 30 35 1 (.slice (some ⟨g, 0, none⟩) z.length capa) z.length (ints (ys.set p (wrap64 (ys[p]'(by omega) + 1)))) := by
                have := hset.row
                simpa [ints, List.map_set] using this
              have hog : o9 g = 30 := hx9.own
              have s10 := s9.setCell (a := ⟨g, p, none⟩) (fun h => by have := s9.own g h; simp [← this, hog]) (.int .i64 (wrap64 (ys[p]'(by omega) + 1)))
              generalize ys[p]'(by omega) = c at hc hset' s10
              clear hset hx9 hr9 s9 hyp hys
              go_wp2_with fail
              go_roundg (z.length - (p + 1))
              case measure => rw [HG.out]; omega
              case rel => exact ⟨p + 1, o9, _, rfl, by omega, by go_num, hset', s10⟩
            · have hpi : ¬ (p : Int) < z.length := by omega
              replace hB := hB.step s9 (by decide)
              replace h0 := h0.frame s9 (by decide)
              replace hs := hs.frame s9 (by decide) (by decide)
              replace ht7 := ht7.frame s9 (by decide) (by decide)
              replace hb7 := hb7.frame s9 (by decide)
              replace hvl := hvl.frame s9 (by decide)
              clear s9 hr9 HG
              have h0y := Rd.pre (x := y) (r := z) (by simpa using h0)
              have h0z := Rd.suf (x := y) (r := z) (by simpa using h0)
              obtain ⟨aob, capb, rfl, _, _⟩ := hb7.slice
              obtain ⟨aol, capl, rfl, _, _⟩ := hvl.slice
              have t1 : True := trivial
              have t2 : True := trivial
              have t3 : True := trivial
              have t4 : True := trivial
              have hat := all_ok ht7 46
              have has := fun (o : Owner) (W : World) (h : Stk 55 W o 10 s y) => all_ok h 48
              go_wp2_with (first
                | (have _t := t1; go_at_call 15; refine (same_ok hb7.rd h0z).mono ?_; rintro e w10 ⟨rfl, n1, rfl⟩; rw [show sameB z z = true by simp [sameB]]; clear _t t1)
                | (have _t := t2; go_at_call 15; refine (same_ok (hvl.frame ((Step.refl [] _ o9).drewN n1) (by decide)).rd (h0y.frame ((Step.refl [] _ o9).drewN n1) (by decide))).mono ?_; rintro e w11 ⟨rfl, n2, rfl⟩; rw [show sameB y y = true by simp [sameB]]; replace hvl := hvl.frame ((Step.refl [] _ o9).drewN (n1 + n2)) (by decide); replace hs := hs.frame ((Step.refl [] _ o9).drewN (n1 + n2)) (by decide) (by decide); replace ht7 := ht7.frame ((Step.refl [] _ o9).drewN (n1 + n2)) (by decide) (by decide); replace hB := hB.step ((Step.refl [] _ o9).drewN (n1 + n2)) (by decide); clear _t t2)
                | (go_at_call_of 14 t; refine (all_ok ht7 46).mono ?_; rintro e w12 ⟨v12, o12, rfl, hv12, s12⟩; replace hB := hB.step s12 (by decide); replace hvl := hvl.frame s12 (by decide); replace hs := hs.frame s12 (by decide) (by decide))
                | (have _t := t3; go_at_call 15; refine (same_ok hv12.rd hvl.rd).mono ?_; rintro e w13 ⟨rfl, n3, rfl⟩; rw [show sameB y y = true by simp [sameB]]; replace hvl := hvl.frame ((Step.refl [] _ o12).drewN n3) (by decide); replace hs := hs.frame ((Step.refl [] _ o12).drewN n3) (by decide) (by decide); replace hB := hB.step ((Step.refl [] _ o12).drewN n3) (by decide); clear _t t3)
                | (go_at_call_of 14 s; refine (all_ok hs 48).mono ?_; rintro e w14 ⟨v14, o14, rfl, hv14, s14⟩; replace hB := hB.step s14 (by decide); replace hvl := hvl.frame s14 (by decide))
                | (have _t := t4; go_at_call 15; refine (same_ok hv14.rd hvl.rd).mono ?_; rintro e w15 ⟨rfl, n4, rfl⟩; rw [show sameB y y = true by simp [sameB]]; replace hB := hB.step ((Step.refl [] _ o14).drewN n4) (by decide); clear _t t4))
              go_ret
              exact ⟨rfl, hB.below⟩
end Go.Proofs.Ytkefiimcopeioaa
