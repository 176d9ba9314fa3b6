/- PairPlays: the walk. -/
import Derived.Test.YtjigjjkbgcnjdaaLawKit
import Derived.Test.YtjigjjkbgcnjdaaShown
namespace Go.Proofs.Ytjigjjkbgcnjdaa
open Go Go.RowKit
set_option linter.unusedSimpArgs false
set_option linter.unusedVariables false

theorem mulR_ok (a b : Int) (ha : C64 a) (hb : C64 b) (w : World) : Calls Try.prog 34 #[.int .i64 a, .int .i64 b] w fun e w' => e = .returned (pv (a * b)) ∧ Calm w w' := by
  have hu := umulR_ok a b ha hb
  obtain ⟨k, hk⟩ := mul_hi ha hb
  generalize hP : (a % 18446744073709551616) * (b % 18446744073709551616) = P at hu hk
  have ep : pv P = .agg #[.int .i64 (wrap64 P), .int .i64 (wrap64 (P / 18446744073709551616))] := rfl
  rw [ep] at hu
  obtain ⟨x1, x2⟩ := id ha
  obtain ⟨y1, y2⟩ := id hb
  have z0 := PBlk.new w pv_zero
  have EZ := Lib.hid pv_zero
  have hr : pv (a * b) = .agg #[.int .i64 (wrap64 P), .int .i64 (if b < 0 then wrap64 ((if a < 0 then wrap64 (wrap64 (P / 18446744073709551616) - b) else wrap64 (P / 18446744073709551616)) - a) else (if a < 0 then wrap64 (wrap64 (P / 18446744073709551616) - b) else wrap64 (P / 18446744073709551616)))] := by
    rw [hk]
    unfold sgm
    refine pv_of (by unfold wrap64; omega) ?_
    by_cases h1 : a < 0 <;> by_cases h2 : b < 0 <;> simp only [h1, h2, if_true, if_false] <;> unfold wrap64 <;> omega
  rw [hr]
  clear hk hP ep
  by_cases h1 : a < 0 <;> by_cases h2 : b < 0 <;> simp only [h1, h2, if_true, if_false] at hr ⊢
  all_goals generalize wrap64 (P / 18446744073709551616) = ph at *
  all_goals generalize wrap64 P = pl at *
  all_goals have HR := Lib.hid hr
  all_goals clear hr
  all_goals go_enter Try.func34, Try.ntmps34
  all_goals go_wp2_with (go_at_call 35; refine (hu _).mono ?_; rintro e w1 ⟨rfl, s1⟩; have zz := z0.calm s1; have lt := zz.lt; obtain ⟨d0, d1, d2, d3⟩ := zz.cells EZ.out)
  all_goals have kf := fun ob => ((zz.set HR.out).calm ((Calm.refl _).alloc ob)).cells HR.out
  all_goals have k0 := fun ob => (kf ob).1
  all_goals have k1 := fun ob => (kf ob).2.1
  all_goals refine bodyPost_ret (v := .agg #[.int .i64 pl, .int .i64 _]) (by simp only [results, Try.results34]; simp [go_sem, k0, k1]) rfl ⟨rfl, ?_⟩
  all_goals exact ((((Calm.refl w).alloc _).trans s1).set2 (Nat.le_refl _) _ _).alloc _

set_option maxHeartbeats 40000000 in
theorem plays_walk (al ah bl bh c : Int) (ha1 : C64 al) (ha2 : C64 ah) (hb1 : C64 bl) (hb2 : C64 bh) (hc : C64 c) (w : World) :
    Calls Try.prog 9 #[.agg #[.int .i64 al, .int .i64 ah], .agg #[.int .i64 bl, .int .i64 bh], .int .i64 c] w fun e w' => e = .returned (.bool true) ∧ Calm w w' := by
  obtain ⟨a, sa, ea, qa⟩ := pv_arg ha1 ha2
  obtain ⟨b, sb, eb, qb⟩ := pv_arg hb1 hb2
  obtain ⟨r1l, r1h, -, -, -, e1, -⟩ := pv_split (a + b)
  obtain ⟨nl, nh, -, -, -, en, -⟩ := pv_split (-a)
  obtain ⟨tl, th, -, -, -, et, -⟩ := pv_split (2 * a)
  obtain ⟨hl, hh, -, -, -, eh, -⟩ := pv_split (a / 2)
  obtain ⟨ml, mh, -, -, -, em, -⟩ := pv_split (c * al)
  obtain ⟨ul, uh, -, -, -, eu, -⟩ := pv_split ((c % 18446744073709551616) * (al % 18446744073709551616))
  have h17 := add_calm a b
  have h27 := addR_calm a b
  have h20 := neg_calm a
  have h28 := negR_calm a
  have h21 := twice_ok a
  have h29 := twiceR_calm a
  have h22 := half_ok a sa
  have h30 := halfR_ok a sa
  have h23 := of_calm c hc
  have h31 : ∀ w, Calls Try.prog 31 #[.int .i64 c] w fun e w' => e = .returned (.agg #[.int .i64 c, .int .i64 (c / 9223372036854775808)]) ∧ Calm w w' := by
    intro w
    rw [← pv_cell hc]
    refine (ofR_ok c hc w).mono ?_
    rintro e w' ⟨rfl, c1, rfl⟩
    exact ⟨rfl, (Calm.refl _).alloc _⟩
  have h24 := less_ok a b sa sb
  have h32 := lessR_ok a b sa sb
  have h25 := uless_ok a b
  have h33 := ulessR_ok a b
  have h19 := mul_ok c al hc ha1
  have h34 := mulR_ok c al hc ha1
  have h18 := umul_calm c al
  have h35 := umulR_ok c al hc ha1
  rw [← Int.two_mul] at h29
  rw [ea, eb, e1] at h17 h27
  rw [ea, en] at h20 h28
  rw [ea, et] at h21 h29
  rw [ea, eh] at h22 h30
  rw [ea, eb] at h24 h32 h25 h33
  rw [em] at h19 h34
  rw [eu] at h18 h35
  generalize decide (a < b) = lt at *
  generalize decide (a % 340282366920938463463374607431768211456 < b % 340282366920938463463374607431768211456) = ult at *
  generalize c / 9223372036854775808 = c63 at *
  have P0 := B2.new w ea eb
  have EA := Lib.hid ea
  have EB := Lib.hid eb
  clear ea eb e1 en et eh em eu qa qb
  go_enter Try.func9, Try.ntmps9
  go_wp2_with (go_at_call 10; refine (shown_ok _).mono ?_; rintro e w1 ⟨rfl, s1⟩)
  replace P0 := (P0.calm s1).calm (Calm.refl _).drew
  have sw := ((((Calm.refl w).alloc (.cells #[.int .i64 al, .int .i64 ah] 24)).alloc (.cells #[.int .i64 bl, .int .i64 bh] 24)).trans s1).drew
  obtain ⟨⟨a0, a1⟩, ⟨b0, b1⟩⟩ := P0.facts EA.out EB.out
  go_region_held3 (fun W => (W.cell? ⟨w.heap.size, 0, none⟩ = some (.int .i64 al) ∧ W.cell? ⟨w.heap.size, 1, none⟩ = some (.int .i64 ah)) ∧ (W.cell? ⟨w.heap.size + 1, 0, none⟩ = some (.int .i64 bl) ∧ W.cell? ⟨w.heap.size + 1, 1, none⟩ = some (.int .i64 bh))) (first | exact ⟨⟨by assumption, by assumption⟩, ⟨by assumption, by assumption⟩⟩)
    (first
      | (go_at_call 17; refine (h17 _).mono ?_; rintro e w2 ⟨rfl, s1⟩; replace P0 := P0.calm s1; replace sw := sw.trans s1; obtain ⟨⟨a0, a1⟩, ⟨b0, b1⟩⟩ := P0.facts EA.out EB.out)
      | (go_at_call 27; refine (h27 _).mono ?_; rintro e w2 ⟨rfl, s1⟩; replace P0 := P0.calm s1; replace sw := sw.trans s1; obtain ⟨⟨a0, a1⟩, ⟨b0, b1⟩⟩ := P0.facts EA.out EB.out)
      | (go_at_call 20; refine (h20 _).mono ?_; rintro e w2 ⟨rfl, s1⟩; replace P0 := P0.calm s1; replace sw := sw.trans s1; obtain ⟨⟨a0, a1⟩, ⟨b0, b1⟩⟩ := P0.facts EA.out EB.out)
      | (go_at_call 28; refine (h28 _).mono ?_; rintro e w2 ⟨rfl, s1⟩; replace P0 := P0.calm s1; replace sw := sw.trans s1; obtain ⟨⟨a0, a1⟩, ⟨b0, b1⟩⟩ := P0.facts EA.out EB.out)
      | (go_at_call 21; refine (h21 _).mono ?_; rintro e w2 ⟨rfl, s1⟩; replace P0 := P0.calm s1; replace sw := sw.trans s1; obtain ⟨⟨a0, a1⟩, ⟨b0, b1⟩⟩ := P0.facts EA.out EB.out)
      | (go_at_call 29; refine (h29 _).mono ?_; rintro e w2 ⟨rfl, s1⟩; replace P0 := P0.calm s1; replace sw := sw.trans s1; obtain ⟨⟨a0, a1⟩, ⟨b0, b1⟩⟩ := P0.facts EA.out EB.out)
      | (go_at_call 22; refine (h22 _).mono ?_; rintro e w2 ⟨rfl, s1⟩; replace P0 := P0.calm s1; replace sw := sw.trans s1; obtain ⟨⟨a0, a1⟩, ⟨b0, b1⟩⟩ := P0.facts EA.out EB.out)
      | (go_at_call 30; refine (h30 _).mono ?_; rintro e w2 ⟨rfl, s1⟩; replace P0 := P0.calm s1; replace sw := sw.trans s1; obtain ⟨⟨a0, a1⟩, ⟨b0, b1⟩⟩ := P0.facts EA.out EB.out)
      | (go_at_call 23; refine (h23 _).mono ?_; rintro e w2 ⟨rfl, s1⟩; replace P0 := P0.calm s1; replace sw := sw.trans s1; obtain ⟨⟨a0, a1⟩, ⟨b0, b1⟩⟩ := P0.facts EA.out EB.out)
      | (go_at_call 31; refine (h31 _).mono ?_; rintro e w2 ⟨rfl, s1⟩; replace P0 := P0.calm s1; replace sw := sw.trans s1; obtain ⟨⟨a0, a1⟩, ⟨b0, b1⟩⟩ := P0.facts EA.out EB.out))
  go_wp2_with fail
  replace P0 := P0.calm (Calm.refl _).drew
  replace sw := sw.drew
  obtain ⟨⟨a0, a1⟩, ⟨b0, b1⟩⟩ := P0.facts EA.out EB.out
  go_region_held3 (fun W => (W.cell? ⟨w.heap.size, 0, none⟩ = some (.int .i64 al) ∧ W.cell? ⟨w.heap.size, 1, none⟩ = some (.int .i64 ah)) ∧ (W.cell? ⟨w.heap.size + 1, 0, none⟩ = some (.int .i64 bl) ∧ W.cell? ⟨w.heap.size + 1, 1, none⟩ = some (.int .i64 bh))) (first | exact ⟨⟨by assumption, by assumption⟩, ⟨by assumption, by assumption⟩⟩)
    (first
      | (go_at_call 24; refine (h24 _).mono ?_; rintro e w2 ⟨rfl, s1⟩; replace P0 := P0.calm s1; replace sw := sw.trans s1; obtain ⟨⟨a0, a1⟩, ⟨b0, b1⟩⟩ := P0.facts EA.out EB.out)
      | (go_at_call 32; refine (h32 _).mono ?_; rintro e w2 ⟨rfl, s1⟩; replace P0 := P0.calm s1; replace sw := sw.trans s1; obtain ⟨⟨a0, a1⟩, ⟨b0, b1⟩⟩ := P0.facts EA.out EB.out)
      | (go_at_call 25; refine (h25 _).mono ?_; rintro e w2 ⟨rfl, s1⟩; replace P0 := P0.calm s1; replace sw := sw.trans s1; obtain ⟨⟨a0, a1⟩, ⟨b0, b1⟩⟩ := P0.facts EA.out EB.out)
      | (go_at_call 33; refine (h33 _).mono ?_; rintro e w2 ⟨rfl, s1⟩; replace P0 := P0.calm s1; replace sw := sw.trans s1; obtain ⟨⟨a0, a1⟩, ⟨b0, b1⟩⟩ := P0.facts EA.out EB.out)
      | (go_at_call 19; refine (h19 _).mono ?_; rintro e w2 ⟨rfl, s1⟩; replace P0 := P0.calm s1; replace sw := sw.trans s1; obtain ⟨⟨a0, a1⟩, ⟨b0, b1⟩⟩ := P0.facts EA.out EB.out)
      | (go_at_call 34; refine (h34 _).mono ?_; rintro e w2 ⟨rfl, s1⟩; replace P0 := P0.calm s1; replace sw := sw.trans s1; obtain ⟨⟨a0, a1⟩, ⟨b0, b1⟩⟩ := P0.facts EA.out EB.out)
      | (go_at_call 18; refine (h18 _).mono ?_; rintro e w2 ⟨rfl, s1⟩; replace P0 := P0.calm s1; replace sw := sw.trans s1; obtain ⟨⟨a0, a1⟩, ⟨b0, b1⟩⟩ := P0.facts EA.out EB.out)
      | (go_at_call 35; refine (h35 _).mono ?_; rintro e w2 ⟨rfl, s1⟩; replace P0 := P0.calm s1; replace sw := sw.trans s1; obtain ⟨⟨a0, a1⟩, ⟨b0, b1⟩⟩ := P0.facts EA.out EB.out))
  go_wp2
  go_ret
  exact ⟨rfl, sw⟩
end Go.Proofs.Ytjigjjkbgcnjdaa
