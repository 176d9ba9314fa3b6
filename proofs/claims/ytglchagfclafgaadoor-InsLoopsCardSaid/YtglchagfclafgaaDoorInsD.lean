/- Loops of the program (printed by gen_insd.py). -/
import Derived.Test.YtglchagfclafgaaDoorInsC
import Derived.Deep.RegionHeld3
import Derived.BigQuiet
import Derived.WalkMore
import Derived.Deep.CutRange
namespace Go.Proofs.YtglchagfclafgaaDoor
open Go Go.RowKit
set_option linter.unusedSimpArgs false
set_option linter.unusedVariables false

theorem Rd.ins {w : World} {o : Owner} {i n cap : Nat} {ao : Option Addr} {l : List In} (h : Rd w o i 3 (.slice ao n cap) n (icells l)) (hn : 0 < n) : ∃ b off, ao = some ⟨b, off, none⟩ ∧ b < w.heap.size ∧ o b = i ∧ ∀ q x, l[q]? = some x → w.cell? ⟨b, off + q * 3, none⟩ = some (.int .u8 x.op) ∧ w.cell? ⟨b, off + q * 3 + 1, none⟩ = some (.int .i64 x.a) ∧ w.cell? ⟨b, off + q * 3 + 2, none⟩ = some (.int .i64 x.w) := by
  obtain ⟨ao', cap', hv, h1, h2, h3, h4⟩ := h
  simp only [Value.slice.injEq, true_and] at hv
  obtain ⟨rfl, rfl⟩ := hv
  obtain ⟨b, off, rfl, hb, ho, hc⟩ := h4 hn
  refine ⟨b, off, rfl, hb, ho, fun q x hx => ?_⟩
  have c := fun j (hj : j < 3) u (hu : x.cells[j]? = some u) => hc (3 * q + j) u (by rw [icells_at hx hj]; exact hu)
  have c0 := c 0 (by decide) _ rfl
  have c1 := c 1 (by decide) _ rfl
  have c2 := c 2 (by decide) _ rfl
  rw [show off + (3 * q + 0) = off + q * 3 by omega] at c0
  rw [show off + (3 * q + 1) = off + q * 3 + 1 by omega] at c1
  rw [show off + (3 * q + 2) = off + q * 3 + 2 by omega] at c2
  exact ⟨c0, c1, c2⟩

theorem pcells_one (l : List (Int × Int)) : ∀ u ∈ pcells l, u.oneCell' = true := by
  intro u hu
  obtain ⟨p, _, hp⟩ := List.mem_flatMap.1 hu
  simp at hp
  rcases hp with rfl | rfl <;> rfl

/-- What Loops tells. -/
def LoopsR (l : List In) (j : Nat) (w : World) (o : Owner) (e : Ending) (w' : World) : Prop :=
  (Good l ∧ ∃ v' o', e = .returned (.tuple #[v', .bool true]) ∧ Row w' o' j 3 1 v' l.length (ints (labs l)) ∧ Step [j, 91] w o w' o') ∨ (¬ Good l ∧ ∃ o', e = .returned (.tuple #[.slice none 0 0, .bool false]) ∧ Step [j, 91] w o w' o')

theorem notGood_nil : ¬ Good [] := fun h => by have := h 0 0 .start; simp at this

set_option maxRecDepth 100000 in
set_option maxHeartbeats 16000000 in
theorem loops_ok {w : World} {o : Owner} {k : Nat} {v : Value} {l : List In} (hl : Rd w o k 3 v l.length (icells l)) (hok : ∀ x ∈ l, x.ok) (hn : l.length ≤ 1000) (j : Nat) (hj : j ≠ 77 ∧ j ≠ 91 ∧ j ≠ 92 ∧ j ≠ k) (hk : k ≠ 77 ∧ k ≠ 91 ∧ k ≠ 92) :
    Calls Tryd.prog 11 #[.agg #[v]] w (LoopsR l j w o) := by
  have s1 : Step [] w o (w.alloc (.cells #[v] 24)) (o.set w.heap.size 77) := ((Step.refl _ _ _).alloc _).give (Nat.le_refl _) _
  have hb := Blk.new w o 77 24 #[v]
  replace hl := hl.frame s1 (by simp)
  generalize o.set w.heap.size 77 = o1 at s1 hb hl
  obtain ⟨ao, cap, rfl, g1, g2, -, -⟩ := id hl
  have c0 := hb.cell0
  unfold maxLen at g2
  by_cases hz : l = []
  · subst hz
    clear hl hb
    simp only [List.length_nil] at c0 s1 g1 ⊢
    go_enter Tryd.func11, Tryd.ntmps11
    go_wp2_with fail
    go_step3
    go_wp2_with fail
    rw [Exit.noGoto_ret]
    refine bodyPost_ret (v := .tuple #[.slice none 0 0, .bool false]) (by simp [results, Tryd.results11, go_sem]) rfl ?_
    exact .inr ⟨notGood_nil, o1, rfl, s1.nil⟩
  have hpos : 0 < l.length := by cases l with | nil => exact absurd rfl hz | cons a b => simp
  obtain ⟨n, hnl⟩ : ∃ n, l.length = n := ⟨_, rfl⟩
  rw [hnl] at hl hpos hn g1 hb c0 s1 ⊢
  have hnz : ((n : Int) == 0) = false := by rw [beq_eq_false_iff_ne]; omega
  have s2 : Step [] (w.alloc (.cells #[.slice ao n cap] 24)) o1 ((w.alloc (.cells #[.slice ao n cap] 24)).alloc (.cells #[.int .i64 (-1)] 3)) (o1.set (w.heap.size + 1) 92) := ((Step.refl _ _ _).alloc _).give (by simp) _
  have hrep := repeat_ok (Rd.fresh (w.alloc (.cells #[.slice ao n cap] 24)) (o1.set (w.heap.size + 1) 92) 1 3 #[.int .i64 (-1)] 1 (by decide) rfl) n hpos hn j
  rw [World.size_alloc] at hrep
  replace hb := hb.frame s2 (by simp)
  replace hl := hl.frame s2 (by simp)
  have c1 := hb.cell0
  have s12 := s1.trans s2
  generalize o1.set (w.heap.size + 1) 92 = o2 at s2 s12 hb hl hrep
  have HNL := Lib.hid hnl
  have HOK := Lib.hid hok
  clear s1 s2 hok hnl hz
  go_enter Tryd.func11, Tryd.ntmps11
  go_wp2_with fail
  go_step3
  go_wp2_with fail
  refine hrep.mono ?_
  rintro e w3 ⟨v3, o3, rfl, hrow3, s3⟩
  obtain ⟨gL, cL, rfl, hL3⟩ : ∃ gL cL, v3 = .slice (some ⟨gL, 0, none⟩) n cL ∧ Rowx w3 o3 j 3 1 gL n cL (ints (List.replicate n (-1))) := by
    obtain ⟨h1, ⟨_, _, h0⟩ | ⟨g, cc, cur, hv, hg, hh, h2, h3, h4, h5⟩⟩ := hrow3
    · omega
    · exact ⟨g, cc, hv, h1, hg, h2, h3, cur, hh, h4, h5⟩
  have t3 : Step [] w3 o3 (w3.alloc (.cells #[.int .i64 0, .int .i64 0] 45)) (o3.set w3.heap.size 91) := ((Step.refl _ _ _).alloc _).give (Nat.le_refl _) _
  have hT3 : Row (w3.alloc (.cells #[.int .i64 0, .int .i64 0] 45)) (o3.set w3.heap.size 91) 91 45 2 (.slice (some ⟨w3.heap.size, 0, none⟩) 1 1) 1 (pcells [(0, 0)]) := Row.made w3 o3 91 45 2 #[.int .i64 0, .int .i64 0] 1 (by decide) rfl
  replace hb := (hb.frame s3 (by simp)).frame t3 (by simp)
  replace hl := (hl.frame s3 (by simp)).frame t3 (by simp)
  replace hL3 := hL3.frame t3 (by simp)
  have st : Step [j, 91] w o (w3.alloc (.cells #[.int .i64 0, .int .i64 0] 45)) (o3.set w3.heap.size 91) := ((s12.trans s3).trans t3).nil
  generalize o3.set w3.heap.size 91 = o4 at t3 hT3 hb hl hL3 st
  have hW := WI.begin l
  rw [HNL.out] at hW
  clear hrep hrow3 s3 t3 s12 c0 c1
  obtain ⟨zb, hzb⟩ : ∃ zb, w.heap.size = zb := ⟨_, rfl⟩
  rw [hzb] at hb
  go_wp2_with fail
  go_step3
  go_wp2_with fail
  clear hzb
  go_loopg [5] (3 * n + 1) (fun gm a5 wr => ∃ (L : List Int) (T : List (Int × Int)) (O : Owner), Hid (gm = 3 * (n - cnt L) + T.length ∧ 3 * (n - cnt L) + T.length ≤ 3 * n + 1) ∧ Row wr O 91 45 2 a5 T.length (pcells T) ∧ Rowx wr O j 3 1 gL n cL (ints L) ∧ Hid (WI l L T) ∧ Rd wr O k 3 (.slice ao n cap) n (icells l) ∧ Blk wr O 77 zb 24 #[.slice ao n cap] ∧ Step [j, 91] w o wr O)
  case atStart =>
    have hc0 : cnt (List.replicate n (-1)) = 0 := by
      have h1 : (List.replicate n (-1 : Int)).filter (fun m => decide (0 ≤ m)) = [] := List.filter_eq_nil_iff.2 (fun a ha => by have := (List.mem_replicate.1 ha).2; subst this; decide)
      unfold cnt
      rw [h1]; rfl
    exact ⟨List.replicate n (-1), [(0, 0)], o4, Lib.hid ⟨by rw [hc0]; simp, by rw [hc0]; simp⟩, hT3, hL3, Lib.hid hW, hl, hb, st⟩
  case round =>
    obtain ⟨L, T, O, HG, hT, hL, HW, hl5, hb5, st5⟩ := hrel
    clear hT3 hL3 hl hb st hW
    obtain ⟨at5, ct5, rfl, hct1, hct2⟩ := hT.slice
    have cb := hb5.cell0
    rcases List.eq_nil_or_concat T with rfl | ⟨T0, ⟨pi, pm⟩, hTe⟩
    · -- nothing more to do
      have hend := HW.out.end
      have HE := Lib.hid hend
      clear hend hT
      go_wp2_with fail
      refine bodyPost_ret (v := .tuple #[.slice (some ⟨gL, 0, none⟩) n cL, .bool true]) (by simp [results, Tryd.results11, go_sem]) rfl ?_
      refine .inl ⟨HE.out.1, _, O, rfl, ?_, st5⟩
      have h1 := hL.row
      rw [HE.out.2] at h1
      rw [HNL.out]
      exact h1
    rw [List.concat_eq_append] at hTe
    subst hTe
    rw [List.length_append, List.length_singleton] at hT hct1
    obtain ⟨gT, cT, hvT, hTx⟩ := hT.rowx (by omega)
    simp only [Value.slice.injEq, true_and] at hvT
    obtain ⟨rfl, rfl⟩ := hvT
    obtain ⟨p0, p1⟩ := pcells_top T0 (pi, pm)
    have ct0 := hTx.cell p0
    have ct1 := hTx.cell p1
    dsimp only at ct0 ct1
    obtain ⟨t, ht⟩ : ∃ t, T0.length = t := ⟨_, rfl⟩
    obtain ⟨t1, ht1⟩ : ∃ t1, t + 1 = t1 := ⟨_, rfl⟩
    have hcutT : Row wr O 91 45 2 (.slice (some ⟨gT, 0, none⟩) t ct5) t (pcells T0) := by
      have h1 := hT.cut (k := t) (by omega)
      have e : (pcells (T0 ++ [(pi, pm)])).take (t * 2) = pcells T0 := by
        rw [pcells_app, List.take_append_of_le_length (by rw [pcells_len]; omega), List.take_of_length_le (by rw [pcells_len]; omega)]
      rwa [e] at h1
    have htb : t + 1 ≤ 3 * n + 1 := by
      have := HG.out.2
      rw [List.length_append, List.length_singleton] at this
      omega
    rw [ht] at ct0 ct1
    rw [ht, ht1] at hct1
    have HT := Lib.hid ht
    have q1 : (t1 : Int) - 1 = t := by omega
    have q2 : (t : Int) < t1 := by omega
    have q3 : (0 : Int) < t1 := by omega
    have q4 : (t : Int) ≤ ct5 := by omega
    have t1b : t1 ≤ 4000 := by omega
    have t6 : Step [] wr O (wr.alloc (.cells #[.int .i64 pi, .int .i64 pm] 45)) (O.set wr.heap.size 77) := ((Step.refl _ _ _).alloc _).give (Nat.le_refl _) _
    have hB6 := Blk.new wr O 77 45 #[.int .i64 pi, .int .i64 pm]
    have hL6 := hL.frame t6 (by simp)
    have hl6 := hl5.frame t6 (by simp)
    have hb6 := hb5.frame t6 (by simp)
    have hcut6 := hcutT.frame t6 (by simp)
    have st6 := st5.trans t6.nil
    generalize O.set wr.heap.size 77 = O6 at t6 hB6 hL6 hl6 hb6 hcut6 st6
    have cb6 := hb6.cell0
    have x0 := hB6.cell 0
    have x1 := hB6.cell 1
    simp only [List.getElem?_toArray, List.getElem?_cons_succ, List.getElem?_cons_zero] at x0 x1
    have hbd := HW.out.bd (pi, pm) (by simp)
    dsimp only at hbd
    have hcnt := cnt_le L
    rw [HW.out.len, HNL.out] at hcnt
    rw [show (T0 ++ [(pi, pm)]).length = t1 by simp [ht, ht1]]
    clear hT hTx p0 p1 hcutT hL hl5 hb5 st5 t6 ht ht1
    go_upto_region 8 with fail
    generalize wr.heap.size = zp at hB6 x0 x1 ⊢
    generalize (wr.alloc (.cells #[.int .i64 pi, .int .i64 pm] 45)) = W6 at hB6 hL6 hl6 hb6 hcut6 st6 cb6 x0 x1 ⊢
    clear ct0 ct1 cb
    have bad : pi < 0 ∨ n ≤ pi ∨ pm < 0 → LoopsR l j w o (.returned (.tuple #[.slice none 0 0, .bool false])) W6 := fun h => .inr ⟨HW.out.bad (by rw [HNL.out]; exact h), O6, rfl, st6⟩
    by_cases hneg : pi < 0
    · have hB0 := Lib.hid (bad (.inl hneg))
      clear bad
      go_wp2_with fail
      refine bodyPost_ret (v := .tuple #[.slice none 0 0, .bool false]) (by simp [results, Tryd.results11, go_sem]) rfl ?_
      exact hB0.out
    by_cases hge : n ≤ pi
    · have hB0 := Lib.hid (bad (.inr (.inl hge)))
      clear bad
      go_wp2_with fail
      refine bodyPost_ret (v := .tuple #[.slice none 0 0, .bool false]) (by simp [results, Tryd.results11, go_sem]) rfl ?_
      exact hB0.out
    by_cases hm : pm < 0
    · have hB0 := Lib.hid (bad (.inr (.inr hm)))
      clear bad
      go_wp2_with fail
      refine bodyPost_ret (v := .tuple #[.slice none 0 0, .bool false]) (by simp [results, Tryd.results11, go_sem]) rfl ?_
      exact hB0.out
    clear bad
    obtain ⟨i, rfl⟩ := Int.eq_ofNat_of_zero_le (show 0 ≤ pi by omega)
    have hin : i < n := by omega
    have hLlen : L.length = n := by rw [HW.out.len, HNL.out]
    obtain ⟨u, hu⟩ : ∃ u, L[i]? = some u := ⟨_, List.getElem?_eq_getElem (by omega)⟩
    obtain ⟨x, hx⟩ : ∃ x, l[i]? = some x := ⟨_, List.getElem?_eq_getElem (by rw [HNL.out]; exact hin)⟩
    have cu : W6.cell? ⟨gL, i, none⟩ = some (.int .i64 u) := hL6.cell (by simp [hu])
    have fu := (hL6.spare (j := i) (by have := hL6.le; omega)).2
    have hcL := hL6.le
    have hcL2 := hL6.capl
    unfold maxLen at hcL2
    have HU := Lib.hid hu
    have HX := Lib.hid hx
    clear hu hx hLlen
    by_cases hum : u = pm
    · subst hum
      have hag := Lib.hid (HW.out.again HU.out (by omega))
      have e1 : (u == u) = true := by simp
      go_wp2_with fail
      go_quiet (fail)
      have tq : Step [] W6 O6 (W6.drewN nq) O6 := (Step.refl _ _ _).drewN nq
      go_wp2_with fail
      go_roundg (3 * (n - cnt L) + T0.length)
      case measure => have := HG.out.1; rw [List.length_append, List.length_singleton] at this; omega
      case rel => exact ⟨L, T0, O6, Lib.hid ⟨rfl, by have := HG.out.2; rw [List.length_append, List.length_singleton] at this; omega⟩, by rw [HT.out]; exact hcut6.frame tq (by simp), hL6.frame tq (by simp), hag, hl6.frame tq (by simp), hb6.frame tq (by simp), st6.trans tq.nil⟩
    have e1 : (u == pm) = false := by simpa using hum
    by_cases hu0 : 0 ≤ u
    · have hcl := Lib.hid (HW.out.clash HU.out hu0 hum)
      clear hum
      go_wp2_with fail
      go_quiet (fail)
      have tq : Step [] W6 O6 (W6.drewN nq) O6 := (Step.refl _ _ _).drewN nq
      go_wp2_with fail
      refine bodyPost_ret (v := .tuple #[.slice none 0 0, .bool false]) (by simp [results, Tryd.results11, go_sem]) rfl ?_
      exact .inr ⟨hcl.out, O6, rfl, st6.trans tq.nil⟩
    have hneg2 : u < 0 := by omega
    have hu0b : ¬ 0 ≤ u := hu0
    have hmo := Lib.hid (HW.out.more HX.out HU.out (by omega) hneg2)
    have hcs := Lib.hid (cnt_set HU.out hneg2 (show 0 ≤ pm by omega))
    have hxok := HOK.out x (List.mem_of_getElem? HX.out)
    clear hum hu0
    go_wp2_with fail
    go_quiet (fail)
    have tq : Step [] W6 O6 (W6.drewN nq) O6 := (Step.refl _ _ _).drewN nq
    replace hB6 := hB6.frame tq (by simp)
    replace hL6 := hL6.frame tq (by simp)
    replace hl6 := hl6.frame tq (by simp)
    replace hb6 := hb6.frame tq (by simp)
    replace hcut6 := hcut6.frame tq (by simp)
    replace st6 := st6.trans tq.nil
    clear cb6 x0 x1 cu fu tq
    generalize W6.drewN nq = Wq at hB6 hL6 hl6 hb6 hcut6 st6 ⊢
    have cb6 := hb6.cell0
    have x0 := hB6.cell 0
    have x1 := hB6.cell 1
    simp only [List.getElem?_toArray, List.getElem?_cons_succ, List.getElem?_cons_zero] at x0 x1
    have cu : Wq.cell? ⟨gL, i, none⟩ = some (.int .i64 u) := hL6.cell (by simp [HU.out])
    have fu := (hL6.spare (j := i) (by have := hL6.le; omega)).2
    have t7 : Step [j] Wq O6 (Wq.setCell ⟨gL, i, none⟩ (.int .i64 pm)) O6 := (Step.refl _ _ _).setCell (fun _ => by show O6 gL ∈ [j]; rw [hL6.own]; simp) _
    have hL7 := hL6.setElem i (.int .i64 pm)
    rw [show (ints L).set i (.int .i64 pm) = ints (L.set i pm) by simp [ints, List.map_set]] at hL7
    replace hB6 := hB6.frame t7 (by simpa using hj.1.symm)
    replace hl6 := hl6.frame t7 (by simpa using hj.2.2.2.symm)
    replace hb6 := hb6.frame t7 (by simpa using hj.1.symm)
    replace hcut6 := hcut6.frame t7 (by simpa using hj.2.1.symm)
    replace st6 := st6.trans (t7.weaken (by simp))
    clear hL6 t7
    go_wp2_with fail
    clear cb6 x0 x1 cu fu
    generalize Wq.setCell ⟨gL, i, none⟩ (.int .i64 pm) = W7 at hB6 hL7 hl6 hb6 hcut6 st6 ⊢
    have sd : Step [] W7 O6 W7.drew O6 := (Step.refl _ _ _).drew
    replace hB6 := hB6.frame sd (by simp)
    replace hL7 := hL7.frame sd (by simp)
    replace hl6 := hl6.frame sd (by simp)
    replace hb6 := hb6.frame sd (by simp)
    replace hcut6 := hcut6.frame sd (by simp)
    replace st6 := st6.trans sd.nil
    obtain ⟨b, off, rfl, hbl, hbo, hcell⟩ := hl6.ins hpos
    obtain ⟨k0, k1, k2⟩ := hcell i x HX.out
    have hbx : ∀ {S : List Nat} {W : World} {O : Owner}, Step S W7.drew O6 W O → k ∉ S → W.cell? ⟨b, off + i * 3, none⟩ = some (.int .u8 x.op) ∧ W.cell? ⟨b, off + i * 3 + 1, none⟩ = some (.int .i64 x.a) ∧ W.cell? ⟨b, off + i * 3 + 2, none⟩ = some (.int .i64 x.w) := fun s hS =>
      ⟨(s.cell (a := ⟨b, off + i * 3, none⟩) hbl (by show O6 b ∉ _; rw [hbo]; exact hS)).trans k0, (s.cell (a := ⟨b, off + i * 3 + 1, none⟩) hbl (by show O6 b ∉ _; rw [hbo]; exact hS)).trans k1, (s.cell (a := ⟨b, off + i * 3 + 2, none⟩) hbl (by show O6 b ∉ _; rw [hbo]; exact hS)).trans k2⟩
    have hsteps := steps_ok W7.drew O6 92 x i pm (by omega) (by omega)
    have hslen := stepsA_len x i pm
    have hini : (i : Int) < n := by omega
    have w1i : IntKind.i64.wrap (i : Int) = i := by simp [IntKind.wrap, IntKind.signed, IntKind.bits]; omega
    have hS0 : ∀ {S : List Nat} {W : World} {O : Owner}, Step S W7.drew O6 W O → k ∉ S → 77 ∉ S → W.cell? ⟨zb, 0, none⟩ = some (.slice (some ⟨b, off, none⟩) n cap) ∧ W.cell? ⟨zp, 0, none⟩ = some (.int .i64 i) ∧ W.cell? ⟨zp, 1, none⟩ = some (.int .i64 pm) ∧ W.cell? ⟨b, off + i * 3, none⟩ = some (.int .u8 x.op) ∧ W.cell? ⟨b, off + i * 3 + 1, none⟩ = some (.int .i64 x.a) ∧ W.cell? ⟨b, off + i * 3 + 2, none⟩ = some (.int .i64 x.w) := fun s h1 h2 =>
      ⟨(hb6.frame s h2).cell0, (hB6.frame s h2).cell 0, (hB6.frame s h2).cell 1, (hbx s h1).1, (hbx s h1).2.1, (hbx s h1).2.2⟩
    have HS := Lib.hid hmo
    clear k0 k1 k2 hcell sd
    refine wp_region_held_drew (S := fun W => W.cell? ⟨zb, 0, none⟩ = some (.slice (some ⟨b, off, none⟩) n cap) ∧ W.cell? ⟨zp, 0, none⟩ = some (.int .i64 i) ∧ W.cell? ⟨zp, 1, none⟩ = some (.int .i64 pm) ∧ W.cell? ⟨b, off + i * 3, none⟩ = some (.int .u8 x.op) ∧ W.cell? ⟨b, off + i * 3 + 1, none⟩ = some (.int .i64 x.a) ∧ W.cell? ⟨b, off + i * 3 + 2, none⟩ = some (.int .i64 x.w)) (by kernel_rfl) (hS0 (Step.refl [] _ _) (by simp) (by simp)) (fun hHeld => ?_)
    generalize W7.drew = Wd at hB6 hL7 hl6 hb6 hcut6 st6 hbl hbx hsteps hS0 hHeld ⊢
    refine wpAnyH_take (i := 0) (oi := ?_) (v := ?_) ?_ (by kernel_rfl) (by kernel_rfl) (by kernel_rfl) ?_ (Or.inl ⟨?_, ?_⟩) ?_ ?_; rotate_left 2
    · (simp only [List.getElem?_toArray, List.getElem?_cons_succ, List.getElem?_cons_zero]; rfl)
    · exact fun _ _ _ h => h
    · rfl
    · (intro w hSw; (try dsimp only at hSw); obtain ⟨s0, s1, s2, s3, s4, s5⟩ := hSw; first | (go_simp; done) | (go_simp; with_reducible rfl))
    · assumption
    try simp only [Act.put, List.setIfInBounds_toArray, List.set_cons_zero, List.set_cons_succ]
    refine wpAnyH_take (i := 1) (oi := ?_) (v := ?_) ?_ (by kernel_rfl) (by kernel_rfl) (by kernel_rfl) ?_ (Or.inl ⟨?_, ?_⟩) ?_ ?_; rotate_left 2
    · (simp only [List.getElem?_toArray, List.getElem?_cons_succ, List.getElem?_cons_zero]; rfl)
    · exact fun _ _ _ h => h
    · rfl
    · (intro w hSw; (try dsimp only at hSw); obtain ⟨s0, s1, s2, s3, s4, s5⟩ := hSw; first | (go_simp; done) | (go_simp; with_reducible rfl))
    · assumption
    try simp only [Act.put, List.setIfInBounds_toArray, List.set_cons_zero, List.set_cons_succ]
    refine wpAnyH_take (i := 2) (oi := ?_) (v := ?_) ?_ (by kernel_rfl) (by kernel_rfl) (by kernel_rfl) ?_ (Or.inl ⟨?_, ?_⟩) ?_ ?_; rotate_left 2
    · (simp only [List.getElem?_toArray, List.getElem?_cons_succ, List.getElem?_cons_zero]; rfl)
    · exact fun _ _ _ h => h
    · rfl
    · (intro w hSw; (try dsimp only at hSw); obtain ⟨s0, s1, s2, s3, s4, s5⟩ := hSw; first | (go_simp; done) | (go_simp; with_reducible rfl))
    · assumption
    try simp only [Act.put, List.setIfInBounds_toArray, List.set_cons_zero, List.set_cons_succ]
    refine wpAnyH_take (i := 3) (oi := ?_) (v := ?_) ?_ (by kernel_rfl) (by kernel_rfl) (by kernel_rfl) ?_ (Or.inl ⟨?_, ?_⟩) ?_ ?_; rotate_left 2
    · (simp only [List.getElem?_toArray, List.getElem?_cons_succ, List.getElem?_cons_zero]; rfl)
    · exact fun _ _ _ h => h
    · rfl
    · (intro w hSw; (try dsimp only at hSw); obtain ⟨s0, s1, s2, s3, s4, s5⟩ := hSw; first | (go_simp; done) | (go_simp; with_reducible rfl))
    · assumption
    try simp only [Act.put, List.setIfInBounds_toArray, List.set_cons_zero, List.set_cons_succ]
    refine wpAnyH_take (i := 4) (oi := ?_) (v := ?_) ?_ (by kernel_rfl) (by kernel_rfl) (by kernel_rfl) ?_ (Or.inl ⟨?_, ?_⟩) ?_ ?_; rotate_left 2
    · (simp only [List.getElem?_toArray, List.getElem?_cons_succ, List.getElem?_cons_zero]; rfl)
    · exact fun _ _ _ h => h
    · rfl
    · (intro w hSw; (try dsimp only at hSw); obtain ⟨s0, s1, s2, s3, s4, s5⟩ := hSw; first | (go_simp; done) | (go_simp; with_reducible rfl))
    · assumption
    try simp only [Act.put, List.setIfInBounds_toArray, List.set_cons_zero, List.set_cons_succ]
    refine wpAnyH_take (i := 5) (oi := ?_) (v := ?_) ?_ (by kernel_rfl) (by kernel_rfl) (by kernel_rfl) ?_ (Or.inl ⟨?_, ?_⟩) ?_ ?_; rotate_left 2
    · (simp only [List.getElem?_toArray, List.getElem?_cons_succ, List.getElem?_cons_zero]; rfl)
    · exact fun _ _ _ h => h
    · rfl
    · (intro w hSw; (try dsimp only at hSw); obtain ⟨s0, s1, s2, s3, s4, s5⟩ := hSw; first | (go_simp; done) | (go_simp; with_reducible rfl))
    · assumption
    try simp only [Act.put, List.setIfInBounds_toArray, List.set_cons_zero, List.set_cons_succ]
    refine wpAnyH_take (i := 6) (oi := ?_) (v := ?_) ?_ (by kernel_rfl) (by kernel_rfl) (by kernel_rfl) ?_ (Or.inl ⟨?_, ?_⟩) ?_ ?_; rotate_left 2
    · (simp only [List.getElem?_toArray, List.getElem?_cons_succ, List.getElem?_cons_zero]; rfl)
    · exact fun _ _ _ h => h
    · rfl
    · (intro w hSw; (try dsimp only at hSw); obtain ⟨s0, s1, s2, s3, s4, s5⟩ := hSw; first | (go_simp; done) | (go_simp; with_reducible rfl))
    · assumption
    try simp only [Act.put, List.setIfInBounds_toArray, List.set_cons_zero, List.set_cons_succ]
    refine wpAnyH_take (i := 7) (oi := ?_) (v := ?_) ?_ (by kernel_rfl) (by kernel_rfl) (by kernel_rfl) ?_ (Or.inl ⟨?_, ?_⟩) ?_ ?_; rotate_left 2
    · (simp only [List.getElem?_toArray, List.getElem?_cons_succ, List.getElem?_cons_zero]; rfl)
    · exact fun _ _ _ h => h
    · rfl
    · (intro w hSw; (try dsimp only at hSw); obtain ⟨s0, s1, s2, s3, s4, s5⟩ := hSw; first | (go_simp; done) | (go_simp; with_reducible rfl))
    · assumption
    try simp only [Act.put, List.setIfInBounds_toArray, List.set_cons_zero, List.set_cons_succ]
    refine wpAnyH_take (i := 8) (oi := ?_) (v := ?_) ?_ (by kernel_rfl) (by kernel_rfl) (by kernel_rfl) ?_ (Or.inl ⟨?_, ?_⟩) ?_ ?_; rotate_left 2
    · (simp only [List.getElem?_toArray, List.getElem?_cons_succ, List.getElem?_cons_zero]; rfl)
    · exact fun _ _ _ h => h
    · rfl
    · (intro w hSw; (try dsimp only at hSw); obtain ⟨s0, s1, s2, s3, s4, s5⟩ := hSw; first | (go_simp; done) | (go_simp; with_reducible rfl))
    · assumption
    try simp only [Act.put, List.setIfInBounds_toArray, List.set_cons_zero, List.set_cons_succ]
    refine wpAnyH_take (i := 9) (oi := ?_) (v := ?_) ?_ (by kernel_rfl) (by kernel_rfl) (by kernel_rfl) ?_ (Or.inl ⟨?_, ?_⟩) ?_ ?_; rotate_left 2
    · (simp only [List.getElem?_toArray, List.getElem?_cons_succ, List.getElem?_cons_zero]; rfl)
    · exact fun _ _ _ h => h
    · rfl
    · (intro w hSw; (try dsimp only at hSw); obtain ⟨s0, s1, s2, s3, s4, s5⟩ := hSw; first | (go_simp; done) | (go_simp; with_reducible rfl))
    · assumption
    try simp only [Act.put, List.setIfInBounds_toArray, List.set_cons_zero, List.set_cons_succ]
    refine wpAnyH_take (i := 10) (oi := ?_) (v := ?_) ?_ (by kernel_rfl) (by kernel_rfl) (by kernel_rfl) ?_ (Or.inl ⟨?_, ?_⟩) ?_ ?_; rotate_left 2
    · (simp only [List.getElem?_toArray, List.getElem?_cons_succ, List.getElem?_cons_zero]; rfl)
    · exact fun _ _ _ h => h
    · rfl
    · (intro w hSw; (try dsimp only at hSw); obtain ⟨s0, s1, s2, s3, s4, s5⟩ := hSw; first | (go_simp; done) | (go_simp; with_reducible rfl))
    · assumption
    try simp only [Act.put, List.setIfInBounds_toArray, List.set_cons_zero, List.set_cons_succ]
    refine wpAnyH_ready (rs := [11]) (by kernel_rfl) (by simp) ?_
    refine AllReadyH.cons (o := ?_) ?_ ?_ ?_; rotate_left 1
    · (simp only [List.getElem?_toArray, List.getElem?_cons_succ, List.getElem?_cons_zero]; rfl)
    · intro K' hK
      go_simp
      simp only [In.val] at hsteps
      go_at_call 18; refine hsteps.mono ?_
      rintro e w8 ⟨v8, o8, rfl, hr8, s8⟩
      obtain ⟨a8, c8, rfl, -, -⟩ := hr8.slice
      replace hcut6 := hcut6.frame s8 (by simp)
      try go_wp2_with fail
      refine hK.out _ _ ?_ (fun hHeld => ?_)
      · exact hS0 s8 (by simp) (by simp)
      clear hK K'
      try simp only [Act.put, List.setIfInBounds_toArray, List.set_cons_zero, List.set_cons_succ]
      refine wpAnyH_ready (rs := [12]) (by kernel_rfl) (by simp) ?_
      refine AllReadyH.cons (o := ?_) ?_ ?_ ?_; rotate_left 1
      · (simp only [List.getElem?_toArray, List.getElem?_cons_succ, List.getElem?_cons_zero]; rfl)
      · intro K' hK
        refine step_app (.tmp 71) (.tmp 82) 46 rfl Tryd.underlying46 infoStep rfl (by rfl) (by rfl) hcut6 (by first | rfl | simp [Act.eval, Act.put]) hr8.rd (pcells_one _) (by omega) (by omega) ?_
        intro vM wM oM hM sM
        obtain ⟨aM, cM, rfl, -, -⟩ := hM.slice
        have sAll := s8.nil.trans sM
        refine hK.out _ _ ?_ (fun hHeld => ?_)
        · exact hS0 sAll (by simpa using hk.2.1) (by simp)
        clear hK K'
        try simp only [Act.put, List.setIfInBounds_toArray, List.set_cons_zero, List.set_cons_succ]
        refine wpAnyH_take (i := 13) (oi := ?_) (v := ?_) ?_ (by kernel_rfl) (by kernel_rfl) (by kernel_rfl) ?_ (Or.inl ⟨?_, ?_⟩) ?_ ?_; rotate_left 2
        · (simp only [List.getElem?_toArray, List.getElem?_cons_succ, List.getElem?_cons_zero]; rfl)
        · exact fun _ _ _ h => h
        · rfl
        · (intro w hSw; (try dsimp only at hSw); obtain ⟨s0, s1, s2, s3, s4, s5⟩ := hSw; first | (go_simp; done) | (go_simp; with_reducible rfl))
        · assumption
        try simp only [Act.put, List.setIfInBounds_toArray, List.set_cons_zero, List.set_cons_succ]
        refine wpAnyH_done (by kernel_rfl) ?_ _
        go_wp2_with fail
        go_roundg (3 * (n - cnt (L.set i pm)) + (T0 ++ stepsA x i pm).length)
        case measure => have h1 := HG.out.1; have h2 := hcs.out; have h3 := HT.out; rw [List.length_append, List.length_singleton] at h1; rw [List.length_append]; have h4 := cnt_le (L.set i pm); rw [List.length_set, HW.out.len, HNL.out] at h4; omega
        case rel =>
          refine ⟨L.set i pm, T0 ++ stepsA x i pm, oM, Lib.hid ⟨rfl, ?_⟩, ?_, hL7.frame sAll (by simpa using hj.2.1), HS.out, hl6.frame sAll (by simpa using hk.2.1), hb6.frame sAll (by simp), st6.trans (sAll.weaken (by simp))⟩
          · have h1 := HG.out.2; have h2 := hcs.out; have h3 := HT.out; rw [List.length_append, List.length_singleton] at h1; rw [List.length_append]; have h4 := cnt_le (L.set i pm); rw [List.length_set, HW.out.len, HNL.out] at h4; omega
          · rw [List.length_append, HT.out, pcells_app]; exact hM
      exact AllReadyH.nil
    exact AllReadyH.nil
end Go.Proofs.YtglchagfclafgaaDoor
