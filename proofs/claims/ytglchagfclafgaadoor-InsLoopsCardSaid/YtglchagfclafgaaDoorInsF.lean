/- May of the program. -/
import Derived.Test.YtglchagfclafgaaDoorInsE
import Derived.WalkMore
import Derived.Deep.CutRange
namespace Go.Proofs.YtglchagfclafgaaDoor
open Go Go.RowKit
set_option linter.unusedSimpArgs false
set_option linter.unusedVariables false

theorem Rd.at {w : World} {o : Owner} {i n cap b off : Nat} {l : List In} (h : Rd w o i 3 (.slice (some ⟨b, off, none⟩) n cap) n (icells l)) (hn : 0 < n) : b < w.heap.size ∧ o b = i ∧ ∀ q x, l[q]? = some x → w.cell? ⟨b, off + q * 3, none⟩ = some (.int .u8 x.op) ∧ w.cell? ⟨b, off + q * 3 + 1, none⟩ = some (.int .i64 x.a) ∧ w.cell? ⟨b, off + q * 3 + 2, none⟩ = some (.int .i64 x.w) := by
  obtain ⟨b', off', he, h1, h2, h3⟩ := h.ins hn
  simp only [Option.some.injEq, Addr.mk.injEq, and_true] at he
  obtain ⟨rfl, rfl⟩ := he
  exact ⟨h1, h2, h3⟩

set_option maxRecDepth 100000 in
set_option maxHeartbeats 16000000 in
theorem may_ok {w : World} {o : Owner} {k : Nat} {v : Value} {l : List In} (hl : Rd w o k 3 v l.length (icells l)) (hok : ∀ x ∈ l, x.ok) (hn : l.length ≤ 1000) (hk : k ≠ 77 ∧ k ≠ 91 ∧ k ≠ 92 ∧ k ≠ 93 ∧ k ≠ 94 ∧ k ≠ 95) {words : Int} (hw : I64 words) :
    Calls Tryd.prog 13 #[.agg #[v], .int .i64 words] w (MayR l words w o) := by
  have s1 : Step [] w o (w.alloc (.cells #[v] 24)) (o.set w.heap.size 77) := ((Step.refl _ _ _).alloc _).give (Nat.le_refl _) _
  have hb := Blk.new w o 77 24 #[v]
  replace hl := hl.frame s1 (by simp)
  generalize o.set w.heap.size 77 = o1 at s1 hb hl
  obtain ⟨ao, cap, rfl, g1, g2, -, -⟩ := id hl
  have c0 := hb.cell0
  unfold maxLen at g2
  have hloops := loops_ok hl hok hn 93 (by refine ⟨by decide, by decide, by decide, ?_⟩; exact fun e => hk.2.2.2.1 e.symm) ⟨hk.1, hk.2.1, hk.2.2.1⟩
  have HOK := Lib.hid hok
  have HW := Lib.hid hw
  clear hok hw
  go_enter Tryd.func13, Tryd.ntmps13
  go_wp2_with fail
  refine hloops.mono ?_
  rintro e w2 (⟨hgood, v2, o2, rfl, hrow2, s2⟩ | ⟨hgood, o2, rfl, s2⟩)
  rotate_left
  · have hnm : ¬ mayP l words := fun h => hgood h.1
    have HB := Lib.hid hnm
    clear hloops hnm hgood
    go_wp2_with fail
    refine bodyPost_ret (v := .bool false) (by simp [results, Tryd.results13, go_sem]) rfl ?_
    exact ⟨false, o2, rfl, by simp [HB.out], (s1.nil.trans s2).weaken (by simp)⟩
  have hpos : 0 < l.length := by
    rcases l with _ | ⟨a, b⟩
    · exact absurd hgood notGood_nil
    · simp
  obtain ⟨n, hnl⟩ : ∃ n, l.length = n := ⟨_, rfl⟩
  rw [hnl] at hl hpos hn g1 hb c0 s1 hrow2 s2 ⊢
  replace hb := hb.frame s2 (by simp)
  replace hl := hl.frame s2 (by simp; exact ⟨hk.2.2.2.1, hk.2.1⟩)
  have st2 := s1.nil.trans s2
  obtain ⟨gL, cL, rfl, hrx⟩ := hrow2.rowx hpos
  clear hrow2
  have hrow2 := hrx
  clear hrx
  have HG := Lib.hid hgood
  have HNL := Lib.hid hnl
  have c1 := hb.cell0
  have hbox := Lib.hid hb
  clear hloops hgood s1 s2 hnl c0
  obtain ⟨zb, hzb⟩ : ∃ zb, w.heap.size = zb := ⟨_, rfl⟩
  rw [hzb] at hb c1
  clear hbox
  by_cases h500 : 500 < (n : Int)
  · have hnm : ¬ mayP l words := fun h => by have := h.2.1; have := HNL.out; omega
    have HB := Lib.hid hnm
    clear hnm
    go_wp2_with fail
    refine bodyPost_ret (v := .bool false) (by simp [results, Tryd.results13, go_sem]) rfl ?_
    exact ⟨false, o2, rfl, by simp [HB.out], st2.weaken (by simp)⟩
  obtain ⟨b, off, rfl, hbl, hbo, hcell⟩ := hl.ins hpos
  obtain ⟨m, hm⟩ : ∃ m, n = m + 1 := ⟨n - 1, by omega⟩
  obtain ⟨xl, hxl⟩ : ∃ x, l[m]? = some x := ⟨_, List.getElem?_eq_getElem (by have := HNL.out; omega)⟩
  obtain ⟨x0, hx0⟩ : ∃ x, l[0]? = some x := ⟨_, List.getElem?_eq_getElem (by have := HNL.out; omega)⟩
  have wm : IntKind.i64.wrap ((n : Int) - 1) = (m : Int) := by simp [IntKind.wrap, IntKind.signed, IntKind.bits]; omega
  have wm2 : (n : Int) - 1 = (m : Int) := by omega
  have hlc : locA l = if x0.op = 12 then x0.a else 0 := by
    cases l with
    | nil => simp at hx0
    | cons a r => simp at hx0; subst hx0; rfl
  obtain ⟨l0, l1, l2⟩ := hcell m xl hxl
  obtain ⟨f0, f1, f2⟩ := hcell 0 x0 hx0
  simp only [Nat.zero_mul, Nat.add_zero] at f0 f1 f2
  have HXL := Lib.hid hxl
  have HX0 := Lib.hid hx0
  have HLC := Lib.hid hlc
  have HM := Lib.hid hm
  have hmn : (m : Int) < n := by omega
  clear hxl hx0 hlc hm
  by_cases hlast : xl.op = 15 ∨ xl.op = 3
  rotate_left
  · have hnm : ¬ mayP l words := fun h => by
      obtain ⟨x, hx, hx2⟩ := h.2.2.1
      rw [HNL.out, HM.out, Nat.add_sub_cancel, HXL.out] at hx
      obtain rfl := Option.some.inj hx
      exact hlast hx2
    have HB := Lib.hid hnm
    have b1 : (xl.op == 15) = false := by rw [beq_eq_false_iff_ne]; exact fun e => hlast (.inl e)
    have b2 : (xl.op == 3) = false := by rw [beq_eq_false_iff_ne]; exact fun e => hlast (.inr e)
    have b3 : (xl.op != 15) = true := by rw [bne_iff_ne]; exact fun e => hlast (.inl e)
    have b4 : (xl.op != 3) = true := by rw [bne_iff_ne]; exact fun e => hlast (.inr e)
    clear hnm hlast f0 f1 f2
    go_wp2_with fail
    refine bodyPost_ret (v := .bool false) (by simp [results, Tryd.results13, go_sem]) rfl ?_
    exact ⟨false, o2, rfl, by simp [HB.out], st2.weaken (by simp)⟩
  go_upto_region 5 with (fail)
  go_cut [41] from 36 to 41 (fun c wx => c = .bool false ∧ wx = w2)
  case first =>
    by_cases h15 : xl.op = 15
    · have b1 : (xl.op == 15) = true := by simpa using h15
      have b3 : (xl.op != 15) = false := by simpa using h15
      clear hlast h15
      go_wp2_with fail
      go_meet
      case rel => exact ⟨rfl, rfl⟩
    · have h3 := hlast.resolve_left h15
      have b1 : (xl.op == 15) = false := by simpa using h15
      have b3 : (xl.op != 15) = true := by simpa using h15
      have b2 : (xl.op == 3) = true := by simpa using h3
      have b4 : (xl.op != 3) = false := by simpa using h3
      clear hlast h15 h3
      go_wp2_with fail
      go_meet
      case rel => exact ⟨rfl, rfl⟩
  case rest =>
    obtain ⟨rfl, rfl⟩ := hcut
    go_upto_if 47 with (fail)
    go_cut [8] from 48 to 52 (fun c wx => c = .int .i64 (locA l) ∧ wx = wc)
    case first =>
      by_cases h12 : x0.op = 12
      · have b1 : (x0.op == 12) = true := by simpa using h12
        have hlc : locA l = x0.a := by rw [HLC.out, if_pos h12]
        have HL := Lib.hid hlc
        clear h12 hlc
        go_wp2_with fail
        go_meet
        case rel => exact ⟨by rw [HL.out], rfl⟩
      · have b1 : (x0.op == 12) = false := by simpa using h12
        have hlc : locA l = 0 := by rw [HLC.out, if_neg h12]
        have HL := Lib.hid hlc
        clear h12 hlc
        go_wp2_with fail
        go_meet
        case rel => exact ⟨by rw [HL.out], rfl⟩
    case rest =>
      obtain ⟨rfl, rfl⟩ := hcut
      obtain ⟨lc, hlcE⟩ : ∃ lc, locA l = lc := ⟨_, rfl⟩
      have HLE := Lib.hid hlcE
      rw [hlcE]
      clear hlcE l0 l1 l2 f0 f1 f2
      obtain ⟨m1, m2, r1, r2, o3, mlow, s3⟩ := low_made wc o2
      have hb3 := hb.frame s3 (by simp)
      have hl3 := hl.frame s3 (by simpa using hk.2.2.2.2.1)
      have hr3 := hrow2.frame s3 (by simp)
      have c3 := hb3.cell0
      obtain ⟨q1, q2, q3, q4, t1, t2, t3, t4, o4, mhigh, s4⟩ := high_made m2 o3 (n := (n : Int)) (words := words) (lc := lc) (by omega) HW.out (wrap_I64 _)
      rw [wm2] at t1
      have hb4 := hb3.frame s4 (by simp)
      have hl4 := hl3.frame s4 (by simpa using hk.2.2.2.2.2)
      have hr4 := hr3.frame s4 (by simp)
      have ml4 := mlow.frame s4 (by simp)
      have c4 := hb4.cell0
      have c3a : (m2.alloc (.map #[] 0)).cell? ⟨zb, 0, none⟩ = some (.slice (some ⟨b, off, none⟩) n cap) := (hb3.frame ((Step.refl [] _ _).alloc _) (by simp)).cell0
      have st4 : Step [91, 93, 94, 95] w o q4 o4 := ((st2.weaken (by simp)).trans (s3.weaken (by simp))).trans (s4.weaken (by simp))
      have mh4 := mhigh
      have k1 := run_makeMap (P := Tryd.prog) 51 wc
      have k2 := run_makeMap (P := Tryd.prog) 51 m2
      generalize hz1 : wc.heap.size = z1 at r1 r2 ml4 k1
      generalize hz2 : m2.heap.size = z2 at t1 t2 t3 t4 mh4 k2
      clear hz1 hz2
      clear hb3 hl3 hr3 c3 mhigh mlow s3 s4 hb hl hrow2 hcell c1 st2 hbl hbo
      go_upto_region 12 with (fail)
      clear r1 r2 t1 t2 t3 t4 k1 k2 c3a
      have c5 := hb4.cell0
      go_wp2_with fail
      go_loopg [67] (n + 1) (fun gm a67 wr => ∃ (q : Nat) (O : Owner), Hid (gm = n + 1 - q) ∧ q ≤ n ∧ a67 = .int .i64 (q : Int) ∧ Blk wr O 77 zb 24 #[.slice (some ⟨b, off, none⟩) n cap] ∧ Rd wr O k 3 (.slice (some ⟨b, off, none⟩) n cap) n (icells l) ∧ Rowx wr O 93 3 1 gL n cL (ints (labs l)) ∧ MapF wr O 94 z1 lowA 2 ∧ MapF wr O 95 z2 (highA n words lc) 4 ∧ Hid (∀ (j : Nat) (x : In), j < q → l[j]? = some x → insP n words lc ((labs l)[j]?.getD 0) j x) ∧ Step [91, 93, 94, 95] w o wr O)
      case atStart => exact ⟨0, o4, Lib.hid (by omega), by omega, rfl, hb4, hl4, hr4, ml4, mh4, Lib.hid (fun j x hj => by omega), st4⟩
      case round =>
        obtain ⟨q, O, HGM, hq, rfl, hb, hl, hr, hml, hmh, HALL, st⟩ := hrel
        clear hb4 hl4 hr4 ml4 mh4 st4 c4 c5
        have cb := hb.cell0
        rcases Nat.lt_or_ge q n with hqn | hqn
        rotate_left
        · have hqe : q = n := by omega
          subst hqe
          have hmay : mayP l words := by
            refine ⟨HG.out, by have := HNL.out; omega, ⟨xl, ?_, hlast⟩, fun j x hx => ?_⟩
            · rw [HNL.out, HM.out, Nat.add_sub_cancel]; exact HXL.out
            · rw [HNL.out, HLE.out]
              exact HALL.out j x (by have := (List.getElem?_eq_some_iff.1 hx).1; have := HNL.out; omega) hx
          have HMAY := Lib.hid hmay
          clear hmay
          go_wp2_with fail
          refine bodyPost_ret (v := .bool true) (by simp [results, Tryd.results13, go_sem]) rfl ?_
          exact ⟨true, O, rfl, by simp [HMAY.out], st⟩
        obtain ⟨x, hx⟩ : ∃ x, l[q]? = some x := ⟨_, List.getElem?_eq_getElem (by have := HNL.out; omega)⟩
        obtain ⟨hbl, hbo, hcell⟩ := hl.at hpos
        obtain ⟨k0, k1, k2⟩ := hcell q x hx
        have HX := Lib.hid hx
        have hqi : (q : Int) < n := by omega
        clear hcell hx
        go_wp2_with fail
        have tn : Step [] wr O (wr.alloc (.cells #[.int .u8 x.op, .int .i64 x.a, .int .i64 x.w] 36)) (O.set wr.heap.size 77) := ((Step.refl _ _ _).alloc _).give (Nat.le_refl _) _
        have hbx := Blk.new wr O 77 36 #[.int .u8 x.op, .int .i64 x.a, .int .i64 x.w]
        have hkind := kind_ok (wr.alloc (.cells #[.int .u8 x.op, .int .i64 x.a, .int .i64 x.w] 36)) x.op
        replace hb := hb.frame tn (by simp)
        replace hl := hl.frame tn (by simp)
        replace hr := hr.frame tn (by simp)
        replace hml := hml.frame tn (by simp)
        replace hmh := hmh.frame tn (by simp)
        have stn := st.trans tn.nil
        clear cb k0 k1 k2 hbl hbo st tn
        generalize wr.alloc (.cells #[.int .u8 x.op, .int .i64 x.a, .int .i64 x.w] 36) = Wn at *
        generalize O.set wr.heap.size 77 = O at *
        generalize wr.heap.size = zx at *
        refine hkind.mono ?_
        rintro e w3 ⟨rfl, hw3⟩
        obtain rfl : Wn = w3 := hw3.symm
        obtain ⟨u, hu⟩ : ∃ u, (labs l)[q]? = some u := ⟨_, List.getElem?_eq_getElem (by rw [labs_len]; have := HNL.out; omega)⟩
        have cu : Wn.cell? ⟨gL, q, none⟩ = some (.int .i64 u) := hr.cell (by simp [hu])
        have HU := Lib.hid hu
        have cb := hb.cell0
        have y0 := hbx.cell 0
        have y1 := hbx.cell 1
        have y2 := hbx.cell 2
        simp only [List.getElem?_toArray, List.getElem?_cons_succ, List.getElem?_cons_zero] at y0 y1 y2
        have hkb := kindA_bd x.op
        have lk1 := hml.look (k := kindA x.op) ⟨by omega, by omega⟩
        have lk2 := hmh.look (k := kindA x.op) ⟨by omega, by omega⟩
        have hcL := hr.le
        have hcL2 := hr.capl
        unfold maxLen at hcL2
        have HL := Lib.hid (And.intro hb (And.intro hl (And.intro hr (And.intro hml hmh))))
        clear hkind hu hb hl hr hml hmh hbx hkb
        go_upto_region 16 with (fail)
        go_cut [75] from 76 to 83 (fun c wx => ∃ b, c = .bool b ∧ BIs b ((x.op < 1 ∨ 16 ≤ x.op))  ∧ wx = Wn)
        case first =>
          by_cases h1 : x.op < 1
          · have HV : BIs true (x.op < 1 ∨ 16 ≤ x.op) := (by simp [BIs, h1])
            go_wp2_with fail
            go_meet
            case rel => exact ⟨true, rfl, HV, rfl⟩
          · by_cases h2 : 16 ≤ x.op
            · have HV : BIs true (x.op < 1 ∨ 16 ≤ x.op) := (by simp [BIs, h2])
              go_wp2_with fail
              go_meet
              case rel => exact ⟨true, rfl, HV, rfl⟩
            · have HV : BIs false (x.op < 1 ∨ 16 ≤ x.op) := (by simp [BIs, h1, h2])
              go_wp2_with fail
              go_meet
              case rel => exact ⟨false, rfl, HV, rfl⟩
        case rest =>
        obtain ⟨B16, rfl, HB16, hW⟩ := hcut
        obtain rfl : Wn = wc := hW.symm
        rcases B16 with _ | _
        rotate_left
        · have hno : ¬ mayP l words := fun h => by
            have h1 := h.2.2.2 q x HX.out
            rw [HNL.out, HLE.out] at h1
            have h2 := HB16.1 rfl
            obtain ⟨i1, i2, i3, i4, i5, i6, i7⟩ := h1
            omega
          have HNO := Lib.hid hno
          clear hno
          go_wp2_with fail
          refine bodyPost_ret (v := .bool false) (by simp [results, Tryd.results13, go_sem]) rfl ?_
          exact ⟨false, O, rfl, by simp [HNO.out], stn⟩
        go_upto_region 17 with (fail)
        go_cut [75] from 84 to 91 (fun c wx => ∃ b, c = .bool b ∧ BIs b ((x.op ≠ 1 ∧ x.w ≠ 0))  ∧ wx = Wn)
        case first =>
          by_cases h1 : x.op = 1
          · have HV : BIs false (x.op ≠ 1 ∧ x.w ≠ 0) := (by simp [BIs, h1])
            have e1 : (x.op == 1) = true := by simpa using h1
            have e2 : (x.op != 1) = false := by simpa using h1
            clear h1
            go_wp2_with fail
            go_meet
            case rel => exact ⟨false, rfl, HV, rfl⟩
          · have e1 : (x.op == 1) = false := by simpa using h1
            have e2 : (x.op != 1) = true := by simpa using h1
            by_cases h2 : x.w = 0
            · have HV : BIs false (x.op ≠ 1 ∧ x.w ≠ 0) := (by simp [BIs, h2])
              have e3 : (x.w == 0) = true := by simpa using h2
              have e4 : (x.w != 0) = false := by simpa using h2
              clear h1 h2
              go_wp2_with fail
              go_meet
              case rel => exact ⟨false, rfl, HV, rfl⟩
            · have HV : BIs true (x.op ≠ 1 ∧ x.w ≠ 0) := (by simp [BIs, h1, h2])
              have e3 : (x.w == 0) = false := by simpa using h2
              have e4 : (x.w != 0) = true := by simpa using h2
              clear h1 h2
              go_wp2_with fail
              go_meet
              case rel => exact ⟨true, rfl, HV, rfl⟩
        case rest =>
        obtain ⟨B17, rfl, HB17, hW⟩ := hcut
        obtain rfl : Wn = wc := hW.symm
        rcases B17 with _ | _
        rotate_left
        · have hno : ¬ mayP l words := fun h => by
            have h1 := h.2.2.2 q x HX.out
            rw [HNL.out, HLE.out] at h1
            have h2 := HB17.1 rfl
            obtain ⟨i1, i2, i3, i4, i5, i6, i7⟩ := h1
            exact i3.elim (fun e => h2.1 e) (fun e => h2.2 e)
          have HNO := Lib.hid hno
          clear hno
          go_wp2_with fail
          refine bodyPost_ret (v := .bool false) (by simp [results, Tryd.results13, go_sem]) rfl ?_
          exact ⟨false, O, rfl, by simp [HNO.out], stn⟩
        go_upto_region 18 with (fail)
        go_cut [75] from 92 to 105 (fun c wx => ∃ b, c = .bool b ∧ BIs b ((x.a < lowA (kindA x.op) ∨ highA n words lc (kindA x.op) < x.a))  ∧ wx = Wn)
        case first =>
          generalize lowA (kindA x.op) = va at *
          generalize highA n words lc (kindA x.op) = vb at *
          by_cases h1 : x.a < va
          · have HV : BIs true (x.a < va ∨ vb < x.a) := (by simp [BIs, h1])
            go_wp2_with fail
            go_meet
            case rel => exact ⟨true, rfl, HV, rfl⟩
          · by_cases h2 : vb < x.a
            · have HV : BIs true (x.a < va ∨ vb < x.a) := (by simp [BIs, h2])
              go_wp2_with fail
              go_meet
              case rel => exact ⟨true, rfl, HV, rfl⟩
            · have HV : BIs false (x.a < va ∨ vb < x.a) := (by simp [BIs, h1, h2])
              go_wp2_with fail
              go_meet
              case rel => exact ⟨false, rfl, HV, rfl⟩
        case rest =>
        obtain ⟨B18, rfl, HB18, hW⟩ := hcut
        obtain rfl : Wn = wc := hW.symm
        rcases B18 with _ | _
        rotate_left
        · have hno : ¬ mayP l words := fun h => by
            have h1 := h.2.2.2 q x HX.out
            rw [HNL.out, HLE.out] at h1
            have h2 := HB18.1 rfl
            obtain ⟨i1, i2, i3, i4, i5, i6, i7⟩ := h1
            omega
          have HNO := Lib.hid hno
          clear hno
          go_wp2_with fail
          refine bodyPost_ret (v := .bool false) (by simp [results, Tryd.results13, go_sem]) rfl ?_
          exact ⟨false, O, rfl, by simp [HNO.out], stn⟩
        go_upto_region 20 with (fail)
        go_cut [106] from 107 to 113 (fun c wx => ∃ b, c = .bool b ∧ BIs b ((x.op = 12 ∧ 0 < (q : Int)))  ∧ wx = Wn)
        case first =>
          by_cases h1 : x.op = 12
          · have e1 : (x.op == 12) = true := by simpa using h1
            have HV : BIs (decide (0 < q)) (x.op = 12 ∧ 0 < (q : Int)) := by simp [BIs, h1]
            clear h1
            go_wp2_with fail
            go_meet
            case rel => exact ⟨_, rfl, HV, rfl⟩
          · have HV : BIs false (x.op = 12 ∧ 0 < (q : Int)) := by simp [BIs, h1]
            have e1 : (x.op == 12) = false := by simpa using h1
            clear h1
            go_wp2_with fail
            go_meet
            case rel => exact ⟨false, rfl, HV, rfl⟩
        case rest =>
        obtain ⟨B20, rfl, HB20, hW⟩ := hcut
        obtain rfl : Wn = wc := hW.symm
        rcases B20 with _ | _
        rotate_left
        · have hno : ¬ mayP l words := fun h => by
            have h1 := h.2.2.2 q x HX.out
            rw [HNL.out, HLE.out] at h1
            have h2 := HB20.1 rfl
            obtain ⟨i1, i2, i3, i4, i5, i6, i7⟩ := h1
            exact i6 h2
          have HNO := Lib.hid hno
          clear hno
          go_wp2_with fail
          refine bodyPost_ret (v := .bool false) (by simp [results, Tryd.results13, go_sem]) rfl ?_
          exact ⟨false, O, rfl, by simp [HNO.out], stn⟩
        go_upto_region 21 with (fail)
        go_cut [106] from 114 to 131 (fun c wx => ∃ b, c = .bool b ∧ BIs b ((x.op = 15 ∧ (q : Int) = m ∧ 0 < u))  ∧ wx = Wn)
        case first =>
          by_cases h1 : x.op = 15
          · have e1 : (x.op == 15) = true := by simpa using h1
            by_cases h2 : (q : Int) = m
            · have e2 : ((q : Int) == (m : Int)) = true := by simpa using h2
              by_cases h3 : 0 < u
              · have HV : BIs true (x.op = 15 ∧ (q : Int) = m ∧ 0 < u) := by simp only [BIs, h1, h2, h3, true_and]
                clear h1 h2
                go_wp2_with fail
                go_meet
                case rel => exact ⟨true, rfl, HV, rfl⟩
              · have HV : BIs false (x.op = 15 ∧ (q : Int) = m ∧ 0 < u) := by simp only [BIs, h3, false_and, and_false, Bool.false_eq_true]
                clear h1 h2
                go_wp2_with fail
                go_meet
                case rel => exact ⟨false, rfl, HV, rfl⟩
            · have HV : BIs false (x.op = 15 ∧ (q : Int) = m ∧ 0 < u) := by simp only [BIs, h2, false_and, and_false, Bool.false_eq_true]
              have e2 : ((q : Int) == (m : Int)) = false := by rw [beq_eq_false_iff_ne]; exact h2
              clear h1 h2
              go_wp2_with fail
              go_meet
              case rel => exact ⟨false, rfl, HV, rfl⟩
          · have HV : BIs false (x.op = 15 ∧ (q : Int) = m ∧ 0 < u) := by simp [BIs, h1]
            have e1 : (x.op == 15) = false := by simpa using h1
            clear h1
            go_wp2_with fail
            go_meet
            case rel => exact ⟨false, rfl, HV, rfl⟩
        case rest =>
        obtain ⟨B21, rfl, HB21, hW⟩ := hcut
        obtain rfl : Wn = wc := hW.symm
        rcases B21 with _ | _
        rotate_left
        · have hno : ¬ mayP l words := fun h => by
            have h1 := h.2.2.2 q x HX.out
            rw [HNL.out, HLE.out] at h1
            have h2 := HB21.1 rfl
            obtain ⟨i1, i2, i3, i4, i5, i6, i7⟩ := h1
            exact i7 ⟨h2.1, by have := h2.2.1; omega, by rw [HU.out]; exact h2.2.2⟩
          have HNO := Lib.hid hno
          clear hno
          go_wp2_with fail
          refine bodyPost_ret (v := .bool false) (by simp [results, Tryd.results13, go_sem]) rfl ?_
          exact ⟨false, O, rfl, by simp [HNO.out], stn⟩
        go_wp2_with fail
        have hins : insP n words lc u q x := by
          have n16 : ¬ (x.op < 1 ∨ 16 ≤ x.op) := fun h => by have := HB16.2 h; cases this
          have n17 : ¬ (x.op ≠ 1 ∧ x.w ≠ 0) := fun h => by have := HB17.2 h; cases this
          have n18 : ¬ (x.a < lowA (kindA x.op) ∨ highA n words lc (kindA x.op) < x.a) := fun h => by have := HB18.2 h; cases this
          have n20 : ¬ (x.op = 12 ∧ 0 < (q : Int)) := fun h => by have := HB20.2 h; cases this
          have n21 : ¬ (x.op = 15 ∧ (q : Int) = m ∧ 0 < u) := fun h => by have := HB21.2 h; cases this
          refine ⟨by omega, by omega, ?_, by omega, by omega, n20, fun h => n21 ⟨h.1, by have := h.2.1; omega, h.2.2⟩⟩
          by_cases h1 : x.op = 1
          · exact .inl h1
          · exact .inr (by by_cases h2 : x.w = 0; exact h2; exact absurd ⟨h1, h2⟩ n17)
        have hall : ∀ (j : Nat) (y : In), j < q + 1 → l[j]? = some y → insP n words lc ((labs l)[j]?.getD 0) j y := fun j y hj hy => by
          rcases Nat.lt_or_ge j q with h | h
          · exact HALL.out j y h hy
          · obtain rfl : j = q := by omega
            rw [HX.out] at hy
            obtain rfl := Option.some.inj hy
            rw [HU.out]
            exact hins
        have HA2 := Lib.hid hall
        obtain ⟨hb, hl, hr, hml, hmh⟩ := HL.out
        clear hins hall HB16 HB17 HB18 HB20 HB21 lk1 lk2 y0 y1 y2 cb cu
        go_roundg (n + 1 - (q + 1))
        case measure => rw [HGM.out]; omega
        case rel => exact ⟨q + 1, O, Lib.hid rfl, hqn, by go_num, hb, hl, hr, hml, hmh, HA2, stn⟩
end Go.Proofs.YtglchagfclafgaaDoor
