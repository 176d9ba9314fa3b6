/- The document's May. -/
import Derived.Test.YtglchagfclafgaaDoorRefM
import Derived.Test.YtglchagfclafgaaDoorInsG
namespace Go.Proofs.YtglchagfclafgaaDoor
open Go Go.RowKit
set_option linter.unusedSimpArgs false
set_option linter.unusedVariables false

section
variable {n words lc lab q : Int} {a w : Int} {op : Int}
theorem insP2 : insP n words lc lab q ⟨2, a, w⟩ ↔ w = 0 ∧ 1 ≤ a ∧ a ≤ words := by
  simp [insP, kindA, lowA, highA]
  omega
theorem insP12 : insP n words lc lab q ⟨12, a, w⟩ ↔ w = 0 ∧ 1 ≤ a ∧ a ≤ 16 ∧ q ≤ 0 := by
  simp [insP, kindA, lowA, highA]
  omega
theorem insP13 (h : op = 13 ∨ op = 14) (hl : 0 ≤ lc ∧ lc ≤ 16) : insP n words lc lab q ⟨op, a, w⟩ ↔ w = 0 ∧ 0 ≤ a ∧ a < lc := by
  have e : wrap64 (lc - 1) = lc - 1 := by unfold wrap64; omega
  rcases h with rfl | rfl <;> simp [insP, kindA, lowA, highA, e] <;> omega
theorem insP15 : insP n words lc lab q ⟨15, a, w⟩ ↔ w = 0 ∧ a = 0 ∧ ¬ (q = n - 1 ∧ 0 < lab) := by
  simp [insP, kindA, lowA, highA]
  omega
theorem insPg (h : goesA op) : insP n words lc lab q ⟨op, a, w⟩ ↔ w = 0 ∧ 0 ≤ a ∧ a < n := by
  rcases h with rfl | rfl | rfl | rfl | rfl | rfl | rfl <;> simp [insP, kindA, lowA, highA] <;> omega
theorem insPo (h1 : 1 ≤ op) (h2 : op < 16) (h : ¬ goesA op) (n2 : op ≠ 2) (n12 : op ≠ 12) (n13 : op ≠ 13) (n14 : op ≠ 14) (n15 : op ≠ 15) : insP n words lc lab q ⟨op, a, w⟩ ↔ (op = 1 ∨ w = 0) ∧ a = 0 := by
  have e : kindA op = 0 := by unfold kindA; rw [if_neg h, if_neg n2, if_neg n12, if_neg (by omega)]
  unfold insP
  dsimp only
  rw [e]
  simp [lowA, highA]
  omega
end

/-- What the document's May tells. -/
def RMayR (l : List In) (words : Int) (w : World) (o : Owner) (e : Ending) (w' : World) : Prop :=
  ∃ b o', e = .returned (.bool b) ∧ (b = true ↔ mayP l words) ∧ Step [90, 98, 99] w o w' o'

theorem mayP_fail {l : List In} {words : Int} {i n : Nat} {x : In} {u : Int} {lc : Int} (hn : l.length = n) (hlc : locA l = lc) (hx : l[i]? = some x) (hu : (labs l)[i]? = some u) (h : ¬ insP n words lc u i x) : ¬ mayP l words := fun hm => by
  have h1 := hm.2.2.2 i x hx
  rw [hn, hlc, hu] at h1
  exact h h1

theorem all_next {l : List In} {n words lc u : Int} {i : Nat} {x : In} (h : ∀ (j : Nat) (y : In), j < i → l[j]? = some y → insP n words lc ((labs l)[j]?.getD 0) j y) (hx : l[i]? = some x) (hu : (labs l)[i]? = some u) (hi : insP n words lc u i x) :
    ∀ (j : Nat) (y : In), j < i + 1 → l[j]? = some y → insP n words lc ((labs l)[j]?.getD 0) j y := fun j y hj hy => by
  rcases Nat.lt_or_ge j i with h1 | h1
  · exact h j y h1 hy
  · obtain rfl : j = i := by omega
    rw [hx] at hy
    obtain rfl := Option.some.inj hy
    rw [hu]
    exact hi
theorem loc0 {l : List In} {op xa xw : Int} (h : l[0]? = some ⟨op, xa, xw⟩) : locA l = if op = 12 then xa else 0 := by
  cases l with
  | nil => simp at h
  | cons a r => simp at h; subst h; rfl

set_option maxRecDepth 100000 in
set_option maxHeartbeats 16000000 in
theorem rmay_ok {w : World} {o : Owner} {k : Nat} {v : Value} {l : List In} (hl : Rd w o k 3 v l.length (icells l)) (hok : ∀ x ∈ l, x.ok) (hn : l.length ≤ 1000) (hk : k ≠ 77 ∧ k ≠ 78 ∧ k ≠ 90 ∧ k ≠ 98 ∧ k ≠ 99) {words : Int} (hw : I64 words) :
    Calls Tryd.prog 14 #[.agg #[v], .int .i64 words] w (RMayR l words w o) := by
  have s1 : Step [] w o (w.alloc (.cells #[v] 24)) (o.set w.heap.size 77) := ((Step.refl _ _ _).alloc _).give (Nat.le_refl _) _
  have hb := Blk.new w o 77 24 #[v]
  replace hl := hl.frame s1 (by simp)
  generalize o.set w.heap.size 77 = o1 at s1 hb hl
  obtain ⟨ao, cap, rfl, g1, g2, -, -⟩ := id hl
  have c0 := hb.cell0
  unfold maxLen at g2
  have hloops := rloops_ok hl hok hn hk
  obtain ⟨n, hnl⟩ : ∃ n, l.length = n := ⟨_, rfl⟩
  rw [hnl] at hl hn g1 hb c0 s1 hloops
  have HOK := Lib.hid hok
  have HW := Lib.hid hw
  have HNL := Lib.hid hnl
  rw [hnl]
  clear hok hw hnl
  go_enter Tryd.func14, Tryd.ntmps14
  go_wp2_with fail
  refine hloops.mono ?_
  rintro e w2 (⟨hgood, v2, o2, rfl, hrow2, s2⟩ | ⟨hgood, o2, rfl, s2⟩)
  rotate_left
  · have hnm : ¬ mayP l words := fun h => hgood h.1
    have HB := Lib.hid hnm
    clear hloops hnm hgood
    by_cases h500 : 500 < (n : Int)
    · go_wp2_with fail
      refine bodyPost_ret (v := .bool false) (by simp [results, Tryd.results14, go_sem]) rfl ?_
      exact ⟨false, o2, rfl, by simp [HB.out], s1.nil.trans s2⟩
    · go_wp2_with fail
      refine bodyPost_ret (v := .bool false) (by simp [results, Tryd.results14, go_sem]) rfl ?_
      exact ⟨false, o2, rfl, by simp [HB.out], s1.nil.trans s2⟩
  have hpos : 0 < n := by
    rcases l with _ | ⟨a, b⟩
    · exact absurd hgood notGood_nil
    · have := HNL.out; simp at this; omega
  rw [HNL.out] at hrow2
  obtain ⟨gL, cL, rfl, hrx⟩ := hrow2.rowx hpos
  clear hrow2
  have hrow2 := hrx
  clear hrx
  replace hb := hb.frame s2 (by simp)
  replace hl := hl.frame s2 (by simpa using hk.2.2)
  have st2 := s1.nil.trans s2
  have HG := Lib.hid hgood
  have c1 := hb.cell0
  clear hloops hgood s1 s2 c0
  by_cases h500 : 500 < (n : Int)
  · have hnm : ¬ mayP l words := fun h => by have := h.2.1; have := HNL.out; omega
    have HB := Lib.hid hnm
    clear hnm
    go_wp2_with fail
    refine bodyPost_ret (v := .bool false) (by simp [results, Tryd.results14, go_sem]) rfl ?_
    exact ⟨false, o2, rfl, by simp [HB.out], st2⟩
  obtain ⟨b, off, rfl, hbl, hbo, hcell⟩ := hl.ins hpos
  obtain ⟨m, hm⟩ : ∃ m, n = m + 1 := ⟨n - 1, by omega⟩
  obtain ⟨xl, hxl⟩ : ∃ x, l[m]? = some x := ⟨_, List.getElem?_eq_getElem (by have := HNL.out; omega)⟩
  have wm : IntKind.i64.wrap ((n : Int) - 1) = (m : Int) := by simp [IntKind.wrap, IntKind.signed, IntKind.bits]; omega
  have wm2 : (n : Int) - 1 = (m : Int) := by omega
  obtain ⟨l0, l1, l2⟩ := hcell m xl hxl
  have HXL := Lib.hid hxl
  have HM := Lib.hid hm
  have hmn : (m : Int) < n := by omega
  clear hxl hm
  by_cases hlast : xl.op = 15 ∨ xl.op = 3
  rotate_left
  · have hnm : ¬ mayP l words := fun h => by
      obtain ⟨x, hx, hx2⟩ := h.2.2.1
      rw [HNL.out, HM.out, Nat.add_sub_cancel, HXL.out] at hx
      obtain rfl := Option.some.inj hx
      exact hlast hx2
    have HB := Lib.hid hnm
    have b1 : (xl.op == 15) = false := by rw [beq_eq_false_iff_ne]; exact fun e => hlast (.inl e)
    have b2 : (xl.op == 3) = false := by rw [beq_eq_false_iff_ne]; exact fun e => hlast (.inr e)
    have b3 : (xl.op != 15) = true := by rw [bne_iff_ne]; exact fun e => hlast (.inl e)
    have b4 : (xl.op != 3) = true := by rw [bne_iff_ne]; exact fun e => hlast (.inr e)
    clear hnm hlast
    go_wp2_with fail
    refine bodyPost_ret (v := .bool false) (by simp [results, Tryd.results14, go_sem]) rfl ?_
    exact ⟨false, o2, rfl, by simp [HB.out], st2⟩
  go_upto_region 6 with (fail)
  go_cut [38] from 33 to 38 (fun c wx => c = .bool false ∧ wx = w2)
  case first =>
    by_cases h15 : xl.op = 15
    · have b1 : (xl.op == 15) = true := by simpa using h15
      have b3 : (xl.op != 15) = false := by simpa using h15
      clear hlast h15
      go_wp2_with fail
      go_meet
      case rel => exact ⟨rfl, rfl⟩
    · have h3 := hlast.resolve_left h15
      have b1 : (xl.op == 15) = false := by simpa using h15
      have b3 : (xl.op != 15) = true := by simpa using h15
      have b2 : (xl.op == 3) = true := by simpa using h3
      have b4 : (xl.op != 3) = false := by simpa using h3
      clear hlast h15 h3
      go_wp2_with fail
      go_meet
      case rel => exact ⟨rfl, rfl⟩
  case rest =>
    obtain ⟨rfl, rfl⟩ := hcut
    have HLAST := Lib.hid hlast
    obtain ⟨lc, hlc⟩ : ∃ lc, locA l = lc := ⟨_, rfl⟩
    have HLE := Lib.hid hlc
    clear hlc hlast l0 l1 l2 hcell hbl hbo c1
    obtain ⟨zb, hzb⟩ : ∃ zb, w.heap.size = zb := ⟨_, rfl⟩
    rw [hzb] at hb ⊢
    clear hzb
    go_wp2_with fail
    go_loopg [9, 10] (n + 1) (fun gm a9 a10 wr => ∃ (i : Nat) (lv : Int) (O : Owner), Hid (gm = n + 1 - i) ∧ i ≤ n ∧ a10 = .int .i64 (i : Int) ∧ a9 = .int .i64 lv ∧ Hid ((i = 0 → lv = 0) ∧ (0 < i → lv = lc ∧ 0 ≤ lc ∧ lc ≤ 16)) ∧ Blk wr O 77 zb 24 #[.slice (some ⟨b, off, none⟩) n cap] ∧ Rd wr O k 3 (.slice (some ⟨b, off, none⟩) n cap) n (icells l) ∧ Rowx wr O 90 3 1 gL n cL (ints (labs l)) ∧ Hid (∀ (j : Nat) (x : In), j < i → l[j]? = some x → insP n words lc ((labs l)[j]?.getD 0) j x) ∧ Step [90, 98, 99] w o wr O)
    case atStart => exact ⟨0, 0, o2, Lib.hid (by omega), by omega, rfl, rfl, Lib.hid ⟨fun _ => rfl, fun h => by omega⟩, hb, hl, hrow2, Lib.hid (fun j x hj => by omega), st2⟩
    case round =>
      clear hb hl hrow2 st2
      obtain ⟨i, lv, O, HGM, hi, rfl, rfl, HLV, hb, hl, hr, HALL, st⟩ := hrel
      have cb := hb.cell0
      rcases Nat.lt_or_ge i n with hin | hin
      rotate_left
      · obtain rfl : i = n := by omega
        have hmay : mayP l words := by
          refine ⟨HG.out, by have := HNL.out; omega, ⟨xl, ?_, HLAST.out⟩, fun j x hx => ?_⟩
          · rw [HNL.out, HM.out, Nat.add_sub_cancel]; exact HXL.out
          · rw [HNL.out, HLE.out]
            exact HALL.out j x (by have := (List.getElem?_eq_some_iff.1 hx).1; have := HNL.out; omega) hx
        have HMAY := Lib.hid hmay
        clear hmay
        go_wp2_with fail
        refine bodyPost_ret (v := .bool true) (by simp [results, Tryd.results14, go_sem]) rfl ?_
        exact ⟨true, O, rfl, by simp [HMAY.out], st⟩
      obtain ⟨x, hx⟩ : ∃ x, l[i]? = some x := ⟨_, List.getElem?_eq_getElem (by have := HNL.out; omega)⟩
      have hxo := HOK.out x (List.mem_of_getElem? hx)
      obtain ⟨hbl, hbo, hcell⟩ := hl.at0 hpos
      obtain ⟨k0, k1, k2⟩ := hcell i x hx
      obtain ⟨u, hu⟩ : ∃ u, (labs l)[i]? = some u := ⟨_, List.getElem?_eq_getElem (by rw [labs_len]; have := HNL.out; omega)⟩
      have HX := Lib.hid hx
      have HU := Lib.hid hu
      have hii : (i : Int) < n := by omega
      clear hcell hx hu
      rcases x with ⟨op, xa, xw⟩
      dsimp only at k0 k1 k2
      have tn : Step [] wr O (wr.alloc (.cells #[.int .u8 op, .int .i64 xa, .int .i64 xw] 36)) (O.set wr.heap.size 78) := ((Step.refl _ _ _).alloc _).give (Nat.le_refl _) _
      have hbx := Blk.new wr O 78 36 #[.int .u8 op, .int .i64 xa, .int .i64 xw]
      go_upto_region 13 with (fail)
      replace hb := hb.frame tn (by simp)
      replace hl := hl.frame tn (by simp)
      replace hr := hr.frame tn (by simp)
      have stn := st.trans tn.nil
      clear cb k0 k1 k2 hbl hbo st tn
      generalize wr.alloc (.cells #[.int .u8 op, .int .i64 xa, .int .i64 xw] 36) = Wn at *
      generalize O.set wr.heap.size 78 = O at *
      generalize wr.heap.size = zx at *
      have y0 := hbx.cell 0
      have y1 := hbx.cell 1
      have y2 := hbx.cell 2
      simp only [List.getElem?_toArray, List.getElem?_cons_succ, List.getElem?_cons_zero] at y0 y1 y2
      have cu : Wn.cell? ⟨gL, i, none⟩ = some (.int .i64 u) := hr.cell (by simp [HU.out])
      -- GEN
      go_cut [66] from 49 to 66 (fun c wx => ∃ bb, c = .bool bb ∧ BIs bb (op < 1 ∨ 16 ≤ op ∨ (xw ≠ 0 ∧ op ≠ 1)) ∧ wx = Wn)
      case first =>
        by_cases h1 : op < 1
        · have HV : BIs true (op < 1 ∨ 16 ≤ op ∨ (xw ≠ 0 ∧ op ≠ 1)) := by simp [BIs, h1]
          go_wp2_with fail
          go_meet
          case rel => exact ⟨true, rfl, HV, rfl⟩
        by_cases h2 : 16 ≤ op
        · have HV : BIs true (op < 1 ∨ 16 ≤ op ∨ (xw ≠ 0 ∧ op ≠ 1)) := by simp [BIs, h2]
          go_wp2_with fail
          go_meet
          case rel => exact ⟨true, rfl, HV, rfl⟩
        by_cases h3 : xw = 0
        · have HV : BIs false (op < 1 ∨ 16 ≤ op ∨ (xw ≠ 0 ∧ op ≠ 1)) := by simp only [BIs, h1, h2, h3, ne_eq, not_true_eq_false, false_and, or_self, Bool.false_eq_true]
          have e3 : (xw == 0) = true := by simpa using h3
          have e4 : (xw != 0) = false := by simpa using h3
          clear h3
          go_wp2_with fail
          go_meet
          case rel => exact ⟨false, rfl, HV, rfl⟩
        have e3 : (xw == 0) = false := by simpa using h3
        have e4 : (xw != 0) = true := by simpa using h3
        by_cases h4 : op = 1
        · have HV : BIs false (op < 1 ∨ 16 ≤ op ∨ (xw ≠ 0 ∧ op ≠ 1)) := by simp only [BIs, h1, h2, h4, ne_eq, not_true_eq_false, and_false, or_self, Bool.false_eq_true]; simp
          have e5 : (op == 1) = true := by simpa using h4
          have e6 : (op != 1) = false := by simpa using h4
          clear h3 h4
          go_wp2_with fail
          go_meet
          case rel => exact ⟨false, rfl, HV, rfl⟩
        · have HV : BIs true (op < 1 ∨ 16 ≤ op ∨ (xw ≠ 0 ∧ op ≠ 1)) := ⟨fun _ => .inr (.inr ⟨h3, h4⟩), fun _ => rfl⟩
          have e5 : (op == 1) = false := by simpa using h4
          have e6 : (op != 1) = true := by simpa using h4
          clear h3 h4
          go_wp2_with fail
          go_meet
          case rel => exact ⟨true, rfl, HV, rfl⟩
      case rest =>
        obtain ⟨bb, rfl, HB, hW⟩ := hcut
        obtain rfl : Wn = wc := hW.symm
        cases bb
        rotate_left
        · have hno : ¬ mayP l words := mayP_fail HNL.out HLE.out HX.out HU.out (fun h => by
            obtain ⟨i1, i2, i3, i4, i5, i6, i7⟩ := h
            dsimp only at i1 i2 i3
            rcases HB.1 rfl with h | h | ⟨h, h'⟩
            · omega
            · omega
            · exact i3.elim h' h)
          have HNO := Lib.hid hno
          clear hno
          go_wp2_with fail
          refine bodyPost_ret (v := .bool false) (by simp [results, Tryd.results14, go_sem]) rfl ?_
          exact ⟨false, O, rfl, by simp [HNO.out], stn⟩
        have hnb : ¬ (op < 1 ∨ 16 ≤ op ∨ (xw ≠ 0 ∧ op ≠ 1)) := fun h => by have := HB.2 h; cases this
        have op1 : 1 ≤ op := by have : ¬ op < 1 := fun h => hnb (.inl h); omega
        have op16 : op < 16 := by have : ¬ 16 ≤ op := fun h => hnb (.inr (.inl h)); omega
        have w0 : op = 1 ∨ xw = 0 := by
          by_cases h1 : op = 1
          · exact .inl h1
          · by_cases h2 : xw = 0
            · exact .inr h2
            · exact absurd (.inr (.inr ⟨h2, h1⟩)) hnb
        have hl0 : op ≠ 12 → lv = lc ∧ 0 ≤ lc ∧ lc ≤ 16 := fun hne => by
          obtain ⟨v1, v2⟩ := HLV.out
          rcases Nat.eq_zero_or_pos i with h0 | h0
          · have hx0 := HX.out
            rw [h0] at hx0
            have h1 := loc0 hx0
            rw [if_neg hne, HLE.out] at h1
            have h2 := v1 h0
            omega
          · exact v2 h0
        have hl12 : op = 12 → i = 0 → lc = xa := fun he h0 => by
          have hx0 := HX.out
          rw [h0] at hx0
          have h1 := loc0 hx0
          rw [if_pos he, HLE.out] at h1
          exact h1
        have HL0 := Lib.hid hl0
        have HL12 := Lib.hid hl12
        have W0 := Lib.hid w0
        clear HB hnb hl0 hl12 w0 HLV
        by_cases h2 : op = 2
        · subst h2
          have w0 : xw = 0 := W0.out.resolve_left (by decide)
          have W1 := Lib.hid w0
          clear w0
          by_cases c1 : xa < 1
          · skip
            have hno : ¬ mayP l words := mayP_fail HNL.out HLE.out HX.out HU.out (fun h => by have h2 := (insP2).1 h; omega)
            have HNO := Lib.hid hno
            clear hno
            go_wp2_with fail
            refine bodyPost_ret (v := .bool false) (by simp [results, Tryd.results14, go_sem]) rfl ?_
            exact ⟨false, O, rfl, by simp [HNO.out], stn⟩
          by_cases c2 : words < xa
          · skip
            have hno : ¬ mayP l words := mayP_fail HNL.out HLE.out HX.out HU.out (fun h => by have h2 := (insP2).1 h; omega)
            have HNO := Lib.hid hno
            clear hno
            go_wp2_with fail
            refine bodyPost_ret (v := .bool false) (by simp [results, Tryd.results14, go_sem]) rfl ?_
            exact ⟨false, O, rfl, by simp [HNO.out], stn⟩
          have hins : insP n words lc u i ⟨2, xa, xw⟩ := (insP2).2 ⟨W1.out, by omega, by omega⟩
          have HA2 := Lib.hid (all_next HALL.out HX.out HU.out hins)
          have HLV2 : Hid ((i + 1 = 0 → lv = 0) ∧ (0 < i + 1 → lv = lc ∧ 0 ≤ lc ∧ lc ≤ 16)) := Lib.hid ⟨fun h => by omega, fun _ => HL0.out (by decide)⟩
          clear hins HALL
          go_wp2_with fail
          go_roundg (n + 1 - (i + 1))
          case measure => rw [HGM.out]; omega
          case rel => exact ⟨i + 1, lv, O, Lib.hid rfl, hin, by go_num, rfl, HLV2, hb, hl, hr, HA2, stn⟩
        by_cases h12 : op = 12
        · subst h12
          have w0 : xw = 0 := W0.out.resolve_left (by decide)
          have W1 := Lib.hid w0
          clear w0 h2
          by_cases c1 : xa < 1
          · skip
            have hno : ¬ mayP l words := mayP_fail HNL.out HLE.out HX.out HU.out (fun h => by have h2 := (insP12).1 h; omega)
            have HNO := Lib.hid hno
            clear hno
            go_wp2_with fail
            refine bodyPost_ret (v := .bool false) (by simp [results, Tryd.results14, go_sem]) rfl ?_
            exact ⟨false, O, rfl, by simp [HNO.out], stn⟩
          by_cases c2 : 16 < xa
          · skip
            have hno : ¬ mayP l words := mayP_fail HNL.out HLE.out HX.out HU.out (fun h => by have h2 := (insP12).1 h; omega)
            have HNO := Lib.hid hno
            clear hno
            go_wp2_with fail
            refine bodyPost_ret (v := .bool false) (by simp [results, Tryd.results14, go_sem]) rfl ?_
            exact ⟨false, O, rfl, by simp [HNO.out], stn⟩
          by_cases c3 : 0 < i
          · have c4 : 0 < (i : Int) := by omega
            have hno : ¬ mayP l words := mayP_fail HNL.out HLE.out HX.out HU.out (fun h => by have h2 := (insP12).1 h; omega)
            have HNO := Lib.hid hno
            clear hno
            go_wp2_with fail
            refine bodyPost_ret (v := .bool false) (by simp [results, Tryd.results14, go_sem]) rfl ?_
            exact ⟨false, O, rfl, by simp [HNO.out], stn⟩
          have hi0 : i = 0 := by omega
          have hlx := HL12.out rfl hi0
          have HLX := Lib.hid hlx
          have c4 : ¬ 0 < (i : Int) := by omega
          clear hlx hi0
          have hins : insP n words lc u i ⟨12, xa, xw⟩ := (insP12).2 ⟨W1.out, by omega, by omega, by omega⟩
          have HA2 := Lib.hid (all_next HALL.out HX.out HU.out hins)
          have HLV2 : Hid ((i + 1 = 0 → xa = 0) ∧ (0 < i + 1 → xa = lc ∧ 0 ≤ lc ∧ lc ≤ 16)) := Lib.hid ⟨fun h => by omega, fun _ => by have := HLX.out; omega⟩
          clear hins HALL
          go_wp2_with fail
          go_roundg (n + 1 - (i + 1))
          case measure => rw [HGM.out]; omega
          case rel => exact ⟨i + 1, xa, O, Lib.hid rfl, hin, by go_num, rfl, HLV2, hb, hl, hr, HA2, stn⟩
        by_cases h13 : op = 13
        · subst h13
          have w0 : xw = 0 := W0.out.resolve_left (by decide)
          have W1 := Lib.hid w0
          obtain ⟨hlv, hlc1, hlc2⟩ := HL0.out (by decide)
          have HLV := Lib.hid hlv
          have lem := insP13 (n := n) (words := words) (lc := lc) (lab := u) (q := i) (a := xa) (w := xw) (op := 13) (by decide) ⟨hlc1, hlc2⟩
          have LEM := Lib.hid lem
          clear w0 h2 h12 hlv lem
          by_cases c1 : xa < 0
          · skip
            have hno : ¬ mayP l words := mayP_fail HNL.out HLE.out HX.out HU.out (fun h => by have h2 := (LEM.out).1 h; omega)
            have HNO := Lib.hid hno
            clear hno
            go_wp2_with fail
            refine bodyPost_ret (v := .bool false) (by simp [results, Tryd.results14, go_sem]) rfl ?_
            exact ⟨false, O, rfl, by simp [HNO.out], stn⟩
          by_cases c2 : lv ≤ xa
          · have c3 := HLV.out
            have C3 := Lib.hid c3
            clear c3
            have hno : ¬ mayP l words := mayP_fail HNL.out HLE.out HX.out HU.out (fun h => by have h2 := (LEM.out).1 h; have := C3.out; omega)
            have HNO := Lib.hid hno
            clear hno
            go_wp2_with fail
            refine bodyPost_ret (v := .bool false) (by simp [results, Tryd.results14, go_sem]) rfl ?_
            exact ⟨false, O, rfl, by simp [HNO.out], stn⟩
          have hins : insP n words lc u i ⟨13, xa, xw⟩ := (LEM.out).2 ⟨W1.out, by omega, by have := HLV.out; omega⟩
          have HA2 := Lib.hid (all_next HALL.out HX.out HU.out hins)
          have HLV2 : Hid ((i + 1 = 0 → lv = 0) ∧ (0 < i + 1 → lv = lc ∧ 0 ≤ lc ∧ lc ≤ 16)) := Lib.hid ⟨fun h => by omega, fun _ => ⟨HLV.out, hlc1, hlc2⟩⟩
          clear hins HALL
          go_wp2_with fail
          go_roundg (n + 1 - (i + 1))
          case measure => rw [HGM.out]; omega
          case rel => exact ⟨i + 1, lv, O, Lib.hid rfl, hin, by go_num, rfl, HLV2, hb, hl, hr, HA2, stn⟩
        by_cases h14 : op = 14
        · subst h14
          have w0 : xw = 0 := W0.out.resolve_left (by decide)
          have W1 := Lib.hid w0
          obtain ⟨hlv, hlc1, hlc2⟩ := HL0.out (by decide)
          have HLV := Lib.hid hlv
          have lem := insP13 (n := n) (words := words) (lc := lc) (lab := u) (q := i) (a := xa) (w := xw) (op := 14) (by decide) ⟨hlc1, hlc2⟩
          have LEM := Lib.hid lem
          clear w0 h2 h12 hlv lem h13
          by_cases c1 : xa < 0
          · skip
            have hno : ¬ mayP l words := mayP_fail HNL.out HLE.out HX.out HU.out (fun h => by have h2 := (LEM.out).1 h; omega)
            have HNO := Lib.hid hno
            clear hno
            go_wp2_with fail
            refine bodyPost_ret (v := .bool false) (by simp [results, Tryd.results14, go_sem]) rfl ?_
            exact ⟨false, O, rfl, by simp [HNO.out], stn⟩
          by_cases c2 : lv ≤ xa
          · have c3 := HLV.out
            have C3 := Lib.hid c3
            clear c3
            have hno : ¬ mayP l words := mayP_fail HNL.out HLE.out HX.out HU.out (fun h => by have h2 := (LEM.out).1 h; have := C3.out; omega)
            have HNO := Lib.hid hno
            clear hno
            go_wp2_with fail
            refine bodyPost_ret (v := .bool false) (by simp [results, Tryd.results14, go_sem]) rfl ?_
            exact ⟨false, O, rfl, by simp [HNO.out], stn⟩
          have hins : insP n words lc u i ⟨14, xa, xw⟩ := (LEM.out).2 ⟨W1.out, by omega, by have := HLV.out; omega⟩
          have HA2 := Lib.hid (all_next HALL.out HX.out HU.out hins)
          have HLV2 : Hid ((i + 1 = 0 → lv = 0) ∧ (0 < i + 1 → lv = lc ∧ 0 ≤ lc ∧ lc ≤ 16)) := Lib.hid ⟨fun h => by omega, fun _ => ⟨HLV.out, hlc1, hlc2⟩⟩
          clear hins HALL
          go_wp2_with fail
          go_roundg (n + 1 - (i + 1))
          case measure => rw [HGM.out]; omega
          case rel => exact ⟨i + 1, lv, O, Lib.hid rfl, hin, by go_num, rfl, HLV2, hb, hl, hr, HA2, stn⟩
        by_cases h15 : op = 15
        · subst h15
          have w0 : xw = 0 := W0.out.resolve_left (by decide)
          have W1 := Lib.hid w0
          clear w0 h2 h12 h13 h14
          by_cases c1 : xa = 0
          rotate_left
          · have e1 : (xa == 0) = false := by simpa using c1
            have e2 : (xa != 0) = true := by simpa using c1
            have hno : ¬ mayP l words := mayP_fail HNL.out HLE.out HX.out HU.out (fun h => by have h2 := (insP15).1 h; omega)
            have HNO := Lib.hid hno
            clear hno
            go_wp2_with fail
            refine bodyPost_ret (v := .bool false) (by simp [results, Tryd.results14, go_sem]) rfl ?_
            exact ⟨false, O, rfl, by simp [HNO.out], stn⟩
          have e1 : (xa == 0) = true := by simpa using c1
          have e2 : (xa != 0) = false := by simpa using c1
          have C1 := Lib.hid c1
          clear c1
          by_cases c2 : i = m
          · have e3 : ((i : Int) == (m : Int)) = true := by rw [c2]; simp
            have e4 : i = m := c2
            have C2 := Lib.hid c2
            clear c2 e4
            by_cases c3 : 0 < u
            · skip
              have hno : ¬ mayP l words := mayP_fail HNL.out HLE.out HX.out HU.out (fun h => by have h2 := (insP15).1 h; exact h2.2.2 ⟨by have := C2.out; omega, c3⟩)
              have HNO := Lib.hid hno
              clear hno
              go_wp2_with fail
              refine bodyPost_ret (v := .bool false) (by simp [results, Tryd.results14, go_sem]) rfl ?_
              exact ⟨false, O, rfl, by simp [HNO.out], stn⟩
            have hins : insP n words lc u i ⟨15, xa, xw⟩ := (insP15).2 ⟨W1.out, C1.out, fun h => by have := h.2; omega⟩
            have HA2 := Lib.hid (all_next HALL.out HX.out HU.out hins)
            have HLV2 : Hid ((i + 1 = 0 → lv = 0) ∧ (0 < i + 1 → lv = lc ∧ 0 ≤ lc ∧ lc ≤ 16)) := Lib.hid ⟨fun h => by omega, fun _ => HL0.out (by decide)⟩
            clear hins HALL
            go_wp2_with fail
            go_roundg (n + 1 - (i + 1))
            case measure => rw [HGM.out]; omega
            case rel => exact ⟨i + 1, lv, O, Lib.hid rfl, hin, by go_num, rfl, HLV2, hb, hl, hr, HA2, stn⟩
          have e3 : ((i : Int) == (m : Int)) = false := by rw [beq_eq_false_iff_ne]; omega
          have C2 := Lib.hid c2
          clear c2
          have hins : insP n words lc u i ⟨15, xa, xw⟩ := (insP15).2 ⟨W1.out, C1.out, fun h => by have := h.1; have := C2.out; omega⟩
          have HA2 := Lib.hid (all_next HALL.out HX.out HU.out hins)
          have HLV2 : Hid ((i + 1 = 0 → lv = 0) ∧ (0 < i + 1 → lv = lc ∧ 0 ≤ lc ∧ lc ≤ 16)) := Lib.hid ⟨fun h => by omega, fun _ => HL0.out (by decide)⟩
          clear hins HALL
          go_wp2_with fail
          go_roundg (n + 1 - (i + 1))
          case measure => rw [HGM.out]; omega
          case rel => exact ⟨i + 1, lv, O, Lib.hid rfl, hin, by go_num, rfl, HLV2, hb, hl, hr, HA2, stn⟩
        have b2 : (op == 2) = false := by simpa using h2
        have b12 : (op == 12) = false := by simpa using h12
        have b13 : (op == 13) = false := by simpa using h13
        have b14 : (op == 14) = false := by simpa using h14
        have b15 : (op == 15) = false := by simpa using h15
        have hgo := goes_ok Wn op
        by_cases hg : goesA op
        · have w0 : xw = 0 := W0.out.resolve_left (fun h => by rcases hg with h' | h' | h' | h' | h' | h' | h' <;> omega)
          have W1 := Lib.hid w0
          have lem := insPg (n := n) (words := words) (lc := lc) (lab := u) (q := i) (a := xa) (w := xw) hg
          have LEM := Lib.hid lem
          have hgb : goesB op = true := by simpa [goesB] using hg
          have hl0 := HL0.out h12
          have HL1 := Lib.hid hl0
          rw [hgb] at hgo
          clear w0 lem hg hgb h2 h12 h13 h14 h15 hl0
          by_cases c1 : xa < 0
          · skip
            have hno : ¬ mayP l words := mayP_fail HNL.out HLE.out HX.out HU.out (fun h => by have h2 := (LEM.out).1 h; omega)
            have HNO := Lib.hid hno
            clear hno
            go_wp2_with (go_at_call 21; refine hgo.mono ?_; rintro e w8 ⟨rfl, hw8⟩; obtain rfl : Wn = w8 := hw8.symm)
            refine bodyPost_ret (v := .bool false) (by simp [results, Tryd.results14, go_sem]) rfl ?_
            exact ⟨false, O, rfl, by simp [HNO.out], stn⟩
          by_cases c2 : (n : Int) ≤ xa
          · skip
            have hno : ¬ mayP l words := mayP_fail HNL.out HLE.out HX.out HU.out (fun h => by have h2 := (LEM.out).1 h; omega)
            have HNO := Lib.hid hno
            clear hno
            go_wp2_with (go_at_call 21; refine hgo.mono ?_; rintro e w8 ⟨rfl, hw8⟩; obtain rfl : Wn = w8 := hw8.symm)
            refine bodyPost_ret (v := .bool false) (by simp [results, Tryd.results14, go_sem]) rfl ?_
            exact ⟨false, O, rfl, by simp [HNO.out], stn⟩
          have hins : insP n words lc u i ⟨op, xa, xw⟩ := (LEM.out).2 ⟨W1.out, by omega, by omega⟩
          have HA2 := Lib.hid (all_next HALL.out HX.out HU.out hins)
          have HLV2 : Hid ((i + 1 = 0 → lv = 0) ∧ (0 < i + 1 → lv = lc ∧ 0 ≤ lc ∧ lc ≤ 16)) := Lib.hid ⟨fun h => by omega, fun _ => HL1.out⟩
          clear hins HALL
          go_wp2_with (go_at_call 21; refine hgo.mono ?_; rintro e w8 ⟨rfl, hw8⟩; obtain rfl : Wn = w8 := hw8.symm)
          go_roundg (n + 1 - (i + 1))
          case measure => rw [HGM.out]; omega
          case rel => exact ⟨i + 1, lv, O, Lib.hid rfl, hin, by go_num, rfl, HLV2, hb, hl, hr, HA2, stn⟩
        have lem := insPo (n := n) (words := words) (lc := lc) (lab := u) (q := i) (a := xa) (w := xw) op1 op16 hg h2 h12 h13 h14 h15
        have LEM := Lib.hid lem
        have hgb : goesB op = false := by simpa [goesB] using hg
        have hl0 := HL0.out h12
        have HL1 := Lib.hid hl0
        rw [hgb] at hgo
        clear lem hg hgb h2 h12 h13 h14 h15 hl0
        by_cases c1 : xa = 0
        rotate_left
        · have e1 : (xa == 0) = false := by simpa using c1
          have e2 : (xa != 0) = true := by simpa using c1
          have hno : ¬ mayP l words := mayP_fail HNL.out HLE.out HX.out HU.out (fun h => by have h2 := (LEM.out).1 h; omega)
          have HNO := Lib.hid hno
          clear hno
          go_wp2_with (go_at_call 21; refine hgo.mono ?_; rintro e w8 ⟨rfl, hw8⟩; obtain rfl : Wn = w8 := hw8.symm)
          refine bodyPost_ret (v := .bool false) (by simp [results, Tryd.results14, go_sem]) rfl ?_
          exact ⟨false, O, rfl, by simp [HNO.out], stn⟩
        have e1 : (xa == 0) = true := by simpa using c1
        have e2 : (xa != 0) = false := by simpa using c1
        have C1 := Lib.hid c1
        clear c1
        have hins : insP n words lc u i ⟨op, xa, xw⟩ := (LEM.out).2 ⟨W0.out, C1.out⟩
        have HA2 := Lib.hid (all_next HALL.out HX.out HU.out hins)
        have HLV2 : Hid ((i + 1 = 0 → lv = 0) ∧ (0 < i + 1 → lv = lc ∧ 0 ≤ lc ∧ lc ≤ 16)) := Lib.hid ⟨fun h => by omega, fun _ => HL1.out⟩
        clear hins HALL
        go_wp2_with (go_at_call 21; refine hgo.mono ?_; rintro e w8 ⟨rfl, hw8⟩; obtain rfl : Wn = w8 := hw8.symm)
        go_roundg (n + 1 - (i + 1))
        case measure => rw [HGM.out]; omega
        case rel => exact ⟨i + 1, lv, O, Lib.hid rfl, hin, by go_num, rfl, HLV2, hb, hl, hr, HA2, stn⟩
end Go.Proofs.YtglchagfclafgaaDoor
