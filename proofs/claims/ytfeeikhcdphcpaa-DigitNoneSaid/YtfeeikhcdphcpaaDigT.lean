/- The text of a number: both sides. -/
import Derived.Test.YtfeeikhcdphcpaaDigC
import Derived.Test.YtfeeikhcdphcpaaDigR
namespace Go.Proofs.Ytfeeikhcdphcpaa
open Go Go.RowKit
set_option linter.unusedSimpArgs false
set_option linter.unusedVariables false

abbrev MAXU : Nat := 340282366920938463463374607431768211456

theorem stV_nat {bn N : Nat} (h2 : 2 ≤ bn) (h36 : bn ≤ 36) (hN : N < MAXU) : stV (N : Int) (bn : Int) = .tuple #[pv ((N / bn : Nat) : Int), .int .u8 ((chu (N % bn)).toNat : Nat)] := by
  have hr : rightB (bn : Int) = true := by simp [rightB]; omega
  have hu : U (N : Int) = N := by unfold U; simp only [MAXU] at hN; omega
  have hm : N % bn < bn := Nat.mod_lt _ (by omega)
  rw [stV, if_pos hr, hu, chu_chr _ (by omega)]
  simp
theorem step_nat {bn N : Nat} (h2 : 2 ≤ bn) (h36 : bn ≤ 36) (hN : N < MAXU) (w : World) : Calls Try.prog 11 #[pv (N : Int), .int .i64 bn] w fun e w' => e = .returned (.tuple #[pv ((N / bn : Nat) : Int), .int .u8 ((chu (N % bn)).toNat : Nat)]) ∧ Calm w w' := by
  have := step_ok (N : Int) (bn : Int) ⟨by omega, by omega⟩ w
  rwa [stV_nat h2 h36 hN] at this
theorem rstep_nat {bn N : Nat} (h2 : 2 ≤ bn) (h36 : bn ≤ 36) (hN : N < MAXU) (w : World) : Calls Try.prog 12 #[pv (N : Int), .int .i64 bn] w fun e w' => e = .returned (.tuple #[pv ((N / bn : Nat) : Int), .int .u8 ((chu (N % bn)).toNat : Nat)]) ∧ Calm w w' := by
  have := rstep_ok (N : Int) (bn : Int) ⟨by omega, by omega⟩ w
  rwa [stV_nat h2 h36 hN] at this

/-- The text of a pair. -/
def textB (p b : Int) : ByteArray := if rightB b then ⟨(txt b.toNat (U p).toNat).toArray⟩ else ⟨#[]⟩

theorem pv_nz {N : Nat} (hN : N < MAXU) {lo hi : Int} (e : pv (N : Int) = .agg #[.int .i64 lo, .int .i64 hi]) : (lo = 0 ∧ hi = 0) ↔ N = 0 := by
  simp only [pv, Value.agg.injEq, Array.mk.injEq, List.cons.injEq, Value.int.injEq, true_and, and_true] at e
  obtain ⟨rfl, rfl⟩ := e
  simp only [MAXU] at hN
  unfold wrap64
  omega

theorem PBlk.step {S : List Nat} {w w' : World} {o o' : Owner} {b i : Nat} {n : Int} (h : PBlk w b n) (ho : o b = i) (st : Step S w o w' o') (hi : i ∉ S) : PBlk w' b n ∧ o' b = i := by
  obtain ⟨lo, hi', e, hb⟩ := h
  exact ⟨⟨lo, hi', e, st.obj hb (by rw [ho]; exact hi)⟩, (st.own b (Array.getElem?_eq_some_iff.1 hb).1).trans ho⟩
theorem Row.pset {w : World} {o : Owner} {i n : Nat} {v : Value} {xs : List Value} (h : Row w o i 5 1 v n xs) {b : Nat} {m : Int} (hb : PBlk w b m) (x y : Value) : Row ((w.setCell ⟨b, 0, none⟩ x).setCell ⟨b, 1, none⟩ y) o i 5 1 v n xs := by
  obtain ⟨lo, hi, e, hh⟩ := hb
  have h1 := h.setOther (o2 := o) (i2 := o b) ⟨hh, rfl⟩ (by decide) 0 x
  exact h1.setOther (o2 := o) (i2 := o b) ⟨heap_setCell_same hh 0 x, rfl⟩ (by decide) 1 y

theorem run_u8_row {w : World} {o : Owner} {i n : Nat} {v : Value} {xs : List Value} (h : Row w o i 5 1 v n xs) : n ≤ 9223372036854775807 := by
  have := h.rd.le; simpa [maxLen] using this

theorem Step.calm {S : List Nat} {w w' : World} {o1 : Owner} (h : Step S w (fun _ => 0) w' o1) (hS : 0 ∉ S) : Calm w w' := fun o => ⟨h.os, h.tape, h.output, h.size, fun _ _ => rfl, fun b hb _ => h.blk b hb hS⟩
theorem fresh_set (w : World) (z : Nat) (x y : Value) (o : Owner) (u : Value) :
    Rd (((w.setCell ⟨z, 0, none⟩ x).setCell ⟨z, 1, none⟩ y).alloc (.cells #[u] 5)) o (o w.heap.size) 1 (.slice (some ⟨w.heap.size, 0, none⟩) 1 1) 1 [u] := by
  have := Rd.fresh ((w.setCell ⟨z, 0, none⟩ x).setCell ⟨z, 1, none⟩ y) o 1 5 #[u] 1 (by decide) rfl
  simpa using this

set_option maxHeartbeats 8000000 in
theorem text_ok (p b : Int) (w : World) : Calls Try.prog 15 #[pv p, .int .i64 b] w fun e w' => e = .returned (.string (textB p b)) ∧ Calm w w' := by
  obtain ⟨pl, ph, -, -, -, ep, -⟩ := pv_split p
  have hri := right_ok b
  cases hr : rightB b with
  | false =>
    rw [hr] at hri
    rw [textB, hr, if_neg Bool.false_ne_true, ep]
    clear ep
    go_enter Try.func15, Try.ntmps15
    go_wp2_with (go_at_call 28; refine (hri _).mono ?_; rintro e w1 ⟨rfl, rfl⟩)
    go_ret
    exact ⟨rfl, (Calm.refl _).alloc _⟩
  | true =>
    rw [hr] at hri
    obtain ⟨b2, b36⟩ := right_C hr
    rw [textB, hr, if_pos rfl]
    obtain ⟨bn, rfl⟩ := Int.eq_ofNat_of_zero_le (show 0 ≤ b by omega)
    obtain ⟨u0, u1⟩ := U_range p
    obtain ⟨N0, hN0⟩ := Int.eq_ofNat_of_zero_le u0
    rw [← pv_U p, hN0] at ep
    rw [← pv_U p, hN0, ep]
    have hN : N0 < MAXU := by simp only [MAXU]; omega
    rw [Int.toNat_natCast, Int.toNat_natCast]
    obtain ⟨D, hD⟩ : ∃ D, dgs bn N0 = D := ⟨_, rfl⟩
    have hDl : D.length ≤ 128 := by rw [← hD]; exact dgs_le128 (by omega) hN
    have htx : txt bn N0 = (D.map chu).reverse := by rw [← hD]; rfl
    rw [htx]
    clear htx u0 u1 hN0 hr
    have P0 := PBlk.new w ep
    have EP := Lib.hid ep
    have ED := Lib.hid hD
    clear ep hD
    have sw := (Step.refl [] w (fun _ => 0)).alloc (.cells #[.int .i64 pl, .int .i64 ph] 24)
    have H2 : 2 ≤ bn := by omega
    have H36 : bn ≤ 36 := by omega
    go_enter Try.func15, Try.ntmps15
    go_wp2_with (go_at_call 28; refine (hri _).mono ?_; rintro e w1 ⟨rfl, rfl⟩)
    go_loopg [5, 6, 7] (N0 + 1) (fun q a m c wr => ∃ (N : Nat) (M : Bool) (pre : List Nat) (o' : Owner), q = (if M then N + 1 else 0) ∧ m = .bool M ∧ N < MAXU ∧ PBlk wr w.heap.size (N : Int) ∧ o' w.heap.size = 0 ∧ Row wr o' 77 5 1 a pre.length (u8s (pre.map chu)) ∧ Step [77] w (fun _ => 0) wr o' ∧ Hid ((M = true → pre ++ dgs bn N = D) ∧ (M = false → pre = D)))
    case atStart => exact ⟨N0, true, [], fun _ => 0, rfl, rfl, hN, P0, rfl, Row.nil _ _ _ _ _ none, sw.nil, Lib.hid ⟨fun _ => by rw [ED.out]; rfl, fun h => by cases h⟩⟩
    case round =>
      obtain ⟨N, M, pre, o3, hq, rfl, hNm, hP, hoz, hrow, st, hinv⟩ := hrel
      have HQ := Lib.hid hq
      clear hq P0
      cases M with
      | true =>
        have hpre : pre ++ dgs bn N = D := hinv.out.1 rfl
        have hpl : pre.length < 128 := by
          have := congrArg List.length hpre
          simp [dgs] at this; omega
        obtain ⟨lo, hi, -, -, -, eN, -⟩ := pv_split (N : Int)
        obtain ⟨lo2, hi2, -, -, -, eN2, -⟩ := pv_split ((N / bn : Nat) : Int)
        have hN2 : N / bn < MAXU := Nat.lt_of_le_of_lt (Nat.div_le_self _ _) hNm
        have hst := step_nat H2 H36 hNm
        have hz := pv_nz hN2 eN2
        rw [eN, eN2] at hst
        obtain ⟨c0, c1, -, -⟩ := hP.cells eN
        have EN := Lib.hid eN
        have EN2 := Lib.hid eN2
        have HPRE := Lib.hid hpre
        have HZ := Lib.hid hz
        clear eN eN2 hpre hz hinv
        have hch : N % bn < 36 := by have := Nat.mod_lt N (show 0 < bn by omega); omega
        obtain ⟨ch, hchu⟩ : ∃ ch, chu (N % bn) = ch := ⟨_, rfl⟩
        rw [hchu] at hst
        have HC := Lib.hid hchu
        clear hchu
        obtain ⟨a3, c3, rfl⟩ := hrow.slice'
        have hbig : pre.length + 1 ≤ 9223372036854775807 := by omega
        have hbig2 : (pre.length + 1) * 1 ≤ 140737488355328 := by omega
        go_wp2_with (first
          | (go_at_call 11; refine (hst _).mono ?_; rintro e w2 ⟨rfl, s2⟩; obtain ⟨hP2, hoz2⟩ := hP.step hoz (s2 o3) (by simp); have hrow2 := hrow.frame (s2 o3) (by simp); have hxB := fun cs => (hrow2.pset hP2 (.int .i64 lo2) (.int .i64 hi2)).frame ((Step.refl [] _ o3).alloc (.cells cs 5)) (by simp); have hnew := fresh_set w2 w.heap.size (.int .i64 lo2) (.int .i64 hi2) o3 (.int .u8 ((ch.toNat : Nat) : Int)); obtain ⟨-, -, f0, f1⟩ := hP2.cells EN.out; obtain ⟨c0, c1, -, -⟩ := hP2.cells EN.out)
          | (at_builtin; refine wpList_app rfl (.tmp 21) (.tmp 23) 43 rfl Try.underlying43 infoU8 rfl rfl (hxB _) rfl hnew (by simp [Value.oneCell']) hbig hbig2 ?_))
        intro vx w6 o6 hx6 s6
        have hP3 := (hP2.set EN2.out).calm ((Calm.refl _).alloc (.cells #[.int .u8 ((ch.toNat : Nat) : Int)] 5))
        obtain ⟨hP6, hoz6⟩ := hP3.step hoz2 s6 (by simp)
        have S6 := (((st.trans (s2 o3).nil).setCell (a := ⟨w.heap.size, 0, none⟩) (by simp) (.int .i64 lo2)).setCell (a := ⟨w.heap.size, 1, none⟩) (by simp) (.int .i64 hi2)).alloc (.cells #[.int .u8 ((ch.toNat : Nat) : Int)] 5) |>.trans s6
        obtain ⟨e0, e1, -, -⟩ := hP6.cells EN2.out
        clear hxB
        obtain ⟨a6, c6, rfl⟩ := hx6.slice'
        have hx7 : Row w6 o6 77 5 1 (.slice a6 (pre.length + 1) c6) (pre ++ [N % bn]).length (u8s ((pre ++ [N % bn]).map chu)) := by rw [List.length_append]; exact hx6.cast (by simp [u8s, HC.out])
        clear hx6
        by_cases hz : N / bn = 0
        · obtain ⟨rfl, rfl⟩ := HZ.out.2 hz
          go_wp2_with fail
          go_roundg (0)
          case measure => rw [HQ.out]; simp
          case rel => exact ⟨N / bn, false, pre ++ [N % bn], o6, rfl, rfl, hN2, hP6, hoz6, hx7, S6, Lib.hid ⟨fun h => (by cases h), fun _ => by rw [← HPRE.out, dgs, hz, ds_zero]⟩⟩
        · have hnz : ¬ (lo2 = 0 ∧ hi2 = 0) := fun h => hz (HZ.out.1 h)
          have hcons : dgs bn N = N % bn :: dgs bn (N / bn) := by rw [← dgs_pos H2 (Nat.pos_of_ne_zero hz)]; rfl
          have hN0 : N / bn < N := Nat.div_lt_self (by rcases Nat.eq_zero_or_pos N with rfl | h; simp at hz; exact h) (by omega)
          by_cases hl : lo2 = 0
          · subst hl
            have hh : ¬ hi2 = 0 := fun h => hnz ⟨rfl, h⟩
            clear hnz
            go_wp2_with fail
            go_roundg (N / bn + 1)
            case measure => rw [HQ.out]; simp; omega
            case rel => exact ⟨N / bn, true, pre ++ [N % bn], o6, rfl, rfl, hN2, hP6, hoz6, hx7, S6, Lib.hid ⟨fun _ => by rw [← HPRE.out, hcons]; simp, fun h => by cases h⟩⟩
          · clear hnz
            go_wp2_with fail
            go_roundg (N / bn + 1)
            case measure => rw [HQ.out]; simp; omega
            case rel => exact ⟨N / bn, true, pre ++ [N % bn], o6, rfl, rfl, hN2, hP6, hoz6, hx7, S6, Lib.hid ⟨fun _ => by rw [← HPRE.out, hcons]; simp, fun h => by cases h⟩⟩
      | false =>
        obtain hpre := hinv.out.2 rfl
        have hpos : 0 < pre.length := by rw [hpre, ← ED.out]; simp [dgs]
        obtain ⟨g, cap, rfl, hrx⟩ := hrow.rowx hpos
        subst hpre
        clear hinv
        have hrv := rev_ok hrx
        go_wp2_with (first
          | (go_at_call 33; refine hrv.mono ?_; rintro e w5 ⟨⟨v, rfl⟩, hr5, s5⟩; have kb := row_back hr5.row)
          | (simp only [kb]))
        go_ret
        exact ⟨rfl, (st.trans s5).calm (by simp)⟩

theorem sadd (a b : List UInt8) (h : a.length + b.length ≤ 9223372036854775807) : Op.stringOp .add ⟨a.toArray⟩ ⟨b.toArray⟩ = pure (.string ⟨(a ++ b).toArray⟩) := by
  have hs : ¬ (((ByteArray.mk a.toArray).size + (ByteArray.mk b.toArray).size : Nat) : Int) > IntKind.i64.max := by
    show ¬ ((((a.toArray).size + (b.toArray).size : Nat) : Int) > 9223372036854775807)
    simp; omega
  simp only [Op.stringOp]
  rw [if_neg hs]
  congr 2

/-- 'string([]byte{c})'. -/
theorem one_back (w : World) (x y : Value) (c : UInt8) :
    (convert 43 9 (.slice (some ⟨w.heap.size + 1, 0, none⟩) 1 1)).run Try.prog ((w.alloc (.cells #[x, y] 24)).alloc (.cells #[.int .u8 (c.toNat : Nat)] 5)) =
      .ok (.string ⟨#[c]⟩) ((w.alloc (.cells #[x, y] 24)).alloc (.cells #[.int .u8 (c.toNat : Nat)] 5)) := by
  have h := Blk.new (w.alloc (.cells #[x, y] 24)) (fun _ => 0) 5 5 #[.int .u8 (c.toNat : Nat)]
  simp only [World.size_alloc] at h
  exact row_back (o := _) (i := 5) (l := [c]) ⟨rfl, .inr ⟨w.heap.size + 1, 1, _, rfl, h.own, h.heap, Nat.le_refl _, by decide, rfl, rfl⟩⟩

set_option maxHeartbeats 8000000 in
theorem rtext_ok (p b : Int) (w : World) : Calls Try.prog 16 #[pv p, .int .i64 b] w fun e w' => e = .returned (.string (textB p b)) ∧ Calm w w' := by
  obtain ⟨pl, ph, -, -, -, ep, -⟩ := pv_split p
  have hri := rright_ok b
  cases hr : rightB b with
  | false =>
    rw [hr] at hri
    rw [textB, hr, if_neg Bool.false_ne_true, ep]
    clear ep
    go_enter Try.func16, Try.ntmps16
    go_wp2_with (go_at_call 30; refine (hri _).mono ?_; rintro e w1 ⟨rfl, rfl⟩)
    go_ret
    exact ⟨rfl, (Calm.refl _).alloc _⟩
  | true =>
    rw [hr] at hri
    obtain ⟨b2, b36⟩ := right_C hr
    rw [textB, hr, if_pos rfl]
    obtain ⟨bn, rfl⟩ := Int.eq_ofNat_of_zero_le (show 0 ≤ b by omega)
    obtain ⟨u0, u1⟩ := U_range p
    obtain ⟨N0, hN0⟩ := Int.eq_ofNat_of_zero_le u0
    rw [← pv_U p, hN0] at ep
    rw [← pv_U p, hN0, ep]
    have hN : N0 < MAXU := by simp only [MAXU]; omega
    rw [Int.toNat_natCast, Int.toNat_natCast]
    obtain ⟨D, hD⟩ : ∃ D, dgs bn N0 = D := ⟨_, rfl⟩
    have hDl : D.length ≤ 128 := by rw [← hD]; exact dgs_le128 (by omega) hN
    have htx : txt bn N0 = (D.map chu).reverse := by rw [← hD]; rfl
    rw [htx]
    clear htx u0 u1 hN0 hr
    have P0 := PBlk.new w ep
    have EP := Lib.hid ep
    have ED := Lib.hid hD
    clear ep hD
    have sw := (Calm.refl w).alloc (.cells #[.int .i64 pl, .int .i64 ph] 24)
    have H2 : 2 ≤ bn := by omega
    have H36 : bn ≤ 36 := by omega
    go_enter Try.func16, Try.ntmps16
    go_wp2_with (go_at_call 30; refine (hri _).mono ?_; rintro e w1 ⟨rfl, rfl⟩)
    go_loopg [5, 6, 7] N0 (fun q a m c wr => ∃ (N : Nat) (pre : List Nat), q = N ∧ a = .string ⟨(pre.map chu).reverse.toArray⟩ ∧ N < MAXU ∧ PBlk wr w.heap.size (N : Int) ∧ Calm w wr ∧ Hid (pre ++ dgs bn N = D))
    case atStart => exact ⟨N0, [], rfl, rfl, hN, P0, sw, Lib.hid (by rw [ED.out]; rfl)⟩
    case round =>
      obtain ⟨N, pre, hq, rfl, hNm, hP, st, HPRE⟩ := hrel
      have HQ := Lib.hid hq
      clear hq P0
      have hpl : pre.length < 128 := by
        have := congrArg List.length HPRE.out
        simp [dgs] at this; omega
      obtain ⟨lo, hi, -, -, -, eN, -⟩ := pv_split (N : Int)
      obtain ⟨lo2, hi2, -, -, -, eN2, -⟩ := pv_split ((N / bn : Nat) : Int)
      have hN2 : N / bn < MAXU := Nat.lt_of_le_of_lt (Nat.div_le_self _ _) hNm
      have hst := rstep_nat H2 H36 hNm
      have hz := pv_nz hN2 eN2
      rw [eN, eN2] at hst
      obtain ⟨c0, c1, -, -⟩ := hP.cells eN
      have EN := Lib.hid eN
      have EN2 := Lib.hid eN2
      have HZ := Lib.hid hz
      clear eN eN2 hz
      have hch : N % bn < 36 := by have := Nat.mod_lt N (show 0 < bn by omega); omega
      obtain ⟨ch, hchu⟩ : ∃ ch, chu (N % bn) = ch := ⟨_, rfl⟩
      rw [hchu] at hst
      have hnew : [ch] ++ (pre.map chu).reverse = ((pre ++ [N % bn]).map chu).reverse := by simp [hchu]
      have ks := sadd [ch] (pre.map chu).reverse (by simp; omega)
      rw [hnew] at ks
      obtain ⟨S, hS⟩ : ∃ S, ((pre ++ [N % bn]).map chu).reverse = S := ⟨_, rfl⟩
      rw [hS] at ks
      have HS := Lib.hid hS
      clear hchu hnew hS
      by_cases hz : N / bn = 0
      · obtain ⟨rfl, rfl⟩ := HZ.out.2 hz
        have hfin : S = (D.map chu).reverse := by rw [← HS.out, ← HPRE.out, dgs, hz, ds_zero]
        go_wp2_with (first
          | (go_at_call 12; refine (hst _).mono ?_; rintro e w2 ⟨rfl, s2⟩; have hP2 := hP.calm s2; have kb := one_back w2 (.int .i64 0) (.int .i64 0) ch; have hP3 := hP2.calm (((Calm.refl _).alloc (.cells #[.int .i64 0, .int .i64 0] 24)).alloc (.cells #[.int .u8 ((ch.toNat : Nat) : Int)] 5)); obtain ⟨k0, k1, f0, f1⟩ := hP3.cells EN.out; have S4 := (((st.trans s2).alloc (.cells #[.int .i64 0, .int .i64 0] 24)).alloc (.cells #[.int .u8 ((ch.toNat : Nat) : Int)] 5)).set2 (b := w.heap.size) (Nat.le_refl _) (.int .i64 0) (.int .i64 0); have hP4 := hP3.set EN2.out; obtain ⟨e0, e1, -, -⟩ := hP4.cells EN2.out)
          | (simp only [kb])
          | (simp only [ks]))
        go_ret
        exact ⟨rfl, S4⟩
      · have hnz : ¬ (lo2 = 0 ∧ hi2 = 0) := fun h => hz (HZ.out.1 h)
        have hcons : dgs bn N = N % bn :: dgs bn (N / bn) := by rw [← dgs_pos H2 (Nat.pos_of_ne_zero hz)]; rfl
        have hN0 : N / bn < N := Nat.div_lt_self (by rcases Nat.eq_zero_or_pos N with rfl | h; simp at hz; exact h) (by omega)
        have hcon2 : pre ++ [N % bn] ++ dgs bn (N / bn) = D := by rw [← HPRE.out, hcons]; simp
        clear hcons
        by_cases hl : lo2 = 0
        · subst hl
          have hh : ¬ hi2 = 0 := fun h => hnz ⟨rfl, h⟩
          clear hnz
          go_wp2_with (first
            | (go_at_call 12; refine (hst _).mono ?_; rintro e w2 ⟨rfl, s2⟩; have hP2 := hP.calm s2; have kb := one_back w2 (.int .i64 0) (.int .i64 hi2) ch; have hP3 := hP2.calm (((Calm.refl _).alloc (.cells #[.int .i64 0, .int .i64 hi2] 24)).alloc (.cells #[.int .u8 ((ch.toNat : Nat) : Int)] 5)); obtain ⟨k0, k1, f0, f1⟩ := hP3.cells EN.out; have S4 := (((st.trans s2).alloc (.cells #[.int .i64 0, .int .i64 hi2] 24)).alloc (.cells #[.int .u8 ((ch.toNat : Nat) : Int)] 5)).set2 (b := w.heap.size) (Nat.le_refl _) (.int .i64 0) (.int .i64 hi2); have hP4 := hP3.set EN2.out; obtain ⟨e0, e1, -, -⟩ := hP4.cells EN2.out)
            | (simp only [kb])
            | (simp only [ks]))
          go_roundg (N / bn)
          case measure => rw [HQ.out]; exact hN0
          case rel => exact ⟨N / bn, pre ++ [N % bn], rfl, by rw [HS.out], hN2, hP4, S4, Lib.hid hcon2⟩
        · clear hnz
          go_wp2_with (first
            | (go_at_call 12; refine (hst _).mono ?_; rintro e w2 ⟨rfl, s2⟩; have hP2 := hP.calm s2; have kb := one_back w2 (.int .i64 lo2) (.int .i64 hi2) ch; have hP3 := hP2.calm (((Calm.refl _).alloc (.cells #[.int .i64 lo2, .int .i64 hi2] 24)).alloc (.cells #[.int .u8 ((ch.toNat : Nat) : Int)] 5)); obtain ⟨k0, k1, f0, f1⟩ := hP3.cells EN.out; have S4 := (((st.trans s2).alloc (.cells #[.int .i64 lo2, .int .i64 hi2] 24)).alloc (.cells #[.int .u8 ((ch.toNat : Nat) : Int)] 5)).set2 (b := w.heap.size) (Nat.le_refl _) (.int .i64 lo2) (.int .i64 hi2); have hP4 := hP3.set EN2.out; obtain ⟨e0, e1, -, -⟩ := hP4.cells EN2.out)
            | (simp only [kb])
            | (simp only [ks]))
          go_roundg (N / bn)
          case measure => rw [HQ.out]; exact hN0
          case rel => exact ⟨N / bn, pre ++ [N % bn], rfl, by rw [HS.out], hN2, hP4, S4, Lib.hid hcon2⟩
end Go.Proofs.Ytfeeikhcdphcpaa
