/- The text of a number: both sides. -/
import Derived.Test.YtglchagfclafgaaDoorDigC
import Derived.Test.YtglchagfclafgaaDoorDigR
namespace Go.Proofs.YtglchagfclafgaaDoor
open Go Go.RowKit
set_option linter.unusedSimpArgs false
set_option linter.unusedVariables false

abbrev MAXU : Nat := 340282366920938463463374607431768211456

theorem stV_nat {bn N : Nat} (h2 : 2 ≤ bn) (h36 : bn ≤ 36) (hN : N < MAXU) : stV (N : Int) (bn : Int) = .tuple #[pv ((N / bn : Nat) : Int), .int .u8 ((chu (N % bn)).toNat : Nat)] := by
  have hr : rightB (bn : Int) = true := by simp [rightB]; omega
  have hu : U (N : Int) = N := by unfold U; simp only [MAXU] at hN; omega
  have hm : N % bn < bn := Nat.mod_lt _ (by omega)
  rw [stV, if_pos hr, hu, chu_chr _ (by omega)]
  simp
theorem rstep_nat {bn N : Nat} (h2 : 2 ≤ bn) (h36 : bn ≤ 36) (hN : N < MAXU) (w : World) : Calls Tryd.prog 48 #[pv (N : Int), .int .i64 bn] w fun e w' => e = .returned (.tuple #[pv ((N / bn : Nat) : Int), .int .u8 ((chu (N % bn)).toNat : Nat)]) ∧ Calm w w' := by
  have := rstep_ok (N : Int) (bn : Int) ⟨by omega, by omega⟩ w
  rwa [stV_nat h2 h36 hN] at this

/-- The text of a pair. -/
def textP (p b : Int) : ByteArray := if rightB b then ⟨(txt b.toNat (U p).toNat).toArray⟩ else ⟨#[]⟩

theorem pv_nz {N : Nat} (hN : N < MAXU) {lo hi : Int} (e : pv (N : Int) = .agg #[.int .i64 lo, .int .i64 hi]) : (lo = 0 ∧ hi = 0) ↔ N = 0 := by
  simp only [pv, Value.agg.injEq, Array.mk.injEq, List.cons.injEq, Value.int.injEq, true_and, and_true] at e
  obtain ⟨rfl, rfl⟩ := e
  simp only [MAXU] at hN
  unfold wrap64
  omega

theorem PBlk.step {S : List Nat} {w w' : World} {o o' : Owner} {b i : Nat} {n : Int} (h : PBlk w b n) (ho : o b = i) (st : Step S w o w' o') (hi : i ∉ S) : PBlk w' b n ∧ o' b = i := by
  obtain ⟨lo, hi', e, hb⟩ := h
  exact ⟨⟨lo, hi', e, st.obj hb (by rw [ho]; exact hi)⟩, (st.own b (Array.getElem?_eq_some_iff.1 hb).1).trans ho⟩
theorem Row.pset {w : World} {o : Owner} {i n : Nat} {v : Value} {xs : List Value} (h : Row w o i 5 1 v n xs) {b : Nat} {m : Int} (hb : PBlk w b m) (x y : Value) : Row ((w.setCell ⟨b, 0, none⟩ x).setCell ⟨b, 1, none⟩ y) o i 5 1 v n xs := by
  obtain ⟨lo, hi, e, hh⟩ := hb
  have h1 := h.setOther (o2 := o) (i2 := o b) ⟨hh, rfl⟩ (by decide) 0 x
  exact h1.setOther (o2 := o) (i2 := o b) ⟨heap_setCell_same hh 0 x, rfl⟩ (by decide) 1 y

theorem run_u8_row {w : World} {o : Owner} {i n : Nat} {v : Value} {xs : List Value} (h : Row w o i 5 1 v n xs) : n ≤ 9223372036854775807 := by
  have := h.rd.le; simpa [maxLen] using this

theorem Step.calm {S : List Nat} {w w' : World} {o1 : Owner} (h : Step S w (fun _ => 0) w' o1) (hS : 0 ∉ S) : Calm w w' := fun o => ⟨h.os, h.tape, h.output, h.size, fun _ _ => rfl, fun b hb _ => h.blk b hb hS⟩
theorem fresh_set (w : World) (z : Nat) (x y : Value) (o : Owner) (u : Value) :
    Rd (((w.setCell ⟨z, 0, none⟩ x).setCell ⟨z, 1, none⟩ y).alloc (.cells #[u] 5)) o (o w.heap.size) 1 (.slice (some ⟨w.heap.size, 0, none⟩) 1 1) 1 [u] := by
  have := Rd.fresh ((w.setCell ⟨z, 0, none⟩ x).setCell ⟨z, 1, none⟩ y) o 1 5 #[u] 1 (by decide) rfl
  simpa using this

theorem sadd (a b : List UInt8) (h : a.length + b.length ≤ 9223372036854775807) : Op.stringOp .add ⟨a.toArray⟩ ⟨b.toArray⟩ = pure (.string ⟨(a ++ b).toArray⟩) := by
  have hs : ¬ (((ByteArray.mk a.toArray).size + (ByteArray.mk b.toArray).size : Nat) : Int) > IntKind.i64.max := by
    show ¬ ((((a.toArray).size + (b.toArray).size : Nat) : Int) > 9223372036854775807)
    simp; omega
  simp only [Op.stringOp]
  rw [if_neg hs]
  congr 2

/-- 'string([]byte{c})'. -/
theorem one_back (w : World) (x y : Value) (c : UInt8) :
    (convert 66 9 (.slice (some ⟨w.heap.size + 1, 0, none⟩) 1 1)).run Tryd.prog ((w.alloc (.cells #[x, y] 59)).alloc (.cells #[.int .u8 (c.toNat : Nat)] 5)) =
      .ok (.string ⟨#[c]⟩) ((w.alloc (.cells #[x, y] 59)).alloc (.cells #[.int .u8 (c.toNat : Nat)] 5)) := by
  have h := Blk.new (w.alloc (.cells #[x, y] 59)) (fun _ => 0) 5 5 #[.int .u8 (c.toNat : Nat)]
  simp only [World.size_alloc] at h
  exact row_back (o := _) (i := 5) (l := [c]) ⟨rfl, .inr ⟨w.heap.size + 1, 1, _, rfl, h.own, h.heap, Nat.le_refl _, by decide, rfl, rfl⟩⟩

set_option maxHeartbeats 8000000 in
theorem rtext_ok (p b : Int) (w : World) : Calls Tryd.prog 35 #[pv p, .int .i64 b] w fun e w' => e = .returned (.string (textP p b)) ∧ Calm w w' := by
  obtain ⟨pl, ph, -, -, -, ep, -⟩ := pv_split p
  have hri := rright_ok b
  cases hr : rightB b with
  | false =>
    rw [hr] at hri
    rw [textP, hr, if_neg Bool.false_ne_true, ep]
    clear ep
    go_enter Tryd.func35, Tryd.ntmps35
    go_wp2_with (go_at_call 34; refine (hri _).mono ?_; rintro e w1 ⟨rfl, rfl⟩)
    go_ret
    exact ⟨rfl, (Calm.refl _).alloc _⟩
  | true =>
    rw [hr] at hri
    obtain ⟨b2, b36⟩ := right_C hr
    rw [textP, hr, if_pos rfl]
    obtain ⟨bn, rfl⟩ := Int.eq_ofNat_of_zero_le (show 0 ≤ b by omega)
    obtain ⟨u0, u1⟩ := U_range p
    obtain ⟨N0, hN0⟩ := Int.eq_ofNat_of_zero_le u0
    rw [← pv_U p, hN0] at ep
    rw [← pv_U p, hN0, ep]
    have hN : N0 < MAXU := by simp only [MAXU]; omega
    rw [Int.toNat_natCast, Int.toNat_natCast]
    obtain ⟨D, hD⟩ : ∃ D, dgs bn N0 = D := ⟨_, rfl⟩
    have hDl : D.length ≤ 128 := by rw [← hD]; exact dgs_le128 (by omega) hN
    have htx : txt bn N0 = (D.map chu).reverse := by rw [← hD]; rfl
    rw [htx]
    clear htx u0 u1 hN0 hr
    have P0 := PBlk.new w ep
    have EP := Lib.hid ep
    have ED := Lib.hid hD
    clear ep hD
    have sw := (Calm.refl w).alloc (.cells #[.int .i64 pl, .int .i64 ph] 59)
    have H2 : 2 ≤ bn := by omega
    have H36 : bn ≤ 36 := by omega
    go_enter Tryd.func35, Tryd.ntmps35
    go_wp2_with (go_at_call 34; refine (hri _).mono ?_; rintro e w1 ⟨rfl, rfl⟩)
    go_loopg [5, 6, 7] N0 (fun q a m c wr => ∃ (N : Nat) (pre : List Nat), q = N ∧ a = .string ⟨(pre.map chu).reverse.toArray⟩ ∧ N < MAXU ∧ PBlk wr w.heap.size (N : Int) ∧ Calm w wr ∧ Hid (pre ++ dgs bn N = D))
    case atStart => exact ⟨N0, [], rfl, rfl, hN, P0, sw, Lib.hid (by rw [ED.out]; rfl)⟩
    case round =>
      obtain ⟨N, pre, hq, rfl, hNm, hP, st, HPRE⟩ := hrel
      have HQ := Lib.hid hq
      clear hq P0
      have hpl : pre.length < 128 := by
        have := congrArg List.length HPRE.out
        simp [dgs] at this; omega
      obtain ⟨lo, hi, -, -, -, eN, -⟩ := pv_split (N : Int)
      obtain ⟨lo2, hi2, -, -, -, eN2, -⟩ := pv_split ((N / bn : Nat) : Int)
      have hN2 : N / bn < MAXU := Nat.lt_of_le_of_lt (Nat.div_le_self _ _) hNm
      have hst := rstep_nat H2 H36 hNm
      have hz := pv_nz hN2 eN2
      rw [eN, eN2] at hst
      obtain ⟨c0, c1, -, -⟩ := hP.cells eN
      have EN := Lib.hid eN
      have EN2 := Lib.hid eN2
      have HZ := Lib.hid hz
      clear eN eN2 hz
      have hch : N % bn < 36 := by have := Nat.mod_lt N (show 0 < bn by omega); omega
      obtain ⟨ch, hchu⟩ : ∃ ch, chu (N % bn) = ch := ⟨_, rfl⟩
      rw [hchu] at hst
      have hnew : [ch] ++ (pre.map chu).reverse = ((pre ++ [N % bn]).map chu).reverse := by simp [hchu]
      have ks := sadd [ch] (pre.map chu).reverse (by simp; omega)
      rw [hnew] at ks
      obtain ⟨S, hS⟩ : ∃ S, ((pre ++ [N % bn]).map chu).reverse = S := ⟨_, rfl⟩
      rw [hS] at ks
      have HS := Lib.hid hS
      clear hchu hnew hS
      by_cases hz : N / bn = 0
      · obtain ⟨rfl, rfl⟩ := HZ.out.2 hz
        have hfin : S = (D.map chu).reverse := by rw [← HS.out, ← HPRE.out, dgs, hz, ds_zero]
        go_wp2_with (first
          | (go_at_call 48; refine (hst _).mono ?_; rintro e w2 ⟨rfl, s2⟩; have hP2 := hP.calm s2; have kb := one_back w2 (.int .i64 0) (.int .i64 0) ch; have hP3 := hP2.calm (((Calm.refl _).alloc (.cells #[.int .i64 0, .int .i64 0] 59)).alloc (.cells #[.int .u8 ((ch.toNat : Nat) : Int)] 5)); obtain ⟨k0, k1, f0, f1⟩ := hP3.cells EN.out; have S4 := (((st.trans s2).alloc (.cells #[.int .i64 0, .int .i64 0] 59)).alloc (.cells #[.int .u8 ((ch.toNat : Nat) : Int)] 5)).set2 (b := w.heap.size) (Nat.le_refl _) (.int .i64 0) (.int .i64 0); have hP4 := hP3.set EN2.out; obtain ⟨e0, e1, -, -⟩ := hP4.cells EN2.out)
          | (simp only [kb])
          | (simp only [ks]))
        go_ret
        exact ⟨rfl, S4⟩
      · have hnz : ¬ (lo2 = 0 ∧ hi2 = 0) := fun h => hz (HZ.out.1 h)
        have hcons : dgs bn N = N % bn :: dgs bn (N / bn) := by rw [← dgs_pos H2 (Nat.pos_of_ne_zero hz)]; rfl
        have hN0 : N / bn < N := Nat.div_lt_self (by rcases Nat.eq_zero_or_pos N with rfl | h; simp at hz; exact h) (by omega)
        have hcon2 : pre ++ [N % bn] ++ dgs bn (N / bn) = D := by rw [← HPRE.out, hcons]; simp
        clear hcons
        by_cases hl : lo2 = 0
        · subst hl
          have hh : ¬ hi2 = 0 := fun h => hnz ⟨rfl, h⟩
          clear hnz
          go_wp2_with (first
            | (go_at_call 48; refine (hst _).mono ?_; rintro e w2 ⟨rfl, s2⟩; have hP2 := hP.calm s2; have kb := one_back w2 (.int .i64 0) (.int .i64 hi2) ch; have hP3 := hP2.calm (((Calm.refl _).alloc (.cells #[.int .i64 0, .int .i64 hi2] 59)).alloc (.cells #[.int .u8 ((ch.toNat : Nat) : Int)] 5)); obtain ⟨k0, k1, f0, f1⟩ := hP3.cells EN.out; have S4 := (((st.trans s2).alloc (.cells #[.int .i64 0, .int .i64 hi2] 59)).alloc (.cells #[.int .u8 ((ch.toNat : Nat) : Int)] 5)).set2 (b := w.heap.size) (Nat.le_refl _) (.int .i64 0) (.int .i64 hi2); have hP4 := hP3.set EN2.out; obtain ⟨e0, e1, -, -⟩ := hP4.cells EN2.out)
            | (simp only [kb])
            | (simp only [ks]))
          go_roundg (N / bn)
          case measure => rw [HQ.out]; exact hN0
          case rel => exact ⟨N / bn, pre ++ [N % bn], rfl, by rw [HS.out], hN2, hP4, S4, Lib.hid hcon2⟩
        · clear hnz
          go_wp2_with (first
            | (go_at_call 48; refine (hst _).mono ?_; rintro e w2 ⟨rfl, s2⟩; have hP2 := hP.calm s2; have kb := one_back w2 (.int .i64 lo2) (.int .i64 hi2) ch; have hP3 := hP2.calm (((Calm.refl _).alloc (.cells #[.int .i64 lo2, .int .i64 hi2] 59)).alloc (.cells #[.int .u8 ((ch.toNat : Nat) : Int)] 5)); obtain ⟨k0, k1, f0, f1⟩ := hP3.cells EN.out; have S4 := (((st.trans s2).alloc (.cells #[.int .i64 lo2, .int .i64 hi2] 59)).alloc (.cells #[.int .u8 ((ch.toNat : Nat) : Int)] 5)).set2 (b := w.heap.size) (Nat.le_refl _) (.int .i64 lo2) (.int .i64 hi2); have hP4 := hP3.set EN2.out; obtain ⟨e0, e1, -, -⟩ := hP4.cells EN2.out)
            | (simp only [kb])
            | (simp only [ks]))
          go_roundg (N / bn)
          case measure => rw [HQ.out]; exact hN0
          case rel => exact ⟨N / bn, pre ++ [N % bn], rfl, by rw [HS.out], hN2, hP4, S4, Lib.hid hcon2⟩
end Go.Proofs.YtglchagfclafgaaDoor
