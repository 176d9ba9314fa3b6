/- An act, done to frames and to the document's: the answers are the same (printed by gen_does14.py). -/
import Derived.Test.YtegcpjheglcbcaaDoB14
import Derived.Deep.RegionHeld3
namespace Go.Proofs.Ytegcpjheglcbcaa
open Go Go.RowKit Go.Shelf
set_option linter.unusedSimpArgs false
set_option linter.unusedVariables false

theorem mask_le (x : Int) (m : Nat) (hm : m < 9223372036854775808) : 0 ≤ bits .and .i64 x m ∧ bits .and .i64 x m ≤ m := by
  have h1 : (BitVec.ofInt 64 x &&& BitVec.ofInt 64 (m : Int)).toNat ≤ m := by
    rw [BitVec.toNat_and]
    refine Nat.le_trans Nat.and_le_right ?_
    rw [BitVec.ofInt_natCast, BitVec.toNat_ofNat]
    exact Nat.mod_le _ _
  have e : bits .and .i64 x m = IntKind.i64.wrap ((BitVec.ofInt 64 x &&& BitVec.ofInt 64 (m : Int)).toNat : Int) := rfl
  rw [e]
  generalize (BitVec.ofInt 64 x &&& BitVec.ofInt 64 (m : Int)).toNat = k at h1
  have : IntKind.i64.wrap (k : Int) = k := by simp [IntKind.wrap, IntKind.signed, IntKind.bits]; omega
  rw [this]
  omega

/-- What an act may change. -/
def SOK (S : List Nat) : Prop := ∀ x ∈ S, x = 10 ∨ x = 11 ∨ x = 30 ∨ x = 31 ∨ 1000 ≤ x
theorem SOK.lit : SOK [10, 11, 30, 31] := by intro x hx; simp at hx; omega

/-- The answer of an act. -/
def Done (w : World) (o : Owner) (b c N : Nat) (w' : World) : Prop := ∃ o' fl' fr' S, Both w' o' b c (N + 1) fl' fr' ∧ SOK S ∧ Step S w o w' o'

section
variable {w : World} {o : Owner} {b c N : Nat} {fl fr : List (Fr × List Int × Nat)} (y k a d x z n X : Int) {al : Option Addr} {cl : Nat} {l : List Int}

/-- The box of an act, and all else behind it. -/
structure Box (w W : World) (o O : Owner) (zb : Nat) (y k a d x z n X : Int) (lv : Value) : Prop where
  st : Step [] w o W O
  b : Blk W O 50 zb 59 #[.int .u8 y, .int .i64 k, .int .i64 a, .int .i64 d, .int .i64 x, .int .i64 z, lv, .int .i64 n, .int .i64 X]

theorem Box.cells {w W : World} {o O : Owner} {zb : Nat} {y k a d x z n X : Int} {lv : Value} (h : Box w W o O zb y k a d x z n X lv) {S : List Nat} {W' : World} {O' : Owner} (st : Step S W O W' O') (hS : 50 ∉ S) :
    (W'.cell? ⟨zb, 0, none⟩ = some (.int .u8 y) ∧ W'.cell? ⟨zb, 1, none⟩ = some (.int .i64 k) ∧ W'.cell? ⟨zb, 2, none⟩ = some (.int .i64 a) ∧ W'.cell? ⟨zb, 3, none⟩ = some (.int .i64 d) ∧ W'.cell? ⟨zb, 4, none⟩ = some (.int .i64 x) ∧ W'.cell? ⟨zb, 5, none⟩ = some (.int .i64 z) ∧ W'.cell? ⟨zb, 6, none⟩ = some lv) ∧ W'.cell? ⟨zb, 7, none⟩ = some (.int .i64 n) ∧ W'.cell? ⟨zb, 8, none⟩ = some (.int .i64 X) := by
  have hb := h.b.frame st hS
  exact ⟨⟨hb.cell 0, hb.cell 1, hb.cell 2, hb.cell 3, hb.cell 4, hb.cell 5, hb.cell 6⟩, hb.cell 7, hb.cell 8⟩

set_option maxRecDepth 100000 in
set_option maxHeartbeats 16000000 in
theorem does_top (h : Both w o b c N fl fr) (hN : N + 1 ≤ 1000) (hy : 0 ≤ y ∧ y ≤ 255) (hkk : y % 9 = 2) (hn : -9223372036854775808 ≤ n ∧ n ≤ 9223372036854775807) (hl : Rd w o 0 1 (.slice al l.length cl) l.length (cellsOf l)) (hll : l.length ≤ 20) :
    Calls Try.prog 25 #[.pointer (some ⟨b, 0, none⟩), .pointer (some ⟨c, 0, none⟩), .agg #[.int .u8 y, .int .i64 k, .int .i64 a, .int .i64 d, .int .i64 x, .int .i64 z, .slice al l.length cl, .int .i64 n, .int .i64 X]] w fun e w' => e = .returned (.bool true) ∧ Done w o b c N w' := by
  have s1 : Step [] w o (w.alloc (.cells #[.int .u8 y, .int .i64 k, .int .i64 a, .int .i64 d, .int .i64 x, .int .i64 z, .slice al l.length cl, .int .i64 n, .int .i64 X] 59)) (o.set w.heap.size 50) := ((Step.refl _ _ _).alloc _).give (Nat.le_refl _) _
  have hbx := Blk.new w o 50 59 #[.int .u8 y, .int .i64 k, .int .i64 a, .int .i64 d, .int .i64 x, .int .i64 z, .slice al l.length cl, .int .i64 n, .int .i64 X]
  replace h := h.frame s1 (by simp)
  replace hl := hl.frame s1 (by simp)
  generalize o.set w.heap.size 50 = o1 at s1 h hbx hl
  obtain ⟨zb, hz⟩ : ∃ zb, w.heap.size = zb := ⟨_, rfl⟩
  rw [hz] at hbx
  obtain ⟨W1, hW1⟩ : ∃ W1, w.alloc (.cells #[.int .u8 y, .int .i64 k, .int .i64 a, .int .i64 d, .int .i64 x, .int .i64 z, .slice al l.length cl, .int .i64 n, .int .i64 X] 59) = W1 := ⟨_, rfl⟩
  rw [hW1] at s1 h hbx hl
  have hB : Box w W1 o o1 zb y k a d x z n X (.slice al l.length cl) := ⟨s1, hbx⟩
  obtain ⟨⟨c0, c1, c2, c3, c4, c5, c6⟩, c7, c8⟩ := hB.cells (Step.refl [] W1 o1) (by simp)
  rw [← hW1] at c0 c1 c2 c3 c4 c5 c6 c7 c8
  have HW1 := Lib.hid hW1
  have hlen := h.len
  have h128 := h.p.len
  clear hW1 hbx
  obtain ⟨T, hT⟩ : ∃ T, topA (fl.map ab) = T := ⟨_, rfl⟩
  have hA := ptop_ok h.p
  have hC := fun (W : World) (oW : Owner) (st : Step [] W1 o1 W oW) => rtopA_ok (h.rOver st (by simp))
  rw [← h.e] at hC
  rw [hT] at hA hC
  obtain ⟨⟨f0, f1, f2, f3, f4, L⟩, V⟩ := T
  simp only [Fa.val, Fa.l] at hA hC
  have hVV : (V == V) = true := by simp
  have hLx : L.length ≤ 1000000 := by
    have hT' := hT
    rcases last_cases fl with rfl | ⟨fl0, q1, q2, q3, q4, q5, q6, q7, q8, rfl⟩
    · simp only [List.map_nil, topA_nil, Z0, Prod.mk.injEq] at hT'; obtain ⟨⟨-, -, -, -, -, rfl⟩, -⟩ := hT'; simp
    · rw [List.map_append, List.map_singleton, topA_app] at hT'
      simp only [ab, Prod.mk.injEq] at hT'
      obtain ⟨⟨-, -, -, -, -, rfl⟩, -⟩ := hT'
      exact (h.p.2 (⟨q1, q2, q3, q4, q5, q6⟩, q7, q8) (by simp)).1
  have hL := hLx
  clear hT hl
  go_enter Try.func25, Try.ntmps25
  go_wp2_with fail
  rw [HW1.out]
  refine hA.mono ?_
  rintro e w5 ⟨lv5, o5, rfl, hr5, -, s5⟩
  obtain ⟨a5, k5, rfl⟩ : ∃ a5 k5, lv5 = .slice a5 L.length k5 := by obtain ⟨a5, k5, e5, -⟩ := hr5; exact ⟨a5, k5, e5⟩
  have t5 : Step [] w5 o5 (w5.alloc (.cells #[.int .i64 f0, .int .i64 f1, .int .i64 f2, .int .i64 f3, .int .i64 f4, .slice a5 L.length k5] 30)) (o5.set w5.heap.size 51) := ((Step.refl _ _ _).alloc _).give (Nat.le_refl _) _
  have b5 := Blk.new w5 o5 51 30 #[.int .i64 f0, .int .i64 f1, .int .i64 f2, .int .i64 f3, .int .i64 f4, .slice a5 L.length k5]
  replace hr5 := hr5.frame t5 (by simp)
  have st5 := s5.trans t5.nil
  generalize o5.set w5.heap.size 51 = p5 at t5 b5 hr5 st5
  obtain ⟨z5, hz5⟩ : ∃ z5, w5.heap.size = z5 := ⟨_, rfl⟩
  rw [hz5] at b5
  have hC5 := hC _ _ st5
  obtain ⟨⟨d0, d1, d2, d3, d4, d5, d6⟩, d7, d8⟩ := hB.cells st5 (by decide)
  obtain ⟨⟨e0, e1, e2, e3, e4, e5⟩, -⟩ := b5.facts6
  go_wp2_with fail
  refine hC5.mono ?_
  rintro e w6 ⟨lv6, o6, rfl, hr6, s6⟩
  obtain ⟨a6, k6, rfl⟩ : ∃ a6 k6, lv6 = .slice a6 L.length k6 := by obtain ⟨a6, k6, e6, -⟩ := hr6; exact ⟨a6, k6, e6⟩
  have t6 : Step [] w6 o6 (w6.alloc (.cells #[.int .i64 f0, .int .i64 f1, .int .i64 f2, .int .i64 f3, .int .i64 f4, .slice a6 L.length k6] 30)) (o6.set w6.heap.size 51) := ((Step.refl _ _ _).alloc _).give (Nat.le_refl _) _
  have b6 := Blk.new w6 o6 51 30 #[.int .i64 f0, .int .i64 f1, .int .i64 f2, .int .i64 f3, .int .i64 f4, .slice a6 L.length k6]
  replace hr6 := hr6.frame t6 (by simp)
  replace hr5 := (hr5.frame s6 (by decide)).frame t6 (by simp)
  replace b5 := (b5.frame s6 (by decide)).frame t6 (by simp)
  have st6 := s6.trans t6.nil
  generalize o6.set w6.heap.size 51 = p6 at t6 b6 hr6 hr5 b5 st6
  obtain ⟨⟨e0', e1', e2', e3', e4', e5'⟩, -⟩ := b5.facts6
  obtain ⟨⟨g0, g1, g2, g3, g4, g5⟩, -⟩ := b6.facts6
  have hone := one_l hr5 hr6 hL p6 f0 f1 f2 f3 f4
  clear d0 d1 d2 d3 d4 d5 d6 d7 d8 e0 e1 e2 e3 e4 e5 hC5
  go_wp2_with fail
  refine hone.mono ?_
  rintro e w7 ⟨rfl, s7⟩
  go_wp2_with fail
  go_ret
  have sAll := (((s1.weaken (S' := [10, 11, 30, 31]) (by simp)).trans (st5.weaken (by simp))).trans (st6.weaken (by simp))).trans (s7.weaken (by simp))
  exact ⟨rfl, p6, fl, fr, _, h.same hN (((h.p.frame st5 (by simp) (by simp) (by simp)).frame st6 (by simp) (by simp) (by simp)).frame s7 (by simp) (by simp) (by simp)) (((h.r.frame0 st5).frame0 st6).frame0 s7), SOK.lit, sAll⟩

set_option maxRecDepth 100000 in
set_option maxHeartbeats 16000000 in
theorem does_pop (h : Both w o b c N fl fr) (hN : N + 1 ≤ 1000) (hy : 0 ≤ y ∧ y ≤ 255) (hkk : y % 9 = 1) (hn : -9223372036854775808 ≤ n ∧ n ≤ 9223372036854775807) (hl : Rd w o 0 1 (.slice al l.length cl) l.length (cellsOf l)) (hll : l.length ≤ 20) :
    Calls Try.prog 25 #[.pointer (some ⟨b, 0, none⟩), .pointer (some ⟨c, 0, none⟩), .agg #[.int .u8 y, .int .i64 k, .int .i64 a, .int .i64 d, .int .i64 x, .int .i64 z, .slice al l.length cl, .int .i64 n, .int .i64 X]] w fun e w' => e = .returned (.bool true) ∧ Done w o b c N w' := by
  have s1 : Step [] w o (w.alloc (.cells #[.int .u8 y, .int .i64 k, .int .i64 a, .int .i64 d, .int .i64 x, .int .i64 z, .slice al l.length cl, .int .i64 n, .int .i64 X] 59)) (o.set w.heap.size 50) := ((Step.refl _ _ _).alloc _).give (Nat.le_refl _) _
  have hbx := Blk.new w o 50 59 #[.int .u8 y, .int .i64 k, .int .i64 a, .int .i64 d, .int .i64 x, .int .i64 z, .slice al l.length cl, .int .i64 n, .int .i64 X]
  replace h := h.frame s1 (by simp)
  replace hl := hl.frame s1 (by simp)
  generalize o.set w.heap.size 50 = o1 at s1 h hbx hl
  obtain ⟨zb, hz⟩ : ∃ zb, w.heap.size = zb := ⟨_, rfl⟩
  rw [hz] at hbx
  obtain ⟨W1, hW1⟩ : ∃ W1, w.alloc (.cells #[.int .u8 y, .int .i64 k, .int .i64 a, .int .i64 d, .int .i64 x, .int .i64 z, .slice al l.length cl, .int .i64 n, .int .i64 X] 59) = W1 := ⟨_, rfl⟩
  rw [hW1] at s1 h hbx hl
  have hB : Box w W1 o o1 zb y k a d x z n X (.slice al l.length cl) := ⟨s1, hbx⟩
  obtain ⟨⟨c0, c1, c2, c3, c4, c5, c6⟩, c7, c8⟩ := hB.cells (Step.refl [] W1 o1) (by simp)
  rw [← hW1] at c0 c1 c2 c3 c4 c5 c6 c7 c8
  have HW1 := Lib.hid hW1
  have hlen := h.len
  have h128 := h.p.len
  clear hW1 hbx
  obtain ⟨kk, hkq, -⟩ : ∃ kk : Int, bits .and .i64 n 7 = kk ∧ True := ⟨_, rfl, trivial⟩
  obtain ⟨T, hT⟩ : ∃ T, popA (fl.map ab) kk = T := ⟨_, rfl⟩
  have hA := ppop_ok h.p kk
  have hC := fun (W : World) (oW : Owner) (st : Step [10] W1 o1 W oW) => rpopA_ok (h.rOver st (by simp)) kk
  rw [← h.e] at hC
  rw [hT] at hA hC
  obtain ⟨⟨f0, f1, f2, f3, f4, L⟩, V, s'⟩ := T
  simp only [Fa.val, Fa.l] at hA hC
  have hVV : (V == V) = true := by simp
  have hLx : L.length ≤ 1000000 := by
    have hT' := hT
    rcases last_cases fl with rfl | ⟨fl0, q1, q2, q3, q4, q5, q6, q7, q8, rfl⟩
    · simp only [List.map_nil, popA_nil, Z0, Prod.mk.injEq] at hT'; obtain ⟨⟨-, -, -, -, -, rfl⟩, -⟩ := hT'; simp
    · rw [List.map_append, List.map_singleton, popA_app] at hT'
      split at hT'
      · simp only [ab, Prod.mk.injEq] at hT'
        obtain ⟨⟨-, -, -, -, -, rfl⟩, -⟩ := hT'
        exact (h.p.2 (⟨q1, q2, q3, q4, q5, q6⟩, q7, q8) (by simp)).1
      · simp only [Z0, Prod.mk.injEq] at hT'
        obtain ⟨⟨-, -, -, -, -, rfl⟩, -⟩ := hT'
        simp
  have hL := hLx
  clear hT hl
  go_enter Try.func25, Try.ntmps25
  go_wp2_with fail
  rw [HW1.out]
  refine hA.mono ?_
  rintro e w5 ⟨lv5, o5, m5, rfl, hr5, -, hp5, he5, s5⟩
  obtain ⟨a5, k5, rfl⟩ : ∃ a5 k5, lv5 = .slice a5 L.length k5 := by obtain ⟨a5, k5, e5, -⟩ := hr5; exact ⟨a5, k5, e5⟩
  have t5 : Step [] w5 o5 (w5.alloc (.cells #[.int .i64 f0, .int .i64 f1, .int .i64 f2, .int .i64 f3, .int .i64 f4, .slice a5 L.length k5] 30)) (o5.set w5.heap.size 51) := ((Step.refl _ _ _).alloc _).give (Nat.le_refl _) _
  have b5 := Blk.new w5 o5 51 30 #[.int .i64 f0, .int .i64 f1, .int .i64 f2, .int .i64 f3, .int .i64 f4, .slice a5 L.length k5]
  replace hr5 := hr5.frame t5 (by simp)
  replace hp5 := hp5.frame t5 (by simp) (by simp) (by simp)
  have st5 := s5.trans t5.nil
  generalize o5.set w5.heap.size 51 = p5 at t5 b5 hr5 st5 hp5
  obtain ⟨z5, hz5⟩ : ∃ z5, w5.heap.size = z5 := ⟨_, rfl⟩
  rw [hz5] at b5
  have hC5 := hC _ _ st5
  obtain ⟨⟨d0, d1, d2, d3, d4, d5, d6⟩, d7, d8⟩ := hB.cells st5 (by decide)
  obtain ⟨⟨e0, e1, e2, e3, e4, e5⟩, -⟩ := b5.facts6
  go_wp2_with fail
  refine hC5.mono ?_
  rintro e w6 ⟨lv6, o6, m6, rfl, hr6, hp6, he6, s6⟩
  obtain ⟨a6, k6, rfl⟩ : ∃ a6 k6, lv6 = .slice a6 L.length k6 := by obtain ⟨a6, k6, e6, -⟩ := hr6; exact ⟨a6, k6, e6⟩
  have t6 : Step [] w6 o6 (w6.alloc (.cells #[.int .i64 f0, .int .i64 f1, .int .i64 f2, .int .i64 f3, .int .i64 f4, .slice a6 L.length k6] 30)) (o6.set w6.heap.size 51) := ((Step.refl _ _ _).alloc _).give (Nat.le_refl _) _
  have b6 := Blk.new w6 o6 51 30 #[.int .i64 f0, .int .i64 f1, .int .i64 f2, .int .i64 f3, .int .i64 f4, .slice a6 L.length k6]
  replace hr6 := hr6.frame t6 (by simp)
  replace hr5 := (hr5.frame s6 (by decide)).frame t6 (by simp)
  replace b5 := (b5.frame s6 (by decide)).frame t6 (by simp)
  replace hp6 := hp6.frame0 t6
  have st6 := s6.trans t6.nil
  generalize o6.set w6.heap.size 51 = p6 at t6 b6 hr6 hr5 b5 st6 hp6
  obtain ⟨⟨e0', e1', e2', e3', e4', e5'⟩, -⟩ := b5.facts6
  obtain ⟨⟨g0, g1, g2, g3, g4, g5⟩, -⟩ := b6.facts6
  have hone := one_l hr5 hr6 hL p6 f0 f1 f2 f3 f4
  clear d0 d1 d2 d3 d4 d5 d6 d7 d8 e0 e1 e2 e3 e4 e5 hC5
  go_wp2_with fail
  refine hone.mono ?_
  rintro e w7 ⟨rfl, s7⟩
  go_wp2_with fail
  go_ret
  have sAll := (((s1.weaken (S' := [10, 11, 30, 31]) (by simp)).trans (st5.weaken (by simp))).trans (st6.weaken (by simp))).trans (s7.weaken (by simp))
  exact ⟨rfl, p6, fl.take m5, fr.take m6, _, h.cut hN ((LT.pOver hp5 (fun p hp => h.po p (List.mem_of_mem_take hp)) h.small st6 (by simp)).frame s7 (by simp) (by simp) (by simp)) (hp6.frame0 s7) (he5.trans he6.symm), SOK.lit, sAll⟩

set_option maxRecDepth 100000 in
set_option maxHeartbeats 16000000 in
theorem does_catch_some (h : Both w o b c N fl fr) (hN : N + 1 ≤ 1000) (hy : 0 ≤ y ∧ y ≤ 255) (hkk : y % 9 = 8) (hn : -9223372036854775808 ≤ n ∧ n ≤ 9223372036854775807) (hl : Rd w o 0 1 (.slice al l.length cl) l.length (cellsOf l)) (hll : l.length ≤ 20) {t : Nat} (h5 : C5 (kfa (fl.map ab)) fl.length t) :
    Calls Try.prog 25 #[.pointer (some ⟨b, 0, none⟩), .pointer (some ⟨c, 0, none⟩), .agg #[.int .u8 y, .int .i64 k, .int .i64 a, .int .i64 d, .int .i64 x, .int .i64 z, .slice al l.length cl, .int .i64 n, .int .i64 X]] w fun e w' => e = .returned (.bool true) ∧ Done w o b c N w' := by
  have s1 : Step [] w o (w.alloc (.cells #[.int .u8 y, .int .i64 k, .int .i64 a, .int .i64 d, .int .i64 x, .int .i64 z, .slice al l.length cl, .int .i64 n, .int .i64 X] 59)) (o.set w.heap.size 50) := ((Step.refl _ _ _).alloc _).give (Nat.le_refl _) _
  have hbx := Blk.new w o 50 59 #[.int .u8 y, .int .i64 k, .int .i64 a, .int .i64 d, .int .i64 x, .int .i64 z, .slice al l.length cl, .int .i64 n, .int .i64 X]
  replace h := h.frame s1 (by simp)
  replace hl := hl.frame s1 (by simp)
  generalize o.set w.heap.size 50 = o1 at s1 h hbx hl
  obtain ⟨zb, hz⟩ : ∃ zb, w.heap.size = zb := ⟨_, rfl⟩
  rw [hz] at hbx
  obtain ⟨W1, hW1⟩ : ∃ W1, w.alloc (.cells #[.int .u8 y, .int .i64 k, .int .i64 a, .int .i64 d, .int .i64 x, .int .i64 z, .slice al l.length cl, .int .i64 n, .int .i64 X] 59) = W1 := ⟨_, rfl⟩
  rw [hW1] at s1 h hbx hl
  have hB : Box w W1 o o1 zb y k a d x z n X (.slice al l.length cl) := ⟨s1, hbx⟩
  obtain ⟨⟨c0, c1, c2, c3, c4, c5, c6⟩, c7, c8⟩ := hB.cells (Step.refl [] W1 o1) (by simp)
  rw [← hW1] at c0 c1 c2 c3 c4 c5 c6 c7 c8
  have HW1 := Lib.hid hW1
  have hlen := h.len
  have h128 := h.p.len
  clear hW1 hbx
  obtain ⟨T, hT⟩ : ∃ T, (fl.map ab)[t]?.getD Z0 = T := ⟨_, rfl⟩
  have hA := pcatch_some h.p h5
  have hC := fun (W : World) (oW : Owner) (st : Step [10] W1 o1 W oW) => rcatch_some (h.rOver st (by simp)) (t := t) (by rw [← h.e, ← hlen]; exact h5)
  rw [← h.e] at hC
  rw [hT] at hA hC
  have hLx : T.l.length ≤ 1000000 := by
    have htl := h5.1
    rw [← hT]
    simp only [List.getElem?_map, htl, List.getElem?_eq_getElem, Option.map_some, Option.getD_some]
    exact (h.p.2 _ (List.getElem_mem htl)).1
  obtain ⟨f0, f1, f2, f3, f4, L⟩ := T
  simp only [Fa.val, Fa.l] at hA hC hLx
  have hL := hLx
  have hVV : (true == true) = true := rfl
  clear hT hl
  go_enter Try.func25, Try.ntmps25
  go_wp2_with fail
  rw [HW1.out]
  refine hA.mono ?_
  rintro e w5 ⟨lv5, o5, rfl, hr5, -, hp5, s5⟩
  obtain ⟨a5, k5, rfl⟩ : ∃ a5 k5, lv5 = .slice a5 L.length k5 := by obtain ⟨a5, k5, e5, -⟩ := hr5; exact ⟨a5, k5, e5⟩
  have t5 : Step [] w5 o5 (w5.alloc (.cells #[.int .i64 f0, .int .i64 f1, .int .i64 f2, .int .i64 f3, .int .i64 f4, .slice a5 L.length k5] 30)) (o5.set w5.heap.size 51) := ((Step.refl _ _ _).alloc _).give (Nat.le_refl _) _
  have b5 := Blk.new w5 o5 51 30 #[.int .i64 f0, .int .i64 f1, .int .i64 f2, .int .i64 f3, .int .i64 f4, .slice a5 L.length k5]
  replace hr5 := hr5.frame t5 (by simp)
  replace hp5 := hp5.frame t5 (by simp) (by simp) (by simp)
  have st5 := s5.trans t5.nil
  generalize o5.set w5.heap.size 51 = p5 at t5 b5 hr5 st5 hp5
  obtain ⟨z5, hz5⟩ : ∃ z5, w5.heap.size = z5 := ⟨_, rfl⟩
  rw [hz5] at b5
  have hC5 := hC _ _ st5
  obtain ⟨⟨d0, d1, d2, d3, d4, d5, d6⟩, d7, d8⟩ := hB.cells st5 (by decide)
  obtain ⟨⟨e0, e1, e2, e3, e4, e5⟩, -⟩ := b5.facts6
  go_wp2_with fail
  refine hC5.mono ?_
  rintro e w6 ⟨lv6, o6, k9, rfl, hr6, hp6, s6⟩
  obtain ⟨a6, k6, rfl⟩ : ∃ a6 k6, lv6 = .slice a6 L.length k6 := by obtain ⟨a6, k6, e6, -⟩ := hr6; exact ⟨a6, k6, e6⟩
  have t6 : Step [] w6 o6 (w6.alloc (.cells #[.int .i64 f0, .int .i64 f1, .int .i64 f2, .int .i64 f3, .int .i64 f4, .slice a6 L.length k6] 30)) (o6.set w6.heap.size 51) := ((Step.refl _ _ _).alloc _).give (Nat.le_refl _) _
  have b6 := Blk.new w6 o6 51 30 #[.int .i64 f0, .int .i64 f1, .int .i64 f2, .int .i64 f3, .int .i64 f4, .slice a6 L.length k6]
  replace hr6 := hr6.frame t6 (by simp)
  replace hr5 := (hr5.frame s6 (by decide)).frame t6 (by simp)
  replace b5 := (b5.frame s6 (by decide)).frame t6 (by simp)
  replace hp6 := hp6.frame0 t6
  have st6 := s6.trans t6.nil
  generalize o6.set w6.heap.size 51 = p6 at t6 b6 hr6 hr5 b5 st6 hp6
  obtain ⟨⟨e0', e1', e2', e3', e4', e5'⟩, -⟩ := b5.facts6
  obtain ⟨⟨g0, g1, g2, g3, g4, g5⟩, -⟩ := b6.facts6
  have hone := one_l hr5 hr6 hL p6 f0 f1 f2 f3 f4
  clear d0 d1 d2 d3 d4 d5 d6 d7 d8 e0 e1 e2 e3 e4 e5 hC5
  go_wp2_with fail
  refine hone.mono ?_
  rintro e w7 ⟨rfl, s7⟩
  go_wp2_with fail
  go_ret
  have sAll := (((s1.weaken (S' := [10, 11, 30, 31]) (by simp)).trans (st5.weaken (by simp))).trans (st6.weaken (by simp))).trans (s7.weaken (by simp))
  exact ⟨rfl, p6, fl.take t, fr.take t, _, h.cut hN ((LT.pOver hp5 (fun p hp => h.po p (List.mem_of_mem_take hp)) h.small st6 (by simp)).frame s7 (by simp) (by simp) (by simp)) (hp6.frame0 s7) (by rw [List.map_take, List.map_take, h.e]), SOK.lit, sAll⟩

set_option maxRecDepth 100000 in
set_option maxHeartbeats 16000000 in
theorem does_catch_none (h : Both w o b c N fl fr) (hN : N + 1 ≤ 1000) (hy : 0 ≤ y ∧ y ≤ 255) (hkk : y % 9 = 8) (hn : -9223372036854775808 ≤ n ∧ n ≤ 9223372036854775807) (hl : Rd w o 0 1 (.slice al l.length cl) l.length (cellsOf l)) (hll : l.length ≤ 20) (h5 : ∀ u, u < fl.length → ¬ kfa (fl.map ab) u = 5) :
    Calls Try.prog 25 #[.pointer (some ⟨b, 0, none⟩), .pointer (some ⟨c, 0, none⟩), .agg #[.int .u8 y, .int .i64 k, .int .i64 a, .int .i64 d, .int .i64 x, .int .i64 z, .slice al l.length cl, .int .i64 n, .int .i64 X]] w fun e w' => e = .returned (.bool true) ∧ Done w o b c N w' := by
  have s1 : Step [] w o (w.alloc (.cells #[.int .u8 y, .int .i64 k, .int .i64 a, .int .i64 d, .int .i64 x, .int .i64 z, .slice al l.length cl, .int .i64 n, .int .i64 X] 59)) (o.set w.heap.size 50) := ((Step.refl _ _ _).alloc _).give (Nat.le_refl _) _
  have hbx := Blk.new w o 50 59 #[.int .u8 y, .int .i64 k, .int .i64 a, .int .i64 d, .int .i64 x, .int .i64 z, .slice al l.length cl, .int .i64 n, .int .i64 X]
  replace h := h.frame s1 (by simp)
  replace hl := hl.frame s1 (by simp)
  generalize o.set w.heap.size 50 = o1 at s1 h hbx hl
  obtain ⟨zb, hz⟩ : ∃ zb, w.heap.size = zb := ⟨_, rfl⟩
  rw [hz] at hbx
  obtain ⟨W1, hW1⟩ : ∃ W1, w.alloc (.cells #[.int .u8 y, .int .i64 k, .int .i64 a, .int .i64 d, .int .i64 x, .int .i64 z, .slice al l.length cl, .int .i64 n, .int .i64 X] 59) = W1 := ⟨_, rfl⟩
  rw [hW1] at s1 h hbx hl
  have hB : Box w W1 o o1 zb y k a d x z n X (.slice al l.length cl) := ⟨s1, hbx⟩
  obtain ⟨⟨c0, c1, c2, c3, c4, c5, c6⟩, c7, c8⟩ := hB.cells (Step.refl [] W1 o1) (by simp)
  rw [← hW1] at c0 c1 c2 c3 c4 c5 c6 c7 c8
  have HW1 := Lib.hid hW1
  have hlen := h.len
  have h128 := h.p.len
  clear hW1 hbx
  have hA : Calls Try.prog 21 #[.pointer (some ⟨b, 0, none⟩)] W1 fun e w' => ∃ lv' o', e = .returned (.tuple #[.agg #[.int .i64 0, .int .i64 0, .int .i64 0, .int .i64 0, .int .i64 0, lv'], .bool false]) ∧ Rd w' o' 40 1 lv' ([] : List Int).length (cellsOf []) ∧ Step [] W1 o1 w' o' := (pcatch_none h.p h5).mono fun e w' ⟨o', e1, s⟩ => ⟨.slice none 0 0, o', e1, LT.nilv _, s⟩
  have hC : ∀ (W : World) (oW : Owner), Step [] W1 o1 W oW → Calls Try.prog 38 #[.pointer (some ⟨c, 0, none⟩)] W fun e w' => ∃ lv' o', e = .returned (.tuple #[.agg #[.int .i64 0, .int .i64 0, .int .i64 0, .int .i64 0, .int .i64 0, lv'], .bool false]) ∧ Rd w' o' 41 1 lv' ([] : List Int).length (cellsOf []) ∧ Step [] W oW w' o' := fun W oW st => (rcatch_none (h.rOver st (by simp)) (by rw [← h.e, ← hlen]; exact h5)).mono fun e w' ⟨o', e1, s⟩ => ⟨.slice none 0 0, o', e1, LT.nilv _, s⟩
  obtain ⟨L, hLe⟩ : ∃ L : List Int, [] = L := ⟨_, rfl⟩
  rw [hLe] at hA hC
  have hL : L.length ≤ 1000000 := by rw [← hLe]; simp
  have hVV : (false == false) = true := rfl
  clear hLe hl
  go_enter Try.func25, Try.ntmps25
  go_wp2_with fail
  rw [HW1.out]
  refine hA.mono ?_
  rintro e w5 ⟨lv5, o5, rfl, hr5, s5⟩
  obtain ⟨a5, k5, rfl⟩ : ∃ a5 k5, lv5 = .slice a5 L.length k5 := by obtain ⟨a5, k5, e5, -⟩ := hr5; exact ⟨a5, k5, e5⟩
  have t5 : Step [] w5 o5 (w5.alloc (.cells #[.int .i64 0, .int .i64 0, .int .i64 0, .int .i64 0, .int .i64 0, .slice a5 L.length k5] 30)) (o5.set w5.heap.size 51) := ((Step.refl _ _ _).alloc _).give (Nat.le_refl _) _
  have b5 := Blk.new w5 o5 51 30 #[.int .i64 0, .int .i64 0, .int .i64 0, .int .i64 0, .int .i64 0, .slice a5 L.length k5]
  replace hr5 := hr5.frame t5 (by simp)
  have st5 := s5.trans t5.nil
  generalize o5.set w5.heap.size 51 = p5 at t5 b5 hr5 st5
  obtain ⟨z5, hz5⟩ : ∃ z5, w5.heap.size = z5 := ⟨_, rfl⟩
  rw [hz5] at b5
  have hC5 := hC _ _ st5
  obtain ⟨⟨d0, d1, d2, d3, d4, d5, d6⟩, d7, d8⟩ := hB.cells st5 (by decide)
  obtain ⟨⟨e0, e1, e2, e3, e4, e5⟩, -⟩ := b5.facts6
  go_wp2_with fail
  refine hC5.mono ?_
  rintro e w6 ⟨lv6, o6, rfl, hr6, s6⟩
  obtain ⟨a6, k6, rfl⟩ : ∃ a6 k6, lv6 = .slice a6 L.length k6 := by obtain ⟨a6, k6, e6, -⟩ := hr6; exact ⟨a6, k6, e6⟩
  have t6 : Step [] w6 o6 (w6.alloc (.cells #[.int .i64 0, .int .i64 0, .int .i64 0, .int .i64 0, .int .i64 0, .slice a6 L.length k6] 30)) (o6.set w6.heap.size 51) := ((Step.refl _ _ _).alloc _).give (Nat.le_refl _) _
  have b6 := Blk.new w6 o6 51 30 #[.int .i64 0, .int .i64 0, .int .i64 0, .int .i64 0, .int .i64 0, .slice a6 L.length k6]
  replace hr6 := hr6.frame t6 (by simp)
  replace hr5 := (hr5.frame s6 (by decide)).frame t6 (by simp)
  replace b5 := (b5.frame s6 (by decide)).frame t6 (by simp)
  have st6 := s6.trans t6.nil
  generalize o6.set w6.heap.size 51 = p6 at t6 b6 hr6 hr5 b5 st6
  obtain ⟨⟨e0', e1', e2', e3', e4', e5'⟩, -⟩ := b5.facts6
  obtain ⟨⟨g0, g1, g2, g3, g4, g5⟩, -⟩ := b6.facts6
  have hone := one_l hr5 hr6 hL p6 0 0 0 0 0
  clear d0 d1 d2 d3 d4 d5 d6 d7 d8 e0 e1 e2 e3 e4 e5 hC5
  go_wp2_with fail
  refine hone.mono ?_
  rintro e w7 ⟨rfl, s7⟩
  go_wp2_with fail
  go_ret
  have sAll := (((s1.weaken (S' := [10, 11, 30, 31]) (by simp)).trans (st5.weaken (by simp))).trans (st6.weaken (by simp))).trans (s7.weaken (by simp))
  exact ⟨rfl, p6, fl, fr, _, h.same hN (((h.p.frame st5 (by simp) (by simp) (by simp)).frame st6 (by simp) (by simp) (by simp)).frame s7 (by simp) (by simp) (by simp)) (((h.r.frame0 st5).frame0 st6).frame0 s7), SOK.lit, sAll⟩
end
end Go.Proofs.Ytegcpjheglcbcaa
