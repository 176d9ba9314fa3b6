/- The other acts, done to frames and to the document's (printed by gen_doesd.py). -/
import Derived.Test.YtegcpjheglcbcaaDoC14
namespace Go.Proofs.Ytegcpjheglcbcaa
open Go Go.RowKit Go.Shelf
set_option linter.unusedSimpArgs false
set_option linter.unusedVariables false

/-- The document's Step, of frames as they are meant. -/
def stepA (s : List Fa) (X : Int) : List Fa := match s.getLast? with | none => s | some f => if f.1 = 3 then (if endF f.2.2.2.1 f.2.2.2.2.1 X = true then s.dropLast else s.dropLast ++ [(3, f.2.1, f.2.2.1, wrap64 (f.2.2.2.1 + X), f.2.2.2.2.1, f.2.2.2.2.2)]) else s

section
variable {w : World} {o : Owner} {b c N : Nat} {fl fr : List (Fr × List Int × Nat)} (y k a d x z n X : Int) {al : Option Addr} {cl : Nat} {l : List Int}

set_option maxRecDepth 100000 in
set_option maxHeartbeats 16000000 in
theorem does_cut (h : Both w o b c N fl fr) (hN : N + 1 ≤ 1000) (hy : 0 ≤ y ∧ y ≤ 255) (hkk : y % 9 = 3) (hn : -9223372036854775808 ≤ n ∧ n ≤ 9223372036854775807) (hl : Rd w o 0 1 (.slice al l.length cl) l.length (cellsOf l)) (hll : l.length ≤ 20) :
    Calls Try.prog 25 #[.pointer (some ⟨b, 0, none⟩), .pointer (some ⟨c, 0, none⟩), .agg #[.int .u8 y, .int .i64 k, .int .i64 a, .int .i64 d, .int .i64 x, .int .i64 z, .slice al l.length cl, .int .i64 n, .int .i64 X]] w fun e w' => e = .returned (.bool true) ∧ Done w o b c N w' := by
  have s1 : Step [] w o (w.alloc (.cells #[.int .u8 y, .int .i64 k, .int .i64 a, .int .i64 d, .int .i64 x, .int .i64 z, .slice al l.length cl, .int .i64 n, .int .i64 X] 59)) (o.set w.heap.size 50) := ((Step.refl _ _ _).alloc _).give (Nat.le_refl _) _
  have hbx := Blk.new w o 50 59 #[.int .u8 y, .int .i64 k, .int .i64 a, .int .i64 d, .int .i64 x, .int .i64 z, .slice al l.length cl, .int .i64 n, .int .i64 X]
  replace h := h.frame s1 (by simp)
  replace hl := hl.frame s1 (by simp)
  generalize o.set w.heap.size 50 = o1 at s1 h hbx hl
  obtain ⟨zb, hz⟩ : ∃ zb, w.heap.size = zb := ⟨_, rfl⟩
  rw [hz] at hbx
  obtain ⟨W1, hW1⟩ : ∃ W1, w.alloc (.cells #[.int .u8 y, .int .i64 k, .int .i64 a, .int .i64 d, .int .i64 x, .int .i64 z, .slice al l.length cl, .int .i64 n, .int .i64 X] 59) = W1 := ⟨_, rfl⟩
  rw [hW1] at s1 h hbx hl
  have hB : Box w W1 o o1 zb y k a d x z n X (.slice al l.length cl) := ⟨s1, hbx⟩
  obtain ⟨⟨c0, c1, c2, c3, c4, c5, c6⟩, c7, c8⟩ := hB.cells (Step.refl [] W1 o1) (by simp)
  rw [← hW1] at c0 c1 c2 c3 c4 c5 c6 c7 c8
  have HW1 := Lib.hid hW1
  have hlen := h.len
  have h128 := h.p.len
  clear hW1 hbx
  have hA := pcut_ok h.p n
  have hC := fun (W : World) (oW : Owner) (st : Step [10] W1 o1 W oW) => rcut_ok (h.rOver st (by simp)) n
  clear hl
  go_enter Try.func25, Try.ntmps25
  go_wp2_with fail
  rw [HW1.out]
  refine hA.mono ?_
  rintro e w5 ⟨rfl, hp5, s5⟩
  obtain ⟨⟨d0, d1, d2, d3, d4, d5, d6⟩, d7, d8⟩ := hB.cells s5 (by decide)
  have hC5 := hC _ _ s5
  go_wp2_with fail
  refine hC5.mono ?_
  rintro e w6 ⟨rfl, hp6, s6⟩
  go_wp2_with fail
  go_ret
  exact ⟨rfl, o1, fl.take n.toNat, fr.take n.toNat, _, h.cut hN (LT.pOver hp5 (fun p hp => h.po p (List.mem_of_mem_take hp)) h.small s6 (by simp)) hp6 (by rw [List.map_take, List.map_take, h.e]), SOK.lit, ((s1.weaken (S' := [10, 11, 30, 31]) (by simp)).trans (s5.weaken (by simp))).trans (s6.weaken (by simp))⟩

set_option maxRecDepth 100000 in
set_option maxHeartbeats 16000000 in
theorem does_index (h : Both w o b c N fl fr) (hN : N + 1 ≤ 1000) (hy : 0 ≤ y ∧ y ≤ 255) (hkk : y % 9 = 4) (hn : -9223372036854775808 ≤ n ∧ n ≤ 9223372036854775807) (hl : Rd w o 0 1 (.slice al l.length cl) l.length (cellsOf l)) (hll : l.length ≤ 20) :
    Calls Try.prog 25 #[.pointer (some ⟨b, 0, none⟩), .pointer (some ⟨c, 0, none⟩), .agg #[.int .u8 y, .int .i64 k, .int .i64 a, .int .i64 d, .int .i64 x, .int .i64 z, .slice al l.length cl, .int .i64 n, .int .i64 X]] w fun e w' => e = .returned (.bool true) ∧ Done w o b c N w' := by
  have s1 : Step [] w o (w.alloc (.cells #[.int .u8 y, .int .i64 k, .int .i64 a, .int .i64 d, .int .i64 x, .int .i64 z, .slice al l.length cl, .int .i64 n, .int .i64 X] 59)) (o.set w.heap.size 50) := ((Step.refl _ _ _).alloc _).give (Nat.le_refl _) _
  have hbx := Blk.new w o 50 59 #[.int .u8 y, .int .i64 k, .int .i64 a, .int .i64 d, .int .i64 x, .int .i64 z, .slice al l.length cl, .int .i64 n, .int .i64 X]
  replace h := h.frame s1 (by simp)
  replace hl := hl.frame s1 (by simp)
  generalize o.set w.heap.size 50 = o1 at s1 h hbx hl
  obtain ⟨zb, hz⟩ : ∃ zb, w.heap.size = zb := ⟨_, rfl⟩
  rw [hz] at hbx
  obtain ⟨W1, hW1⟩ : ∃ W1, w.alloc (.cells #[.int .u8 y, .int .i64 k, .int .i64 a, .int .i64 d, .int .i64 x, .int .i64 z, .slice al l.length cl, .int .i64 n, .int .i64 X] 59) = W1 := ⟨_, rfl⟩
  rw [hW1] at s1 h hbx hl
  have hB : Box w W1 o o1 zb y k a d x z n X (.slice al l.length cl) := ⟨s1, hbx⟩
  obtain ⟨⟨c0, c1, c2, c3, c4, c5, c6⟩, c7, c8⟩ := hB.cells (Step.refl [] W1 o1) (by simp)
  rw [← hW1] at c0 c1 c2 c3 c4 c5 c6 c7 c8
  have HW1 := Lib.hid hW1
  have hlen := h.len
  have h128 := h.p.len
  clear hW1 hbx
  obtain ⟨V, E, hA, hC⟩ : ∃ V E : Int, (Calls Try.prog 14 #[.pointer (some ⟨b, 0, none⟩), .int .i64 n] W1 fun e w' => True ∧ e = .returned (.tuple #[.int .i64 V, .int .i64 E]) ∧ Step [] W1 o1 w' o1) ∧ ∀ W oW, Step [] W1 o1 W oW → Calls Try.prog 34 #[.pointer (some ⟨c, 0, none⟩), .int .i64 n] W fun e w' => True ∧ e = .returned (.tuple #[.int .i64 V, .int .i64 E]) ∧ Step [] W oW w' oW := by
    have hA := index_ok h.p.1 n hn
    have hC := fun (W : World) (oW : Owner) (st : Step [] W1 o1 W oW) => rindex_ok (h.rOver st (by simp)) n
    rw [show (fl.map Prod.fst).length = fr.length by simpa using hlen, kfs_kfa, h.e, xfs_eq h.e] at hA
    simp only [kfs_kfa] at hC
    by_cases hi : idxOk (kfa (fr.map ab)) fr.length n
    · refine ⟨xfs (fr.map Prod.fst) (fr.length - 1 - n.toNat), 0, hA.mono fun e w' hh => ?_, fun W oW st => (hC W oW st).mono fun e w' hh => ?_⟩
      · obtain ⟨⟨-, h1⟩ | ⟨h1, -⟩, s⟩ := hh
        · exact ⟨trivial, h1, s⟩
        · exact absurd hi h1
      · obtain ⟨⟨-, h1⟩ | ⟨h1, -⟩, rfl⟩ := hh
        · exact ⟨trivial, h1, Step.refl _ _ _⟩
        · exact absurd hi h1
    · refine ⟨0, -26, hA.mono fun e w' hh => ?_, fun W oW st => (hC W oW st).mono fun e w' hh => ?_⟩
      · obtain ⟨⟨h1, -⟩ | ⟨-, h1⟩, s⟩ := hh
        · exact absurd h1 hi
        · exact ⟨trivial, h1, s⟩
      · obtain ⟨⟨h1, -⟩ | ⟨-, h1⟩, rfl⟩ := hh
        · exact absurd h1 hi
        · exact ⟨trivial, h1, Step.refl _ _ _⟩
  have hV : (V == V) = true := by simp
  have hE : (E == E) = true := by simp
  clear hl
  go_enter Try.func25, Try.ntmps25
  go_wp2_with fail
  rw [HW1.out]
  refine hA.mono ?_
  rintro e w5 ⟨-, rfl, s5⟩
  obtain ⟨⟨d0, d1, d2, d3, d4, d5, d6⟩, d7, d8⟩ := hB.cells s5 (by decide)
  have hC5 := hC _ _ s5
  go_wp2_with fail
  refine hC5.mono ?_
  rintro e w6 ⟨-, rfl, s6⟩
  go_wp2_with fail
  go_ret
  exact ⟨rfl, o1, fl, fr, _, h.same hN ((h.p.frame s5 (by simp) (by simp) (by simp)).frame s6 (by simp) (by simp) (by simp)) ((h.r.frame0 s5).frame0 s6), SOK.lit, ((s1.weaken (S' := [10, 11, 30, 31]) (by simp)).trans (s5.weaken (by simp))).trans (s6.weaken (by simp))⟩

set_option maxRecDepth 100000 in
set_option maxHeartbeats 16000000 in
theorem does_local (h : Both w o b c N fl fr) (hN : N + 1 ≤ 1000) (hy : 0 ≤ y ∧ y ≤ 255) (hkk : y % 9 = 6) (hn : -9223372036854775808 ≤ n ∧ n ≤ 9223372036854775807) (hl : Rd w o 0 1 (.slice al l.length cl) l.length (cellsOf l)) (hll : l.length ≤ 20) :
    Calls Try.prog 25 #[.pointer (some ⟨b, 0, none⟩), .pointer (some ⟨c, 0, none⟩), .agg #[.int .u8 y, .int .i64 k, .int .i64 a, .int .i64 d, .int .i64 x, .int .i64 z, .slice al l.length cl, .int .i64 n, .int .i64 X]] w fun e w' => e = .returned (.bool true) ∧ Done w o b c N w' := by
  have s1 : Step [] w o (w.alloc (.cells #[.int .u8 y, .int .i64 k, .int .i64 a, .int .i64 d, .int .i64 x, .int .i64 z, .slice al l.length cl, .int .i64 n, .int .i64 X] 59)) (o.set w.heap.size 50) := ((Step.refl _ _ _).alloc _).give (Nat.le_refl _) _
  have hbx := Blk.new w o 50 59 #[.int .u8 y, .int .i64 k, .int .i64 a, .int .i64 d, .int .i64 x, .int .i64 z, .slice al l.length cl, .int .i64 n, .int .i64 X]
  replace h := h.frame s1 (by simp)
  replace hl := hl.frame s1 (by simp)
  generalize o.set w.heap.size 50 = o1 at s1 h hbx hl
  obtain ⟨zb, hz⟩ : ∃ zb, w.heap.size = zb := ⟨_, rfl⟩
  rw [hz] at hbx
  obtain ⟨W1, hW1⟩ : ∃ W1, w.alloc (.cells #[.int .u8 y, .int .i64 k, .int .i64 a, .int .i64 d, .int .i64 x, .int .i64 z, .slice al l.length cl, .int .i64 n, .int .i64 X] 59) = W1 := ⟨_, rfl⟩
  rw [hW1] at s1 h hbx hl
  have hB : Box w W1 o o1 zb y k a d x z n X (.slice al l.length cl) := ⟨s1, hbx⟩
  obtain ⟨⟨c0, c1, c2, c3, c4, c5, c6⟩, c7, c8⟩ := hB.cells (Step.refl [] W1 o1) (by simp)
  rw [← hW1] at c0 c1 c2 c3 c4 c5 c6 c7 c8
  have HW1 := Lib.hid hW1
  have hlen := h.len
  have h128 := h.p.len
  clear hW1 hbx
  obtain ⟨V, E, hA, hC⟩ : ∃ V E : Int, (Calls Try.prog 22 #[.pointer (some ⟨b, 0, none⟩), .int .i64 n] W1 fun e w' => True ∧ e = .returned (.tuple #[.int .i64 V, .int .i64 E]) ∧ Step [] W1 o1 w' o1) ∧ ∀ W oW, Step [] W1 o1 W oW → Calls Try.prog 36 #[.pointer (some ⟨c, 0, none⟩), .int .i64 n] W fun e w' => True ∧ e = .returned (.tuple #[.int .i64 V, .int .i64 E]) ∧ Step [] W oW w' oW := by
    rcases lastL fl with hno | ⟨lo, t, hi, hfl, hL, hh⟩
    · have hno' := noL h.e.symm hno
      refine ⟨0, -6, (local_none h.p hno n hn).mono fun e w' hh => ⟨trivial, hh.2, hh.1⟩, fun W oW st => (rlocal_none (h.rOver st (by simp)) (rloc_none hno') n).mono fun e w' hh => ?_⟩
      obtain ⟨h1, rfl⟩ := hh
      exact ⟨trivial, h1, Step.refl _ _ _⟩
    · obtain ⟨lo', t', hi', hfr, et, elo, ehi⟩ := both_mid h.e hfl
      have hh' := noL ehi hh
      have etk : t'.1.k = t.1.k := congrArg (fun f : Fa => f.1) et
      have etl : t'.2.1 = t.2.1 := congrArg (fun f : Fa => f.2.2.2.2.2) et
      have hA := local_t h.p hfl hL hh n hn
      by_cases h4 : t.1.k = 4
      · have hC := fun (W : World) (oW : Owner) (st : Step [] W1 o1 W oW) => rlocal_t (h.rOver st (by simp)) hfr (etk.trans h4) hh' n
        obtain ⟨tf, tl, tw⟩ := t'
        dsimp only at etl
        subst etl
        by_cases hin : 0 ≤ n ∧ n < t.2.1.length
        · refine ⟨t.2.1[n.toNat]'(by omega), 0, hA.mono fun e w' hh => ?_, fun W oW st => (hC W oW st).mono fun e w' hh => ?_⟩
          · obtain ⟨s, ⟨_, h1⟩ | ⟨h1, -⟩⟩ := hh
            · exact ⟨trivial, h1, s⟩
            · exact absurd ⟨h4, hin⟩ h1
          · obtain ⟨rfl, ⟨_, h1⟩ | ⟨h1, -⟩⟩ := hh
            · exact ⟨trivial, h1, Step.refl _ _ _⟩
            · exact absurd hin h1
        · refine ⟨0, -6, hA.mono fun e w' hh => ?_, fun W oW st => (hC W oW st).mono fun e w' hh => ?_⟩
          · obtain ⟨s, ⟨h1, -⟩ | ⟨-, h1⟩⟩ := hh
            · exact absurd h1.2 hin
            · exact ⟨trivial, h1, s⟩
          · obtain ⟨rfl, ⟨h1, -⟩ | ⟨-, h1⟩⟩ := hh
            · exact absurd h1 hin
            · exact ⟨trivial, h1, Step.refl _ _ _⟩
      · have hloc := rloc_some hfr (by rw [etk]; exact hL) hh'
        rw [if_neg (by rw [etk]; exact h4)] at hloc
        refine ⟨0, -6, hA.mono fun e w' hh => ?_, fun W oW st => (rlocal_none (h.rOver st (by simp)) hloc n).mono fun e w' hh => ?_⟩
        · obtain ⟨s, ⟨h1, -⟩ | ⟨-, h1⟩⟩ := hh
          · exact absurd h1.1 h4
          · exact ⟨trivial, h1, s⟩
        · obtain ⟨h1, rfl⟩ := hh
          exact ⟨trivial, h1, Step.refl _ _ _⟩
  have hV : (V == V) = true := by simp
  have hE : (E == E) = true := by simp
  clear hl
  go_enter Try.func25, Try.ntmps25
  go_wp2_with fail
  rw [HW1.out]
  refine hA.mono ?_
  rintro e w5 ⟨-, rfl, s5⟩
  obtain ⟨⟨d0, d1, d2, d3, d4, d5, d6⟩, d7, d8⟩ := hB.cells s5 (by decide)
  have hC5 := hC _ _ s5
  go_wp2_with fail
  refine hC5.mono ?_
  rintro e w6 ⟨-, rfl, s6⟩
  go_wp2_with fail
  go_ret
  exact ⟨rfl, o1, fl, fr, _, h.same hN ((h.p.frame s5 (by simp) (by simp) (by simp)).frame s6 (by simp) (by simp) (by simp)) ((h.r.frame0 s5).frame0 s6), SOK.lit, ((s1.weaken (S' := [10, 11, 30, 31]) (by simp)).trans (s5.weaken (by simp))).trans (s6.weaken (by simp))⟩

set_option maxRecDepth 100000 in
set_option maxHeartbeats 16000000 in
theorem does_step (h : Both w o b c N fl fr) (hN : N + 1 ≤ 1000) (hy : 0 ≤ y ∧ y ≤ 255) (hkk : y % 9 = 5) (hn : -9223372036854775808 ≤ n ∧ n ≤ 9223372036854775807) (hl : Rd w o 0 1 (.slice al l.length cl) l.length (cellsOf l)) (hll : l.length ≤ 20) :
    Calls Try.prog 25 #[.pointer (some ⟨b, 0, none⟩), .pointer (some ⟨c, 0, none⟩), .agg #[.int .u8 y, .int .i64 k, .int .i64 a, .int .i64 d, .int .i64 x, .int .i64 z, .slice al l.length cl, .int .i64 n, .int .i64 X]] w fun e w' => e = .returned (.bool true) ∧ Done w o b c N w' := by
  have s1 : Step [] w o (w.alloc (.cells #[.int .u8 y, .int .i64 k, .int .i64 a, .int .i64 d, .int .i64 x, .int .i64 z, .slice al l.length cl, .int .i64 n, .int .i64 X] 59)) (o.set w.heap.size 50) := ((Step.refl _ _ _).alloc _).give (Nat.le_refl _) _
  have hbx := Blk.new w o 50 59 #[.int .u8 y, .int .i64 k, .int .i64 a, .int .i64 d, .int .i64 x, .int .i64 z, .slice al l.length cl, .int .i64 n, .int .i64 X]
  replace h := h.frame s1 (by simp)
  replace hl := hl.frame s1 (by simp)
  generalize o.set w.heap.size 50 = o1 at s1 h hbx hl
  obtain ⟨zb, hz⟩ : ∃ zb, w.heap.size = zb := ⟨_, rfl⟩
  rw [hz] at hbx
  obtain ⟨W1, hW1⟩ : ∃ W1, w.alloc (.cells #[.int .u8 y, .int .i64 k, .int .i64 a, .int .i64 d, .int .i64 x, .int .i64 z, .slice al l.length cl, .int .i64 n, .int .i64 X] 59) = W1 := ⟨_, rfl⟩
  rw [hW1] at s1 h hbx hl
  have hB : Box w W1 o o1 zb y k a d x z n X (.slice al l.length cl) := ⟨s1, hbx⟩
  obtain ⟨⟨c0, c1, c2, c3, c4, c5, c6⟩, c7, c8⟩ := hB.cells (Step.refl [] W1 o1) (by simp)
  rw [← hW1] at c0 c1 c2 c3 c4 c5 c6 c7 c8
  have HW1 := Lib.hid hW1
  have hlen := h.len
  have h128 := h.p.len
  clear hW1 hbx
  obtain ⟨V, E, Q, hQ, hA, hC⟩ : ∃ (V : Bool) (E : Int) (Q : List (Fr × List Int × Nat) → List (Fr × List Int × Nat) → Prop), (∀ fl' fr', Q fl' [] → Q [] fr' → Both w o b c N fl fr → True) ∧ (Calls Try.prog 15 #[.pointer (some ⟨b, 0, none⟩), .int .i64 X] W1 fun e w' => ∃ o' fl', e = .returned (.tuple #[.bool V, .int .i64 E]) ∧ Step [10, 11] W1 o1 w' o' ∧ LT w' o' 10 b fl' ∧ (∀ p ∈ fl', 1000 ≤ p.2.2 ∧ p.2.2 < 1000 + N) ∧ (fl'.map fun p => p.2.2).Nodup ∧ fl'.map ab = stepA (fl.map ab) X) ∧ ∀ W oW, Step [10, 11] W1 o1 W oW → Calls Try.prog 35 #[.pointer (some ⟨c, 0, none⟩), .int .i64 X] W fun e w' => ∃ o' fr', e = .returned (.tuple #[.bool V, .int .i64 E]) ∧ Step [30, 31] W oW w' o' ∧ RT w' o' 30 c fr' ∧ (∀ p ∈ fr', 5000 ≤ p.2.2 ∧ p.2.2 < 5000 + (N + 1)) ∧ fr'.map ab = stepA (fl.map ab) X := by
    rcases last_cases fl with hfl | ⟨fl0, qk, qa, qc, qx, qy, qv, ql, qt, hfl⟩
    · have hfr : fr = [] := by have := hlen; rw [hfl] at this; exact List.eq_nil_of_length_eq_zero this.symm
      refine ⟨false, -26, fun _ _ => True, fun _ _ _ _ _ => trivial, (step_miss h.p.1 (by rw [hfl]; simp) X).mono fun e w' hh => ?_, fun W oW st => ?_⟩
      · obtain ⟨h1, s⟩ := hh
        refine ⟨o1, fl, h1, s.nil, h.p.frame s (by simp) (by simp) (by simp), h.po, h.pn, ?_⟩
        rw [hfl]; rfl
      · have hr := h.rOver st (by simp)
        rw [hfr] at hr
        refine (rstep_none hr X).mono fun e w' hh => ?_
        obtain ⟨h1, s⟩ := hh
        refine ⟨oW, [], h1, s.nil, hr.frame0 s, by simp, ?_⟩
        rw [hfl]; rfl
    · obtain ⟨fr0, qv', qt', hfr, e0⟩ := both_last h.e hfl
      have hsA : stepA (fl.map ab) X = if qk = 3 then (if endF qx qy X = true then fl0.map ab else fl0.map ab ++ [(3, qa, qc, wrap64 (qx + X), qy, ql)]) else fl.map ab := by
        rw [hfl, List.map_append, List.map_singleton]
        simp [stepA, ab]
      by_cases h3 : qk = 3
      · subst h3
        rw [if_pos rfl] at hsA
        have hA := step_t (by rw [← hfl]; exact h.p) X
        have hsub0 : ∀ p ∈ fl0, p ∈ fl := fun p hp => by rw [hfl]; exact List.mem_append_left _ hp
        have hnd0 : (fl0.map fun p => p.2.2).Nodup := by
          have := h.pn
          rw [hfl, List.map_append] at this
          exact (List.nodup_append.1 this).1
        have hrsub : ∀ p ∈ fr0, p ∈ fr := fun p hp => by rw [hfr]; exact List.mem_append_left _ hp
        by_cases he : endF qx qy X = true
        · rw [if_pos he] at hsA hA
          refine ⟨true, 0, fun _ _ => True, fun _ _ _ _ _ => trivial, hA.mono fun e w' hh => ?_, fun W oW st => ?_⟩
          · obtain ⟨o', h1, hL, s⟩ := hh
            rw [he] at h1
            exact ⟨o', fl0, h1, s, hL, fun p hp => h.po p (hsub0 p hp), hnd0, hsA.symm⟩
          · have hr := h.rOver st (by simp)
            rw [hfr] at hr
            refine (rstep_end hr (by decide) X he).mono fun e w' hh => ?_
            obtain ⟨o', h1, hR, s⟩ := hh
            exact ⟨o', fr0, h1, s.weaken (by simp), hR, fun p hp => by have := h.ro p (hrsub p hp); omega, by rw [hsA, e0]⟩
        · rw [if_neg he] at hsA hA
          have hef : endF qx qy X = false := by simpa using he
          refine ⟨false, 0, fun _ _ => True, fun _ _ _ _ _ => trivial, hA.mono fun e w' hh => ?_, fun W oW st => ?_⟩
          · obtain ⟨o', h1, hL, s⟩ := hh
            rw [hef] at h1
            refine ⟨o', _, h1, s, hL, fun p hp => ?_, ?_, ?_⟩
            · rcases List.mem_append.1 hp with hp | hp
              · exact h.po p (hsub0 p hp)
              · rw [List.mem_singleton] at hp
                subst hp
                exact h.po (⟨3, qa, qc, qx, qy, qv⟩, ql, qt) (by rw [hfl]; simp)
            · have := h.pn
              rw [hfl] at this
              simpa using this
            · rw [hsA, List.map_append, List.map_singleton]; rfl
          · have hr := h.rOver st (by simp)
            rw [hfr] at hr
            refine (rstep_on hr (by decide) (5000 + N) (by omega) X hef).mono fun e w' hh => ?_
            obtain ⟨o', lv', h1, hR, s⟩ := hh
            refine ⟨o', _, h1, s, hR, fun p hp => ?_, ?_⟩
            · rcases List.mem_append.1 hp with hp | hp
              · have := h.ro p (hrsub p hp); omega
              · rw [List.mem_singleton] at hp
                subst hp
                dsimp only
                omega
            · rw [hsA, List.map_append, List.map_singleton, e0]; rfl
      · rw [if_neg h3] at hsA
        refine ⟨false, -26, fun _ _ => True, fun _ _ _ _ _ => trivial, (step_miss h.p.1 (by rw [hfl, List.map_append]; simp; exact h3) X).mono fun e w' hh => ?_, fun W oW st => ?_⟩
        · obtain ⟨h1, s⟩ := hh
          exact ⟨o1, fl, h1, s.nil, h.p.frame s (by simp) (by simp) (by simp), h.po, h.pn, hsA.symm⟩
        · have hr := h.rOver st (by simp)
          have hr2 := hr
          rw [hfr] at hr2
          refine (rstep_miss hr2 (by decide) h3 X).mono fun e w' hh => ?_
          obtain ⟨o', h1, s⟩ := hh
          exact ⟨o', fr, h1, s.nil, hr.frame0 s, fun p hp => by have := h.ro p hp; omega, by rw [hsA, h.e]⟩
  have hV : (V == V) = true := by simp
  have hE : (E == E) = true := by simp
  clear hl hQ
  go_enter Try.func25, Try.ntmps25
  go_wp2_with fail
  rw [HW1.out]
  refine hA.mono ?_
  rintro e w5 ⟨o5, fl5, rfl, s5, hp5, hpo5, hpn5, he5⟩
  obtain ⟨⟨d0, d1, d2, d3, d4, d5, d6⟩, d7, d8⟩ := hB.cells s5 (by decide)
  have hC5 := hC _ _ s5
  go_wp2_with fail
  refine hC5.mono ?_
  rintro e w6 ⟨o6, fr6, rfl, s6, hp6, hro6, he6⟩
  go_wp2_with fail
  go_ret
  exact ⟨rfl, o6, fl5, fr6, _, ⟨LT.pOver hp5 hpo5 h.small s6 (by simp), hp6, he5.trans he6.symm, fun p hp => by have := hpo5 p hp; omega, hpn5, hro6, hN⟩, SOK.lit, ((s1.weaken (S' := [10, 11, 30, 31]) (by simp)).trans (s5.weaken (by simp))).trans (s6.weaken (by simp))⟩
end
end Go.Proofs.Ytegcpjheglcbcaa
