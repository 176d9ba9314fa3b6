/- Pairs in blocks, arguments as numbers. -/
import Derived.Test.YtglchagfclafgaaDoorDigL
namespace Go.Proofs.YtglchagfclafgaaDoor
open Go Go.RowKit
set_option linter.unusedSimpArgs false
set_option linter.unusedVariables false

theorem wf_cell {n : Int} (h : (Lit.int .i64 n).wf = true) : C64 n := by
  simpa [Lit.wf, IntKind.min, IntKind.max, IntKind.signed, IntKind.bits, C64] using h
theorem wf_u8 {n : Int} (h : (Lit.int .u8 n).wf = true) : 0 ≤ n ∧ n < 256 := by
  have := h
  simp [Lit.wf, IntKind.min, IntKind.max, IntKind.signed, IntKind.bits] at this
  omega

/-- The number that a pair is. -/
theorem pv_arg {lo hi : Int} (h1 : C64 lo) (h2 : C64 hi) : ∃ n, S128 n ∧ pv n = .agg #[.int .i64 lo, .int .i64 hi] ∧ n = hi * 18446744073709551616 + lo % 18446744073709551616 := by
  obtain ⟨a1, a2⟩ := h1
  obtain ⟨b1, b2⟩ := h2
  exact ⟨_, ⟨by omega, by omega⟩, pv_of (by unfold wrap64; omega) (by unfold wrap64; omega), rfl⟩

/-- Three pairs in three blocks. -/
def B3 (w : World) (z : Nat) (a b c : Int) : Prop := PBlk w z a ∧ PBlk w (z + 1) b ∧ PBlk w (z + 1 + 1) c
theorem B3.calm {w w' : World} {z : Nat} {a b c : Int} (h : B3 w z a b c) (s : Calm w w') : B3 w' z a b c := ⟨h.1.calm s, h.2.1.calm s, h.2.2.calm s⟩
theorem B3.facts {w : World} {z : Nat} {a b c al ah bl bh cl ch : Int} (h : B3 w z a b c) (ea : pv a = .agg #[.int .i64 al, .int .i64 ah]) (eb : pv b = .agg #[.int .i64 bl, .int .i64 bh]) (ec : pv c = .agg #[.int .i64 cl, .int .i64 ch]) :
    (w.cell? ⟨z, 0, none⟩ = some (.int .i64 al) ∧ w.cell? ⟨z, 1, none⟩ = some (.int .i64 ah)) ∧ (w.cell? ⟨z + 1, 0, none⟩ = some (.int .i64 bl) ∧ w.cell? ⟨z + 1, 1, none⟩ = some (.int .i64 bh)) ∧ (w.cell? ⟨z + 1 + 1, 0, none⟩ = some (.int .i64 cl) ∧ w.cell? ⟨z + 1 + 1, 1, none⟩ = some (.int .i64 ch)) :=
  ⟨⟨(h.1.cells ea).1, (h.1.cells ea).2.1⟩, ⟨(h.2.1.cells eb).1, (h.2.1.cells eb).2.1⟩, ⟨(h.2.2.cells ec).1, (h.2.2.cells ec).2.1⟩⟩
theorem B3.new (w : World) {a b c al ah bl bh cl ch : Int} (ea : pv a = .agg #[.int .i64 al, .int .i64 ah]) (eb : pv b = .agg #[.int .i64 bl, .int .i64 bh]) (ec : pv c = .agg #[.int .i64 cl, .int .i64 ch]) :
    B3 (((w.alloc (.cells #[.int .i64 al, .int .i64 ah] 59)).alloc (.cells #[.int .i64 bl, .int .i64 bh] 59)).alloc (.cells #[.int .i64 cl, .int .i64 ch] 59)) w.heap.size a b c := by
  have h1 := PBlk.new w ea
  have h2 := PBlk.new (w.alloc (.cells #[.int .i64 al, .int .i64 ah] 59)) eb
  have h3 := PBlk.new ((w.alloc (.cells #[.int .i64 al, .int .i64 ah] 59)).alloc (.cells #[.int .i64 bl, .int .i64 bh] 59)) ec
  simp only [World.size_alloc] at h2 h3
  exact ⟨h1.calm (((Calm.refl _).alloc _).alloc _), h2.calm ((Calm.refl _).alloc _), h3⟩

/-- Two pairs in two blocks. -/
def B2 (w : World) (z : Nat) (a b : Int) : Prop := PBlk w z a ∧ PBlk w (z + 1) b
theorem B2.calm {w w' : World} {z : Nat} {a b : Int} (h : B2 w z a b) (s : Calm w w') : B2 w' z a b := ⟨h.1.calm s, h.2.calm s⟩
theorem B2.facts {w : World} {z : Nat} {a b al ah bl bh : Int} (h : B2 w z a b) (ea : pv a = .agg #[.int .i64 al, .int .i64 ah]) (eb : pv b = .agg #[.int .i64 bl, .int .i64 bh]) :
    (w.cell? ⟨z, 0, none⟩ = some (.int .i64 al) ∧ w.cell? ⟨z, 1, none⟩ = some (.int .i64 ah)) ∧ (w.cell? ⟨z + 1, 0, none⟩ = some (.int .i64 bl) ∧ w.cell? ⟨z + 1, 1, none⟩ = some (.int .i64 bh)) :=
  ⟨⟨(h.1.cells ea).1, (h.1.cells ea).2.1⟩, ⟨(h.2.cells eb).1, (h.2.cells eb).2.1⟩⟩
theorem B2.new (w : World) {a b al ah bl bh : Int} (ea : pv a = .agg #[.int .i64 al, .int .i64 ah]) (eb : pv b = .agg #[.int .i64 bl, .int .i64 bh]) :
    B2 ((w.alloc (.cells #[.int .i64 al, .int .i64 ah] 59)).alloc (.cells #[.int .i64 bl, .int .i64 bh] 59)) w.heap.size a b := by
  have h1 := PBlk.new w ea
  have h2 := PBlk.new (w.alloc (.cells #[.int .i64 al, .int .i64 ah] 59)) eb
  simp only [World.size_alloc] at h2
  exact ⟨h1.calm ((Calm.refl _).alloc _), h2⟩
theorem B2.set1 {w : World} {z : Nat} {a b c lo hi : Int} (h : B2 w z a b) (e : pv c = .agg #[.int .i64 lo, .int .i64 hi]) : B2 ((w.setCell ⟨z, 0, none⟩ (.int .i64 lo)).setCell ⟨z, 1, none⟩ (.int .i64 hi)) z c b := ⟨h.1.set e, h.2.other2 (by omega) _ _⟩
theorem B2.set2 {w : World} {z : Nat} {a b c lo hi : Int} (h : B2 w z a b) (e : pv c = .agg #[.int .i64 lo, .int .i64 hi]) : B2 ((w.setCell ⟨z + 1, 0, none⟩ (.int .i64 lo)).setCell ⟨z + 1, 1, none⟩ (.int .i64 hi)) z a c := ⟨h.1.other2 (by omega) _ _, h.2.set e⟩
theorem B2.fz {w : World} {z : Nat} {a b al ah bl bh : Int} (h : B2 w z a b) (ea : pv a = .agg #[.int .i64 al, .int .i64 ah]) (eb : pv b = .agg #[.int .i64 bl, .int .i64 bh]) :
    (w.frozen? ⟨z, 0, none⟩ = false ∧ w.frozen? ⟨z, 1, none⟩ = false) ∧ (w.frozen? ⟨z + 1, 0, none⟩ = false ∧ w.frozen? ⟨z + 1, 1, none⟩ = false) :=
  ⟨⟨(h.1.cells ea).2.2.1, (h.1.cells ea).2.2.2⟩, ⟨(h.2.cells eb).2.2.1, (h.2.cells eb).2.2.2⟩⟩
end Go.Proofs.YtglchagfclafgaaDoor
