/- The functions of the pair layer that only add and shift: their contracts. -/
import Derived.Test.YtfeeikhcdphcpaaBits
import Derived.Laws.Externs
import Derived.Shelf.Spec.BitsCarry
import Derived.KernelRfl
namespace Go.Proofs.Ytfeeikhcdphcpaa
open Go Go.RowKit
set_option linter.unusedSimpArgs false
set_option linter.unusedVariables false

/-- What was there stays as it was, whoever owns it. -/
def Calm (w w' : World) : Prop := ∀ o, Step [] w o w' o

theorem Calm.refl (w : World) : Calm w w := fun o => Step.refl _ _ _
theorem Calm.trans {w w' w'' : World} (h : Calm w w') (k : Calm w' w'') : Calm w w'' := fun o => (h o).trans (k o)
theorem Calm.alloc {w w' : World} (h : Calm w w') (ob : Obj) : Calm w (w'.alloc ob) := fun o => (h o).alloc ob
theorem Calm.drew {w w' : World} (h : Calm w w') : Calm w w'.drew := fun o => (h o).drew
theorem Calm.drewN {w w' : World} (h : Calm w w') (n : Nat) : Calm w (w'.drewN n) := fun o => (h o).drewN n
theorem Calm.setCell {w w' : World} (h : Calm w w') {a : Addr} (ha : w.heap.size ≤ a.block) (v : Value) : Calm w (w'.setCell a v) := fun o => (h o).setCell (fun hb => absurd hb (by omega)) v
theorem Calm.size {w w' : World} (h : Calm w w') : w.heap.size ≤ w'.heap.size := (h fun _ => 0).size
theorem Calm.cell {w w' : World} (h : Calm w w') {a : Addr} (ha : a.block < w.heap.size) : w'.cell? a = w.cell? a := (h fun _ => 0).cell ha (by simp)
theorem Calm.frozen {w w' : World} (h : Calm w w') {a : Addr} (ha : a.block < w.heap.size) : w'.frozen? a = w.frozen? a := World.frozen?_of_block (w := w) ((h fun _ => 0).blk _ ha (by simp))
theorem Calm.below {w w' : World} (h : Calm w w') : Below w.heap.size w w' := ((Base.start w).step (h _) (by simp)).below

theorem made_ok (hi lo : Int) (w : World) : Calls Try.prog 49 #[.int .u64 hi, .int .u64 lo] w fun e w' => e = .returned (.agg #[.int .i64 (wrap64 lo), .int .i64 (wrap64 hi)]) ∧ ∃ c, w' = w.alloc (.cells c 24) := by
  go_enter Try.func49, Try.ntmps49
  go_wp2
  simp [bodyPost, results, Try.results49, go_sem]
  exact ⟨_, rfl⟩

theorem of_ok (a : Int) (ha : C64 a) (w : World) : Calls Try.prog 38 #[.int .i64 a] w fun e w' => e = .returned (pv a) ∧ ∃ c, w' = w.alloc (.cells c 24) := by
  obtain ⟨h1, h2⟩ := ha
  rw [pv_of (lo := a) (hi := a / 9223372036854775808) (by unfold wrap64; omega) (by unfold wrap64; omega)]
  go_enter Try.func38, Try.ntmps38
  go_wp2
  simp [bodyPost, results, Try.results38, go_sem]
  exact ⟨_, rfl⟩

theorem add64_run (x y c : Int) (hx : 0 ≤ x) (hy : 0 ≤ y) (hc0 : 0 ≤ c) (hc : c ≤ 1) (w : World) : (callFunc 51 #[.int .u64 x, .int .u64 y, .int .u64 c]).run Try.prog w =
    .ok (.value (.tuple #[.int .u64 ((x + y + c) % 18446744073709551616), .int .u64 ((x + y + c) / 18446744073709551616)])) w := by
  rw [run_callFunc_extern Try.func51 (by kernel_rfl) (by kernel_rfl) (by kernel_rfl) (e := add64Entry) (by kernel_rfl), run_add64 x y c hx hy hc0 hc]
  rfl

/-- Of converted cells, with a carry of 0, and with one. -/
theorem add64_0 (x y : Int) (w : World) : (callFunc 51 #[.int .u64 (IntKind.u64.wrap x), .int .u64 (IntKind.u64.wrap y), .int .u64 0]).run Try.prog w =
    .ok (.value (.tuple #[.int .u64 ((x % 18446744073709551616 + y % 18446744073709551616) % 18446744073709551616), .int .u64 ((x % 18446744073709551616 + y % 18446744073709551616) / 18446744073709551616)])) w := by
  rw [IntKind.wrap_u64, IntKind.wrap_u64]
  simpa using add64_run (x % 18446744073709551616) (y % 18446744073709551616) 0 (by omega) (by omega) (Int.le_refl 0) (by decide) w
theorem add64_c (x y c : Int) (hc0 : 0 ≤ c) (hc : c ≤ 1) (w : World) : (callFunc 51 #[.int .u64 (IntKind.u64.wrap x), .int .u64 (IntKind.u64.wrap y), .int .u64 c]).run Try.prog w =
    .ok (.value (.tuple #[.int .u64 ((x % 18446744073709551616 + y % 18446744073709551616 + c) % 18446744073709551616), .int .u64 ((x % 18446744073709551616 + y % 18446744073709551616 + c) / 18446744073709551616)])) w := by
  rw [IntKind.wrap_u64, IntKind.wrap_u64]
  exact add64_run _ _ _ (by omega) (by omega) hc0 hc w

/-- The borrow, under a name. -/
def bor (x y : Int) : Int := if x < y then 1 else 0
theorem bor_01 (x y : Int) : 0 ≤ bor x y ∧ bor x y ≤ 1 := by unfold bor; split <;> decide

theorem sub64_run (x y b : Int) (hx : 0 ≤ x) (hy : 0 ≤ y) (hy' : y < 18446744073709551616) (hb0 : 0 ≤ b) (hb : b ≤ 1) (w : World) : (callFunc 48 #[.int .u64 x, .int .u64 y, .int .u64 b]).run Try.prog w =
    .ok (.value (.tuple #[.int .u64 ((x - y - b) % 18446744073709551616), .int .u64 (bor x (y + b))])) w := by
  obtain ⟨x, rfl⟩ := Int.eq_ofNat_of_zero_le hx
  obtain ⟨y, rfl⟩ := Int.eq_ofNat_of_zero_le hy
  obtain ⟨b, rfl⟩ := Int.eq_ofNat_of_zero_le hb0
  have e1 : (((x + 18446744073709551616 - y - b) % 18446744073709551616 : Nat) : Int) = ((x : Int) - y - b) % 18446744073709551616 := by omega
  have e2 : ((if x < y + b then 1 else 0 : Nat) : Int) = bor (x : Int) (y + b) := by unfold bor; split <;> split <;> omega
  rw [← e1, ← e2]
  rw [run_callFunc_extern Try.func48 (by kernel_rfl) (by kernel_rfl) (by kernel_rfl) (e := sub64Entry) (by kernel_rfl), run_sub64 x y b (by omega)]
  rfl
/-- From 0: a converted cell, with no borrow, and with one. -/
theorem sub64_0 (y : Int) (w : World) : (callFunc 48 #[.int .u64 0, .int .u64 (IntKind.u64.wrap y), .int .u64 0]).run Try.prog w =
    .ok (.value (.tuple #[.int .u64 ((0 - y % 18446744073709551616) % 18446744073709551616), .int .u64 (bor 0 (y % 18446744073709551616))])) w := by
  rw [IntKind.wrap_u64]
  simpa using sub64_run 0 (y % 18446744073709551616) 0 (by omega) (by omega) (by omega) (Int.le_refl 0) (by decide) w
theorem sub64_c (y u v : Int) (w : World) : (callFunc 48 #[.int .u64 0, .int .u64 (IntKind.u64.wrap y), .int .u64 (bor u v)]).run Try.prog w =
    .ok (.value (.tuple #[.int .u64 ((0 - y % 18446744073709551616 - bor u v) % 18446744073709551616), .int .u64 (bor 0 (y % 18446744073709551616 + bor u v))])) w := by
  rw [IntKind.wrap_u64]
  exact sub64_run 0 _ _ (by omega) (by omega) (by omega) (bor_01 _ _).1 (bor_01 _ _).2 w

theorem add_ok (a b : Int) (w : World) : Calls Try.prog 37 #[pv a, pv b] w fun e w' => e = .returned (pv (a + b)) ∧ ∃ c1 c2 c3 c4, w' = (((w.alloc (.cells c1 24)).alloc (.cells c2 24)).alloc (.cells c3 24)).alloc (.cells c4 24) := by
  obtain ⟨al, ah, ka, ⟨a1, a2⟩, ⟨a3, a4⟩, ea, qa⟩ := pv_split a
  obtain ⟨bl, bh, kb, ⟨b1, b2⟩, ⟨b3, b4⟩, eb, qb⟩ := pv_split b
  rw [ea, eb]
  have r : pv (a + b) = .agg #[.int .i64 (wrap64 ((al % 18446744073709551616 + bl % 18446744073709551616) % 18446744073709551616)), .int .i64 (wrap64 ((ah % 18446744073709551616 + bh % 18446744073709551616 + (al % 18446744073709551616 + bl % 18446744073709551616) / 18446744073709551616) % 18446744073709551616))] := by
    refine pv_of ?_ ?_
    · unfold wrap64; omega
    · unfold wrap64; omega
  rw [r]
  clear ea eb qa qb r
  have k0 : 0 ≤ (al % 18446744073709551616 + bl % 18446744073709551616) / 18446744073709551616 := by omega
  have k1 : (al % 18446744073709551616 + bl % 18446744073709551616) / 18446744073709551616 ≤ 1 := by omega
  go_enter Try.func37, Try.ntmps37
  go_wp2_with (first | simp only [add64_0 al bl] | simp only [add64_c ah bh _ k0 k1] | (go_at_call 49; refine (made_ok _ _ _).mono ?_; rintro e w1 ⟨rfl, c, rfl⟩))
  simp [bodyPost, results, Try.results37, go_sem]
  exact ⟨_, _, _, _, rfl⟩

theorem neg_ok (a : Int) (w : World) : Calls Try.prog 34 #[pv a] w fun e w' => e = .returned (pv (-a)) ∧ ∃ c1 c2 c3, w' = ((w.alloc (.cells c1 24)).alloc (.cells c2 24)).alloc (.cells c3 24) := by
  obtain ⟨al, ah, ka, ⟨a1, a2⟩, ⟨a3, a4⟩, ea, qa⟩ := pv_split a
  rw [ea]
  have r : pv (-a) = .agg #[.int .i64 (wrap64 ((0 - al % 18446744073709551616) % 18446744073709551616)), .int .i64 (wrap64 ((0 - ah % 18446744073709551616 - bor 0 (al % 18446744073709551616)) % 18446744073709551616))] := by
    refine pv_of ?_ ?_
    · unfold wrap64; omega
    · unfold wrap64 bor; split <;> omega
  rw [r]
  clear ea qa r
  go_enter Try.func34, Try.ntmps34
  go_wp2_with (first | simp only [sub64_0 al] | simp only [sub64_c] | (go_at_call 49; refine (made_ok _ _ _).mono ?_; rintro e w1 ⟨rfl, c, rfl⟩))
  simp [bodyPost, results, Try.results34, go_sem]
  exact ⟨_, _, _, rfl⟩
end Go.Proofs.Ytfeeikhcdphcpaa
