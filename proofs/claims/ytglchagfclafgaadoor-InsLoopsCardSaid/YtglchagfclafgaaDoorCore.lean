/- Ghost owners of blocks, steps of a world, rows that are owned and rows that are read: the words in which the contracts of this seat speak. Plain lemmas over any program. -/
import Derived.Test.YtglchagfclafgaaDoorChecked
import Derived.WalkKit
import Derived.Deep.QuietTactic
import Derived.BigQuiet
import Derived.WalkLawsBesides
import Derived.WalkSpells
import Derived.Deep.LoopGhost
import Derived.Lib.Hide
namespace Go.Proofs.YtglchagfclafgaaDoor
open Go Go.RowKit
set_option linter.unusedSimpArgs false

abbrev Owner := Nat → Nat

section
variable {P : Program} (w : World)
@[simp] theorem run_max_two (ts : Array TypeId) (t : TypeId) (k k' : IntKind) (x y : Int) : (Builtin.max_ ts t #[.int k x, .int k' y]).run P w = .ok (.int k (max x y)) w := by
  rw [run_max_int2]
  congr 2
  simp only [Int.max_def]
  split <;> split <;> omega
@[simp] theorem run_min_two (ts : Array TypeId) (t : TypeId) (k k' : IntKind) (x y : Int) : (Builtin.min_ ts t #[.int k x, .int k' y]).run P w = .ok (.int k (min x y)) w := by
  rw [run_min_int2]
  congr 2
  simp only [Int.min_def]
  split <;> split <;> omega
end

/-- Where s[l:..] begins. -/
def adr (a : Option Addr) (l m s : Nat) : Option Addr := if m = l then a else a.map (·.add (l * s))
section
variable {P : Program} (w : World) (t : TypeId) (a : Option Addr) (len cap : Nat) (ht : P.underlying t = some (.slice (P.elem t)))
include ht
@[simp] theorem run_adr_lh (kl kh : IntKind) (l h : Int) (h0 : 0 ≤ l) (h1 : l ≤ h) (h2 : h ≤ cap) :
    (Instr.slice t (.slice a len cap) (some (.int kl l)) (some (.int kh h)) none).run P w =
      ((sizeOf (P.elem t)).run P w).andThen fun s w => .ok (.slice (adr a l.toNat cap s) (h.toNat - l.toNat) (cap - l.toNat)) w := run_slice_lh w t a len cap ht kl kh l h h0 h1 h2
@[simp] theorem run_adr_h (kh : IntKind) (h : Int) (h0 : 0 ≤ h) (h2 : h ≤ cap) :
    (Instr.slice t (.slice a len cap) none (some (.int kh h)) none).run P w =
      ((sizeOf (P.elem t)).run P w).andThen fun s w => .ok (.slice (adr a 0 cap s) (h.toNat - 0) (cap - 0)) w := run_slice_h w t a len cap ht kh h h0 h2
@[simp] theorem run_adr_l (kl : IntKind) (l : Int) (h0 : 0 ≤ l) (h1 : l ≤ len) :
    (Instr.slice t (.slice a len cap) (some (.int kl l)) none none).run P w =
      ((sizeOf (P.elem t)).run P w).andThen fun s w => .ok (.slice (adr a l.toNat cap s) (len - l.toNat) (cap - l.toNat)) w := run_slice_l w t a len cap ht kl l h0 h1
@[go_sem] theorem run_adr_any (lo hi mx : Option Value) :
    (Instr.slice t (.slice a len cap) lo hi mx).run P w =
      ((Instr.sliceBounds true len cap lo hi mx).run P w).andThen fun b w => ((sizeOf (P.elem t)).run P w).andThen fun s w => .ok (.slice (adr a b.1 b.2.2 s) (b.2.1 - b.1) (b.2.2 - b.1)) w := run_slice_any w t a len cap ht lo hi mx
@[simp] theorem run_adr_all :
    (Instr.slice t (.slice a len cap) none none none).run P w =
      ((sizeOf (P.elem t)).run P w).andThen fun s w => .ok (.slice (adr a 0 cap s) (len - 0) (cap - 0)) w := run_slice_all w t a len cap ht
end
@[simp, go_sem] theorem adr_zero (a : Option Addr) (m s : Nat) : adr a 0 m s = a := by
  unfold adr
  split
  · rfl
  · cases a <;> simp [Addr.add]

/-- Blocks that are not owned by one of S stay as they are; owners of what was there stay. -/
structure Step (S : List Nat) (w : World) (o : Owner) (w' : World) (o' : Owner) : Prop where
  os : w'.os = w.os
  tape : w'.tape = w.tape
  output : w'.output = w.output
  size : w.heap.size ≤ w'.heap.size
  own : ∀ b, b < w.heap.size → o' b = o b
  blk : ∀ b, b < w.heap.size → o b ∉ S → w'.heap[b]? = w.heap[b]?

theorem Step.refl (S : List Nat) (w : World) (o : Owner) : Step S w o w o := ⟨rfl, rfl, rfl, Nat.le_refl _, fun _ _ => rfl, fun _ _ _ => rfl⟩

theorem Step.trans {S : List Nat} {w w' w'' : World} {o o' o'' : Owner} (h : Step S w o w' o') (k : Step S w' o' w'' o'') : Step S w o w'' o'' :=
  ⟨k.os.trans h.os, k.tape.trans h.tape, k.output.trans h.output, Nat.le_trans h.size k.size,
   fun b hb => (k.own b (Nat.lt_of_lt_of_le hb h.size)).trans (h.own b hb),
   fun b hb hn => (k.blk b (Nat.lt_of_lt_of_le hb h.size) (by rw [h.own b hb]; exact hn)).trans (h.blk b hb hn)⟩

theorem Step.weaken {S S' : List Nat} {w w' : World} {o o' : Owner} (h : Step S w o w' o') (hs : ∀ i, i ∈ S → i ∈ S') : Step S' w o w' o' :=
  ⟨h.os, h.tape, h.output, h.size, h.own, fun b hb hn => h.blk b hb fun hi => hn (hs _ hi)⟩

theorem Step.nil {S : List Nat} {w w' : World} {o o' : Owner} (h : Step [] w o w' o') : Step S w o w' o' := h.weaken (by simp)

theorem Step.drew {S : List Nat} {w w' : World} {o o' : Owner} (h : Step S w o w' o') : Step S w o w'.drew o' := ⟨h.os, h.tape, h.output, h.size, h.own, h.blk⟩

theorem Step.drewN {S : List Nat} {w w' : World} {o o' : Owner} (h : Step S w o w' o') (n : Nat) : Step S w o (w'.drewN n) o' := ⟨h.os, h.tape, h.output, h.size, h.own, h.blk⟩

theorem Step.alloc {S : List Nat} {w w' : World} {o o' : Owner} (h : Step S w o w' o') (ob : Obj) : Step S w o (w'.alloc ob) o' :=
  h.trans ⟨rfl, rfl, rfl, by simp, fun _ _ => rfl, fun b hb _ => Below.heap_alloc _ _ _ hb⟩

/-- Block b gets the owner j. -/
def Owner.set (o : Owner) (b j : Nat) : Owner := fun k => if k = b then j else o k

theorem Owner.set_self (o : Owner) (b j : Nat) : o.set b j b = j := by simp [Owner.set]
theorem Owner.set_ne (o : Owner) {b k : Nat} (j : Nat) (h : k ≠ b) : o.set b j k = o k := by simp [Owner.set, h]

theorem Step.give {S : List Nat} {w w' : World} {o o' : Owner} (h : Step S w o w' o') {b : Nat} (hb : w.heap.size ≤ b) (j : Nat) : Step S w o w' (o'.set b j) :=
  ⟨h.os, h.tape, h.output, h.size, fun k hk => (Owner.set_ne _ _ (by omega)).trans (h.own k hk), h.blk⟩

theorem Step.setCell {S : List Nat} {w w' : World} {o o' : Owner} (h : Step S w o w' o') {a : Addr} (ha : a.block < w.heap.size → o a.block ∈ S) (v : Value) : Step S w o (w'.setCell a v) o' :=
  ⟨h.os, h.tape, h.output, by simpa using h.size, h.own, fun b hb hn => by
    rw [Below.heap_setCell _ _ _ _ (by intro e; subst e; exact hn (ha hb))]; exact h.blk b hb hn⟩

theorem Step.cell {S : List Nat} {w w' : World} {o o' : Owner} (h : Step S w o w' o') {a : Addr} (hb : a.block < w.heap.size) (hn : o a.block ∉ S) : w'.cell? a = w.cell? a := World.cell?_of_block (h.blk _ hb hn)

/-- An object that is no row, written over. -/
def wset (w : World) (r : Nat) (ob : Obj) : World := { w with heap := w.heap.setIfInBounds r ob }

theorem wset_same {w : World} {r : Nat} (h : r < w.heap.size) (ob : Obj) : (wset w r ob).heap[r]? = some ob := by simp [wset, h]
theorem wset_other (w : World) {r k : Nat} (h : k ≠ r) (ob : Obj) : (wset w r ob).heap[k]? = w.heap[k]? := by
  simp only [wset]
  rw [Array.getElem?_setIfInBounds_ne (by omega)]

theorem Step.wset {S : List Nat} {w w' : World} {o o' : Owner} (h : Step S w o w' o') {r : Nat} (hr : r < w.heap.size → o r ∈ S) (ob : Obj) : Step S w o (wset w' r ob) o' :=
  ⟨h.os, h.tape, h.output, by simpa [Proofs.YtglchagfclafgaaDoor.wset] using h.size, h.own, fun b hb hn => by
    rw [wset_other _ (by intro e; subst e; exact hn (hr hb))]; exact h.blk b hb hn⟩

theorem Step.obj {S : List Nat} {w w' : World} {o o' : Owner} (h : Step S w o w' o') {r : Nat} {ob : Obj} (hr : w.heap[r]? = some ob) (hn : o r ∉ S) : w'.heap[r]? = some ob :=
  (h.blk r (Array.getElem?_eq_some_iff.1 hr).1 hn).trans hr

/-- Nothing that was there at the start has changed: all that is owned is new. -/
structure Base (w0 w : World) (o : Owner) : Prop where
  below : Below w0.heap.size w0 w
  own : ∀ b, b < w0.heap.size → o b = 0

theorem Base.start (w : World) : Base w w (fun _ => 0) := ⟨Below.refl _ _, fun _ _ => rfl⟩

theorem Base.step {S : List Nat} {w0 w w' : World} {o o' : Owner} (h : Base w0 w o) (st : Step S w o w' o') (hS : 0 ∉ S) : Base w0 w' o' :=
  ⟨⟨st.os.trans h.below.os, st.tape.trans h.below.tape, st.output.trans h.below.output, Nat.le_trans h.below.size st.size,
    fun k hk => (st.blk k (Nat.lt_of_lt_of_le hk h.below.size) (by rw [h.own k hk]; exact hS)).trans (h.below.block k hk)⟩,
   fun b hb => (st.own b (Nat.lt_of_lt_of_le hb h.below.size)).trans (h.own b hb)⟩

/-- Block b of owner i holds the cells cs of type T, none frozen. -/
structure Blk (w : World) (o : Owner) (i b : Nat) (T : TypeId) (cs : Array Value) : Prop where
  heap : w.heap[b]? = some (.cells cs T (0, 0))
  own : o b = i

theorem Blk.lt {w : World} {o : Owner} {i b : Nat} {T : TypeId} {cs : Array Value} (h : Blk w o i b T cs) : b < w.heap.size := (Array.getElem?_eq_some_iff.1 h.heap).1

theorem Blk.frame {S : List Nat} {w w' : World} {o o' : Owner} {i b : Nat} {T : TypeId} {cs : Array Value} (h : Blk w o i b T cs) (st : Step S w o w' o') (hi : i ∉ S) : Blk w' o' i b T cs :=
  ⟨(st.blk b h.lt (by rw [h.own]; exact hi)).trans h.heap, (st.own b h.lt).trans h.own⟩

theorem Blk.cell {w : World} {o : Owner} {i b : Nat} {T : TypeId} {cs : Array Value} (h : Blk w o i b T cs) (k : Nat) : w.cell? ⟨b, k, none⟩ = cs[k]? := by
  simp [World.cell?, h.heap]

theorem Blk.cell0 {w : World} {o : Owner} {i b : Nat} {T : TypeId} {v : Value} (h : Blk w o i b T #[v]) : w.cell? ⟨b, 0, none⟩ = some v := by
  simp [World.cell?, h.heap]

theorem Blk.frozen {w : World} {o : Owner} {i b : Nat} {T : TypeId} {cs : Array Value} (h : Blk w o i b T cs) (k : Nat) : w.frozen? ⟨b, k, none⟩ = false := by
  simp [World.frozen?, h.heap]

theorem Blk.new (w : World) (o : Owner) (i : Nat) (T : TypeId) (cs : Array Value) : Blk (w.alloc (.cells cs T)) (o.set w.heap.size i) i w.heap.size T cs :=
  ⟨heap_alloc_new _ _, Owner.set_self _ _ _⟩

theorem heap_setCell_same {w : World} {b : Nat} {cs : Array Value} {T : TypeId} {fz : Nat × Nat} (h : w.heap[b]? = some (.cells cs T fz)) (k : Nat) (v : Value) :
    (w.setCell ⟨b, k, none⟩ v).heap[b]? = some (.cells (cs.setIfInBounds k v) T fz) := by
  simp [World.setCell, Array.getElem?_modify, h]

theorem Blk.set {w : World} {o : Owner} {i b : Nat} {T : TypeId} {cs : Array Value} (h : Blk w o i b T cs) (k : Nat) (v : Value) : Blk (w.setCell ⟨b, k, none⟩ v) o i b T (cs.setIfInBounds k v) :=
  ⟨heap_setCell_same h.heap k v, h.own⟩

/-- A slice's value v of n elements (of type E, size cells each) that reads as the cells xs; its row, if it has one, is the whole of a block of owner i. -/
def Row (w : World) (o : Owner) (i : Nat) (E size : Nat) (v : Value) (n : Nat) (xs : List Value) : Prop :=
  xs.length = n * size ∧
  ((∃ ao, v = .slice ao 0 0 ∧ n = 0) ∨
   ∃ g cap cur, v = .slice (some ⟨g, 0, none⟩) n cap ∧ o g = i ∧ w.heap[g]? = some (.cells cur E (0, 0)) ∧ n ≤ cap ∧ cap ≤ maxLen ∧ cur.size = cap * size ∧ cur.toList.take (n * size) = xs)

/-- A slice's value v of n elements (size cells each) that reads as the cells xs, which lie in a block of owner i. -/
def Rd (w : World) (o : Owner) (i : Nat) (size : Nat) (v : Value) (n : Nat) (xs : List Value) : Prop :=
  ∃ ao cap, v = .slice ao n cap ∧ n ≤ cap ∧ cap ≤ maxLen ∧ xs.length = n * size ∧
    (0 < n → ∃ b off, ao = some ⟨b, off, none⟩ ∧ b < w.heap.size ∧ o b = i ∧ ∀ j u, xs[j]? = some u → w.cell? ⟨b, off + j, none⟩ = some u)

theorem Row.nil (w : World) (o : Owner) (i E size : Nat) (ao : Option Addr) : Row w o i E size (.slice ao 0 0) 0 [] := ⟨by simp, .inl ⟨ao, rfl, rfl⟩⟩

theorem Row.frame {S : List Nat} {w w' : World} {o o' : Owner} {i E size : Nat} {v : Value} {n : Nat} {xs : List Value} (h : Row w o i E size v n xs) (st : Step S w o w' o') (hi : i ∉ S) : Row w' o' i E size v n xs := by
  obtain ⟨h1, h2⟩ := h
  refine ⟨h1, ?_⟩
  rcases h2 with h2 | ⟨g, cap, cur, hv, hg, hh, r⟩
  · exact .inl h2
  · have hlt := (Array.getElem?_eq_some_iff.1 hh).1
    exact .inr ⟨g, cap, cur, hv, (st.own g hlt).trans hg, (st.blk g hlt (by rw [hg]; exact hi)).trans hh, r⟩

theorem Rd.frame {S : List Nat} {w w' : World} {o o' : Owner} {i size : Nat} {v : Value} {n : Nat} {xs : List Value} (h : Rd w o i size v n xs) (st : Step S w o w' o') (hi : i ∉ S) : Rd w' o' i size v n xs := by
  obtain ⟨ao, cap, hv, h1, h2, h3, h4⟩ := h
  refine ⟨ao, cap, hv, h1, h2, h3, fun hn => ?_⟩
  obtain ⟨b, off, ha, hb, hob, hc⟩ := h4 hn
  exact ⟨b, off, ha, Nat.lt_of_lt_of_le hb st.size, (st.own b hb).trans hob, fun j u hj => (st.cell (a := ⟨b, off + j, none⟩) hb (by show o b ∉ S; rw [hob]; exact hi)).trans (hc j u hj)⟩

theorem Row.rd {w : World} {o : Owner} {i E size : Nat} {v : Value} {n : Nat} {xs : List Value} (h : Row w o i E size v n xs) : Rd w o i size v n xs := by
  obtain ⟨h1, ⟨ao, rfl, rfl⟩ | ⟨g, cap, cur, rfl, hg, hh, hn, hc, hs, ht⟩⟩ := h
  · exact ⟨ao, 0, rfl, Nat.le_refl _, by simp [maxLen], h1, fun h => by omega⟩
  · refine ⟨_, cap, rfl, hn, hc, h1, fun _ => ⟨g, 0, rfl, (Array.getElem?_eq_some_iff.1 hh).1, hg, fun j u hj => ?_⟩⟩
    rw [Nat.zero_add]
    simp only [World.cell?, hh]
    rw [← ht, List.getElem?_take] at hj
    split at hj
    · simpa using hj
    · cases hj

theorem Rd.len {w : World} {o : Owner} {i size : Nat} {v : Value} {n : Nat} {xs : List Value} (h : Rd w o i size v n xs) : xs.length = n * size := by
  obtain ⟨_, _, _, _, _, h, _⟩ := h; exact h

theorem Rd.le {w : World} {o : Owner} {i size : Nat} {v : Value} {n : Nat} {xs : List Value} (h : Rd w o i size v n xs) : n ≤ maxLen := by
  obtain ⟨_, _, _, h1, h2, _⟩ := h; omega

theorem Row.len {w : World} {o : Owner} {i E size : Nat} {v : Value} {n : Nat} {xs : List Value} (h : Row w o i E size v n xs) : xs.length = n * size := h.1

theorem Row.owner {w : World} {o : Owner} {i E size : Nat} {v : Value} {n : Nat} {xs : List Value} (h : Row w o i E size v n xs) {o' : Owner} {i' : Nat} (ho : ∀ g, g < w.heap.size → o g = i → o' g = i') : Row w o' i' E size v n xs := by
  obtain ⟨h1, h2 | ⟨g, cap, cur, hv, hg, hh, r⟩⟩ := h
  · exact ⟨h1, .inl h2⟩
  · exact ⟨h1, .inr ⟨g, cap, cur, hv, ho g (Array.getElem?_eq_some_iff.1 hh).1 hg, hh, r⟩⟩

theorem Rd.nil (w : World) (o : Owner) (i size : Nat) (ao : Option Addr) (cap : Nat) (hc : cap ≤ maxLen) : Rd w o i size (.slice ao 0 cap) 0 [] :=
  ⟨ao, cap, rfl, Nat.zero_le _, hc, by simp, fun h => by omega⟩

/-- What is owned stays owned behind a store into a block of another type. -/
theorem Row.setOther {w : World} {o o2 : Owner} {i i2 E size : Nat} {v : Value} {n : Nat} {xs : List Value} (h : Row w o i E size v n xs) {b : Nat} {T : TypeId} {cs : Array Value} (hb : Blk w o2 i2 b T cs) (hT : T ≠ E) (k : Nat) (u : Value) :
    Row (w.setCell ⟨b, k, none⟩ u) o i E size v n xs := by
  obtain ⟨h1, h2 | ⟨g, cap, cur, hv, hg, hh, r⟩⟩ := h
  · exact ⟨h1, .inl h2⟩
  · refine ⟨h1, .inr ⟨g, cap, cur, hv, hg, ?_, r⟩⟩
    rw [Below.heap_setCell _ _ _ _ (by intro e; subst e; have hh' := hb.heap; rw [hh] at hh'; simp only [Option.some.injEq, Obj.cells.injEq] at hh'; exact hT hh'.2.1.symm)]
    exact hh

/-- The first k elements of what is owned are owned. -/
theorem Row.cut {w : World} {o : Owner} {i E size : Nat} {ao : Option Addr} {n cap : Nat} {xs : List Value} (h : Row w o i E size (.slice ao n cap) n xs) {k : Nat} (hk : k ≤ n) : Row w o i E size (.slice ao k cap) k (xs.take (k * size)) := by
  obtain ⟨h1, ⟨a1, hv, rfl⟩ | ⟨g, cap1, cur, hv, hg, hh, hn, hc, hs, ht⟩⟩ := h
  · obtain rfl : k = 0 := by omega
    simp only [Value.slice.injEq] at hv
    obtain ⟨rfl, _, rfl⟩ := hv
    exact ⟨by simp, .inl ⟨_, rfl, rfl⟩⟩
  · simp only [Value.slice.injEq, true_and] at hv
    obtain ⟨rfl, rfl⟩ := hv
    have hle : k * size ≤ n * size := Nat.mul_le_mul_right _ hk
    refine ⟨by rw [List.length_take, h1]; omega, .inr ⟨g, cap, cur, rfl, hg, hh, by omega, hc, hs, ?_⟩⟩
    rw [← ht, List.take_take, Nat.min_eq_left hle]

/-- A new block of n elements, as a slice that is read. -/
theorem Rd.fresh (w : World) (o : Owner) (size E : Nat) (cs : Array Value) (n : Nat) (hn : n ≤ maxLen) (h : cs.size = n * size) :
    Rd (w.alloc (.cells cs E)) o (o w.heap.size) size (.slice (some ⟨w.heap.size, 0, none⟩) n n) n cs.toList :=
  ⟨_, n, rfl, Nat.le_refl _, hn, by simpa using h, fun _ => ⟨w.heap.size, 0, rfl, by simp, rfl, fun j u hj => by simpa using hj⟩⟩

/-- What a slice of a slice reads as. -/
theorem Rd.slice {w : World} {o : Owner} {i size : Nat} {ao : Option Addr} {n cap : Nat} {xs : List Value} (h : Rd w o i size (.slice ao n cap) n xs) {l k : Nat} (hl : l ≤ k) (hk : k ≤ n) :
    Rd w o i size (.slice (adr ao l cap size) (k - l) (cap - l)) (k - l) ((xs.drop (l * size)).take ((k - l) * size)) := by
  obtain ⟨ao1, cap1, hv, h1, h2, h3, h4⟩ := h
  simp only [Value.slice.injEq, true_and] at hv
  obtain ⟨rfl, rfl⟩ := hv
  have hkl : (k - l) * size ≤ n * size - l * size := by rw [← Nat.sub_mul]; exact Nat.mul_le_mul_right _ (by omega)
  refine ⟨_, _, rfl, by omega, by omega, ?_, fun hn => ?_⟩
  · rw [List.length_take, List.length_drop, h3]; omega
  · obtain ⟨b, off, rfl, hb, ho, hc⟩ := h4 (by omega)
    refine ⟨b, off + l * size, ?_, hb, ho, fun j u hj => ?_⟩
    · rw [adr, if_neg (by omega)]; simp [Addr.add_lit]
    · rw [List.getElem?_take] at hj
      split at hj
      · rw [List.getElem?_drop] at hj
        have := hc _ _ hj
        rwa [← Nat.add_assoc] at this
      · cases hj

section
variable {P : Program}

theorem run_first {w : World} {o : Owner} {i size : Nat} {v : Value} {n : Nat} {xs : List Value} (h : Rd w o i size v n xs) : (Builtin.firstCells size n v).run P w = .ok xs.toArray w := by
  obtain ⟨ao, cap, rfl, h1, h2, h3, h4⟩ := h
  by_cases hn : 0 < n
  · obtain ⟨b, off, rfl, hb, ho, hc⟩ := h4 hn
    exact run_firstCells_some w size n ⟨b, off, none⟩ n cap xs h3 (fun j u hj => by rw [Addr.add_lit]; exact hc j u hj)
  · obtain rfl : n = 0 := by omega
    obtain rfl : xs = [] := List.eq_nil_of_length_eq_zero (by simpa using h3)
    cases ao with
    | none => simp [Builtin.firstCells]
    | some a => exact run_firstCells_some w size 0 a 0 cap [] (by simp) (by simp)

/-- append where there is no room: a new row, of whatever owner. -/
theorem run_app_grow {w : World} {o : Owner} {i size bytes : Nat} {ao : Option Addr} {cap n : Nat} {xs : List Value} (hold : Rd w o i size (.slice ao n cap) n xs)
    {o2 : Owner} {k : Nat} {x : Value} {m : Nat} {news : List Value} (hrd : Rd w o2 k size x m news) (j : Nat) {E : TypeId}
    (t ty : TypeId) (ht : P.underlying t = some (.slice E)) {z : Value} (hinfo : (P.info? E).map (fun i => (i.zero, i.size, i.bytes)) = some (some z, size, bytes)) (hzs : z.cells.size = size)
    (hcap : cap < n + m) (h63 : n + m ≤ 9223372036854775807) (hbytes : (n + m) * bytes ≤ 140737488355328) :
    ∃ v' w' o', (Builtin.append_ #[t, t] ty #[.slice ao n cap, x]).run P w = .ok v' w' ∧ Row w' o' j E size v' (n + m) (xs ++ news) ∧ Step [] w o w' o' ∧ (∃ g cap, v' = .slice (some ⟨g, 0, none⟩) (n + m) cap) := by
  obtain ⟨inf, hi, hz, hsz, hby⟩ := info_parts hinfo
  subst hsz
  subst hby
  have hl := hold.len
  have hrd0 := hrd
  obtain ⟨xo, xc, rfl, x1, x2, x3, x4⟩ := hrd
  have hlen : (xs ++ news).length = (n + m) * inf.size := by rw [List.length_append, hl, x3, Nat.add_mul]
  have hge := grownCap_ge w (n + m) cap E
  have hle := grownCap_le_maxLen w (n + m) cap E (by simp only [maxLen]; omega)
  have hf1 := run_first (P := P) (w := w.drew) (o := o) (i := i) (size := inf.size) (v := .slice ao n cap) (n := n) (xs := xs) hold
  have hf2 := run_first (P := P) (w := w.drew) (o := o2) (i := k) (size := inf.size) (v := .slice xo m xc) (n := m) (xs := news) hrd0
  have n1 : ¬ (n + m ≤ cap) := by omega
  have n2 : ¬ (9223372036854775807 < ((n : Int) + (m : Int))) := by omega
  have n3 : ¬ (281474976710656 < Builtin.nextslicecap (n + m) cap * inf.bytes) := by have := growslice_fits hcap hbytes; omega
  refine ⟨.slice (some ⟨w.heap.size, 0, none⟩) (n + m) (grownCap w (n + m) cap E), w.drew.alloc (.cells (xs.toArray ++ news.toArray ++ Builtin.zeroCells z.cells (grownCap w (n + m) cap E - (n + m))) E), o.set w.heap.size j, ?_, ?_, ?_, ⟨_, _, rfl⟩⟩
  · simp [Builtin.append_, run_underlying ht, sizeOf, typeInfo, zeroValue, hi, hz, Builtin.lenOf, n1, n2, n3, Question.forced, newRow, grownCap, hf1, hf2]
    rw [← List.append_toArray, Array.append_assoc]
  · refine ⟨hlen, .inr ⟨w.heap.size, _, _, rfl, Owner.set_self _ _ _, heap_alloc_new w.drew _, hge, hle, ?_, ?_⟩⟩
    · simp only [Array.size_append, List.size_toArray, size_zeroCells, hzs, hl, x3, ← Nat.add_mul]
      congr 1
      omega
    · simp only [Array.toList_append, List.append_assoc]
      rw [← List.append_assoc, ← hlen]
      exact List.take_left
  · exact ((Step.refl [] w o).drew.alloc _).give (Nat.le_refl _) _

/-- append to what has no room at all (nil; s[:0:0]): nothing that was there is written. -/
theorem run_app0 {w : World} {o : Owner} {size bytes : Nat} {ao : Option Addr}
    {o2 : Owner} {k : Nat} {x : Value} {m : Nat} {news : List Value} (hrd : Rd w o2 k size x m news) (j : Nat) {E : TypeId}
    (t ty : TypeId) (ht : P.underlying t = some (.slice E)) {z : Value} (hinfo : (P.info? E).map (fun i => (i.zero, i.size, i.bytes)) = some (some z, size, bytes)) (hzs : z.cells.size = size)
    (h63 : m ≤ 9223372036854775807) (hbytes : m * bytes ≤ 140737488355328) :
    ∃ v' w' o', (Builtin.append_ #[t, t] ty #[.slice ao 0 0, x]).run P w = .ok v' w' ∧ Row w' o' j E size v' m news ∧ Step [] w o w' o' := by
  by_cases hm : m = 0
  · subst hm
    obtain ⟨inf, hi, hz, hsz, hby⟩ := info_parts hinfo
    subst hsz
    have hf := run_first (P := P) hrd
    obtain ⟨xo, xc, rfl, x1, x2, x3, x4⟩ := hrd
    obtain rfl : news = [] := List.eq_nil_of_length_eq_zero (by simpa using x3)
    refine ⟨.slice ao 0 0, w, o, ?_, Row.nil _ _ _ _ _ _, Step.refl _ _ _⟩
    cases ao with
    | none => simp [Builtin.append_, run_underlying ht, sizeOf, typeInfo, hi, Builtin.lenOf, hf]
    | some a => simp [Builtin.append_, run_underlying ht, sizeOf, typeInfo, hi, Builtin.lenOf, hf, storeCells]
  · obtain ⟨v', w', o', h1, h2, h3, _⟩ := run_app_grow (P := P) (o := o) (i := 0) (xs := []) (Rd.nil w o 0 size ao 0 (by simp [maxLen])) hrd j t ty ht hinfo hzs (by omega) (by omega) (by simpa using hbytes)
    simp only [Nat.zero_add, List.nil_append] at h2
    exact ⟨v', w', o', h1, h2, h3⟩

/-- append: what is appended to is owned; behind it so is the result, by the same owner. -/
theorem run_app {w : World} {o : Owner} {i E size bytes : Nat} {v : Value} {n : Nat} {xs : List Value} (hrow : Row w o i E size v n xs)
    {o2 : Owner} {k : Nat} {x : Value} {m : Nat} {news : List Value} (hrd : Rd w o2 k size x m news) (h1 : ∀ u ∈ news, u.oneCell' = true)
    (t ty : TypeId) (ht : P.underlying t = some (.slice E)) {z : Value} (hinfo : (P.info? E).map (fun i => (i.zero, i.size, i.bytes)) = some (some z, size, bytes)) (hzs : z.cells.size = size)
    (h63 : n + m ≤ 9223372036854775807) (hbytes : (n + m) * bytes ≤ 140737488355328) :
    ∃ v' w' o', (Builtin.append_ #[t, t] ty #[v, x]).run P w = .ok v' w' ∧ Row w' o' i E size v' (n + m) (xs ++ news) ∧ Step [i] w o w' o' := by
  obtain ⟨hl, hcase⟩ := hrow
  rcases hcase with ⟨ao, rfl, rfl⟩ | ⟨g, cap, cur, rfl, hg, hh, hn, hc, hcs, htake⟩
  · obtain rfl : xs = [] := List.eq_nil_of_length_eq_zero (by simpa using hl)
    obtain ⟨v', w', o', r1, r2, r3⟩ := run_app0 (P := P) (o := o) (ao := ao) hrd i t ty ht hinfo hzs (by omega) (by simpa using hbytes)
    exact ⟨v', w', o', r1, by simpa using r2, r3.nil⟩
  · by_cases hroom : n + m ≤ cap
    · obtain ⟨inf, hi, hz, hsz, hby⟩ := info_parts hinfo
      subst hsz
      have hf := run_first (P := P) hrd
      obtain ⟨xo, xc, rfl, x1, x2, x3, x4⟩ := hrd
      have hlen : (xs ++ news).length = (n + m) * inf.size := by rw [List.length_append, hl, x3, Nat.add_mul]
      have hfit : n * inf.size + news.length ≤ cur.size := by rw [x3, hcs, ← Nat.add_mul]; exact Nat.mul_le_mul_right _ hroom
      have hst := run_storeCells_at P g (n * inf.size) E news 0 cur w hh (by simpa using hfit) h1
      simp only [Nat.add_zero] at hst
      refine ⟨.slice (some ⟨g, 0, none⟩) (n + m) cap, w.setRow g (cur.toList.take (n * inf.size) ++ news ++ cur.toList.drop (n * inf.size + news.length)).toArray, o, ?_, ⟨hlen, .inr ⟨g, cap, _, rfl, hg, setRow_heap w g cur _ E _ hh, hroom, hc, ?_, ?_⟩⟩, ⟨rfl, rfl, rfl, by simp [World.setRow], fun _ _ => rfl, fun b hb hno => setRow_other w g b _ (fun e => hno (by subst e; simp [hg]))⟩⟩
      · simp [Builtin.append_, run_underlying ht, sizeOf, typeInfo, hi, Builtin.lenOf, hroom, hf, Addr.add_lit, hst]
      · simp only [List.size_toArray, List.length_append, List.length_take, List.length_drop, Array.length_toList]
        omega
      · rw [htake, ← hlen]
        exact List.take_left
    · obtain ⟨v', w', o', r1, r2, r3, _⟩ := run_app_grow (P := P) (o := o) (i := i) (Row.rd (E := E) ⟨hl, .inr ⟨g, cap, cur, rfl, hg, hh, hn, hc, hcs, htake⟩⟩) hrd i t ty ht hinfo hzs (by omega) h63 hbytes
      exact ⟨v', w', o', r1, r2, r3.nil⟩

/-- append, as a law of the walk. -/
theorem wpList_app {ops : Array Oper} {rest : List Oper} {op : Oper} {a : Act} {Q : Exit → Act → World → Prop} {w : World} (hg : op.guard = none) (s x : Operand) (t : TypeId)
    (ho : op.op = .call { callee := .builtin .append, args := #[s, x], argTypes := #[t, t] })
    {o : Owner} {i E size bytes : Nat} {v : Value} {n : Nat} {xs : List Value} {o2 : Owner} {k : Nat} {xv : Value} {m : Nat} {news : List Value} {z : Value}
    (ht : P.underlying t = some (.slice E)) (hinfo : (P.info? E).map (fun i => (i.zero, i.size, i.bytes)) = some (some z, size, bytes)) (hzs : z.cells.size = size)
    (hs : a.eval s = v) (hrow : Row w o i E size v n xs) (hx : a.eval x = xv) (hrd : Rd w o2 k size xv m news) (h1 : ∀ u ∈ news, u.oneCell' = true)
    (h63 : n + m ≤ 9223372036854775807) (hbytes : (n + m) * bytes ≤ 140737488355328)
    (h : ∀ v' w' o', Row w' o' i E size v' (n + m) (xs ++ news) → Step [i] w o w' o' → wpList P ops Q rest (a.put op.dst v') w') : wpList P ops Q (op :: rest) a w := by
  refine wpList_plain hg fun K hK => ?_
  obtain ⟨v', w', o', hr, h2, h3⟩ := run_app (P := P) hrow hrd h1 t op.type ht hinfo hzs h63 hbytes
  unfold Oper.wp execOp
  simp only [ho, resolve, invoke, builtin, Sem.run_bind, Sem.run_pure, Result.andThen_ok, List.map_toArray, List.map_cons, List.map_nil, hs, hx, hr]
  exact hK _ _ (h v' w' o' h2 h3)

theorem wpList_app0 {ops : Array Oper} {rest : List Oper} {op : Oper} {a : Act} {Q : Exit → Act → World → Prop} {w : World} (hg : op.guard = none) (s x : Operand) (t : TypeId)
    (ho : op.op = .call { callee := .builtin .append, args := #[s, x], argTypes := #[t, t] })
    (o : Owner) (j : Nat) {E size bytes : Nat} {ao : Option Addr} {o2 : Owner} {k : Nat} {xv : Value} {m : Nat} {news : List Value} {z : Value}
    (ht : P.underlying t = some (.slice E)) (hinfo : (P.info? E).map (fun i => (i.zero, i.size, i.bytes)) = some (some z, size, bytes)) (hzs : z.cells.size = size)
    (hs : a.eval s = .slice ao 0 0) (hx : a.eval x = xv) (hrd : Rd w o2 k size xv m news)
    (h63 : m ≤ 9223372036854775807) (hbytes : m * bytes ≤ 140737488355328)
    (h : ∀ v' w' o', Row w' o' j E size v' m news → Step [] w o w' o' → wpList P ops Q rest (a.put op.dst v') w') : wpList P ops Q (op :: rest) a w := by
  refine wpList_plain hg fun K hK => ?_
  obtain ⟨v', w', o', hr, h2, h3⟩ := run_app0 (P := P) (o := o) (ao := ao) hrd j t op.type ht hinfo hzs h63 hbytes
  unfold Oper.wp execOp
  simp only [ho, resolve, invoke, builtin, Sem.run_bind, Sem.run_pure, Result.andThen_ok, List.map_toArray, List.map_cons, List.map_nil, hs, hx, hr]
  exact hK _ _ (h v' w' o' h2 h3)
end

section
variable {P : Program}
/-- The next letter of an ASCII text. -/
theorem run_next_at {w : World} {r : Nat} {s : ByteArray} {pos : Nat} (hr : w.heap[r]? = some (.stringIter s pos)) (ty : TypeId) (h : pos < s.size) (ha : (s[pos]'h).toNat < 128) :
    (Instr.next (.pointer (some ⟨r, 0, none⟩)) true ty).run P w = .ok (.tuple #[.bool true, .int .i64 pos, .int .i32 (s[pos]'h).toNat]) (wset w r (.stringIter s (pos + 1))) := by
  have hlt := (Array.getElem?_eq_some_iff.1 hr).1
  simp only [Instr.next, getObj, setObj, Sem.run_bind, Sem.run, hr, Result.andThen, h, if_true, decode_ascii s pos h ha]
  simp [goInt, wset]

theorem run_next_stop {w : World} {r : Nat} {s : ByteArray} {pos : Nat} (hr : w.heap[r]? = some (.stringIter s pos)) (ty : TypeId) (h : ¬ pos < s.size) :
    (Instr.next (.pointer (some ⟨r, 0, none⟩)) true ty).run P w = .ok (.tuple #[.bool false]) w := by
  simp [Instr.next, getObj, Sem.run, hr, h]
end

theorem ints_one (k : IntKind) (l : List Int) : ∀ u ∈ l.map (Value.int k), u.oneCell' = true := ints_oneCell k l

end Go.Proofs.YtglchagfclafgaaDoor
