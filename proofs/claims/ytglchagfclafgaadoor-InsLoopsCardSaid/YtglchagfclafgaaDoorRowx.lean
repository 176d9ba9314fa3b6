/- A row with its block and capacity written out: append where there is room, and clear behind the length. Plain lemmas over any program. -/
import Derived.Test.YtglchagfclafgaaDoorCore
import Derived.Deep.RegionLaw
import Derived.Lib.SliceRun
namespace Go.Proofs.YtglchagfclafgaaDoor
open Go Go.RowKit
set_option linter.unusedSimpArgs false
set_option linter.unusedVariables false

/-- The whole of block g, of owner i, is a row of capacity cap; its first n elements are the cells xs. -/
structure Rowx (w : World) (o : Owner) (i : Nat) (E size g n cap : Nat) (xs : List Value) : Prop where
  len : xs.length = n * size
  own : o g = i
  le : n ≤ cap
  capl : cap ≤ maxLen
  cells : ∃ cur : Array Value, w.heap[g]? = some (.cells cur E (0, 0)) ∧ cur.size = cap * size ∧ cur.toList.take (n * size) = xs

theorem Rowx.row {w : World} {o : Owner} {i E size g n cap : Nat} {xs : List Value} (h : Rowx w o i E size g n cap xs) : Row w o i E size (.slice (some ⟨g, 0, none⟩) n cap) n xs := by
  obtain ⟨cur, h1, h2, h3⟩ := h.cells
  exact ⟨h.len, .inr ⟨g, cap, cur, rfl, h.own, h1, h.le, h.capl, h2, h3⟩⟩

theorem Rowx.rd {w : World} {o : Owner} {i E size g n cap : Nat} {xs : List Value} (h : Rowx w o i E size g n cap xs) : Rd w o i size (.slice (some ⟨g, 0, none⟩) n cap) n xs := h.row.rd

theorem Row.rowx {w : World} {o : Owner} {i E size n : Nat} {v : Value} {xs : List Value} (h : Row w o i E size v n xs) (hn : 0 < n) : ∃ g cap, v = .slice (some ⟨g, 0, none⟩) n cap ∧ Rowx w o i E size g n cap xs := by
  obtain ⟨h1, ⟨ao, _, h0⟩ | ⟨g, cap, cur, hv, hg, hh, h2, h3, h4, h5⟩⟩ := h
  · omega
  · exact ⟨g, cap, hv, h1, hg, h2, h3, cur, hh, h4, h5⟩

theorem Rowx.frame {S : List Nat} {w w' : World} {o o' : Owner} {i E size g n cap : Nat} {xs : List Value} (h : Rowx w o i E size g n cap xs) (st : Step S w o w' o') (hi : i ∉ S) : Rowx w' o' i E size g n cap xs := by
  obtain ⟨cur, h1, h2, h3⟩ := h.cells
  have hlt := (Array.getElem?_eq_some_iff.1 h1).1
  exact ⟨h.len, (st.own g hlt).trans h.own, h.le, h.capl, cur, (st.blk g hlt (by rw [h.own]; exact hi)).trans h1, h2, h3⟩

theorem Rowx.cut {w : World} {o : Owner} {i E size g n cap : Nat} {xs : List Value} (h : Rowx w o i E size g n cap xs) {k : Nat} (hk : k ≤ n) : Rowx w o i E size g k cap (xs.take (k * size)) := by
  obtain ⟨cur, h1, h2, h3⟩ := h.cells
  have hle : k * size ≤ n * size := Nat.mul_le_mul_right _ hk
  have hl := h.len
  have h4 := h.le
  exact ⟨by rw [List.length_take]; omega, h.own, by omega, h.capl, cur, h1, h2, by rw [← h3, List.take_take, Nat.min_eq_left hle]⟩

/-- The cells from n on, up to the capacity: each is there, and is not frozen. -/
theorem Rowx.spare {w : World} {o : Owner} {i E size g n cap : Nat} {xs : List Value} (h : Rowx w o i E size g n cap xs) {j : Nat} (hj : j < cap * size) : (w.cell? ⟨g, j, none⟩).isSome = true ∧ w.frozen? ⟨g, j, none⟩ = false := by
  obtain ⟨cur, h1, h2, h3⟩ := h.cells
  simp [World.cell?, World.frozen?, h1, h2, hj]

theorem Rowx.cell {w : World} {o : Owner} {i E size g n cap : Nat} {xs : List Value} (h : Rowx w o i E size g n cap xs) {j : Nat} {u : Value} (hj : xs[j]? = some u) : w.cell? ⟨g, j, none⟩ = some u := by
  obtain ⟨cur, h1, h2, h3⟩ := h.cells
  simp only [World.cell?, h1]
  rw [← h3, List.getElem?_take] at hj
  split at hj
  · simpa using hj
  · cases hj

theorem setCell_heap_cells {w : World} {g : Nat} {cur : Array Value} {E : TypeId} (h : w.heap[g]? = some (.cells cur E (0, 0))) (j : Nat) (u : Value) : (w.setCell ⟨g, j, none⟩ u).heap[g]? = some (.cells (cur.setIfInBounds j u) E (0, 0)) := heap_setCell_same h j u

/-- A store behind the length leaves the elements. -/
theorem Rowx.setSpare {w : World} {o : Owner} {i E size g n cap : Nat} {xs : List Value} (h : Rowx w o i E size g n cap xs) {j : Nat} (hj : n * size ≤ j) (u : Value) : Rowx (w.setCell ⟨g, j, none⟩ u) o i E size g n cap xs := by
  obtain ⟨cur, h1, h2, h3⟩ := h.cells
  refine ⟨h.len, h.own, h.le, h.capl, _, heap_setCell_same h1 j u, by simpa using h2, ?_⟩
  rw [Array.toList_setIfInBounds, List.take_set_of_le hj, h3]

/-- A store into an element. -/
theorem Rowx.setElem {w : World} {o : Owner} {i E size g n cap : Nat} {xs : List Value} (h : Rowx w o i E size g n cap xs) (j : Nat) (u : Value) : Rowx (w.setCell ⟨g, j, none⟩ u) o i E size g n cap (xs.set j u) := by
  obtain ⟨cur, h1, h2, h3⟩ := h.cells
  refine ⟨by simpa using h.len, h.own, h.le, h.capl, _, heap_setCell_same h1 j u, by simpa using h2, ?_⟩
  rw [Array.toList_setIfInBounds, ← h3, List.take_set]

theorem Rowx.setSpares {o : Owner} {i E size g n cap : Nat} {xs : List Value} : ∀ (us : List Value) {w : World} {j : Nat}, Rowx w o i E size g n cap xs → n * size ≤ j → Rowx (w.setCells g j us) o i E size g n cap xs
  | [], _, _, h, _ => h
  | u :: us, _, j, h, hj => Rowx.setSpares us (h.setSpare hj u) (by omega)

theorem Step.setCells {S : List Nat} {w0 : World} {o0 o : Owner} {g : Nat} (hg : g < w0.heap.size → o0 g ∈ S) : ∀ (us : List Value) {w : World} {j : Nat}, Step S w0 o0 w o → Step S w0 o0 (w.setCells g j us) o
  | [], _, _, h => h
  | u :: us, _, _, h => Step.setCells hg us (h.setCell (a := ⟨g, _, none⟩) hg u)

theorem Rowx.ne {w : World} {o : Owner} {i E size g n cap : Nat} {xs : List Value} (h : Rowx w o i E size g n cap xs) {o2 : Owner} {i2 b : Nat} {T : TypeId} {cs : Array Value} (hb : Blk w o2 i2 b T cs) (hT : T ≠ E) : b ≠ g := by
  obtain ⟨cur, h1, _⟩ := h.cells
  intro e
  subst e
  have := hb.heap
  rw [h1] at this
  simp only [Option.some.injEq, Obj.cells.injEq] at this
  exact hT this.2.1.symm

theorem Blk.setOther {w : World} {o : Owner} {i b : Nat} {T : TypeId} {cs : Array Value} (h : Blk w o i b T cs) {g : Nat} (hg : b ≠ g) (j : Nat) (u : Value) : Blk (w.setCell ⟨g, j, none⟩ u) o i b T cs :=
  ⟨by rw [Below.heap_setCell _ _ _ _ hg]; exact h.heap, h.own⟩

theorem Rowx.setOther {w : World} {o : Owner} {i E size g n cap : Nat} {xs : List Value} (h : Rowx w o i E size g n cap xs) {b : Nat} (hb : g ≠ b) (j : Nat) (u : Value) : Rowx (w.setCell ⟨b, j, none⟩ u) o i E size g n cap xs := by
  obtain ⟨cur, h1, h2, h3⟩ := h.cells
  exact ⟨h.len, h.own, h.le, h.capl, cur, by rw [Below.heap_setCell _ _ _ _ hb]; exact h1, h2, h3⟩

section
variable {P : Program}

theorem run_app_room {w : World} {o : Owner} {i E size g n cap : Nat} {xs : List Value} (hrow : Rowx w o i E size g n cap xs)
    {o2 : Owner} {k : Nat} {x : Value} {m : Nat} {news : List Value} (hrd : Rd w o2 k size x m news) (h1 : ∀ u ∈ news, u.oneCell' = true)
    (t ty : TypeId) (ht : P.underlying t = some (.slice E)) {z : Value} {bytes : Nat} (hinfo : (P.info? E).map (fun i => (i.zero, i.size, i.bytes)) = some (some z, size, bytes))
    (hroom : n + m ≤ cap) :
    ∃ w', (Builtin.append_ #[t, t] ty #[.slice (some ⟨g, 0, none⟩) n cap, x]).run P w = .ok (.slice (some ⟨g, 0, none⟩) (n + m) cap) w' ∧ Rowx w' o i E size g (n + m) cap (xs ++ news) ∧ Step [i] w o w' o := by
  obtain ⟨inf, hi, hz, hsz, hby⟩ := info_parts hinfo
  subst hsz
  have hf := run_first (P := P) hrd
  obtain ⟨xo, xc, rfl, x1, x2, x3, x4⟩ := hrd
  obtain ⟨hl, hg, hn, hc, cur, hh, hcs, htake⟩ := hrow
  have hlen : (xs ++ news).length = (n + m) * inf.size := by rw [List.length_append, hl, x3, Nat.add_mul]
  have hfit : n * inf.size + news.length ≤ cur.size := by rw [x3, hcs, ← Nat.add_mul]; exact Nat.mul_le_mul_right _ hroom
  have hst := run_storeCells_at P g (n * inf.size) E news 0 cur w hh (by simpa using hfit) h1
  simp only [Nat.add_zero] at hst
  refine ⟨w.setRow g (cur.toList.take (n * inf.size) ++ news ++ cur.toList.drop (n * inf.size + news.length)).toArray, ?_, ⟨hlen, hg, hroom, hc, _, setRow_heap w g cur _ E _ hh, ?_, ?_⟩, ⟨rfl, rfl, rfl, by simp [World.setRow], fun _ _ => rfl, fun b hb hno => setRow_other w g b _ (fun e => hno (by subst e; simp [hg]))⟩⟩
  · simp [Builtin.append_, run_underlying ht, sizeOf, typeInfo, hi, Builtin.lenOf, hroom, hf, Addr.add_lit, hst]
  · simp only [List.size_toArray, List.length_append, List.length_take, List.length_drop, Array.length_toList]
    omega
  · rw [htake, ← hlen]
    exact List.take_left

/-- append where there is room, in a region that draws its order. -/
theorem step_app_room {ops : Array Oper} {op : Oper} {a : Act} {w : World} {K : Act → World → Prop} {Q : Exit → Act → World → Prop} {Z : Prop}
    (hgd : op.guard = none) (s x : Operand) (t : TypeId) (hop : op.op = Op.call { callee := Callee.builtin Builtin.append, args := #[s, x], argTypes := #[t, t] })
    {o : Owner} {i E size bytes g n cap : Nat} {xs : List Value} {o2 : Owner} {k : Nat} {xv : Value} {m : Nat} {news : List Value} {z : Value}
    (ht : P.underlying t = some (.slice E)) (hinfo : (P.info? E).map (fun i => (i.zero, i.size, i.bytes)) = some (some z, size, bytes))
    (hs : a.eval s = .slice (some ⟨g, 0, none⟩) n cap) (hrow : Rowx w o i E size g n cap xs) (hx : a.eval x = xv) (hrd : Rd w o2 k size xv m news) (h1 : ∀ u ∈ news, u.oneCell' = true) (hroom : n + m ≤ cap)
    (hK : ∀ w', Rowx w' o i E size g (n + m) cap (xs ++ news) → Step [i] w o w' o → K (a.put op.dst (.slice (some ⟨g, 0, none⟩) (n + m) cap)) w') :
    if Region.wanted op (yielded ops a.tmps) = true then Oper.wp P op a w K Q else Z := by
  have hw : Region.wanted op (yielded ops a.tmps) = true := by simp [Region.wanted, hgd]
  rw [if_pos hw]
  obtain ⟨w', hr, h2, h3⟩ := run_app_room (P := P) hrow hrd h1 t op.type ht hinfo hroom
  unfold Oper.wp
  simp [execOp, hop, resolve, invoke, builtin, hs, hx, hr, Result.andThen]
  exact hK w' h2 h3

/-- append to what is owned, in a region that draws its order. -/
theorem step_app {ops : Array Oper} {op : Oper} {a : Act} {w : World} {K : Act → World → Prop} {Q : Exit → Act → World → Prop} {Z : Prop}
    (s x : Operand) (t : TypeId) (hop : op.op = Op.call { callee := Callee.builtin Builtin.append, args := #[s, x], argTypes := #[t, t] })
    {o : Owner} {i E size bytes n : Nat} {v : Value} {xs : List Value} {o2 : Owner} {k : Nat} {xv : Value} {m : Nat} {news : List Value} {z : Value}
    (ht : P.underlying t = some (.slice E)) (hinfo : (P.info? E).map (fun i => (i.zero, i.size, i.bytes)) = some (some z, size, bytes)) (hzs : z.cells.size = size)
    (hw : Region.wanted op (yielded ops a.tmps) = true)
    (hs : a.eval s = v) (hrow : Row w o i E size v n xs) (hx : a.eval x = xv) (hrd : Rd w o2 k size xv m news) (h1 : ∀ u ∈ news, u.oneCell' = true)
    (h63 : n + m ≤ 9223372036854775807) (hbytes : (n + m) * bytes ≤ 140737488355328)
    (hK : ∀ v' w' o', Row w' o' i E size v' (n + m) (xs ++ news) → Step [i] w o w' o' → K (a.put op.dst v') w') :
    if Region.wanted op (yielded ops a.tmps) = true then Oper.wp P op a w K Q else Z := by
  rw [if_pos hw]
  obtain ⟨v', w', o', hr, h2, h3⟩ := run_app (P := P) hrow hrd h1 t op.type ht hinfo hzs h63 hbytes
  unfold Oper.wp execOp
  simp only [hop, resolve, invoke, builtin, Sem.run_bind, Sem.run_pure, Result.andThen_ok, List.map_toArray, List.map_cons, List.map_nil, hs, hx, hr]
  exact hK _ _ _ h2 h3

theorem step_app0 {ops : Array Oper} {op : Oper} {a : Act} {w : World} {K : Act → World → Prop} {Q : Exit → Act → World → Prop} {Z : Prop}
    (s x : Operand) (t : TypeId) (hop : op.op = Op.call { callee := Callee.builtin Builtin.append, args := #[s, x], argTypes := #[t, t] })
    (o : Owner) (j : Nat) {E size bytes : Nat} {ao : Option Addr} {o2 : Owner} {k : Nat} {xv : Value} {m : Nat} {news : List Value} {z : Value}
    (ht : P.underlying t = some (.slice E)) (hinfo : (P.info? E).map (fun i => (i.zero, i.size, i.bytes)) = some (some z, size, bytes)) (hzs : z.cells.size = size)
    (hw : Region.wanted op (yielded ops a.tmps) = true)
    (hs : a.eval s = .slice ao 0 0) (hx : a.eval x = xv) (hrd : Rd w o2 k size xv m news)
    (h63 : m ≤ 9223372036854775807) (hbytes : m * bytes ≤ 140737488355328)
    (hK : ∀ v' w' o', Row w' o' j E size v' m news → Step [] w o w' o' → K (a.put op.dst v') w') :
    if Region.wanted op (yielded ops a.tmps) = true then Oper.wp P op a w K Q else Z := by
  rw [if_pos hw]
  obtain ⟨v', w', o', hr, h2, h3⟩ := run_app0 (P := P) (o := o) (ao := ao) hrd j t op.type ht hinfo hzs h63 hbytes
  unfold Oper.wp execOp
  simp only [hop, resolve, invoke, builtin, Sem.run_bind, Sem.run_pure, Result.andThen_ok, List.map_toArray, List.map_cons, List.map_nil, hs, hx, hr]
  exact hK _ _ _ h2 h3

/-- clear behind the length (of one-cell elements). -/
theorem wpList_clear {ops : Array Oper} {rest : List Oper} {op : Oper} {a : Act} {Q : Exit → Act → World → Prop} {w : World} (hg : op.guard = none) (s : Operand) (t : TypeId)
    (hop : op.op = .call { callee := .builtin .clear, args := #[s], argTypes := #[t] })
    {o : Owner} {i E g n cap : Nat} {xs : List Value} {z : Value} (ht : P.underlying t = some (.slice E)) (hv : ∀ w, (zeroValue E).run P w = .ok z w) (hz : z.cells = #[z]) (hz1 : z.oneCell' = true)
    (hrow : Rowx w o i E 1 g n cap xs) {off m c : Nat} {ao : Option Addr} (hs : a.eval s = .slice ao m c) (hao : ao = some ⟨g, off, none⟩) (hm : 0 < m) (hoff : n ≤ off) (hle : off + m ≤ cap)
    (h : ∀ w', Rowx w' o i E 1 g n cap xs → Step [i] w o w' o → wpList P ops Q rest (a.put op.dst (.tuple #[])) w') : wpList P ops Q (op :: rest) a w := by
  subst hao
  refine wpList_plain hg fun K hK => ?_
  have hr := Lib.run_clear_slice (P := P) w t E op.type z ht hv hz hz1 g off m c hm (fun j hj => (hrow.spare (by omega)).1) (fun j hj => (hrow.spare (by omega)).2)
  unfold Oper.wp execOp
  simp only [hop, resolve, invoke, builtin, Sem.run_bind, Sem.run_pure, Result.andThen_ok, List.map_toArray, List.map_cons, List.map_nil, hs, hr]
  exact hK _ _ (h _ (Rowx.setSpares _ hrow (by omega)) (Step.setCells (fun _ => by simp [hrow.own]) _ (Step.refl _ _ _)))
end
end Go.Proofs.YtglchagfclafgaaDoor
