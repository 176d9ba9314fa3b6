/- Rows of what is to do; a plan that is being made; what lays, executes, pushes. -/
import Derived.Test.YtnfbldkejbgbiaaDoorRowx
import Derived.Test.YtnfbldkejbgbiaaDoorAllR
namespace Go.Proofs.YtnfbldkejbgbiaaDoor
open Go Go.RowKit
set_option linter.unusedSimpArgs false
set_option linter.unusedVariables false

/-- What is to do: kind, cell, and the instruction's three. -/
structure Td where
  k : Int
  x : Int
  op : Int
  a : Int
  w : Int
def Td.cells (t : Td) : List Value := [.int .i64 t.k, .int .i64 t.x, .int .u8 t.op, .int .i64 t.a, .int .i64 t.w]
def tcells (l : List Td) : List Value := l.flatMap Td.cells
theorem tcells_app (l r : List Td) : tcells (l ++ r) = tcells l ++ tcells r := List.flatMap_append
theorem tcells_one (b : Td) : tcells [b] = b.cells := List.append_nil _
theorem tcells_cons (x : Td) (l : List Td) : tcells (x :: l) = x.cells ++ tcells l := rfl
theorem tcells_length (l : List Td) : (tcells l).length = l.length * 5 := by
  induction l with
  | nil => rfl
  | cons x l ih =>
    rw [tcells_cons, List.length_append, ih, List.length_cons, show x.cells.length = 5 from rfl]
    omega
theorem tcells_get (l : List Td) (i r : Nat) (hi : i < l.length) (hr : r < 5) : (tcells l)[i * 5 + r]? = (l[i].cells)[r]? := by
  induction l generalizing i with
  | nil => exact absurd hi (by simp)
  | cons x l ih =>
    rw [tcells_cons]
    cases i with
    | zero =>
      rw [List.getElem?_append_left (by show 0 * 5 + r < 5; omega)]
      simp
    | succ i =>
      rw [List.getElem?_append_right (by show 5 ≤ _; omega)]
      have e : (i + 1) * 5 + r - x.cells.length = i * 5 + r := by show (i + 1) * 5 + r - 5 = _; omega
      rw [e, ih i (by simpa using hi)]
      simp
theorem tcells_onecell (l : List Td) : ∀ u ∈ tcells l, u.oneCell' = true := by
  intro u hu
  obtain ⟨t, _, h⟩ := List.mem_flatMap.1 hu
  simp [Td.cells] at h
  rcases h with rfl | rfl | rfl | rfl | rfl <;> rfl

def ZT : Value := .agg #[.int .i64 0, .int .i64 0, .int .u8 0, .int .i64 0, .int .i64 0]
theorem infoT : (Tryd.prog.info? 42).map (fun i => (i.zero, i.size, i.bytes)) = some (some ZT, 5, 40) := by kernel_rfl

/-- A plan: what is to do, and why it can not be done, in block b. -/
structure Pl (w : World) (o : Owner) (i b : Nat) (l : List Td) (e : Int) : Prop where
  ex : ∃ v, Blk w o i b 54 #[v, .int .i64 e] ∧ Row w o (i + 1) 42 5 v l.length (tcells l)

theorem Pl.frame {S : List Nat} {w w' : World} {o o' : Owner} {i b : Nat} {l : List Td} {e : Int} (h : Pl w o i b l e) (st : Step S w o w' o') (h1 : i ∉ S) (h2 : i + 1 ∉ S) : Pl w' o' i b l e := by
  obtain ⟨v, hb, hr⟩ := h.ex
  exact ⟨v, hb.frame st h1, hr.frame st h2⟩

/-- A row that is put into the plan. -/
theorem Pl.put {w w1 : World} {o o1 : Owner} {i b : Nat} {v v' : Value} {e : Int} {l : List Td} (hb : Blk w o i b 54 #[v, .int .i64 e]) (hr : Row w1 o1 (i + 1) 42 5 v' l.length (tcells l)) (st : Step [i + 1] w o w1 o1) :
    Pl (w1.setCell ⟨b, 0, none⟩ v') o1 i b l e ∧ Step [i, i + 1] w o (w1.setCell ⟨b, 0, none⟩ v') o1 := by
  have hb1 := hb.frame st (by simp)
  exact ⟨⟨v', hb1.set 0 v', hr.setOther hb1 (by decide) 0 v'⟩, (st.weaken (by simp)).setCell (fun _ => by simp [hb.own]) _⟩

theorem pl_cells {w : World} {o : Owner} {i b : Nat} {v0 v1 : Value} (h : Blk w o i b 54 #[v0, v1]) :
    w.cell? ⟨b, 0, none⟩ = some v0 ∧ w.cell? ⟨b, 1, none⟩ = some v1 ∧ w.frozen? ⟨b, 0, none⟩ = false ∧ w.frozen? ⟨b, 1, none⟩ = false := ⟨h.cell 0, h.cell 1, h.frozen 0, h.frozen 1⟩

set_option maxHeartbeats 4000000 in
theorem lay_ok {w : World} {o : Owner} {i b : Nat} {l : List Td} {e : Int} (hp : Pl w o i b l e) (hl : l.length ≤ 1000) (op a x : Int) :
    Calls Tryd.prog 39 #[.pointer (some ⟨b, 0, none⟩), .agg #[.int .u8 op, .int .i64 a, .int .i64 x]] w fun e' w' => e' = .returned (.tuple #[]) ∧ ∃ o', Pl w' o' i b (l ++ [⟨3, 0, op, a, x⟩]) e ∧ Step [i, i + 1] w o w' o' := by
  obtain ⟨v, hb, hr⟩ := hp.ex
  obtain ⟨ao, cap, rfl⟩ := hr.slice'
  have hlt := hb.lt
  have sA : Step [] w o ((w.alloc (.cells #[.int .u8 op, .int .i64 a, .int .i64 x] 40)).drew) o := ((Step.refl _ _ _).alloc _).drew
  have sL : Step [] w o (((w.alloc (.cells #[.int .u8 op, .int .i64 a, .int .i64 x] 40)).alloc (.cells #[.int .i64 3, .int .i64 0, .int .u8 op, .int .i64 a, .int .i64 x] 42)).drew) o := (((Step.refl _ _ _).alloc _).alloc _).drew
  obtain ⟨c0, c1, g0, g1⟩ := pl_cells hb
  have hbL := hb.frame sL (by simp)
  have hrL := hr.frame sL (by simp)
  obtain ⟨L, hL⟩ : ∃ L, l.length = L := ⟨_, rfl⟩
  rw [hL] at hr hrL hl c0
  have HL := Lib.hid hL
  clear hL
  go_enter Tryd.func39, Tryd.ntmps39
  go_wp2_with fail
  go_region_law (refine step_app (.tmp 8) (.tmp 11) 26 rfl Tryd.underlying26 infoT rfl (by kernel_rfl) (by rfl) hrL (by rfl) (Rd.fresh2 w o 5 42 _ #[.int .i64 3, .int .i64 0, .int .u8 op, .int .i64 a, .int .i64 x] 1 (by decide) rfl) (by simp [Value.oneCell']) (by omega) (by omega) ?_; intro v' w2 o2 hr2 s2; obtain ⟨ao', cap', rfl⟩ := hr2.slice'; obtain ⟨c0', c1', g0', g1'⟩ := pl_cells (hbL.frame s2 (by simp)))
  all_goals
    go_wp2
    refine Go.Great.bodyPost_end0 (by kernel_rfl) rfl ?_
    have hr3 : Row w2 o2 (i + 1) 42 5 (.slice ao' (L + 1) cap') (l ++ [(⟨3, 0, op, a, x⟩ : Td)]).length (tcells (l ++ [(⟨3, 0, op, a, x⟩ : Td)])) := by
      rw [tcells_app, List.length_append, HL.out]
      exact hr2
    obtain ⟨q1, q2⟩ := Pl.put hb hr3 (sL.nil.trans s2)
    first | exact ⟨rfl, o2, q1, q2⟩ | exact ⟨o2, rfl, q1, q2⟩

theorem call_ok {w : World} {o : Owner} {i b : Nat} {l : List Td} {e : Int} (hp : Pl w o i b l e) (hl : l.length ≤ 1000) (xt : Int) :
    Calls Tryd.prog 36 #[.pointer (some ⟨b, 0, none⟩), .int .i64 xt] w fun e' w' => e' = .returned (.tuple #[]) ∧ ∃ o', Pl w' o' i b (l ++ [⟨3, 0, 2, xt, 0⟩]) e ∧ Step [i, i + 1] w o w' o' := by
  have h := lay_ok hp hl 2 xt 0
  go_enter Tryd.func36, Tryd.ntmps36
  go_wp2_with fail
  refine h.mono ?_
  rintro e' w' ⟨rfl, hh⟩
  go_wp2_with fail
  refine Go.Great.bodyPost_end0 (by kernel_rfl) rfl ?_
  exact ⟨rfl, hh⟩

theorem lit_ok {w : World} {o : Owner} {i b : Nat} {l : List Td} {e : Int} (hp : Pl w o i b l e) (hl : l.length ≤ 1000) (x : Int) :
    Calls Tryd.prog 37 #[.pointer (some ⟨b, 0, none⟩), .int .i64 x] w fun e' w' => e' = .returned (.tuple #[]) ∧ ∃ o', Pl w' o' i b (l ++ [⟨3, 0, 1, 0, x⟩]) e ∧ Step [i, i + 1] w o w' o' := by
  have h := lay_ok hp hl 1 0 x
  go_enter Tryd.func37, Tryd.ntmps37
  go_wp2_with fail
  refine h.mono ?_
  rintro e' w' ⟨rfl, hh⟩
  go_wp2_with fail
  refine Go.Great.bodyPost_end0 (by kernel_rfl) rfl ?_
  exact ⟨rfl, hh⟩

set_option maxHeartbeats 4000000 in
theorem exec_ok {w : World} {o : Owner} {i b : Nat} {l : List Td} {e : Int} (hp : Pl w o i b l e) (hl : l.length ≤ 1000) (x : Int) :
    Calls Tryd.prog 35 #[.pointer (some ⟨b, 0, none⟩), .int .i64 x] w fun e' w' => e' = .returned (.tuple #[]) ∧ ∃ o', Pl w' o' i b (l ++ [⟨2, x, 0, 0, 0⟩]) e ∧ Step [i, i + 1] w o w' o' := by
  obtain ⟨v, hb, hr⟩ := hp.ex
  obtain ⟨ao, cap, rfl⟩ := hr.slice'
  have hlt := hb.lt
  have sL : Step [] w o (w.alloc (.cells #[.int .i64 2, .int .i64 x, .int .u8 0, .int .i64 0, .int .i64 0] 42)) o := (Step.refl _ _ _).alloc _
  obtain ⟨c0, c1, g0, g1⟩ := pl_cells hb
  have hbL := hb.frame sL (by simp)
  have hrL := hr.frame sL (by simp)
  obtain ⟨L, hL⟩ : ∃ L, l.length = L := ⟨_, rfl⟩
  rw [hL] at hr hrL hl c0
  have HL := Lib.hid hL
  clear hL
  go_enter Tryd.func35, Tryd.ntmps35
  go_wp2_with (at_builtin; refine wpList_app rfl (.tmp 8) (.tmp 11) 26 rfl Tryd.underlying26 infoT rfl rfl hrL rfl (Rd.fresh w o 5 42 #[.int .i64 2, .int .i64 x, .int .u8 0, .int .i64 0, .int .i64 0] 1 (by decide) rfl) (by simp [Value.oneCell']) (by omega) (by omega) ?_)
  intro v' w2 o2 hr2 s2
  obtain ⟨ao', cap', rfl⟩ := hr2.slice'
  obtain ⟨c0', c1', g0', g1'⟩ := pl_cells (hbL.frame s2 (by simp))
  go_wp2
  refine Go.Great.bodyPost_end0 (by kernel_rfl) rfl ?_
  have hr3 : Row w2 o2 (i + 1) 42 5 (.slice ao' (L + 1) cap') (l ++ [(⟨2, x, 0, 0, 0⟩ : Td)]).length (tcells (l ++ [(⟨2, x, 0, 0, 0⟩ : Td)])) := by
    rw [tcells_app, List.length_append, HL.out]
    exact hr2
  obtain ⟨q1, q2⟩ := Pl.put hb hr3 (sL.nil.trans s2)
  first | exact ⟨rfl, o2, q1, q2⟩ | exact ⟨o2, rfl, q1, q2⟩

set_option maxHeartbeats 4000000 in
theorem push_ok {w : World} {o : Owner} {i b : Nat} {l : List Td} {e : Int} (hp : Pl w o i b l e) (hl : l.length ≤ 1000) (x : Int) :
    Calls Tryd.prog 38 #[.pointer (some ⟨b, 0, none⟩), .int .i64 x] w fun e' w' => e' = .returned (.tuple #[]) ∧ ∃ o', Pl w' o' i b (l ++ [⟨1, x, 0, 0, 0⟩]) e ∧ Step [i, i + 1] w o w' o' := by
  obtain ⟨v, hb, hr⟩ := hp.ex
  obtain ⟨ao, cap, rfl⟩ := hr.slice'
  have hlt := hb.lt
  have sL : Step [] w o (w.alloc (.cells #[.int .i64 1, .int .i64 x, .int .u8 0, .int .i64 0, .int .i64 0] 42)) o := (Step.refl _ _ _).alloc _
  obtain ⟨c0, c1, g0, g1⟩ := pl_cells hb
  have hbL := hb.frame sL (by simp)
  have hrL := hr.frame sL (by simp)
  obtain ⟨L, hL⟩ : ∃ L, l.length = L := ⟨_, rfl⟩
  rw [hL] at hr hrL hl c0
  have HL := Lib.hid hL
  clear hL
  go_enter Tryd.func38, Tryd.ntmps38
  go_wp2_with (at_builtin; refine wpList_app rfl (.tmp 8) (.tmp 11) 26 rfl Tryd.underlying26 infoT rfl rfl hrL rfl (Rd.fresh w o 5 42 #[.int .i64 1, .int .i64 x, .int .u8 0, .int .i64 0, .int .i64 0] 1 (by decide) rfl) (by simp [Value.oneCell']) (by omega) (by omega) ?_)
  intro v' w2 o2 hr2 s2
  obtain ⟨ao', cap', rfl⟩ := hr2.slice'
  obtain ⟨c0', c1', g0', g1'⟩ := pl_cells (hbL.frame s2 (by simp))
  go_wp2
  refine Go.Great.bodyPost_end0 (by kernel_rfl) rfl ?_
  have hr3 : Row w2 o2 (i + 1) 42 5 (.slice ao' (L + 1) cap') (l ++ [(⟨1, x, 0, 0, 0⟩ : Td)]).length (tcells (l ++ [(⟨1, x, 0, 0, 0⟩ : Td)])) := by
    rw [tcells_app, List.length_append, HL.out]
    exact hr2
  obtain ⟨q1, q2⟩ := Pl.put hb hr3 (sL.nil.trans s2)
  first | exact ⟨rfl, o2, q1, q2⟩ | exact ⟨o2, rfl, q1, q2⟩

end Go.Proofs.YtnfbldkejbgbiaaDoor
