/- Definitions as rows of instructions: kind, steps. -/
import Derived.Test.YtglchagfclafgaaDoorRowx
import Derived.Test.YtglchagfclafgaaDoorQuietC
import Derived.Test.YtglchagfclafgaaDoorShelf10
import Derived.BigRegion
namespace Go.Proofs.YtglchagfclafgaaDoor
open Go Go.RowKit
set_option linter.unusedSimpArgs false
set_option linter.unusedVariables false

abbrev ints (l : List Int) : List Value := l.map (Value.int .i64)
/-- An instruction. -/
structure In where
  op : Int
  a : Int
  w : Int
def In.cells (x : In) : List Value := [.int .u8 x.op, .int .i64 x.a, .int .i64 x.w]
def In.val (x : In) : Value := .agg #[.int .u8 x.op, .int .i64 x.a, .int .i64 x.w]
def In.ok (x : In) : Prop := (0 ≤ x.op ∧ x.op ≤ 255) ∧ (-9223372036854775808 ≤ x.a ∧ x.a ≤ 9223372036854775807) ∧ (-9223372036854775808 ≤ x.w ∧ x.w ≤ 9223372036854775807)
def icells (l : List In) : List Value := l.flatMap In.cells
theorem icells_len : ∀ l : List In, (icells l).length = l.length * 3
  | [] => rfl
  | x :: r => by
    have := icells_len r
    unfold icells at *
    rw [List.flatMap_cons, List.length_append, this, List.length_cons]
    simp [In.cells]
    omega
theorem icells_at : ∀ {l : List In} {q : Nat} {a : In} (_ : l[q]? = some a) {j : Nat} (_ : j < 3), (icells l)[3 * q + j]? = a.cells[j]?
  | [], q, a, h, _, _ => by simp at h
  | x :: r, 0, a, h, j, hj => by
    simp at h
    subst h
    unfold icells
    rw [List.flatMap_cons, List.getElem?_append_left (by simp [In.cells]; omega)]
    congr 1
    omega
  | x :: r, q + 1, a, h, j, hj => by
    have ih := icells_at (l := r) (q := q) (a := a) (by simpa using h) hj
    unfold icells at *
    rw [List.flatMap_cons, List.getElem?_append_right (by simp [In.cells]; omega), ← ih]
    congr 1
    simp [In.cells]
    omega
theorem icells_app (a b : List In) : icells (a ++ b) = icells a ++ icells b := by simp [icells]

/-- A new block of n elements, owned. -/
theorem Row.made (w : World) (o : Owner) (j E size : Nat) (cs : Array Value) (n : Nat) (hn : n ≤ maxLen) (h : cs.size = n * size) :
    Row (w.alloc (.cells cs E)) (o.set w.heap.size j) j E size (.slice (some ⟨w.heap.size, 0, none⟩) n n) n cs.toList :=
  ⟨by simpa using h, .inr ⟨w.heap.size, n, cs, rfl, Owner.set_self _ _ _, heap_alloc_new _ _, Nat.le_refl _, hn, h, by rw [← h]; exact List.take_length⟩⟩
theorem Row.slice {w : World} {o : Owner} {i E size : Nat} {v : Value} {n : Nat} {xs : List Value} (h : Row w o i E size v n xs) : ∃ ao cap, v = .slice ao n cap ∧ n ≤ cap ∧ cap ≤ 9223372036854775807 := by
  obtain ⟨_, ⟨ao, rfl, rfl⟩ | ⟨g, cap, cur, rfl, _, _, h1, h2, _⟩⟩ := h
  · exact ⟨ao, 0, rfl, Nat.le_refl _, by omega⟩
  · exact ⟨_, cap, rfl, h1, h2⟩

/-- Has an instruction a place in A? -/
abbrev goesA (op : Int) : Prop := op = 3 ∨ op = 4 ∨ op = 6 ∨ op = 7 ∨ op = 8 ∨ op = 9 ∨ op = 10
def kindA (op : Int) : Int := if goesA op then 1 else if op = 2 then 2 else if op = 12 then 3 else if op = 13 ∨ op = 14 then 4 else 0

theorem kind_ok (w : World) (op : Int) : Calls Tryd.prog 22 #[.int .u8 op] w fun e w' => e = .returned (.int .i64 (kindA op)) ∧ w' = w := by
  by_cases h3 : op = 3
  · subst h3; go_enter Tryd.func22, Tryd.ntmps22; go_wp2_with fail; go_ret; exact ⟨rfl, rfl⟩
  by_cases h4 : op = 4
  · subst h4; go_enter Tryd.func22, Tryd.ntmps22; go_wp2_with fail; go_ret; exact ⟨rfl, rfl⟩
  by_cases h6 : op = 6
  · subst h6; go_enter Tryd.func22, Tryd.ntmps22; go_wp2_with fail; go_ret; exact ⟨rfl, rfl⟩
  by_cases h7 : op = 7
  · subst h7; go_enter Tryd.func22, Tryd.ntmps22; go_wp2_with fail; go_ret; exact ⟨rfl, rfl⟩
  by_cases h8 : op = 8
  · subst h8; go_enter Tryd.func22, Tryd.ntmps22; go_wp2_with fail; go_ret; exact ⟨rfl, rfl⟩
  by_cases h9 : op = 9
  · subst h9; go_enter Tryd.func22, Tryd.ntmps22; go_wp2_with fail; go_ret; exact ⟨rfl, rfl⟩
  by_cases h10 : op = 10
  · subst h10; go_enter Tryd.func22, Tryd.ntmps22; go_wp2_with fail; go_ret; exact ⟨rfl, rfl⟩
  by_cases h2 : op = 2
  · subst h2; go_enter Tryd.func22, Tryd.ntmps22; go_wp2_with fail; go_ret; exact ⟨rfl, rfl⟩
  by_cases h12 : op = 12
  · subst h12; go_enter Tryd.func22, Tryd.ntmps22; go_wp2_with fail; go_ret; exact ⟨rfl, rfl⟩
  by_cases h13 : op = 13
  · subst h13; go_enter Tryd.func22, Tryd.ntmps22; go_wp2_with fail; go_ret; exact ⟨rfl, rfl⟩
  by_cases h14 : op = 14
  · subst h14; go_enter Tryd.func22, Tryd.ntmps22; go_wp2_with fail; go_ret; exact ⟨rfl, rfl⟩
  have e : kindA op = 0 := by simp [kindA, h2, h3, h4, h6, h7, h8, h9, h10, h12, h13, h14]
  have b3 : (op == 3) = false := by simpa using h3
  have b4 : (op == 4) = false := by simpa using h4
  have b6 : (op == 6) = false := by simpa using h6
  have b7 : (op == 7) = false := by simpa using h7
  have b8 : (op == 8) = false := by simpa using h8
  have b9 : (op == 9) = false := by simpa using h9
  have b10 : (op == 10) = false := by simpa using h10
  have b2 : (op == 2) = false := by simpa using h2
  have b12 : (op == 12) = false := by simpa using h12
  have b13 : (op == 13) = false := by simpa using h13
  have b14 : (op == 14) = false := by simpa using h14
  rw [e]
  clear e h3 h4 h6 h7 h8 h9 h10 h2 h12 h13 h14
  go_enter Tryd.func22, Tryd.ntmps22
  go_wp2_with fail
  go_ret
  exact ⟨rfl, rfl⟩

/-- Where it goes on behind an instruction: the places, and how many loops are open there. -/
def stepsA (x : In) (at_ lo : Int) : List (Int × Int) :=
  if x.op = 15 then [] else if x.op = 3 then [(x.a, lo)] else if x.op = 9 then [(x.a, lo - 1)]
  else if x.op = 4 ∨ x.op = 10 then [(at_ + 1, lo), (x.a, lo)] else if x.op = 5 then [(at_ + 1, lo + 1)]
  else if x.op = 6 then [(at_ + 1, lo + 1), (x.a, lo)] else if x.op = 7 ∨ x.op = 8 then [(at_ + 1, lo - 1), (x.a, lo)] else [(at_ + 1, lo)]
def pcells (l : List (Int × Int)) : List Value := l.flatMap fun p => [.int .i64 p.1, .int .i64 p.2]
theorem pcells_len : ∀ l : List (Int × Int), (pcells l).length = l.length * 2
  | [] => rfl
  | x :: r => by
    have := pcells_len r
    unfold pcells at *
    rw [List.flatMap_cons, List.length_append, this, List.length_cons]
    simp
    omega
theorem pcells_app (a b : List (Int × Int)) : pcells (a ++ b) = pcells a ++ pcells b := by simp [pcells]
theorem pcells_top (l : List (Int × Int)) (p : Int × Int) : (pcells (l ++ [p]))[l.length * 2]? = some (.int .i64 p.1) ∧ (pcells (l ++ [p]))[l.length * 2 + 1]? = some (.int .i64 p.2) := by
  rw [pcells_app, ← pcells_len]
  constructor
  · rw [List.getElem?_append_right (Nat.le_refl _)]; simp [pcells]
  · rw [List.getElem?_append_right (by omega)]; simp [pcells]
theorem infoStep : (Tryd.prog.info? 45).map (fun i => (i.zero, i.size, i.bytes)) = some (some (.agg #[.int .i64 0, .int .i64 0]), 2, 16) := by kernel_rfl
theorem infoInt : (Tryd.prog.info? 3).map (fun i => (i.zero, i.size, i.bytes)) = some (some (.int .i64 0), 1, 8) := by kernel_rfl

set_option maxRecDepth 100000 in
set_option maxHeartbeats 16000000 in
theorem steps_ok (w : World) (o : Owner) (j : Nat) (x : In) (at_ lo : Int) (ha : 0 ≤ at_ ∧ at_ ≤ 1000000) (hl : -1000000 ≤ lo ∧ lo ≤ 1000000) :
    Calls Tryd.prog 18 #[x.val, .int .i64 at_, .int .i64 lo] w fun e w' => ∃ v o', e = .returned v ∧ Row w' o' j 45 2 v (stepsA x at_ lo).length (pcells (stepsA x at_ lo)) ∧ Step [] w o w' o' := by
  obtain ⟨op, a, ww⟩ := x
  simp only [In.val]
  have fin : ∀ (W : World) (cs : Array Value) (n z : Nat) (ps : List (Int × Int)), Step [] w o W o → z = W.heap.size → n = ps.length → cs.toList = pcells ps → n ≤ 2 → ∃ v o', Ending.returned (Value.slice (some ⟨z, 0, none⟩) n n) = Ending.returned v ∧ Row (W.alloc (.cells cs 45)) o' j 45 2 v ps.length (pcells ps) ∧ Step [] w o (W.alloc (.cells cs 45)) o' := fun W cs n z ps s hz h1 h2 h3 => by
    subst h1 hz
    refine ⟨_, _, rfl, ?_, (s.alloc _).give s.size j⟩
    have := Row.made W o j 45 2 cs ps.length (by unfold maxLen; omega) (by rw [← pcells_len, ← h2]; simp)
    rwa [h2] at this
  by_cases h15 : op = 15
  · subst h15
    rw [show stepsA ⟨15, a, ww⟩ at_ lo = [] from rfl]
    go_enter Tryd.func18, Tryd.ntmps18
    go_wp2_with fail
    go_region
    all_goals go_wp2_with fail
    all_goals go_ret
    all_goals exact ⟨_, o, rfl, Row.nil _ _ _ _ _ none, ((((Step.refl _ _ _).alloc _).alloc _).alloc _).drew⟩
  by_cases h3 : op = 3
  · subst h3
    rw [show stepsA ⟨3, a, ww⟩ at_ lo = [(a, lo)] from rfl]
    go_enter Tryd.func18, Tryd.ntmps18
    go_wp2_with fail
    go_region
    all_goals go_wp2_with fail
    all_goals go_ret
    all_goals exact fin _ _ _ _ _ ((((Step.refl _ _ _).alloc _).alloc _).alloc _).drew (by simp) rfl rfl (by decide)
  by_cases h9 : op = 9
  · subst h9
    rw [show stepsA ⟨9, a, ww⟩ at_ lo = [(a, lo - 1)] from rfl]
    go_enter Tryd.func18, Tryd.ntmps18
    go_wp2_with fail
    go_region
    all_goals go_wp2_with fail
    all_goals go_ret
    all_goals exact fin _ _ _ _ _ ((((Step.refl _ _ _).alloc _).alloc _).alloc _).drew (by simp) rfl rfl (by decide)
  by_cases h4 : op = 4
  · subst h4
    rw [show stepsA ⟨4, a, ww⟩ at_ lo = [(at_ + 1, lo), (a, lo)] from rfl]
    go_enter Tryd.func18, Tryd.ntmps18
    go_wp2_with fail
    go_region
    all_goals go_wp2_with fail
    all_goals go_ret
    all_goals exact fin _ _ _ _ _ ((((Step.refl _ _ _).alloc _).alloc _).alloc _).drew (by simp) rfl rfl (by decide)
  by_cases h10 : op = 10
  · subst h10
    rw [show stepsA ⟨10, a, ww⟩ at_ lo = [(at_ + 1, lo), (a, lo)] from rfl]
    go_enter Tryd.func18, Tryd.ntmps18
    go_wp2_with fail
    go_region
    all_goals go_wp2_with fail
    all_goals go_ret
    all_goals exact fin _ _ _ _ _ ((((Step.refl _ _ _).alloc _).alloc _).alloc _).drew (by simp) rfl rfl (by decide)
  by_cases h5 : op = 5
  · subst h5
    rw [show stepsA ⟨5, a, ww⟩ at_ lo = [(at_ + 1, lo + 1)] from rfl]
    go_enter Tryd.func18, Tryd.ntmps18
    go_wp2_with fail
    go_region
    all_goals go_wp2_with fail
    all_goals go_ret
    all_goals exact fin _ _ _ _ _ ((((Step.refl _ _ _).alloc _).alloc _).alloc _).drew (by simp) rfl rfl (by decide)
  by_cases h6 : op = 6
  · subst h6
    rw [show stepsA ⟨6, a, ww⟩ at_ lo = [(at_ + 1, lo + 1), (a, lo)] from rfl]
    go_enter Tryd.func18, Tryd.ntmps18
    go_wp2_with fail
    go_region
    all_goals go_wp2_with fail
    all_goals go_ret
    all_goals exact fin _ _ _ _ _ ((((Step.refl _ _ _).alloc _).alloc _).alloc _).drew (by simp) rfl rfl (by decide)
  by_cases h7 : op = 7
  · subst h7
    rw [show stepsA ⟨7, a, ww⟩ at_ lo = [(at_ + 1, lo - 1), (a, lo)] from rfl]
    go_enter Tryd.func18, Tryd.ntmps18
    go_wp2_with fail
    go_region
    all_goals go_wp2_with fail
    all_goals go_ret
    all_goals exact fin _ _ _ _ _ ((((Step.refl _ _ _).alloc _).alloc _).alloc _).drew (by simp) rfl rfl (by decide)
  by_cases h8 : op = 8
  · subst h8
    rw [show stepsA ⟨8, a, ww⟩ at_ lo = [(at_ + 1, lo - 1), (a, lo)] from rfl]
    go_enter Tryd.func18, Tryd.ntmps18
    go_wp2_with fail
    go_region
    all_goals go_wp2_with fail
    all_goals go_ret
    all_goals exact fin _ _ _ _ _ ((((Step.refl _ _ _).alloc _).alloc _).alloc _).drew (by simp) rfl rfl (by decide)
  have e : stepsA ⟨op, a, ww⟩ at_ lo = [(at_ + 1, lo)] := by simp [stepsA, h15, h3, h9, h4, h10, h5, h6, h7, h8]
  rw [e]
  have b15 : (op == 15) = false := by simpa using h15
  have b3 : (op == 3) = false := by simpa using h3
  have b9 : (op == 9) = false := by simpa using h9
  have b4 : (op == 4) = false := by simpa using h4
  have b10 : (op == 10) = false := by simpa using h10
  have b5 : (op == 5) = false := by simpa using h5
  have b6 : (op == 6) = false := by simpa using h6
  have b7 : (op == 7) = false := by simpa using h7
  have b8 : (op == 8) = false := by simpa using h8
  clear e h15 h3 h9 h4 h10 h5 h6 h7 h8
  go_enter Tryd.func18, Tryd.ntmps18
  go_wp2_with fail
  go_region
  all_goals go_wp2_with fail
  all_goals go_ret
  all_goals exact fin _ _ _ _ _ ((((Step.refl _ _ _).alloc _).alloc _).alloc _).drew (by simp) rfl rfl (by decide)
end Go.Proofs.YtglchagfclafgaaDoor
