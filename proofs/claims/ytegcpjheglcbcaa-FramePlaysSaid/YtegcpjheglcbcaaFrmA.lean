/- Frames of the program: New, Depth, Cut, own, Push (of frames without locals). -/
import Derived.Test.YtegcpjheglcbcaaRowx
import Derived.Test.YtegcpjheglcbcaaQuietC
import Derived.Deep.CutRange
import Derived.Deep.RegionLaw
namespace Go.Proofs.Ytegcpjheglcbcaa
open Go Go.RowKit
set_option linter.unusedSimpArgs false
set_option linter.unusedVariables false

/-- A frame: its kind, two numbers, two cells, the slice of its locals. -/
structure Fr where
  k : Int
  a : Int
  b : Int
  x : Int
  y : Int
  lv : Value

def Fr.cells (f : Fr) : List Value := [.int .i64 f.k, .int .i64 f.a, .int .i64 f.b, .int .i64 f.x, .int .i64 f.y, f.lv]
def Fr.val (f : Fr) : Value := .agg #[.int .i64 f.k, .int .i64 f.a, .int .i64 f.b, .int .i64 f.x, .int .i64 f.y, f.lv]
/-- Without locals. -/
def Fr.bare (f : Fr) : Prop := f.lv = .slice none 0 0

def frs (fs : List Fr) : List Value := fs.flatMap Fr.cells

theorem frs_len (fs : List Fr) : (frs fs).length = fs.length * 6 := by
  induction fs with
  | nil => rfl
  | cons f fs ih => simp only [frs, List.flatMap_cons, List.length_append, List.length_cons] at *; rw [ih]; simp [Fr.cells]; omega

theorem frs_get : ∀ (fs : List Fr) (j r : Nat) (h : j < fs.length) (hr : r < 6), (frs fs)[j * 6 + r]? = (fs[j].cells)[r]?
  | [], _, _, h, _ => by simp at h
  | f :: fs, 0, r, _, hr => by
    have hl : f.cells.length = 6 := rfl
    simp only [frs, List.flatMap_cons, Nat.zero_mul, Nat.zero_add, List.getElem_cons_zero]
    exact List.getElem?_append_left (by omega)
  | f :: fs, j + 1, r, h, hr => by
    have hl : f.cells.length = 6 := rfl
    simp only [frs, List.flatMap_cons, List.getElem_cons_succ]
    rw [List.getElem?_append_right (by omega), hl, show (j + 1) * 6 + r - 6 = j * 6 + r by omega]
    exact frs_get fs j r (by simpa using h) hr

theorem frs_app (a b : List Fr) : frs (a ++ b) = frs a ++ frs b := by simp [frs]
theorem frs_take (fs : List Fr) (n : Nat) (h : n ≤ fs.length) : (frs fs).take (n * 6) = frs (fs.take n) := by
  have h1 : (frs (fs.take n)).length = n * 6 := by rw [frs_len]; simp; omega
  conv => lhs; rw [← List.take_append_drop n fs, frs_app]
  rw [List.take_left' h1]

theorem info30 : (Try.prog.info? 30).map (fun i => (i.zero, i.size, i.bytes)) = some (some (.agg #[.int .i64 0, .int .i64 0, .int .i64 0, .int .i64 0, .int .i64 0, .slice none 0 0]), 6, 64) := by kernel_rfl

/-- Block b, of owner i, is frames fs, the uppermost last; their row is of owner i + 1. -/
def FStk (w : World) (o : Owner) (i b : Nat) (fs : List Fr) : Prop := fs.length ≤ 128 ∧ ∃ v, Blk w o i b 63 #[v] ∧ Row w o (i + 1) 30 6 v fs.length (frs fs)

theorem FStk.frame {S : List Nat} {w w' : World} {o o' : Owner} {i b : Nat} {fs : List Fr} (h : FStk w o i b fs) (st : Step S w o w' o') (hi : i ∉ S) (hi1 : i + 1 ∉ S) : FStk w' o' i b fs := by
  obtain ⟨h0, v, h1, h2⟩ := h
  exact ⟨h0, v, h1.frame st hi, h2.frame st hi1⟩

theorem Row.slice {w : World} {o : Owner} {i E size : Nat} {v : Value} {n : Nat} {xs : List Value} (h : Row w o i E size v n xs) : ∃ ao cap, v = .slice ao n cap ∧ n ≤ cap ∧ cap ≤ 9223372036854775807 := by
  obtain ⟨_, ⟨ao, rfl, rfl⟩ | ⟨g, cap, cur, rfl, _, _, h1, h2, _⟩⟩ := h
  · exact ⟨ao, 0, rfl, Nat.le_refl _, by omega⟩
  · exact ⟨_, cap, rfl, h1, h2⟩

/-- A call of a Go function, in a region that draws its order. -/
theorem step_call {P : Program} {ops : Array Oper} {op : Oper} {a : Act} {w : World} {K : Act → World → Prop} {Q : Exit → Act → World → Prop} {Z : Prop} {f : FuncId} {args : Array Value} {R : Value → World → Prop}
    (hw : Region.wanted op (yielded ops a.tmps) = true) (hrun : (execOp a.eval op).run P w = .ok (.enter f args) w) (hc : Calls P f args w fun e w' => ∃ v, e = .returned v ∧ R v w') (hK : ∀ v w', R v w' → K (a.put op.dst v) w') :
    if Region.wanted op (yielded ops a.tmps) = true then Oper.wp P op a w K Q else Z := by
  rw [if_pos hw]
  unfold Oper.wp
  rw [hrun]
  exact hc.mono fun e w' ⟨v, he, hr⟩ => by subst he; exact hK v w' hr

theorem new_ok (w : World) (o : Owner) (i : Nat) :
    Calls Try.prog 12 #[] w fun e w' => ∃ b o', e = .returned (.pointer (some ⟨b, 0, none⟩)) ∧ FStk w' o' i b [] ∧ Step [] w o w' o' := by
  go_enter Try.func12, Try.ntmps12
  go_wp2
  go_ret
  exact ⟨w.heap.size, o.set w.heap.size i, rfl, ⟨by simp, _, Blk.new _ _ _ _ _, Row.nil _ _ _ _ _ _⟩, ((Step.refl _ _ _).alloc _).give (Nat.le_refl _) _⟩

theorem depth_ok {w : World} {o : Owner} {i b : Nat} {fs : List Fr} (hs : FStk w o i b fs) :
    Calls Try.prog 17 #[.pointer (some ⟨b, 0, none⟩)] w fun e w' => e = .returned (.int .i64 fs.length) ∧ w' = w := by
  obtain ⟨_, v, hb, hr⟩ := hs
  obtain ⟨ao, cap, rfl, h1, h2⟩ := hr.slice
  have hc := hb.cell0
  clear hb hr
  go_enter Try.func17, Try.ntmps17
  go_wp2
  go_ret
  exact ⟨rfl, rfl⟩
theorem depth_nil (w : World) : Calls Try.prog 17 #[.pointer none] w fun e w' => e = .returned (.int .i64 0) ∧ w' = w := by
  go_enter Try.func17, Try.ntmps17
  go_wp2
  go_ret
  exact ⟨rfl, rfl⟩

def cutF (fs : List Fr) (n : Int) : List Fr := fs.take n.toNat

theorem cut_ok {w : World} {o : Owner} {i b : Nat} {fs : List Fr} (hs : FStk w o i b fs) (n : Int) :
    Calls Try.prog 16 #[.pointer (some ⟨b, 0, none⟩), .int .i64 n] w fun e w' => e = .returned (.tuple #[]) ∧ FStk w' o i b (cutF fs n) ∧ Step [i] w o w' o := by
  have hd := depth_ok hs
  obtain ⟨h0, v, hb, hr⟩ := id hs
  obtain ⟨ao, cap, rfl, h1, h2⟩ := hr.slice
  have hc := hb.cell0
  have hf := hb.frozen 0
  obtain ⟨m, hm⟩ : ∃ m : Nat, max n 0 = m := ⟨(max n 0).toNat, by omega⟩
  have hmn : n.toNat = m := by omega
  rw [cutF, hmn]
  have HM := Lib.hid hm
  clear hm hmn
  by_cases hlt : m < fs.length
  · have hi : (m : Int) < fs.length := by omega
    go_enter Try.func16, Try.ntmps16
    go_wp2_with fail
    rw [HM.out]
    go_wp2_with (go_at_call 17; refine hd.mono ?_; rintro e w' ⟨rfl, rfl⟩)
    go_end0
    have hr1 := hr.cut (k := m) (by omega)
    rw [frs_take fs m (by omega)] at hr1
    refine ⟨rfl, ⟨by simp; omega, _, hb.set 0 _, ?_⟩, (Step.refl _ _ _).setCell (fun _ => by simp [hb.own]) _⟩
    rw [show (fs.take m).length = m by simp; omega]
    exact hr1.setOther hb (by decide) 0 _
  · have hi : ¬ ((m : Int) < fs.length) := by omega
    go_enter Try.func16, Try.ntmps16
    go_wp2_with fail
    rw [HM.out]
    go_wp2_with (go_at_call 17; refine hd.mono ?_; rintro e w' ⟨rfl, rfl⟩)
    go_end0
    rw [List.take_of_length_le (by omega)]
    exact ⟨rfl, hs, Step.refl _ _ _⟩

@[go_sem] theorem eqlnil28 (w : World) (a : Option Addr) (n c : Nat) : (binOp .eql 28 (.slice a n c) (.slice none 0 0)).run Try.prog w = .ok (.bool a.isNone) w := Lib.run_eql_slice_nil w 28 22 a n c 0 0 Try.underlying28

theorem clone_nil (w : World) : Calls Try.prog 40 #[.slice none 0 0] w fun e w' => e = .returned (.slice none 0 0) ∧ w' = w := by
  go_enter Try.func40, Try.ntmps40
  go_wp2
  go_ret
  exact ⟨rfl, rfl⟩

theorem own_bare (w : World) (o : Owner) (k a b x y : Int) : Calls Try.prog 28 #[.agg #[.int .i64 k, .int .i64 a, .int .i64 b, .int .i64 x, .int .i64 y, .slice none 0 0]] w fun e w' => e = .returned (.agg #[.int .i64 k, .int .i64 a, .int .i64 b, .int .i64 x, .int .i64 y, .slice none 0 0]) ∧ Step [] w o w' o := by
  go_enter Try.func28, Try.ntmps28
  go_wp2_with (go_at_call 40; refine (clone_nil _).mono ?_; rintro e w' ⟨rfl, rfl⟩)
  simp [bodyPost, results, Try.results28, go_sem]
  exact ((Step.refl _ _ _).alloc _).alloc _

/-- A row that is put into the one cell of the struct b. -/
theorem FStk.put {w w1 : World} {o o1 : Owner} {i b : Nat} {v v' : Value} {fs : List Fr} (hb : Blk w o i b 63 #[v]) (hr : Row w1 o1 (i + 1) 30 6 v' fs.length (frs fs)) (st : Step [i + 1] w o w1 o1) (hl : fs.length ≤ 128) :
    FStk (w1.setCell ⟨b, 0, none⟩ v') o1 i b fs ∧ Step [i, i + 1] w o (w1.setCell ⟨b, 0, none⟩ v') o1 := by
  have hb1 := hb.frame st (by simp)
  exact ⟨⟨hl, v', hb1.set 0 v', hr.setOther hb1 (by decide) 0 v'⟩, (st.weaken (by simp)).setCell (fun _ => by simp [hb.own]) _⟩

def pushF (fs : List Fr) (f : Fr) : List Fr := if fs.length < 128 then fs ++ [f] else fs
def pushE (fs : List Fr) : Int := if fs.length < 128 then 0 else -5

theorem push_bare {w : World} {o : Owner} {i b : Nat} {fs : List Fr} (hs : FStk w o i b fs) (k a c x y : Int) :
    Calls Try.prog 13 #[.pointer (some ⟨b, 0, none⟩), .agg #[.int .i64 k, .int .i64 a, .int .i64 c, .int .i64 x, .int .i64 y, .slice none 0 0]] w fun e w' => ∃ o', e = .returned (.int .i64 (pushE fs)) ∧ FStk w' o' i b (pushF fs ⟨k, a, c, x, y, .slice none 0 0⟩) ∧ Step [i, i + 1] w o w' o' := by
  have hs0 := hs
  obtain ⟨h0, v, hb, hr⟩ := hs
  obtain ⟨ao, cap, rfl, h1, h2⟩ := hr.slice
  have sA : Step [] w o ((w.alloc (.cells #[.int .i64 k, .int .i64 a, .int .i64 c, .int .i64 x, .int .i64 y, .slice none 0 0] 30)).drew) o := ((Step.refl _ _ _).alloc _).drew
  have hc := hb.cell0
  have hlt := hb.lt
  by_cases hfit : fs.length < 128
  · rw [pushE, pushF, if_pos hfit, if_pos hfit]
    have hi : ¬ ((128 : Int) ≤ fs.length) := by omega
    have hbA := hb.frame sA (by simp)
    have hrA := hr.frame sA (by simp)
    have hcA := hbA.cell0
    have hcal : Calls Try.prog 28 #[.agg #[.int .i64 k, .int .i64 a, .int .i64 c, .int .i64 x, .int .i64 y, .slice none 0 0]] ((w.alloc (.cells #[.int .i64 k, .int .i64 a, .int .i64 c, .int .i64 x, .int .i64 y, .slice none 0 0] 30)).drew) (fun e w' => ∃ v, e = .returned v ∧ (v = .agg #[.int .i64 k, .int .i64 a, .int .i64 c, .int .i64 x, .int .i64 y, .slice none 0 0] ∧ Step [] ((w.alloc (.cells #[.int .i64 k, .int .i64 a, .int .i64 c, .int .i64 x, .int .i64 y, .slice none 0 0] 30)).drew) o w' o)) := (own_bare _ o k a c x y).mono fun e w' h => ⟨_, h.1, rfl, h.2⟩
    go_enter Try.func13, Try.ntmps13
    go_wp2_with fail

    go_region_law (first
      | (refine step_app (.tmp 19) (.tmp 22) 38 rfl Try.underlying38 info30 rfl (by kernel_rfl) (by rfl) hrL (by rfl) (Rd.fresh w1 o 6 30 #[.int .i64 k, .int .i64 a, .int .i64 c, .int .i64 x, .int .i64 y, .slice none 0 0] 1 (by simp [maxLen]) (by simp)) (by simp [Value.oneCell']) (by omega) (by omega) ?_; intro v' w2 o2 hr2 s2; obtain ⟨ao', cap', rfl, _, _⟩ := hr2.slice; have hb2 := hbL.frame s2 (by simp); have hc2 := hb2.cell0; have hf2 := hb2.frozen 0)
      | (refine step_call (by kernel_rfl) ?_ hcal ?_; (focus go_simp); rintro v1 w1 ⟨rfl, s1⟩; have hb1 := hbA.frame s1 (by simp); have hr1 := hrA.frame s1 (by simp); have hc1 := hb1.cell0; have sL : Step [] w1 o (w1.alloc (.cells #[.int .i64 k, .int .i64 a, .int .i64 c, .int .i64 x, .int .i64 y, .slice none 0 0] 30)) o := (Step.refl _ _ _).alloc _; have hbL := hb1.frame sL (by simp); have hrL := hr1.frame sL (by simp); have hcL := hbL.cell0))
    all_goals
      go_wp2
      go_ret
      have hr3 : Row w2 o2 (i + 1) 30 6 (.slice ao' (fs.length + 1) cap') (fs ++ [(⟨k, a, c, x, y, .slice none 0 0⟩ : Fr)]).length (frs (fs ++ [(⟨k, a, c, x, y, .slice none 0 0⟩ : Fr)])) := by
        rw [frs_app, List.length_append]
        exact hr2
      have sAll : Step [i + 1] w o w2 o2 := ((sA.trans (s1.trans sL)).nil).trans s2
      obtain ⟨g1, g2⟩ := FStk.put hb hr3 sAll (by simp; omega)
      first | exact ⟨o2, rfl, g1, g2⟩ | exact ⟨rfl, o2, g1, g2⟩
  · rw [pushE, pushF, if_neg hfit, if_neg hfit]
    have hi : (128 : Int) ≤ fs.length := by omega
    go_enter Try.func13, Try.ntmps13
    go_wp2
    go_ret
    exact ⟨o, rfl, hs0.frame ((Step.refl [] _ _).alloc _) (by simp) (by simp), (Step.refl _ _ _).alloc _⟩
end Go.Proofs.Ytegcpjheglcbcaa
