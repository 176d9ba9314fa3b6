/- The stack of the program: contracts of New, Depth, Clone, All, Put, Push, Take, Pop. -/
import Derived.Test.YtkefiimcopeioaaCore
namespace Go.Proofs.Ytkefiimcopeioaa
open Go Go.RowKit
set_option linter.unusedSimpArgs false
set_option linter.unusedVariables false

theorem info35 : (Try.prog.info? 35).map (fun i => (i.zero, i.size, i.bytes)) = some (some (.int .i64 0), 1, 8) := by kernel_rfl

@[go_sem] theorem eqlnil22 (w : World) (a : Option Addr) (n c : Nat) : (binOp .eql 22 (.slice a n c) (.slice none 0 0)).run Try.prog w = .ok (.bool a.isNone) w := Lib.run_eql_slice_nil w 22 35 a n c 0 0 Try.underlying22

abbrev ints (l : List Int) : List Value := l.map (Value.int .i64)

/-- Block b, of owner i, is a stack that holds l, the uppermost last; its row is of owner i + 1. -/
def Stk (T : TypeId) (w : World) (o : Owner) (i b : Nat) (l : List Int) : Prop := l.length ≤ 128 ∧ ∃ v, Blk w o i b T #[v] ∧ Row w o (i + 1) 35 1 v l.length (ints l)

theorem Stk.frame {T : TypeId} {S : List Nat} {w w' : World} {o o' : Owner} {i b : Nat} {l : List Int} (h : Stk T w o i b l) (st : Step S w o w' o') (hi : i ∉ S) (hi1 : i + 1 ∉ S) : Stk T w' o' i b l := by
  obtain ⟨h0, v, h1, h2⟩ := h
  exact ⟨h0, v, h1.frame st hi, h2.frame st hi1⟩

theorem Row.slice {w : World} {o : Owner} {i E size : Nat} {v : Value} {n : Nat} {xs : List Value} (h : Row w o i E size v n xs) : ∃ ao cap, v = .slice ao n cap ∧ n ≤ cap ∧ cap ≤ 9223372036854775807 := by
  obtain ⟨_, ⟨ao, rfl, rfl⟩ | ⟨g, cap, cur, rfl, _, _, h1, h2, _⟩⟩ := h
  · exact ⟨ao, 0, rfl, Nat.le_refl _, by omega⟩
  · exact ⟨_, cap, rfl, h1, h2⟩

theorem depth_ok {w : World} {o : Owner} {i b : Nat} {l : List Int} (hs : Stk 55 w o i b l) :
    Calls Try.prog 18 #[.pointer (some ⟨b, 0, none⟩)] w fun e w' => e = .returned (.int .i64 l.length) ∧ w = w' := by
  obtain ⟨_, v, hb, hr⟩ := hs
  obtain ⟨ao, cap, rfl, h1, h2⟩ := hr.slice
  have hc := hb.cell0
  clear hb hr
  go_enter Try.func18, Try.ntmps18
  go_wp2
  go_ret
  exact ⟨rfl, rfl⟩

theorem new_ok (w : World) (o : Owner) (i : Nat) :
    Calls Try.prog 11 #[] w fun e w' => ∃ b o', e = .returned (.pointer (some ⟨b, 0, none⟩)) ∧ Stk 55 w' o' i b [] ∧ Step [] w o w' o' := by
  go_enter Try.func11, Try.ntmps11
  go_wp2
  go_ret
  exact ⟨w.heap.size, o.set w.heap.size i, rfl, ⟨by simp, _, Blk.new _ _ _ _ _, Row.nil _ _ _ _ _ _⟩, ((Step.refl _ _ _).alloc _).give (Nat.le_refl _) _⟩

theorem clone_ok {w : World} {o : Owner} {i n : Nat} {v : Value} {xs : List Value} (hr : Rd w o i 1 v n xs) (hn : n ≤ 1000000) (j : Nat) :
    Calls Try.prog 27 #[v] w fun e w' => ∃ v' o', e = .returned v' ∧ Row w' o' j 35 1 v' n xs ∧ Step [] w o w' o' := by
  have hr0 := hr
  obtain ⟨ao, cap, rfl, h1, h2, h3, h4⟩ := hr
  cases ao with
  | none =>
    have hn0 : n = 0 := by
      rcases Nat.eq_zero_or_pos n with h | h
      · exact h
      · obtain ⟨b, off, hb, _⟩ := h4 h; cases hb
    subst hn0
    obtain rfl : xs = [] := List.eq_nil_of_length_eq_zero (by simpa using h3)
    clear h4 hr0
    go_enter Try.func27, Try.ntmps27
    go_wp2
    go_ret
    exact ⟨_, o, rfl, Row.nil _ _ _ _ _ _, Step.refl _ _ _⟩
  | some a =>
    clear h4
    have hw := hr0.frame ((Step.refl [] w o).alloc (.cells #[] 35)) (by simp)
    go_enter Try.func27, Try.ntmps27
    go_wp2_with (at_builtin; refine wpList_app0 rfl (.tmp 5) (.tmp 6) 22 rfl o j Try.underlying22 info35 rfl rfl rfl hw (by omega) (by omega) ?_)
    intro v' w' o' hrow hst
    go_wp2
    go_ret
    exact ⟨_, o', rfl, hrow, ((Step.refl [] w o).alloc _).trans hst⟩

theorem all_ok {w : World} {o : Owner} {i b : Nat} {l : List Int} (hs : Stk 55 w o i b l) (j : Nat) :
    Calls Try.prog 14 #[.pointer (some ⟨b, 0, none⟩)] w fun e w' => ∃ v o', e = .returned v ∧ Row w' o' j 35 1 v l.length (ints l) ∧ Step [] w o w' o' := by
  obtain ⟨h0, v, hb, hr⟩ := hs
  have hc := hb.cell0
  have hrd := hr.rd
  clear hb hr
  go_enter Try.func14, Try.ntmps14
  go_wp2_with (go_at_call 27; refine (clone_ok hrd (by omega) j).mono ?_; rintro e w' ⟨v', o', rfl, hrow, hst⟩)
  go_ret
  exact ⟨_, o', rfl, hrow, hst⟩

def putL (l y : List Int) : List Int := if l.length + y.length ≤ 128 then l ++ y else l
def putE (l y : List Int) : Int := if l.length + y.length ≤ 128 then 0 else -3

/-- A row that is put into the one cell of the struct b. -/
theorem Stk.put {T : TypeId} (hT : T ≠ 35) {w w1 : World} {o o1 : Owner} {i b : Nat} {v v' : Value} {l : List Int} (hb : Blk w o i b T #[v]) (hr : Row w1 o1 (i + 1) 35 1 v' l.length (ints l)) (st : Step [i + 1] w o w1 o1) (hl : l.length ≤ 128) :
    Stk T (w1.setCell ⟨b, 0, none⟩ v') o1 i b l ∧ Step [i, i + 1] w o (w1.setCell ⟨b, 0, none⟩ v') o1 := by
  have hb1 := hb.frame st (by simp)
  exact ⟨⟨hl, v', hb1.set 0 v', hr.setOther hb1 hT 0 v'⟩, (st.weaken (by simp)).setCell (fun _ => by simp [hb.own]) _⟩

theorem put_ok {w : World} {o : Owner} {i b : Nat} {l : List Int} (hs : Stk 55 w o i b l) {o2 : Owner} {k : Nat} {x : Value} {y : List Int} (hx : Rd w o2 k 1 x y.length (ints y)) :
    Calls Try.prog 12 #[.pointer (some ⟨b, 0, none⟩), x] w fun e w' => ∃ o', e = .returned (.int .i64 (putE l y)) ∧ Stk 55 w' o' i b (putL l y) ∧ Step [i, i + 1] w o w' o' := by
  have hs0 := hs
  obtain ⟨h0, v, hb, hr⟩ := hs
  obtain ⟨ao, cap, rfl, h1, h2⟩ := hr.slice
  have hc := hb.cell0
  have hx0 := hx
  obtain ⟨xo, xc, rfl, x1, x2, _⟩ := hx
  unfold maxLen at x2
  by_cases hfit : l.length + y.length ≤ 128
  · rw [putE, putL, if_pos hfit, if_pos hfit]
    go_enter Try.func12, Try.ntmps12
    go_wp2_with (at_builtin; refine wpList_app rfl (.tmp 22) (.tmp 23) 22 rfl Try.underlying22 info35 rfl rfl hr rfl hx0 (ints_one _ _) (by omega) (by omega) ?_)
    intro v' w' o' hrow hst
    have hb1 := hb.frame hst (by simp)
    have hc1 := hb1.cell0
    have hf1 := hb1.frozen 0
    have hrow' : Row w' o' (i + 1) 35 1 v' (l ++ y).length (ints (l ++ y)) := by simpa [ints] using hrow
    obtain ⟨ao', cap', rfl, _, _⟩ := hrow.slice
    obtain ⟨g1, g2⟩ := Stk.put (by decide) hb hrow' hst (by simpa using hfit)
    clear hrow hrow' hst hb hr hx0 hs0 hb1
    go_wp2
    go_ret
    exact ⟨o', rfl, g1, g2⟩
  · rw [putE, putL, if_neg hfit, if_neg hfit]
    clear hb hr hx0
    go_enter Try.func12, Try.ntmps12
    go_wp2
    go_ret
    exact ⟨o, rfl, hs0, Step.refl _ _ _⟩

theorem push_ok {w : World} {o : Owner} {i b : Nat} {l : List Int} (hs : Stk 55 w o i b l) (x : Int) :
    Calls Try.prog 17 #[.pointer (some ⟨b, 0, none⟩), .int .i64 x] w fun e w' => ∃ o', e = .returned (.int .i64 (putE l [x])) ∧ Stk 55 w' o' i b (putL l [x]) ∧ Step [i, i + 1] w o w' o' := by
  have st : Step [] w o (w.alloc (.cells #[.int .i64 x] 35)) o := (Step.refl _ _ _).alloc _
  have hs1 := hs.frame st (by simp) (by simp)
  have hr := Rd.fresh w o 1 35 #[.int .i64 x] 1 (by simp [maxLen]) (by simp)
  go_enter Try.func17, Try.ntmps17
  go_wp2_with (go_at_call 12; refine (put_ok hs1 (y := [x]) hr).mono ?_; rintro e w' ⟨o', rfl, hs', hst⟩)
  go_ret
  exact ⟨o', rfl, hs', st.nil.trans hst⟩
end Go.Proofs.Ytkefiimcopeioaa
