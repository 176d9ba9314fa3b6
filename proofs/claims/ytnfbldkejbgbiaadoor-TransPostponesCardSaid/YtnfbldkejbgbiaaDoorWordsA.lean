/- The table's names: strings.Split at a blank, names, the reference's names: their contracts. -/
import Derived.Test.YtnfbldkejbgbiaaDoorTabs
import Derived.Test.YtnfbldkejbgbiaaDoorSplit
import Derived.Great.Walk
namespace Go.Proofs.YtnfbldkejbgbiaaDoor
open Go Go.RowKit
set_option linter.unusedSimpArgs false
set_option linter.unusedVariables false

theorem Step.ofBelow {w w' : World} {o : Owner} (h : Below w.heap.size w w') : Step [] w o w' o := ⟨h.os, h.tape, h.output, h.size, fun _ _ => rfl, fun b hb _ => h.block b hb⟩

/-- The variable that strings.Index reads holds some number, and is nobody's. -/
structure ML (w : World) (o : Owner) : Prop where
  cell : ∃ m, w.cell? ⟨0, 0, none⟩ = some (.int .i64 m)
  own : o 0 = 0

theorem ML.frame {S : List Nat} {w w' : World} {o o' : Owner} (h : ML w o) (st : Step S w o w' o') (hi : 0 ∉ S) : ML w' o' := by
  obtain ⟨m, hm⟩ := h.cell
  have hb : 0 < w.heap.size := World.block_lt_of_cell? w _ hm
  exact ⟨⟨m, (st.cell (a := ⟨0, 0, none⟩) hb (by show o 0 ∉ S; rw [h.own]; exact hi)).trans hm⟩, (st.own _ hb).trans h.own⟩

/-- A row of texts, whole in block b. -/
abbrev SR (w : World) (o : Owner) (i b : Nat) (l : List ByteArray) : Prop := Blk w o i b 9 (l.map Value.string).toArray

theorem SR.at {w : World} {o : Owner} {i b : Nat} {l : List ByteArray} (h : SR w o i b l) {j : Nat} (hj : j < l.length) : w.cell? ⟨b, j, none⟩ = some (.string l[j]) := by
  rw [Blk.cell h]
  simp [hj]

theorem SR.rd {w : World} {o : Owner} {i b : Nat} {l : List ByteArray} (h : SR w o i b l) {n : Nat} (hn : l.length = n) (hm : n ≤ maxLen) : Rd w o i 1 (.slice (some ⟨b, 0, none⟩) n n) n (l.map Value.string) :=
  ⟨_, n, rfl, Nat.le_refl _, hm, by simp [hn], fun _ => ⟨b, 0, rfl, h.lt, h.own, fun j u hj => by rw [Nat.zero_add, Blk.cell h]; simpa using hj⟩⟩

theorem split_of (s : ByteArray) (l : List ByteArray) (n : Nat) (hl : Lib.splitK [32] 0 (Lib.countB s ⟨#[32]⟩) (lst s) = l.map lst) (hn : Lib.countB s ⟨#[32]⟩ + 1 = n) (hs : s.size < 4294967281) {w : World} {o : Owner} (hm : ML w o) (i : Nat) :
    Calls Tryd.prog 40 #[.string s, .string ⟨#[32]⟩] w fun e w' => ∃ b o', e = .returned (.slice (some ⟨b, 0, none⟩) n n) ∧ SR w' o' i b l ∧ Step [] w o w' o' := by
  obtain ⟨m, hm⟩ := hm.cell
  have h := Tryd.strings_Split s ⟨#[32]⟩ m w hs hm (by decide)
  have e : Lib.splitB ⟨#[32]⟩ 0 (Lib.countB s ⟨#[32]⟩) s = l := map_lst_inj ((Lib.splitB_data _ 0 _ s).trans hl)
  rw [e, hn] at h
  refine h.mono ?_
  rintro e w' ⟨rfl, rfl⟩
  exact ⟨_, o.set w.heap.size i, rfl, Blk.new w o i _ _, ((Step.refl [] w o).alloc _).give (Nat.le_refl _) _⟩

set_option maxRecDepth 100000 in
theorem names_ok (k : Int) {w : World} {o : Owner} (hm : ML w o) (i : Nat) :
    Calls Tryd.prog 41 #[.int .i64 k] w fun e w' => ∃ a o', e = .returned (.slice a (nm k).length (nm k).length) ∧ Rd w' o' i 1 (.slice a (nm k).length (nm k).length) (nm k).length ((nm k).map Value.string) ∧ Step [] w o w' o' := by
  by_cases h1 : k = 1
  · subst h1
    rw [nm_lengths.1]
    go_enter Tryd.func41, Tryd.ntmps41
    go_wp2_with (go_at_call 40; refine (split_of _ namesP 107 (by kernel_rfl) (by kernel_rfl) (by decide) hm i).mono ?_; rintro e w' ⟨b, o', rfl, hb, st⟩)
    go_ret
    exact ⟨_, o', rfl, hb.rd rfl (by decide), st⟩
  by_cases h2 : k = 2
  · subst h2
    rw [nm_lengths.2.1]
    go_enter Tryd.func41, Tryd.ntmps41
    go_wp2_with (go_at_call 40; refine (split_of _ namesC 9 (by kernel_rfl) (by kernel_rfl) (by decide) hm i).mono ?_; rintro e w' ⟨b, o', rfl, hb, st⟩)
    go_ret
    exact ⟨_, o', rfl, hb.rd rfl (by decide), st⟩
  by_cases h3 : k = 3
  · subst h3
    rw [nm_lengths.2.2.1]
    go_enter Tryd.func41, Tryd.ntmps41
    go_wp2_with (go_at_call 40; refine (split_of _ namesF 17 (by kernel_rfl) (by kernel_rfl) (by decide) hm i).mono ?_; rintro e w' ⟨b, o', rfl, hb, st⟩)
    go_ret
    exact ⟨_, o', rfl, hb.rd rfl (by decide), st⟩
  by_cases h4 : k = 4
  · subst h4
    rw [nm_lengths.2.2.2]
    go_enter Tryd.func41, Tryd.ntmps41
    go_wp2_with (go_at_call 40; refine (split_of _ namesH 47 (by kernel_rfl) (by kernel_rfl) (by decide) hm i).mono ?_; rintro e w' ⟨b, o', rfl, hb, st⟩)
    go_ret
    exact ⟨_, o', rfl, hb.rd rfl (by decide), st⟩
  have e0 : nm k = [] := by unfold nm; rw [if_neg h1, if_neg h2, if_neg h3, if_neg h4]
  rw [e0]
  go_enter Tryd.func41, Tryd.ntmps41
  go_wp2_with fail
  go_ret
  exact ⟨_, o, rfl, Rd.nil _ _ _ _ _ _ (by decide), Step.refl _ _ _⟩

/-- A row of texts that is built. -/
theorem SR.built (w : World) (o : Owner) (i : Nat) (cs : Array Value) (l : List ByteArray) (h : cs = (l.map Value.string).toArray) : SR (w.alloc (.cells cs 9)) (o.set w.heap.size i) i w.heap.size l := by
  subst h
  exact Blk.new w o i _ _

set_option maxRecDepth 100000 in
set_option maxHeartbeats 16000000 in
theorem rnames_ok (k : Int) (w : World) (o : Owner) (i : Nat) :
    Calls Tryd.prog 32 #[.int .i64 k] w fun e w' => ∃ a o', e = .returned (.slice a (nm k).length (nm k).length) ∧ Rd w' o' i 1 (.slice a (nm k).length (nm k).length) (nm k).length ((nm k).map Value.string) ∧ Step [] w o w' o' := by
  have st : ∀ ob, Step [] w o (w.alloc ob) (o.set w.heap.size i) := fun ob => ((Step.refl [] w o).alloc _).give (Nat.le_refl _) _
  by_cases h1 : k = 1
  · subst h1
    rw [nm_lengths.1]
    go_enter Tryd.func32, Tryd.ntmps32
    go_wp2_with (refine Great.wpList_buildSliceTo rfl 64 9 107 _ rfl _ rfl _ rfl Tryd.underlying64 (namesP.map Value.string).toArray (by kernel_rfl) ?_)
    go_ret
    exact ⟨_, _, rfl, (SR.built w o i _ namesP rfl).rd rfl (by decide), st _⟩
  by_cases h2 : k = 2
  · subst h2
    rw [nm_lengths.2.1]
    go_enter Tryd.func32, Tryd.ntmps32
    go_wp2_with (refine Great.wpList_buildSliceTo rfl 64 9 9 _ rfl _ rfl _ rfl Tryd.underlying64 (namesC.map Value.string).toArray (by kernel_rfl) ?_)
    go_ret
    exact ⟨_, _, rfl, (SR.built w o i _ namesC rfl).rd rfl (by decide), st _⟩
  by_cases h3 : k = 3
  · subst h3
    rw [nm_lengths.2.2.1]
    go_enter Tryd.func32, Tryd.ntmps32
    go_wp2_with (refine Great.wpList_buildSliceTo rfl 64 9 17 _ rfl _ rfl _ rfl Tryd.underlying64 (namesF.map Value.string).toArray (by kernel_rfl) ?_)
    go_ret
    exact ⟨_, _, rfl, (SR.built w o i _ namesF rfl).rd rfl (by decide), st _⟩
  by_cases h4 : k = 4
  · subst h4
    rw [nm_lengths.2.2.2]
    go_enter Tryd.func32, Tryd.ntmps32
    go_wp2_with (refine Great.wpList_buildSliceTo rfl 64 9 47 _ rfl _ rfl _ rfl Tryd.underlying64 (namesH.map Value.string).toArray (by kernel_rfl) ?_)
    go_ret
    exact ⟨_, _, rfl, (SR.built w o i _ namesH rfl).rd rfl (by decide), st _⟩
  have e0 : nm k = [] := by unfold nm; rw [if_neg h1, if_neg h2, if_neg h3, if_neg h4]
  rw [e0]
  go_enter Tryd.func32, Tryd.ntmps32
  go_wp2_with fail
  go_ret
  exact ⟨_, o, rfl, Rd.nil _ _ _ _ _ _ (by decide), Step.refl _ _ _⟩
end Go.Proofs.YtnfbldkejbgbiaaDoor
