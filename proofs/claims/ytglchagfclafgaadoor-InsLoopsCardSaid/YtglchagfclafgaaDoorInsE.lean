/- Whether a definition may be: maps of numbers, and May of the program. -/
import Derived.Test.YtglchagfclafgaaDoorInsD
import Derived.Maps.OwnOps
import Derived.Carry
namespace Go.Proofs.YtglchagfclafgaaDoor
open Go Go.RowKit
set_option linter.unusedSimpArgs false
set_option linter.unusedVariables false

theorem keyed3 : Maps.Keyed Tryd.prog 3 := Maps.int_keyed Tryd.underlying3
theorem zero3 (w : World) : (zeroValue 3).run Tryd.prog w = .ok (.int .i64 0) w := by kernel_rfl
def I64 (x : Int) : Prop := -9223372036854775808 ≤ x ∧ x ≤ 9223372036854775807
theorem I64.wf {x : Int} (h : I64 x) : (Lit.int .i64 x).wf = true := by
  obtain ⟨h1, h2⟩ := h
  simp [Lit.wf, IntKind.min, IntKind.max, IntKind.signed, IntKind.bits]; omega

/-- Block mb, of owner i, is a map that tells f; N entries at most. -/
def MapF (w : World) (o : Owner) (i mb : Nat) (f : Int → Int) (N : Nat) : Prop :=
  o mb = i ∧ ∃ D : DataW Unit, w.ownsMap Tryd.prog 3 (plainElem Tryd.prog 3) mb N D ∧ Maps.IsMap D ∧ ∀ k, D.atKey (.int .i64 k) (.lit (.int .i64 0)) = .lit (.int .i64 (f k))
theorem MapF.frame {S : List Nat} {w w' : World} {o o' : Owner} {i mb N : Nat} {f : Int → Int} (h : MapF w o i mb f N) (st : Step S w o w' o') (hi : i ∉ S) : MapF w' o' i mb f N := by
  obtain ⟨ho, D, hown, hm, hf⟩ := h
  have hlt := hown.lt
  refine ⟨(st.own mb hlt).trans ho, D, ?_, hm, hf⟩
  obtain ⟨es, clock, hb, F, hs, hD⟩ := hown
  exact ⟨es, clock, (st.blk mb hlt (by rw [ho]; exact hi)).trans hb, F, hs, hD⟩
theorem MapF.lt {w : World} {o : Owner} {i mb N : Nat} {f : Int → Int} (h : MapF w o i mb f N) : mb < w.heap.size := by
  obtain ⟨ho, D, hown, _⟩ := h
  exact hown.lt
theorem MapF.made (w : World) (o : Owner) (i : Nat) : MapF (w.alloc (.map #[] 0)) (o.set w.heap.size i) i w.heap.size (fun _ => 0) 0 :=
  ⟨Owner.set_self _ _ _, .map [], World.ownsMap_made _ _ _ _, Maps.isMap_empty, fun k => rfl⟩
theorem MapF.look {w : World} {o : Owner} {i mb N : Nat} {f : Int → Int} (h : MapF w o i mb f N) {k : Int} (hk : I64 k) :
    (Instr.lookup 51 (.map (some mb)) (.int .i64 k) false).run Tryd.prog w = .ok (.int .i64 (f k)) w := by
  obtain ⟨ho, D, hown, hm, hf⟩ := h
  obtain ⟨c, hrun, hat, _⟩ := hown.lookup_int keyed3 Tryd.underlying51 Tryd.underlying3 (zero3 _) (Maps.keyOf_int_mk Tryd.underlying3 hk.wf)
  rw [hf k] at hat
  simp only [DataW.lit.injEq, Lit.int.injEq, true_and] at hat
  rw [hrun, hat]
theorem MapF.update {w : World} {o : Owner} {i mb N : Nat} {f : Int → Int} (h : MapF w o i mb f N) (hN : N < 1000000000) {k v : Int} (hk : I64 k) (hv : I64 v) :
    ∃ w', (Instr.mapUpdate 51 (.map (some mb)) (.int .i64 k) (.int .i64 v)).run Tryd.prog w = .ok () w' ∧ Step [i] w o w' o ∧ MapF w' o i mb (fun j => if j = k then v else f j) (N + 1) := by
  obtain ⟨ho, D, hown, hm, hf⟩ := h
  have hlt := hown.lt
  obtain ⟨w', hrun, r1, r2⟩ := hown.update keyed3 Tryd.underlying51 (by simp only [maxLen]; omega) (Maps.keyOf_int_mk Tryd.underlying3 hk.wf) (plainElem_int Tryd.underlying3 hv.wf)
  refine ⟨w', hrun, ⟨r2.os, r2.tape, r2.output, r2.size, fun _ _ => rfl, fun b hb hn => r2.block b hb (by intro e; cases e; exact hn (by rw [ho]; simp))⟩, ?_⟩
  refine ⟨ho, _, r1, hm.put _ _, fun j => ?_⟩
  dsimp only
  by_cases hj : j = k
  · subst hj
    rw [if_pos rfl]
    exact Maps.atKey_put_same hm (keyed3.key (Maps.keyOf_int_mk Tryd.underlying3 hk.wf)) _ _
  · rw [if_neg hj, Maps.atKey_put_other (by intro e; cases e; exact hj rfl)]
    exact hf j

def lowA (k : Int) : Int := if k = 3 then 1 else if k = 2 then 1 else 0
def highA (n words lc k : Int) : Int := if k = 4 then wrap64 (lc - 1) else if k = 3 then 16 else if k = 2 then words else if k = 1 then n - 1 else 0
/-- How many locals there are. -/
def locA (l : List In) : Int := match l with | [] => 0 | x :: _ => if x.op = 12 then x.a else 0
/-- Instruction x, at q of n, with lab loops open, is one that may be. -/
def insP (n words lc lab q : Int) (x : In) : Prop :=
  1 ≤ x.op ∧ x.op < 16 ∧ (x.op = 1 ∨ x.w = 0) ∧ lowA (kindA x.op) ≤ x.a ∧ x.a ≤ highA n words lc (kindA x.op) ∧ ¬ (x.op = 12 ∧ 0 < q) ∧ ¬ (x.op = 15 ∧ q = n - 1 ∧ 0 < lab)
def mayP (l : List In) (words : Int) : Prop :=
  Good l ∧ l.length ≤ 500 ∧ (∃ x, l[l.length - 1]? = some x ∧ (x.op = 15 ∨ x.op = 3)) ∧ ∀ (q : Nat) (x : In), l[q]? = some x → insP l.length words (locA l) ((labs l)[q]?.getD 0) q x
theorem locA_bd {l : List In} (h : ∀ x ∈ l, x.ok) : I64 (locA l) := by
  cases l with
  | nil => exact ⟨by decide, by decide⟩
  | cons x r =>
    have := (h x (by simp)).2.1
    unfold locA
    dsimp only
    split
    · exact this
    · exact ⟨by decide, by decide⟩
theorem kindA_bd (op : Int) : 0 ≤ kindA op ∧ kindA op ≤ 4 := by
  unfold kindA
  repeat' split
  all_goals omega

/-- The two maps. -/
theorem low_made (w : World) (o : Owner) : ∃ w1 w2, (Instr.mapUpdate 51 (.map (some w.heap.size)) (.int .i64 2) (.int .i64 1)).run Tryd.prog (w.alloc (.map #[] 0)) = .ok () w1 ∧
    (Instr.mapUpdate 51 (.map (some w.heap.size)) (.int .i64 3) (.int .i64 1)).run Tryd.prog w1 = .ok () w2 ∧ ∃ o', MapF w2 o' 94 w.heap.size lowA 2 ∧ Step [94] w o w2 o' := by
  have s0 : Step [] w o (w.alloc (.map #[] 0)) (o.set w.heap.size 94) := ((Step.refl _ _ _).alloc _).give (Nat.le_refl _) _
  obtain ⟨w1, r1, s1, m1⟩ := (MapF.made w o 94).update (by decide) (k := 2) (v := 1) ⟨by decide, by decide⟩ ⟨by decide, by decide⟩
  obtain ⟨w2, r2, s2, m2⟩ := m1.update (by decide) (k := 3) (v := 1) ⟨by decide, by decide⟩ ⟨by decide, by decide⟩
  exact ⟨w1, w2, r1, r2, _, m2, (s0.nil.trans s1).trans s2⟩
theorem high_made (w : World) (o : Owner) {n words lc : Int} (hn : 0 ≤ n ∧ n ≤ 1000) (hw : I64 words) (hl : I64 (wrap64 (lc - 1))) : ∃ w1 w2 w3 w4, (Instr.mapUpdate 51 (.map (some w.heap.size)) (.int .i64 1) (.int .i64 (n - 1))).run Tryd.prog (w.alloc (.map #[] 0)) = .ok () w1 ∧
    (Instr.mapUpdate 51 (.map (some w.heap.size)) (.int .i64 2) (.int .i64 words)).run Tryd.prog w1 = .ok () w2 ∧
    (Instr.mapUpdate 51 (.map (some w.heap.size)) (.int .i64 3) (.int .i64 16)).run Tryd.prog w2 = .ok () w3 ∧
    (Instr.mapUpdate 51 (.map (some w.heap.size)) (.int .i64 4) (.int .i64 (wrap64 (lc - 1)))).run Tryd.prog w3 = .ok () w4 ∧ (∃ o', MapF w4 o' 95 w.heap.size (highA n words lc) 4 ∧ Step [95] w o w4 o') := by
  have s0 : Step [] w o (w.alloc (.map #[] 0)) (o.set w.heap.size 95) := ((Step.refl _ _ _).alloc _).give (Nat.le_refl _) _
  obtain ⟨w1, r1, s1, m1⟩ := (MapF.made w o 95).update (by decide) (k := 1) (v := n - 1) ⟨by decide, by decide⟩ ⟨by omega, by omega⟩
  obtain ⟨w2, r2, s2, m2⟩ := m1.update (by decide) (k := 2) (v := words) ⟨by decide, by decide⟩ hw
  obtain ⟨w3, r3, s3, m3⟩ := m2.update (by decide) (k := 3) (v := 16) ⟨by decide, by decide⟩ ⟨by decide, by decide⟩
  obtain ⟨w4, r4, s4, m4⟩ := m3.update (by decide) (k := 4) (v := wrap64 (lc - 1)) ⟨by decide, by decide⟩ hl
  exact ⟨w1, w2, w3, w4, r1, r2, r3, r4, _, m4, (((s0.nil.trans s1).trans s2).trans s3).trans s4⟩
theorem wrap_I64 (x : Int) : I64 (wrap64 x) := by
  unfold I64 wrap64
  omega
/-- b tells p. -/
def BIs (b : Bool) (p : Prop) : Prop := b = true ↔ p
/-- What May tells. -/
def MayR (l : List In) (words : Int) (w : World) (o : Owner) (e : Ending) (w' : World) : Prop :=
  ∃ b o', e = .returned (.bool b) ∧ (b = true ↔ mayP l words) ∧ Step [91, 93, 94, 95] w o w' o'
end Go.Proofs.YtglchagfclafgaaDoor
