/- A map of numbers that is owned: where the last word of each list is. -/
import Derived.Test.YtaledmoakhlmgaaDicL
import Derived.Maps.OwnOps
namespace Go.Proofs.Ytaledmoakhlmgaa
open Go Go.RowKit
set_option linter.unusedSimpArgs false
set_option linter.unusedVariables false

theorem keyed3 : Maps.Keyed Try.prog 3 := Maps.int_keyed Try.underlying3
theorem zero3 (w : World) : (zeroValue 3).run Try.prog w = .ok (.int .i64 0) w := by kernel_rfl
def I64 (x : Int) : Prop := -9223372036854775808 ≤ x ∧ x ≤ 9223372036854775807
theorem I64.wf {x : Int} (h : I64 x) : (Lit.int .i64 x).wf = true := by
  obtain ⟨h1, h2⟩ := h
  simp [Lit.wf, IntKind.min, IntKind.max, IntKind.signed, IntKind.bits]; omega

/-- Block mb, of owner i, is a map that tells f for the keys 1 .. L; N entries at most. -/
def MapL (w : World) (o : Owner) (i mb : Nat) (L : Int) (f : Int → Int) (N : Nat) : Prop :=
  o mb = i ∧ ∃ D : DataW Unit, w.ownsMap Try.prog 3 (plainElem Try.prog 3) mb N D ∧ Maps.IsMap D ∧ ∀ k, 1 ≤ k → k ≤ L → D.atKey (.int .i64 k) (.lit (.int .i64 0)) = .lit (.int .i64 (f k))

theorem MapL.frame {S : List Nat} {w w' : World} {o o' : Owner} {i mb N : Nat} {L : Int} {f : Int → Int} (h : MapL w o i mb L f N) (st : Step S w o w' o') (hi : i ∉ S) : MapL w' o' i mb L f N := by
  obtain ⟨ho, D, hown, hm, hf⟩ := h
  have hlt := hown.lt
  refine ⟨(st.own mb hlt).trans ho, D, ?_, hm, hf⟩
  obtain ⟨es, clock, hb, F, hs, hD⟩ := hown
  exact ⟨es, clock, (st.blk mb hlt (by rw [ho]; exact hi)).trans hb, F, hs, hD⟩
theorem MapL.lt {w : World} {o : Owner} {i mb N : Nat} {L : Int} {f : Int → Int} (h : MapL w o i mb L f N) : mb < w.heap.size := by
  obtain ⟨ho, D, hown, _⟩ := h
  exact hown.lt
theorem MapL.owner {w : World} {o o' : Owner} {i i' mb N : Nat} {L : Int} {f : Int → Int} (h : MapL w o i mb L f N) (ho : o' mb = i') : MapL w o' i' mb L f N := ⟨ho, h.2⟩
theorem MapL.mono {w : World} {o : Owner} {i mb N N' : Nat} {L : Int} {f : Int → Int} (h : MapL w o i mb L f N) (hN : N ≤ N') : MapL w o i mb L f N' := by
  obtain ⟨ho, D, hown, hm, hf⟩ := h
  exact ⟨ho, D, hown.mono hN, hm, hf⟩
theorem MapL.look {w : World} {o : Owner} {i mb N : Nat} {L : Int} {f : Int → Int} (h : MapL w o i mb L f N) {k : Int} (h1 : 1 ≤ k) (h2 : k ≤ L) (hk : I64 k) :
    (Instr.lookup 66 (.map (some mb)) (.int .i64 k) false).run Try.prog w = .ok (.int .i64 (f k)) w := by
  obtain ⟨ho, D, hown, hm, hf⟩ := h
  obtain ⟨c, hrun, hat, _⟩ := hown.lookup_int keyed3 Try.underlying66 Try.underlying3 (zero3 _) (Maps.keyOf_int_mk Try.underlying3 hk.wf)
  rw [hf k h1 h2] at hat
  simp only [DataW.lit.injEq, Lit.int.injEq, true_and] at hat
  rw [hrun, hat]
theorem MapL.update {w : World} {o : Owner} {i mb N : Nat} {L : Int} {f : Int → Int} (h : MapL w o i mb L f N) (hN : N < 1000000000) {k v : Int} (hk : I64 k) (hv : I64 v) :
    ∃ w', (Instr.mapUpdate 66 (.map (some mb)) (.int .i64 k) (.int .i64 v)).run Try.prog w = .ok () w' ∧ Step [i] w o w' o ∧
      ∀ (L' : Int) (g : Int → Int), (L' ≤ L ∨ (L' = L + 1 ∧ k = L + 1)) → (∀ j, 1 ≤ j → j ≤ L' → g j = if j = k then v else f j) → MapL w' o i mb L' g (N + 1) := by
  obtain ⟨ho, D, hown, hm, hf⟩ := h
  have hlt := hown.lt
  obtain ⟨w', hrun, r1, r2⟩ := hown.update keyed3 Try.underlying66 (by simp only [maxLen]; omega) (Maps.keyOf_int_mk Try.underlying3 hk.wf) (plainElem_int Try.underlying3 hv.wf)
  refine ⟨w', hrun, ⟨r2.os, r2.tape, r2.output, r2.size, fun _ _ => rfl, fun b hb hn => r2.block b hb (by intro e; cases e; exact hn (by rw [ho]; simp))⟩, ?_⟩
  intro L' g hL hg
  refine ⟨ho, _, r1, hm.put _ _, fun j j1 j2 => ?_⟩
  rw [hg j j1 j2]
  by_cases hj : j = k
  · subst hj
    rw [if_pos rfl]
    exact Maps.atKey_put_same hm (keyed3.key (Maps.keyOf_int_mk Try.underlying3 hk.wf)) _ _
  · rw [if_neg hj, Maps.atKey_put_other (by intro e; cases e; exact hj rfl)]
    exact hf j j1 (by omega)

/-- 'm[k] = v' as a law of the walk. -/
theorem wpList_put {ops : Array Oper} {rest : List Oper} {op : Oper} {a : Act} {Q : Exit → Act → World → Prop} {w : World} (hg : op.guard = none) (m x y : Operand) (hop : op.op = Op.mapUpdate 66 m x y)
    {o : Owner} {i mb N : Nat} {L : Int} {f : Int → Int} (h : MapL w o i mb L f N) (hN : N < 1000000000) {k v : Int} (hk : I64 k) (hv : I64 v)
    (hm : a.eval m = .map (some mb)) (hx : a.eval x = .int .i64 k) (hy : a.eval y = .int .i64 v)
    (hK : ∀ w', Step [i] w o w' o → (∀ (L' : Int) (g : Int → Int), (L' ≤ L ∨ (L' = L + 1 ∧ k = L + 1)) → (∀ j, 1 ≤ j → j ≤ L' → g j = if j = k then v else f j) → MapL w' o i mb L' g (N + 1)) → wpList Try.prog ops Q rest (a.put op.dst undef) w') :
    wpList Try.prog ops Q (op :: rest) a w := by
  refine wpList_plain hg fun K' hK' => ?_
  obtain ⟨w', hrun, r1, r2⟩ := h.update hN hk hv
  unfold Oper.wp
  simp [execOp, hop, hm, hx, hy, hrun, Result.andThen]
  exact hK' _ _ (hK w' r1 r2)
end Go.Proofs.Ytaledmoakhlmgaa
