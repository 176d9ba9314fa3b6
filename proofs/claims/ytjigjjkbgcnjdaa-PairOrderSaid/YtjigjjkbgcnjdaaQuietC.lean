/- A region that draws its order, whose operations and callees leave the worlds of a class in it: one walk, in the order of the text. -/
import Derived.Test.YtjigjjkbgcnjdaaCore
import Derived.Deep.Quiet
namespace Go.Proofs.Ytjigjjkbgcnjdaa
open Go Go.RowKit
set_option linter.unusedSimpArgs false
set_option linter.unusedVariables false

theorem q_start {ops : List Oper} {id : Nat} {Q : Exit → Act → World → Prop} {a : Act} {w : World} (C : World → Prop) (hB : Region.lexB .any ops.toArray = true) (hC : C w.drew)
    (h : wpQuiet Try.prog ops.toArray C (fun a' => ∀ w', C w' → Q .normal a' w') ops a) : (Code.region id ops.toArray true).wp Try.prog Q a w :=
  wp_region_quiet (C := C) (by kernel_rfl) hB hC (by simpa using h)

section
variable {P : Program} {ops : Array Oper} {C : World → Prop} {Q : Act → Prop} {a : Act} {o : Oper} {rest : List Oper}

/-- The guard is off. -/
theorem q_off (h : Region.wanted o (yielded ops a.tmps) = false) (k : wpQuiet P ops C Q rest (a.put o.dst undef)) : wpQuiet P ops C Q (o :: rest) a := by
  unfold wpQuiet; rw [if_neg (by rw [h]; exact Bool.false_ne_true)]; exact k
/-- The operation yields v in every world of the class. -/
theorem q_on (h : Region.wanted o (yielded ops a.tmps) = true) (hv : ∃ v, (∀ W, C W → o.quietAt P a C W v) ∧ wpQuiet P ops C Q rest (a.put o.dst v)) : wpQuiet P ops C Q (o :: rest) a := by
  unfold wpQuiet; rw [if_pos h]; exact hv
theorem q_end (h : Q a) : wpQuiet P ops C Q [] a := h
end
end Go.Proofs.Ytjigjjkbgcnjdaa
