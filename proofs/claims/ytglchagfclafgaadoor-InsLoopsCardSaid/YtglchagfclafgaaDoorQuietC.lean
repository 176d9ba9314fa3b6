/- A region that draws its order, whose operations and callees leave the worlds of a class in it: one walk, in the order of the text. -/
import Derived.Test.YtglchagfclafgaaDoorCore
import Derived.Deep.Quiet
namespace Go.Proofs.YtglchagfclafgaaDoor
open Go Go.RowKit
set_option linter.unusedSimpArgs false
set_option linter.unusedVariables false

/-- The walk in the order of the text, behind a name that nothing opens. -/
structure QWalk (P : Program) (ops : Array Oper) (C : World → Prop) (Q : Act → Prop) (l : List Oper) (a : Act) : Prop where
  run : wpQuiet P ops C Q l a

theorem q_start {ops : List Oper} {id : Nat} {Q : Exit → Act → World → Prop} {a : Act} {w : World} (C : World → Prop) (hB : Region.lexB .any ops.toArray = true) (hC : C w.drew)
    (h : QWalk Tryd.prog ops.toArray C (fun a' => ∀ w', C w' → Q .normal a' w') ops a) : (Code.region id ops.toArray true).wp Tryd.prog Q a w :=
  wp_region_quiet (C := C) (by kernel_rfl) hB hC (by simpa using h.run)

section
variable {P : Program} {ops : Array Oper} {C : World → Prop} {Q : Act → Prop} {a : Act} {o : Oper} {rest : List Oper}

/-- The guard is off. -/
theorem q_off (h : Region.wanted o (yielded ops a.tmps) = false) (k : QWalk P ops C Q rest (a.put o.dst undef)) : QWalk P ops C Q (o :: rest) a := by
  constructor; unfold wpQuiet; rw [if_neg (by rw [h]; exact Bool.false_ne_true)]; exact k.run
/-- The operation yields v in every world of the class. -/
theorem q_on (h : Region.wanted o (yielded ops a.tmps) = true) (hv : ∃ v, (∀ W, C W → o.quietAt P a C W v) ∧ QWalk P ops C Q rest (a.put o.dst v)) : QWalk P ops C Q (o :: rest) a := by
  obtain ⟨v, h1, h2⟩ := hv
  constructor; unfold wpQuiet; rw [if_pos h]; exact ⟨v, h1, h2.run⟩
theorem q_end (h : Q a) : QWalk P ops C Q [] a := ⟨wpQuiet_nil h⟩
end
end Go.Proofs.YtglchagfclafgaaDoor
