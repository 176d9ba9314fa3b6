/- The law DigitSteps: for every input the call returns true, and each argument reads afterwards as it read before. No condition. -/
import Derived.Test.YtfeeikhcdphcpaaRows
import Derived.Test.YtfeeikhcdphcpaaSteps03
import Derived.WalkKit
import Derived.ProofKit
import Derived.OpenShut
import Derived.ShutString
import Derived.ChangeOld
import Derived.Below
import Derived.Lib.SmallJoins
namespace Go.Proofs.Ytfeeikhcdphcpaa.digitSteps
open Go.ChangeShapes Go.WideShapes Go.ChangeAt Go.RowKit Go.Joins
open Go.ChangeMaps (open_string shut_string)
set_option linter.unusedVariables false
set_option linter.unusedSimpArgs false

theorem own : ownKnob Try.prog.godebug = none := by kernel_rfl
theorem laidOut : laidOutB Try.prog = true := by kernel_rfl
theorem cells24 : Try.prog.cellsOf 24 = 2 := by kernel_rfl

/-! The walk. -/
theorem walk (x0 y0 : Int) (x1 : Int) (w0 : (Lit.int .i64 x0).wf = true) (v0 : (Lit.int .i64 y0).wf = true) (w1 : (Lit.int .u8 x1).wf = true) (w : World) :
    Calls Try.prog 9 #[.agg #[.int .i64 x0, .int .i64 y0], .int .u8 x1] w fun e w' => e = .returned (.bool true) ∧ Below w.heap.size w w' := by
  exact (steps_walk x0 y0 x1 (wf_cell w0) (wf_cell v0) (wf_u8 w1) w).mono fun e w' h => ⟨h.1, h.2.below⟩

set_option maxRecDepth 100000 in
theorem lifted (os : Os) (started : os.Started) (H : Type) (enc : TypeId × Value → H) :
    ReturnsInHanded {} Try.checked os 9 .any (Rows.digitStepsSpec.pre6 enc Try.prog Try.f9 Rows.digitStepsRow.domain false) (Rows.digitStepsSpec.post enc Try.prog Try.f9 false true false false) := by
  refine returnsInHanded_of_change (C := Try.checked) own started (by kernel_rfl) Try.func9
    (ChangeSpec.witness6 (enc := enc) (C := Try.checked) false ⟨#[], #[.agg #[.int .i64 0, .int .i64 0], .int .u8 0], []⟩ 8 (by kernel_rfl) (by kernel_rfl) (by kernel_rfl) (by kernel_rfl)) ?_
  intro W base args ds gs before hval0 hW hcnd _
  have hval : ∀ (j : Nat) t v, Try.f9.params[j]? = some t → args[j]? = some v → Value.okWide Try.prog W .any base t v := hval0
  have hW' := hW
  obtain ⟨p, q, hA0, hV, rfl, hfz, hnd⟩ := hW
  have hA : DataW.TrodAll enc Try.prog W 0 (fun _ => true) true Try.f9.params.toList args.toList ds p := hA0
  rw [Try.params9] at hA hval
  obtain ⟨s0, vs0, d0, ds0, p0, q0, hargs, rfl, rfl, h0, r0⟩ := trodAll_cons hA
  obtain ⟨s1, vs1, d1, ds1, p1, q1, rfl, rfl, rfl, h1, r1⟩ := trodAll_cons r0
  obtain ⟨rfl, rfl, rfl⟩ := trodAll_nil r1
  obtain rfl : args = #[s0, s1] := by cases args; simp_all
  obtain ⟨rfl, rfl⟩ := trodVars_none hV
  obtain ⟨c0, e0, y0a, y0b, m0, rfl, rfl, rfl, hx0, hy0⟩ := open_agg2 Try.underlying24 (by kernel_rfl) cells24 (hval 0 24 s0 rfl rfl) h0
  obtain ⟨x0, f0, rfl, w0⟩ := DataW.trod_int Try.underlying22 hx0
  obtain ⟨y0, g0, rfl, v0⟩ := DataW.trod_int Try.underlying22 hy0
  simp at f0 g0
  subst f0 g0
  have sr0 : ∀ (W' : World) (sp : Nat → Bool), DataW.Trod enc Try.prog W' 0 sp true 24 (.agg #[.int .i64 x0, .int .i64 y0]) (.agg [.lit (.int .i64 x0), .lit (.int .i64 y0)]) [] := fun W' sp =>
    shut_agg2 (y0 := (.lit (.int .i64 x0), [])) (y1 := (.lit (.int .i64 y0), [])) Try.underlying24 (by kernel_rfl) cells24 ⟨1, by simp [DataW.trod, Try.underlying22, w0]⟩ ⟨1, by simp [DataW.trod, Try.underlying22, v0]⟩
  obtain ⟨x1, rfl, rfl, rfl, w1⟩ := open_int Try.underlying5 (hval 1 5 s1 rfl rfl) h1
  clear hA0 hval0
  refine (walk x0 y0 x1 w0 v0 w1 W).mono fun e W' ⟨he, bel⟩ => ?_
  subst he
  exact ⟨_, rfl, _, _, _, [], _, [], hW', trodAll_mk1 (shut_bool Try.underlying4 _), (trodAll_cons_mk (sr0 _ _) (trodAll_cons_mk (shut_int Try.underlying5 w1) trodAll_mk0)), rfl, bel.frame _, fun h => by cases h⟩

theorem over : Rows.digitStepsRow.holds Try.pinned (OpenSpec.ofChange Rows.digitStepsSpec) :=
  OpenClaim.holds_of_wide 9 Try.f9 rfl rfl rfl rfl rfl rfl rfl ⟨rfl, rfl, rfl, rfl, rfl⟩ rfl rfl rfl rfl rfl (by kernel_rfl) Try.func9 (by kernel_rfl)
    (of_decide_eq_true (by kernel_rfl)) (by unfold Func.isWrapper; first | (rw [if_pos (by decide +kernel)]; kernel_rfl) | (rw [if_neg (by decide +kernel)]; exact ⟨rfl, rfl⟩))
    (fun os started H enc _ => lifted os started H enc)

/-- THE STATEMENT -/
theorem proved : Rows.DigitStepsSaid :=
  over
#print axioms proved
end Go.Proofs.Ytfeeikhcdphcpaa.digitSteps
