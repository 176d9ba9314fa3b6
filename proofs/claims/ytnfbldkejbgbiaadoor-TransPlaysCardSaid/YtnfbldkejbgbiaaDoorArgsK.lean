/- A struct that came in (what is read): opened. -/
import Derived.Test.YtnfbldkejbgbiaaDoorCore
import Derived.ProofKit
import Derived.OpenShut
import Derived.Lib.SmallJoins
namespace Go.Proofs.YtnfbldkejbgbiaaDoor
open Go Go.RowKit Go.ChangeShapes Go.WideShapes
set_option linter.unusedSimpArgs false
set_option linter.unusedVariables false

section
variable {H : Type} {enc : TypeId × Value → H} {w : World} {held : Bool}

theorem int_of {t : TypeId} {k : IntKind} {n : Nat} {v : Value} {x : Option (DataW H × List MemPlace)} (ht : Tryd.prog.underlying t = some (.int k)) (h : DataW.trod enc Tryd.prog w 0 (fun _ => true) held n t [v] = x) (hx : x.isSome) : ∃ i, v = .int k i ∧ (Lit.int k i).wf = true := by
  obtain ⟨y, hy⟩ := Option.isSome_iff_exists.1 hx
  obtain ⟨i, h1, _, h3⟩ := DataW.trod_int ht (h.trans hy)
  exact ⟨i, by simpa using h1, h3⟩

theorem bool_of {t : TypeId} {n : Nat} {v : Value} {x : Option (DataW H × List MemPlace)} (ht : Tryd.prog.underlying t = some .bool) (h : DataW.trod enc Tryd.prog w 0 (fun _ => true) held n t [v] = x) (hx : x.isSome) : ∃ b, v = .bool b := by
  obtain ⟨y, hy⟩ := Option.isSome_iff_exists.1 hx
  have := h.trans hy
  cases n with
  | zero => simp [DataW.trod] at this
  | succ n =>
    cases v with
    | bool b => exact ⟨b, rfl⟩
    | _ => simp [DataW.trod, ht] at this

theorem open_known {r : Reach} {b0 : Nat} {v : Value} {d : DataW H} {p : List MemPlace} (hv : Value.okWide Tryd.prog w r b0 24 v) (h : DataW.Trod enc Tryd.prog w 0 (fun _ => true) held 24 v d p) :
    ∃ (k xt : Int) (now : Bool) (a b : Int), v = .agg #[.int .i64 k, .int .i64 xt, .bool now, .int .i64 a, .int .i64 b] := by
  obtain ⟨cs, rfl, hsz⟩ := okWide_struct Tryd.underlying24 hv
  obtain ⟨fuel, hf⟩ := h
  obtain ⟨xs, m, _, _, hl, hlen, hf⟩ := DataW.trod_struct Tryd.underlying24 hf
  have h5 : Tryd.prog.cellsOf 24 = 5 := by kernel_rfl
  obtain ⟨cs⟩ := cs
  have hl5 : cs.length = 5 := by rw [h5] at hsz; simpa using hsz
  match cs, hl5 with
  | [c0, c1, c2, c3, c4], _ =>
    have g : ∀ i, i < 5 → (xs[i]?).isSome = true := fun i hi => by
      have : xs.length = 5 := by simpa using hlen
      simp [show i < xs.length by omega]
    have c3' : Tryd.prog.cellsOf 3 = 1 := by kernel_rfl
    have c4' : Tryd.prog.cellsOf 4 = 1 := by kernel_rfl
    have c22' : Tryd.prog.cellsOf 22 = 1 := by kernel_rfl
    have f0 : DataW.trod enc Tryd.prog w 0 (fun _ => true) held m 3 (List.take (Tryd.prog.cellsOf 3) (List.drop 0 [c0, c1, c2, c3, c4])) = xs[0]? := hf 0 _ rfl
    have f1 : DataW.trod enc Tryd.prog w 0 (fun _ => true) held m 3 (List.take (Tryd.prog.cellsOf 3) (List.drop 1 [c0, c1, c2, c3, c4])) = xs[1]? := hf 1 _ rfl
    have f2 : DataW.trod enc Tryd.prog w 0 (fun _ => true) held m 4 (List.take (Tryd.prog.cellsOf 4) (List.drop 2 [c0, c1, c2, c3, c4])) = xs[2]? := hf 2 _ rfl
    have f3 : DataW.trod enc Tryd.prog w 0 (fun _ => true) held m 22 (List.take (Tryd.prog.cellsOf 22) (List.drop 3 [c0, c1, c2, c3, c4])) = xs[3]? := hf 3 _ rfl
    have f4 : DataW.trod enc Tryd.prog w 0 (fun _ => true) held m 22 (List.take (Tryd.prog.cellsOf 22) (List.drop 4 [c0, c1, c2, c3, c4])) = xs[4]? := hf 4 _ rfl
    simp only [c3', c4', c22', List.drop_zero, List.drop_succ_cons, List.take_succ_cons, List.take_zero] at f0 f1 f2 f3 f4
    obtain ⟨i0, rfl, _⟩ := int_of Tryd.underlying3 f0 (g 0 (by omega))
    obtain ⟨i1, rfl, _⟩ := int_of Tryd.underlying3 f1 (g 1 (by omega))
    obtain ⟨i2, rfl⟩ := bool_of Tryd.underlying4 f2 (g 2 (by omega))
    obtain ⟨i3, rfl, _⟩ := int_of Tryd.underlying22 f3 (g 3 (by omega))
    obtain ⟨i4, rfl, _⟩ := int_of Tryd.underlying22 f4 (g 4 (by omega))
    exact ⟨i0, i1, i2, i3, i4, rfl⟩
end
end Go.Proofs.YtnfbldkejbgbiaaDoor
