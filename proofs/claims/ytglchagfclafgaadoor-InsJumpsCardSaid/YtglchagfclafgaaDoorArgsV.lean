/- Arguments that are slices of bools, of strings, as rows that are read. -/
import Derived.Test.YtglchagfclafgaaDoorRowx
import Derived.ProofKit
namespace Go.Proofs.YtglchagfclafgaaDoor
open Go Go.RowKit
set_option linter.unusedSimpArgs false
set_option linter.unusedVariables false

/-- A slice that came in, of cells of one value each. -/
def IsVals (w : World) (a : Option Addr) (len cap : Nat) (zs : List Value) : Prop :=
  (a = none ∧ len = 0 ∧ cap = 0 ∧ zs = []) ∨
  ∃ x, a = some x ∧ len ≤ cap ∧ cap ≤ maxLen ∧ zs.length = len ∧ ∀ i, i < len → w.cell? (x.add i) = some (zs.getD i undef)

theorem IsVals.rd {w : World} {a : Option Addr} {len cap : Nat} {zs : List Value} (h : IsVals w a len cap zs) : len = zs.length ∧ Rd w (fun _ => 0) 0 1 (.slice a len cap) len zs := by
  rcases h with ⟨rfl, rfl, rfl, rfl⟩ | ⟨x, rfl, h1, h2, h3, h4⟩
  · exact ⟨rfl, Rd.nil _ _ _ _ _ _ (by simp [maxLen])⟩
  · refine ⟨h3.symm, ⟨_, _, rfl, h1, h2, by omega, fun hn => ?_⟩⟩
    obtain ⟨b, off, spot⟩ := x
    have hc := h4 0 (by omega)
    have hspot : spot = none := by simpa [Addr.add] using World.cell?_spot hc
    subst hspot
    refine ⟨b, off, rfl, ?_, rfl, fun j u hj => ?_⟩
    · exact World.block_lt_of_cell? w _ hc
    · obtain ⟨hj1, hj2⟩ := List.getElem?_eq_some_iff.1 hj
      have := h4 j (by omega)
      rw [Addr.add_lit] at this
      rw [this, ← hj2]
      simp [List.getD, hj1]

def IsBools (w : World) (a : Option Addr) (len cap : Nat) (zs : List Bool) : Prop := IsVals w a len cap (zs.map Value.bool)
theorem IsBools.nil {w : World} : IsBools w none 0 0 [] := .inl ⟨rfl, rfl, rfl, rfl⟩
theorem IsBools.mk {w : World} {x : Addr} {len cap : Nat} {B : Nat → Bool} (hl : len ≤ cap) (hm : cap ≤ maxLen) (hc : ∀ i, i < cap → w.cell? (x.add i) = some (.bool (B i))) : IsBools w (some x) len cap ((List.range len).map B) :=
  .inr ⟨x, rfl, hl, hm, by simp, fun i hi => by rw [hc i (by omega)]; simp [List.getD, hi]⟩
theorem IsBools.rd {w : World} {a : Option Addr} {len cap : Nat} {zs : List Bool} (h : IsBools w a len cap zs) : len = zs.length ∧ Rd w (fun _ => 0) 0 1 (.slice a len cap) len (zs.map Value.bool) := by
  have := IsVals.rd h
  simpa using this

/-- A slice of strings. -/
def IsStrs (w : World) (a : Option Addr) (len cap : Nat) (zs : List ByteArray) : Prop := IsVals w a len cap (zs.map Value.string) ∧ ∀ s ∈ zs, s.size ≤ maxLen
theorem IsStrs.nil {w : World} : IsStrs w none 0 0 [] := ⟨.inl ⟨rfl, rfl, rfl, rfl⟩, by simp⟩
theorem IsStrs.mk {w : World} {x : Addr} {len cap : Nat} {B : Nat → ByteArray} (hl : len ≤ cap) (hm : cap ≤ maxLen) (hc : ∀ i, i < cap → w.cell? (x.add i) = some (.string (B i)) ∧ (B i).size ≤ maxLen) : IsStrs w (some x) len cap ((List.range len).map B) := by
  refine ⟨.inr ⟨x, rfl, hl, hm, by simp, fun i hi => by rw [(hc i (by omega)).1]; simp [List.getD, hi]⟩, fun s hs => ?_⟩
  obtain ⟨i, hi, rfl⟩ := List.mem_map.1 hs
  exact (hc i (by have := List.mem_range.1 hi; omega)).2
theorem IsStrs.rd {w : World} {a : Option Addr} {len cap : Nat} {zs : List ByteArray} (h : IsStrs w a len cap zs) : len = zs.length ∧ Rd w (fun _ => 0) 0 1 (.slice a len cap) len (zs.map Value.string) := by
  have := IsVals.rd h.1
  simpa using this
end Go.Proofs.YtglchagfclafgaaDoor
