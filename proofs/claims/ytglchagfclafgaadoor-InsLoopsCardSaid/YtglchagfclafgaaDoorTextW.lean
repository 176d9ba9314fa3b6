/- Rows of bytes, and the text of one. -/
import Derived.Test.YtglchagfclafgaaDoorCore
import Derived.Laws.IdiomStrings
import Derived.Lib.ConvBytes
import Derived.KernelRfl
namespace Go.Proofs.YtglchagfclafgaaDoor
open Go Go.RowKit
set_option linter.unusedSimpArgs false
set_option linter.unusedVariables false

def u8s (l : List UInt8) : List Value := l.map fun c => Value.int .u8 (c.toNat : Nat)
theorem u8s_one (l : List UInt8) : ∀ u ∈ u8s l, u.oneCell' = true := by
  intro u hu
  obtain ⟨c, _, rfl⟩ := List.mem_map.1 hu
  rfl
theorem infoU8 : (Tryd.prog.info? 5).map (fun i => (i.zero, i.size, i.bytes)) = some (some (.int .u8 0), 1, 1) := by kernel_rfl
theorem Row.cast {w : World} {o : Owner} {i E size n : Nat} {v : Value} {xs ys : List Value} (h : Row w o i E size v n xs) (e : xs = ys) : Row w o i E size v n ys := e ▸ h
theorem Row.slice' {w : World} {o : Owner} {i E size n : Nat} {v : Value} {xs : List Value} (h : Row w o i E size v n xs) : ∃ ao c, v = .slice ao n c := by
  obtain ⟨_, ⟨ao, rfl, rfl⟩ | ⟨g, cap, cur, rfl, _⟩⟩ := h
  · exact ⟨_, _, rfl⟩
  · exact ⟨_, _, rfl⟩

/-- What writes only into new blocks leaves all that was there, whoever owns it. -/
theorem Step.calm0 {S : List Nat} {w w' : World} {o1 : Owner} (h : Step S w (fun _ => 0) w' o1) (o : Owner) (hS : 0 ∉ S) : ∃ o', Step [] w o w' o' :=
  ⟨fun b => if b < w.heap.size then o b else o1 b, h.os, h.tape, h.output, h.size, fun b hb => if_pos hb, fun b hb _ => h.blk b hb hS⟩

/-- 'string(b)' of a row that is owned. -/
theorem row_back {w : World} {o : Owner} {i n : Nat} {a : Option Addr} {c : Nat} {l : List UInt8} (h : Row w o i 5 1 (.slice a n c) n (u8s l)) : (convert 66 9 (.slice a n c)).run Tryd.prog w = .ok (.string ⟨l.toArray⟩) w := by
  have hl : l.length = n := by have := h.len; simpa [u8s] using this
  obtain ⟨ao, cap, hv, h1, h2, h3, h4⟩ := h.rd
  simp only [Value.slice.injEq, true_and] at hv
  obtain ⟨rfl, rfl⟩ := hv
  by_cases hn : 0 < n
  · obtain ⟨b, off, rfl, hb, ho, hc⟩ := h4 hn
    subst hl
    exact run_convert_bytes_back w 66 9 5 ⟨b, off, none⟩ c l Tryd.underlying66 Tryd.underlying5 Tryd.underlying9 (fun j hj => by
      rw [Addr.add_lit]
      exact hc j _ (by simp [u8s, hj]))
  · obtain rfl : n = 0 := by omega
    obtain rfl : l = [] := List.eq_nil_of_length_eq_zero hl
    cases a with
    | none => exact run_convert_bytes_nil w 66 5 Tryd.underlying66 Tryd.underlying5 0 c _ Tryd.underlying9
    | some a => exact run_convert_bytes_back w 66 9 5 a c [] Tryd.underlying66 Tryd.underlying5 Tryd.underlying9 (fun j hj => absurd hj (by simp))

end Go.Proofs.YtglchagfclafgaaDoor
