/- Acts that came in. -/
import Derived.Test.YtegcpjheglcbcaaFew14
import Derived.Test.YtegcpjheglcbcaaArgsF
import Derived.Deep.Slices
import Derived.OpenShut
namespace Go.Proofs.Ytegcpjheglcbcaa
open Go Go.RowKit Go.ChangeShapes Go.Shelf
set_option linter.unusedSimpArgs false
set_option linter.unusedVariables false

instance : Inhabited Av := ⟨⟨0, 0, 0, 0, 0, 0, none, 0, 0, 0, 0, []⟩⟩

section
variable {H : Type} {enc : TypeId × Value → H} {w : World} {held : Bool}

theorem info59c : Try.prog.cellsOf 59 = 9 := by kernel_rfl

theorem int_of {t : TypeId} {k : IntKind} {n : Nat} {v : Value} {x : Option (DataW H × List MemPlace)} (ht : Try.prog.underlying t = some (.int k)) (h : DataW.trod enc Try.prog w 0 (fun _ => true) held n t [v] = x) (hx : x.isSome) : ∃ i, v = .int k i ∧ (Lit.int k i).wf = true := by
  obtain ⟨y, hy⟩ := Option.isSome_iff_exists.1 hx
  obtain ⟨i, h1, _, h3⟩ := DataW.trod_int ht (h.trans hy)
  exact ⟨i, by simpa using h1, h3⟩
theorem row_of {n : Nat} {v : Value} {x : Option (DataW H × List MemPlace)} (h : DataW.trod enc Try.prog w 0 (fun _ => true) held n 28 [v] = x) (hx : x.isSome) : ∃ l : List Int, Rd w (fun _ => 0) 0 1 v l.length (cellsOf l) := by
  obtain ⟨y, hy⟩ := Option.isSome_iff_exists.1 hx
  rcases open_ints Try.underlying28 Try.underlying22 (by kernel_rfl) (h.trans hy) with ⟨hcs, _⟩ | ⟨x, l, c, zs, hcs, _, hl, hm, hz, _, hcell, hwz⟩
  · simp at hcs
    subst hcs
    exact ⟨[], Rd.nil _ _ _ _ _ _ (by simp [maxLen])⟩
  · simp at hcs
    subst hcs
    obtain ⟨xs, rfl, r, _⟩ := IsRow.rd (k := .i64) (.inr ⟨_, rfl, hl, hm, by simpa using hz, hcell, hwz⟩)
    exact ⟨xs, r⟩
theorem frame_of {n : Nat} {c0 c1 c2 c3 c4 c5 : Value} {x : Option (DataW H × List MemPlace)} (h : DataW.trod enc Try.prog w 0 (fun _ => true) held n 30 [c0, c1, c2, c3, c4, c5] = x) (hx : x.isSome) : ∃ k a d x z l, c0 = .int .i64 k ∧ c1 = .int .i64 a ∧ c2 = .int .i64 d ∧ c3 = .int .i64 x ∧ c4 = .int .i64 z ∧ ∃ l' : List Int, l = l' ∧ Rd w (fun _ => 0) 0 1 c5 l'.length (cellsOf l') := by
  obtain ⟨y, hy⟩ := Option.isSome_iff_exists.1 hx
  obtain ⟨xs, m, _, _, hl, hlen, hf⟩ := DataW.trod_struct Try.underlying30 (h.trans hy)
  have g : ∀ i, i < 6 → (xs[i]?).isSome = true := fun i hi => by
    have : xs.length = 6 := by simpa using hlen
    simp [show i < xs.length by omega]
  have k3 : Try.prog.cellsOf 3 = 1 := by kernel_rfl
  have k22 : Try.prog.cellsOf 22 = 1 := by kernel_rfl
  have k28 : Try.prog.cellsOf 28 = 1 := by kernel_rfl
  have f0 : DataW.trod enc Try.prog w 0 (fun _ => true) held m 3 (List.take (Try.prog.cellsOf 3) (List.drop 0 [c0, c1, c2, c3, c4, c5])) = xs[0]? := hf 0 _ rfl
  have f1 : DataW.trod enc Try.prog w 0 (fun _ => true) held m 3 (List.take (Try.prog.cellsOf 3) (List.drop 1 [c0, c1, c2, c3, c4, c5])) = xs[1]? := hf 1 _ rfl
  have f2 : DataW.trod enc Try.prog w 0 (fun _ => true) held m 3 (List.take (Try.prog.cellsOf 3) (List.drop 2 [c0, c1, c2, c3, c4, c5])) = xs[2]? := hf 2 _ rfl
  have f3 : DataW.trod enc Try.prog w 0 (fun _ => true) held m 22 (List.take (Try.prog.cellsOf 22) (List.drop 3 [c0, c1, c2, c3, c4, c5])) = xs[3]? := hf 3 _ rfl
  have f4 : DataW.trod enc Try.prog w 0 (fun _ => true) held m 22 (List.take (Try.prog.cellsOf 22) (List.drop 4 [c0, c1, c2, c3, c4, c5])) = xs[4]? := hf 4 _ rfl
  have f5 : DataW.trod enc Try.prog w 0 (fun _ => true) held m 28 (List.take (Try.prog.cellsOf 28) (List.drop 5 [c0, c1, c2, c3, c4, c5])) = xs[5]? := hf 5 _ rfl
  simp only [k3, k22, k28, List.drop_zero, List.drop_succ_cons, List.take_succ_cons, List.take_zero] at f0 f1 f2 f3 f4 f5
  obtain ⟨i0, rfl, _⟩ := int_of Try.underlying3 f0 (g 0 (by omega))
  obtain ⟨i1, rfl, _⟩ := int_of Try.underlying3 f1 (g 1 (by omega))
  obtain ⟨i2, rfl, _⟩ := int_of Try.underlying3 f2 (g 2 (by omega))
  obtain ⟨i3, rfl, _⟩ := int_of Try.underlying22 f3 (g 3 (by omega))
  obtain ⟨i4, rfl, _⟩ := int_of Try.underlying22 f4 (g 4 (by omega))
  obtain ⟨l, hr⟩ := row_of f5 (g 5 (by omega))
  exact ⟨i0, i1, i2, i3, i4, l, rfl, rfl, rfl, rfl, rfl, l, rfl, hr⟩

/-- What came in as an act, with its locals. -/
theorem open_act {n : Nat} {cs : List Value} {x : DataW H × List MemPlace} (h : DataW.trod enc Try.prog w 0 (fun _ => true) held n 59 cs = some x) : ∃ a : Av, cs = a.cells ∧ AvOk w a := by
  obtain ⟨xs, m, _, _, hl, hlen, hf⟩ := DataW.trod_struct Try.underlying59 h
  rw [info59c] at hl
  match cs, hl with
  | [c0, c1, c2, c3, c4, c5, c6, c7, c8], _ =>
    have g : ∀ i, i < 4 → (xs[i]?).isSome = true := fun i hi => by
      have : xs.length = 4 := by simpa using hlen
      simp [show i < xs.length by omega]
    have k5 : Try.prog.cellsOf 5 = 1 := by kernel_rfl
    have k3 : Try.prog.cellsOf 3 = 1 := by kernel_rfl
    have k22 : Try.prog.cellsOf 22 = 1 := by kernel_rfl
    have k30 : Try.prog.cellsOf 30 = 6 := by kernel_rfl
    have f0 : DataW.trod enc Try.prog w 0 (fun _ => true) held m 5 (List.take (Try.prog.cellsOf 5) (List.drop 0 [c0, c1, c2, c3, c4, c5, c6, c7, c8])) = xs[0]? := hf 0 _ rfl
    have f1 : DataW.trod enc Try.prog w 0 (fun _ => true) held m 30 (List.take (Try.prog.cellsOf 30) (List.drop 1 [c0, c1, c2, c3, c4, c5, c6, c7, c8])) = xs[1]? := hf 1 _ rfl
    have f2 : DataW.trod enc Try.prog w 0 (fun _ => true) held m 3 (List.take (Try.prog.cellsOf 3) (List.drop 7 [c0, c1, c2, c3, c4, c5, c6, c7, c8])) = xs[2]? := hf 2 _ rfl
    have f3 : DataW.trod enc Try.prog w 0 (fun _ => true) held m 22 (List.take (Try.prog.cellsOf 22) (List.drop 8 [c0, c1, c2, c3, c4, c5, c6, c7, c8])) = xs[3]? := hf 3 _ rfl
    simp only [k5, k3, k22, k30, List.drop_zero, List.drop_succ_cons, List.take_succ_cons, List.take_zero] at f0 f1 f2 f3
    obtain ⟨i0, rfl, w0⟩ := int_of Try.underlying5 f0 (g 0 (by omega))
    obtain ⟨k, a, d, x, z, l, rfl, rfl, rfl, rfl, rfl, l', rfl, hr⟩ := frame_of f1 (g 1 (by omega))
    obtain ⟨i2, rfl, w2⟩ := int_of Try.underlying3 f2 (g 2 (by omega))
    obtain ⟨i3, rfl, w3⟩ := int_of Try.underlying22 f3 (g 3 (by omega))
    have hr' := hr
    obtain ⟨ao, cap, rfl, h1, h2, -⟩ := hr'
    unfold maxLen at h2
    exact ⟨⟨i0, k, a, d, x, z, ao, l.length, cap, i2, i3, l⟩, rfl, wf_u8_of w0, wf_i64_of w2, h1, by show cap ≤ _; omega, hr⟩

theorem open_acts {a : Option Addr} {len cap : Nat} (h : ∃ d p, DataW.Trod enc Try.prog w 0 (fun _ => true) held 53 (.slice a len cap) d p) :
    ∃ zs : List Av, zs.length = len ∧ Rd w (fun _ => 0) 0 9 (.slice a len cap) len (acells zs) ∧ ∀ q ∈ zs, AvOk w q := by
  obtain ⟨d, p, fuel, hf⟩ := h
  rcases Deep.open_slice Try.underlying53 hf with ⟨hcs, _⟩ | ⟨x, l, c, m, n, D, Pl, hcs, _, hl, hm, hmm, _, hcell⟩
  · simp [Value.cells] at hcs
    obtain ⟨rfl, rfl, rfl⟩ := hcs
    exact ⟨[], rfl, Rd.nil _ _ _ _ _ _ (by simp [maxLen]), by simp⟩
  · simp [Value.cells] at hcs
    obtain ⟨rfl, rfl, rfl⟩ := hcs
    simp only [if_true] at hmm
    subst hmm
    rw [info59c] at hcell
    obtain ⟨F, hF⟩ := Deep.choose_lt (α := Av) (p := fun i q => (w.cells? 0 (x.add (i * 9)) 9 = some q.cells) ∧ AvOk w q) (fun i hi => by
      obtain ⟨cs', h1, h2⟩ := hcell i hi
      obtain ⟨q, rfl, hr⟩ := open_act h2
      exact ⟨q, h1, hr⟩)
    refine ⟨(List.range len).map F, by simp, ⟨_, _, rfl, hl, hm, by rw [acells_len]; simp, fun hn => ?_⟩, fun q hq => ?_⟩
    · obtain ⟨b, off, spot⟩ := x
      have h0 := ((World.cells?_some (hF 0 (by omega)).1).2.2 0 (by omega)).trans (show _ = some (Value.int .u8 (F 0).y) from rfl)
      have hspot : spot = none := by simpa [Addr.add] using World.cell?_spot h0
      subst hspot
      refine ⟨b, off, rfl, World.block_lt_of_cell? w ⟨b, off, none⟩ (by simpa [Addr.add_lit] using h0), rfl, fun j u hj => ?_⟩
      have hjl : j < len * 9 := by
        have := (List.getElem?_eq_some_iff.1 hj).1
        rw [acells_len] at this
        simpa using this
      have hx : j / 9 < len := by omega
      have hjj : 9 * (j / 9) + j % 9 = j := by omega
      have hFx : ((List.range len).map F)[j / 9]? = some (F (j / 9)) := by simp [hx]
      have hg := acells_at hFx (j := j % 9) (by omega)
      rw [hjj, hj] at hg
      have hc := (World.cells?_some (hF (j / 9) (by omega)).1).2.2 (j % 9) (by omega)
      rw [Addr.add_lit, Addr.add_lit, show off + j / 9 * 9 + j % 9 = off + j by omega] at hc
      rw [hc, hg]
    · obtain ⟨i, hi, rfl⟩ := List.mem_map.1 hq
      exact (hF i (by have := List.mem_range.1 hi; omega)).2
end
end Go.Proofs.Ytegcpjheglcbcaa
