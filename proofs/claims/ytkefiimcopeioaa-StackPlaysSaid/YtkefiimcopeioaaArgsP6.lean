/- Acts that came in; the first 200 of them. -/
import Derived.Test.YtkefiimcopeioaaDoes06
import Derived.Test.YtkefiimcopeioaaArgs
import Derived.Deep.Slices
import Derived.OpenShut
namespace Go.Proofs.Ytkefiimcopeioaa
open Go Go.RowKit Go.ChangeShapes
set_option linter.unusedSimpArgs false
set_option linter.unusedVariables false

/-- An act as it came in. -/
structure Av where
  k : Int
  op : Int
  x : Int
def Av.cells (a : Av) : List Value := [.int .u8 a.k, .int .i64 a.op, .int .i64 a.x]
def acells (zs : List Av) : List Value := zs.flatMap Av.cells
theorem acells_len : ∀ zs : List Av, (acells zs).length = zs.length * 3
  | [] => rfl
  | x :: r => by
    have := acells_len r
    unfold acells at *
    rw [List.flatMap_cons, List.length_append, this, List.length_cons]
    simp [Av.cells]
    omega
theorem acells_at : ∀ {zs : List Av} {q : Nat} {a : Av} (_ : zs[q]? = some a) {j : Nat} (_ : j < 3), (acells zs)[3 * q + j]? = a.cells[j]?
  | [], q, a, h, _, _ => by simp at h
  | x :: r, 0, a, h, j, hj => by
    simp at h
    subst h
    unfold acells
    rw [List.flatMap_cons, List.getElem?_append_left (by simp [Av.cells]; omega)]
    congr 1
    omega
  | x :: r, q + 1, a, h, j, hj => by
    have ih := acells_at (zs := r) (q := q) (a := a) (by simpa using h) hj
    unfold acells at *
    rw [List.flatMap_cons, List.getElem?_append_right (by simp [Av.cells]; omega), ← ih]
    congr 1
    simp [Av.cells]
    omega
def AvOk (a : Av) : Prop := (0 ≤ a.k ∧ a.k ≤ 255) ∧ I64 a.x
instance : Inhabited Av := ⟨⟨0, 0, 0⟩⟩

/-- The first 200. -/
theorem few_ok {w : World} {n cap : Nat} {a : Option Addr} (hc : n ≤ cap) :
    Calls Try.prog 22 #[.slice a n cap] w fun e w' => e = .returned (.slice a (min n 200) cap) ∧ w = w' := by
  obtain ⟨k, hk⟩ : ∃ k : Nat, min n 200 = k := ⟨_, rfl⟩
  have hki : min (n : Int) 200 = (k : Int) := by omega
  have hkc : (k : Int) ≤ cap := by omega
  rw [hk]
  clear hk
  go_enter Try.func22, Try.ntmps22
  go_wp2_with fail
  go_ret
  exact ⟨rfl, rfl⟩

section
variable {H : Type} {enc : TypeId × Value → H} {w : World} {held : Bool}

theorem info49c : Try.prog.cellsOf 49 = 3 := by kernel_rfl

theorem int_of {t : TypeId} {k : IntKind} {n : Nat} {v : Value} {x : Option (DataW H × List MemPlace)} (ht : Try.prog.underlying t = some (.int k)) (h : DataW.trod enc Try.prog w 0 (fun _ => true) held n t [v] = x) (hx : x.isSome) : ∃ i, v = .int k i ∧ (Lit.int k i).wf = true := by
  obtain ⟨y, hy⟩ := Option.isSome_iff_exists.1 hx
  obtain ⟨i, h1, _, h3⟩ := DataW.trod_int ht (h.trans hy)
  exact ⟨i, by simpa using h1, h3⟩

/-- What came in as an act. -/
theorem open_act {n : Nat} {cs : List Value} {x : DataW H × List MemPlace} (h : DataW.trod enc Try.prog w 0 (fun _ => true) held n 49 cs = some x) : ∃ a : Av, cs = a.cells ∧ AvOk a := by
  obtain ⟨xs, m, _, _, hl, hlen, hf⟩ := DataW.trod_struct Try.underlying49 h
  rw [info49c] at hl
  match cs, hl with
  | [c0, c1, c2], _ =>
    have g : ∀ i, i < 3 → (xs[i]?).isSome = true := fun i hi => by
      have : xs.length = 3 := by simpa using hlen
      simp [show i < xs.length by omega]
    have k5 : Try.prog.cellsOf 5 = 1 := by kernel_rfl
    have k3 : Try.prog.cellsOf 3 = 1 := by kernel_rfl
    have k35 : Try.prog.cellsOf 35 = 1 := by kernel_rfl
    have f0 : DataW.trod enc Try.prog w 0 (fun _ => true) held m 5 (List.take (Try.prog.cellsOf 5) (List.drop 0 [c0, c1, c2])) = xs[0]? := hf 0 _ rfl
    have f1 : DataW.trod enc Try.prog w 0 (fun _ => true) held m 3 (List.take (Try.prog.cellsOf 3) (List.drop 1 [c0, c1, c2])) = xs[1]? := hf 1 _ rfl
    have f2 : DataW.trod enc Try.prog w 0 (fun _ => true) held m 35 (List.take (Try.prog.cellsOf 35) (List.drop 2 [c0, c1, c2])) = xs[2]? := hf 2 _ rfl
    simp only [k5, k3, k35, List.drop_zero, List.drop_succ_cons, List.take_succ_cons, List.take_zero] at f0 f1 f2
    obtain ⟨i0, rfl, w0⟩ := int_of Try.underlying5 f0 (g 0 (by omega))
    obtain ⟨i1, rfl, w1⟩ := int_of Try.underlying3 f1 (g 1 (by omega))
    obtain ⟨i2, rfl, w2⟩ := int_of Try.underlying35 f2 (g 2 (by omega))
    exact ⟨⟨i0, i1, i2⟩, rfl, wf_u8_of w0, wf_i64_of w2⟩

theorem open_acts {a : Option Addr} {len cap : Nat} (h : ∃ d p, DataW.Trod enc Try.prog w 0 (fun _ => true) held 43 (.slice a len cap) d p) :
    ∃ zs : List Av, zs.length = len ∧ Rd w (fun _ => 0) 0 3 (.slice a len cap) len (acells zs) ∧ ∀ q ∈ zs, AvOk q := by
  obtain ⟨d, p, fuel, hf⟩ := h
  rcases Deep.open_slice Try.underlying43 hf with ⟨hcs, _⟩ | ⟨x, l, c, m, n, D, Pl, hcs, _, hl, hm, hmm, _, hcell⟩
  · simp [Value.cells] at hcs
    obtain ⟨rfl, rfl, rfl⟩ := hcs
    exact ⟨[], rfl, Rd.nil _ _ _ _ _ _ (by simp [maxLen]), by simp⟩
  · simp [Value.cells] at hcs
    obtain ⟨rfl, rfl, rfl⟩ := hcs
    simp only [if_true] at hmm
    subst hmm
    rw [info49c] at hcell
    obtain ⟨F, hF⟩ := Deep.choose_lt (α := Av) (p := fun i q => (w.cells? 0 (x.add (i * 3)) 3 = some q.cells) ∧ AvOk q) (fun i hi => by
      obtain ⟨cs', h1, h2⟩ := hcell i hi
      obtain ⟨q, rfl, hr⟩ := open_act h2
      exact ⟨q, h1, hr⟩)
    refine ⟨(List.range len).map F, by simp, ⟨_, _, rfl, hl, hm, by rw [acells_len]; simp, fun hn => ?_⟩, fun q hq => ?_⟩
    · obtain ⟨b, off, spot⟩ := x
      have h0 := ((World.cells?_some (hF 0 (by omega)).1).2.2 0 (by omega)).trans (show _ = some (Value.int .u8 (F 0).k) from rfl)
      have hspot : spot = none := by simpa [Addr.add] using World.cell?_spot h0
      subst hspot
      refine ⟨b, off, rfl, World.block_lt_of_cell? w ⟨b, off, none⟩ (by simpa [Addr.add_lit] using h0), rfl, fun j u hj => ?_⟩
      have hjl : j < len * 3 := by
        have := (List.getElem?_eq_some_iff.1 hj).1
        rw [acells_len] at this
        simpa using this
      have hx : j / 3 < len := by omega
      have hjj : 3 * (j / 3) + j % 3 = j := by omega
      have hFx : ((List.range len).map F)[j / 3]? = some (F (j / 3)) := by simp [hx]
      have hg := acells_at hFx (j := j % 3) (by omega)
      rw [hjj, hj] at hg
      have hc := (World.cells?_some (hF (j / 3) (by omega)).1).2.2 (j % 3) (by omega)
      rw [Addr.add_lit, Addr.add_lit, show off + j / 3 * 3 + j % 3 = off + j by omega] at hc
      rw [hc, hg]
    · obtain ⟨i, hi, rfl⟩ := List.mem_map.1 hq
      exact (hF i (by have := List.mem_range.1 hi; omega)).2
end
end Go.Proofs.Ytkefiimcopeioaa
