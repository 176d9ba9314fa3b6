/- A definition that came in; its first instructions. -/
import Derived.Test.YtglchagfclafgaaDoorInsH
import Derived.ProofKit
import Derived.OpenShut
import Derived.Lib.SmallJoins
import Derived.Deep.Slices
namespace Go.Proofs.YtglchagfclafgaaDoor
open Go Go.RowKit Go.ChangeShapes Go.WideShapes
set_option linter.unusedSimpArgs false
set_option linter.unusedVariables false
set_option maxRecDepth 100000

instance : Inhabited In := ⟨⟨0, 0, 0⟩⟩
theorem wf_u8_of {n : Int} (h : (Lit.int .u8 n).wf = true) : 0 ≤ n ∧ n ≤ 255 := by
  simpa [Lit.wf, IntKind.min, IntKind.max, IntKind.signed, IntKind.bits] using h
theorem wf_i64_of {n : Int} (h : (Lit.int .i64 n).wf = true) : -9223372036854775808 ≤ n ∧ n ≤ 9223372036854775807 := by
  simpa [Lit.wf, IntKind.min, IntKind.max, IntKind.signed, IntKind.bits] using h

section
variable {H : Type} {enc : TypeId × Value → H} {w : World} {held : Bool}

theorem int_of {t : TypeId} {k : IntKind} {n : Nat} {v : Value} {x : Option (DataW H × List MemPlace)} (ht : Tryd.prog.underlying t = some (.int k)) (h : DataW.trod enc Tryd.prog w 0 (fun _ => true) held n t [v] = x) (hx : x.isSome) : ∃ i, v = .int k i ∧ (Lit.int k i).wf = true := by
  obtain ⟨y, hy⟩ := Option.isSome_iff_exists.1 hx
  obtain ⟨i, h1, _, h3⟩ := DataW.trod_int ht (h.trans hy)
  exact ⟨i, by simpa using h1, h3⟩
theorem info36c : Tryd.prog.cellsOf 36 = 3 := by kernel_rfl
theorem open_ins {n : Nat} {cs : List Value} {x : DataW H × List MemPlace} (h : DataW.trod enc Tryd.prog w 0 (fun _ => true) held n 36 cs = some x) : ∃ a : In, cs = a.cells ∧ a.ok := by
  obtain ⟨xs, m, _, _, hl, hlen, hf⟩ := DataW.trod_struct Tryd.underlying36 h
  rw [info36c] at hl
  match cs, hl with
  | [c0, c1, c2], _ =>
    have g : ∀ i, i < 3 → (xs[i]?).isSome = true := fun i hi => by
      have : xs.length = 3 := by simpa using hlen
      simp [show i < xs.length by omega]
    have k5 : Tryd.prog.cellsOf 5 = 1 := by kernel_rfl
    have k3 : Tryd.prog.cellsOf 3 = 1 := by kernel_rfl
    have k34 : Tryd.prog.cellsOf 34 = 1 := by kernel_rfl
    have f0 : DataW.trod enc Tryd.prog w 0 (fun _ => true) held m 5 (List.take (Tryd.prog.cellsOf 5) (List.drop 0 [c0, c1, c2])) = xs[0]? := hf 0 _ rfl
    have f1 : DataW.trod enc Tryd.prog w 0 (fun _ => true) held m 3 (List.take (Tryd.prog.cellsOf 3) (List.drop 1 [c0, c1, c2])) = xs[1]? := hf 1 _ rfl
    have f2 : DataW.trod enc Tryd.prog w 0 (fun _ => true) held m 34 (List.take (Tryd.prog.cellsOf 34) (List.drop 2 [c0, c1, c2])) = xs[2]? := hf 2 _ rfl
    simp only [k5, k3, k34, List.drop_zero, List.drop_succ_cons, List.take_succ_cons, List.take_zero] at f0 f1 f2
    obtain ⟨i0, rfl, w0⟩ := int_of Tryd.underlying5 f0 (g 0 (by omega))
    obtain ⟨i1, rfl, w1⟩ := int_of Tryd.underlying3 f1 (g 1 (by omega))
    obtain ⟨i2, rfl, w2⟩ := int_of Tryd.underlying34 f2 (g 2 (by omega))
    exact ⟨⟨i0, i1, i2⟩, rfl, wf_u8_of w0, wf_i64_of w1, wf_i64_of w2⟩
theorem open_inss {n : Nat} {v : Value} {x : Option (DataW H × List MemPlace)} (h : DataW.trod enc Tryd.prog w 0 (fun _ => true) true n 22 [v] = x) (hx : x.isSome) :
    ∃ zs : List In, Rd w (fun _ => 0) 0 3 v zs.length (icells zs) ∧ ∀ q ∈ zs, q.ok := by
  obtain ⟨y, hy⟩ := Option.isSome_iff_exists.1 hx
  rcases Deep.open_slice Tryd.underlying22 (h.trans hy) with ⟨hcs, _⟩ | ⟨x, l, c, m, n, D, Pl, hcs, _, hl, hm, hmm, _, hcell⟩
  · simp at hcs
    subst hcs
    exact ⟨[], Rd.nil _ _ _ _ _ _ (by simp [maxLen]), by simp⟩
  · simp at hcs
    subst hcs
    simp only [if_true] at hmm
    subst hmm
    rw [info36c] at hcell
    obtain ⟨F, hF⟩ := Deep.choose_lt (α := In) (p := fun i q => (w.cells? 0 (x.add (i * 3)) 3 = some q.cells) ∧ q.ok) (fun i hi => by
      obtain ⟨cs', h1, h2⟩ := hcell i hi
      obtain ⟨q, rfl, hr⟩ := open_ins h2
      exact ⟨q, h1, hr⟩)
    have hlen : ((List.range l).map F).length = l := by simp
    refine ⟨(List.range l).map F, ⟨_, _, by rw [hlen], by rw [hlen]; exact hl, hm, by rw [icells_len], fun hn => ?_⟩, fun q hq => ?_⟩
    · rw [hlen] at hn
      obtain ⟨b, off, spot⟩ := x
      have h0 := ((World.cells?_some (hF 0 (by omega)).1).2.2 0 (by omega)).trans (show _ = some (Value.int .u8 (F 0).op) from rfl)
      have hspot : spot = none := by simpa [Addr.add] using World.cell?_spot h0
      subst hspot
      refine ⟨b, off, rfl, World.block_lt_of_cell? w ⟨b, off, none⟩ (by simpa [Addr.add_lit] using h0), rfl, fun j u hj => ?_⟩
      have hjl : j < l * 3 := by
        have := (List.getElem?_eq_some_iff.1 hj).1
        rw [icells_len] at this
        simpa using this
      have hx : j / 3 < l := by omega
      have hjj : 3 * (j / 3) + j % 3 = j := by omega
      have hFx : ((List.range l).map F)[j / 3]? = some (F (j / 3)) := by simp [hx]
      have hg := icells_at hFx (j := j % 3) (by omega)
      rw [hjj, hj] at hg
      have hc := (World.cells?_some (hF (j / 3) (by omega)).1).2.2 (j % 3) (by omega)
      rw [Addr.add_lit, Addr.add_lit, show off + j / 3 * 3 + j % 3 = off + j by omega] at hc
      rw [hc, hg]
    · obtain ⟨i, hi, rfl⟩ := List.mem_map.1 hq
      exact (hF i (by have := List.mem_range.1 hi; omega)).2
theorem open_def {r : Reach} {b0 : Nat} {v : Value} {d : DataW H} {p : List MemPlace} (hv : Value.okWide Tryd.prog w r b0 24 v) (h : DataW.Trod enc Tryd.prog w 0 (fun _ => true) true 24 v d p) :
    ∃ (c : Value) (zs : List In), v = .agg #[c] ∧ Rd w (fun _ => 0) 0 3 c zs.length (icells zs) ∧ ∀ q ∈ zs, q.ok := by
  obtain ⟨cs, rfl, hsz⟩ := okWide_struct Tryd.underlying24 hv
  obtain ⟨fuel, hf⟩ := h
  obtain ⟨xs, m, _, _, hl, hlen, hf⟩ := DataW.trod_struct Tryd.underlying24 hf
  have h1 : Tryd.prog.cellsOf 24 = 1 := by kernel_rfl
  obtain ⟨cs⟩ := cs
  have hl1 : cs.length = 1 := by rw [h1] at hsz; simpa using hsz
  match cs, hl1 with
  | [c0], _ =>
    have g : (xs[0]?).isSome = true := by
      have : xs.length = 1 := by simpa using hlen
      simp [show 0 < xs.length by omega]
    have k22 : Tryd.prog.cellsOf 22 = 1 := by kernel_rfl
    have f0 : DataW.trod enc Tryd.prog w 0 (fun _ => true) true m 22 (List.take (Tryd.prog.cellsOf 22) (List.drop 0 [c0])) = xs[0]? := hf 0 _ rfl
    simp only [k22, List.drop_zero, List.take_succ_cons, List.take_zero] at f0
    obtain ⟨zs, h3, h4⟩ := open_inss f0 g
    exact ⟨c0, zs, rfl, h3, h4⟩
end

theorem icells_take (l : List In) (k : Nat) : (icells l).take (k * 3) = icells (l.take k) := by
  induction l generalizing k with
  | nil => simp [icells]
  | cons x r ih =>
    cases k with
    | zero => simp [icells]
    | succ k =>
      have e : icells (x :: r) = x.cells ++ icells r := by simp [icells]
      have e2 : icells (x :: r.take k) = x.cells ++ icells (r.take k) := by simp [icells]
      rw [List.take_succ_cons, e, e2, show (k + 1) * 3 = x.cells.length + k * 3 by simp [In.cells]; omega, List.take_length_add_append, ih]
theorem Rd.take {w : World} {o : Owner} {i n cap : Nat} {ao : Option Addr} {l : List In} (h : Rd w o i 3 (.slice ao n cap) n (icells l)) (k : Nat) (hk : k ≤ n) : Rd w o i 3 (.slice ao k cap) k (icells (l.take k)) := by
  have := h.slice (l := 0) (k := k) (Nat.zero_le _) hk
  simpa [icells_take] using this

set_option maxHeartbeats 8000000 in
theorem few_ok {w : World} {o : Owner} {k : Nat} {v : Value} {l : List In} (hl : Rd w o k 3 v l.length (icells l)) :
    Calls Tryd.prog 10 #[.agg #[v]] w fun e w' => ∃ v' o', e = .returned (.agg #[v']) ∧ Rd w' o' k 3 v' (l.take 60).length (icells (l.take 60)) ∧ Step [] w o w' o' := by
  obtain ⟨ao, cap, rfl, g1, g2, -, -⟩ := id hl
  unfold maxLen at g2
  obtain ⟨n, hn⟩ : ∃ n, l.length = n := ⟨_, rfl⟩
  obtain ⟨m, hm⟩ : ∃ m, min n 60 = m := ⟨_, rfl⟩
  have hmi : min (n : Int) 60 = (m : Int) := by omega
  have hmn : m ≤ n := by omega
  have hml : (l.take 60).length = m := by rw [List.length_take, hn]; omega
  have hmt : l.take 60 = l.take m := by
    rcases Nat.le_total n 60 with h | h
    · rw [List.take_of_length_le (by omega), List.take_of_length_le (by omega)]
    · rw [show m = 60 by omega]
  rw [hml, hmt]
  rw [hn] at hl g1
  have hcap : (m : Int) ≤ cap := by omega
  have HM := Lib.hid (And.intro hn (And.intro hm (And.intro hml hmt)))
  rw [hn]
  clear hn hm hml hmt
  go_enter Tryd.func10, Tryd.ntmps10
  go_wp2_with fail
  have st : Step [] w o ((w.alloc (.cells #[.slice ao n cap] 24)).alloc (.cells #[.slice ao m cap] 24)) o := ((Step.refl _ _ _).alloc _).alloc _
  have hr := (hl.take m hmn).frame st (by simp)
  refine bodyPost_ret (v := .agg #[.slice ao m cap]) (by simp [results, Tryd.results10, go_sem]) rfl ?_
  exact ⟨_, o, rfl, hr, st⟩
end Go.Proofs.YtglchagfclafgaaDoor
