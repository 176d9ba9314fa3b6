/- Frames of the program: Catch, where a frame catches. -/
import Derived.Test.YtegcpjheglcbcaaFrmF
namespace Go.Proofs.Ytegcpjheglcbcaa
open Go Go.RowKit Go.Shelf
set_option linter.unusedSimpArgs false
set_option linter.unusedVariables false
attribute [local go_sem] Oper.semAt_some

section
variable {W W' : World} {row : Option Nat} (hg : W.grownBy W' row) (hr : ∀ r, row = some r → ∃ ob : Obj, W.heap[r]? = some ob ∧ ob.isCells = false)
include hg hr
theorem cells_kept {k : Nat} {cs : Array Value} {T : TypeId} {z : Nat × Nat} (h : W.heap[k]? = some (.cells cs T z)) : W'.heap[k]? = some (.cells cs T z) :=
  (grownBy_keeps_cells hg hr h rfl).trans h
theorem Blk.kept {o : Owner} {i b : Nat} {T : TypeId} {cs : Array Value} (h : Blk W o i b T cs) : Blk W' o i b T cs := ⟨cells_kept hg hr h.heap, h.own⟩
theorem Rowx.kept {o : Owner} {i E size g n cap : Nat} {xs : List Value} (h : Rowx W o i E size g n cap xs) : Rowx W' o i E size g n cap xs := by
  obtain ⟨h1, h2, h3, h4, cur, h5, h6, h7⟩ := h
  exact ⟨h1, h2, h3, h4, cur, cells_kept hg hr h5, h6, h7⟩
theorem Row.kept {o : Owner} {i E size n : Nat} {v : Value} {xs : List Value} (h : Row W o i E size v n xs) : Row W' o i E size v n xs := by
  obtain ⟨h1, h2 | ⟨g, cap, cur, e1, e2, e3, e4⟩⟩ := h
  · exact ⟨h1, .inl h2⟩
  · exact ⟨h1, .inr ⟨g, cap, cur, e1, e2, cells_kept hg hr e3, e4⟩⟩
theorem FStk.kept {o : Owner} {i b : Nat} {fs : List Fr} (h : FStk W o i b fs) : FStk W' o i b fs := by
  obtain ⟨h0, v, h1, h2⟩ := h
  exact ⟨h0, v, h1.kept hg hr, h2.kept hg hr⟩
theorem FB.kept {b : Nat} {k a c x y : Int} {lv : Value} (h : FB W b k a c x y lv) : FB W' b k a c x y lv := cells_kept hg hr h
end

theorem step_grown {S : List Nat} {w W W' : World} {O : Owner} {row : Option Nat} {B : Nat} (hB : w.heap.size ≤ B) (h : Step S w O W O) (hg : W.grownBy W' row) (hr : ∀ r, row = some r → B ≤ r) : Step S w O W' O := by
  have hb := (Below.refl w.heap.size W).grown hg h.size (fun k e => Nat.le_trans hB (hr k e))
  exact ⟨hb.os.trans h.os, hb.tape.trans h.tape, hb.output.trans h.output, Nat.le_trans h.size hb.size, h.own, fun b h1 h2 => (hb.block b h1).trans (h.blk b h1 h2)⟩

theorem keeps_step {S : List Nat} {W W' : World} {O O' : Owner} {B : Nat} (h : Step S W O W' O') (hO : ∀ q, B ≤ q → O q ∉ S) : KeepsFrom B W W' :=
  ⟨h.size, fun k o hB hk _ => (h.blk k (Array.getElem?_eq_some_iff.1 hk).1 (hO k hB)).trans hk⟩

theorem KeepsOthers.set6 (W : World) (b : Nat) (k a c x y : Int) (lv : Value) : KeepsOthers W (set6 W b k a c x y lv) :=
  (((((KeepsOthers.setCell W _ _).trans (KeepsOthers.setCell _ _ _)).trans (KeepsOthers.setCell _ _ _)).trans (KeepsOthers.setCell _ _ _)).trans (KeepsOthers.setCell _ _ _)).trans (KeepsOthers.setCell _ _ _)

theorem FB.other {w : World} {b : Nat} {k a c x y : Int} {lv : Value} (h : FB w b k a c x y lv) {q : Addr} (hq : b ≠ q.block) (v : Value) : FB (w.setCell q v) b k a c x y lv := by
  unfold FB at *
  rw [Below.heap_setCell w q v b hq]
  exact h
theorem cell_set6 (w : World) {b q : Nat} (h : q ≠ b) (k a c x y : Int) (lv : Value) : (set6 w b k a c x y lv).cell? ⟨q, 0, none⟩ = w.cell? ⟨q, 0, none⟩ := by
  unfold set6
  rw [setCell_other (b := ⟨q, 0, none⟩) (a := ⟨b, 5, none⟩) h, setCell_other (b := ⟨q, 0, none⟩) (a := ⟨b, 4, none⟩) h, setCell_other (b := ⟨q, 0, none⟩) (a := ⟨b, 3, none⟩) h, setCell_other (b := ⟨q, 0, none⟩) (a := ⟨b, 2, none⟩) h, setCell_other (b := ⟨q, 0, none⟩) (a := ⟨b, 1, none⟩) h, setCell_other (b := ⟨q, 0, none⟩) (a := ⟨b, 0, none⟩) h]

set_option maxRecDepth 100000 in
set_option maxHeartbeats 1000000 in
theorem catch_raw {w : World} {O : Owner} {i b g cap : Nat} {fs : List Fr} (hO : ∀ q, w.heap.size ≤ q → O q = i + 2) (hlp : 0 < fs.length) (h128 : fs.length ≤ 128) (hbare : ∀ f ∈ fs, f.lv = .slice none 0 0) (hb : Blk w O i b 63 #[.slice (some ⟨g, 0, none⟩) fs.length cap]) (hx : Rowx w O (i + 1) 30 6 g fs.length cap (frs fs))
    (t : Nat) (ht : t < fs.length) (h5 : (fs[t]).k = 5) (hup : ∀ u (h : u < fs.length), t < u → ¬ (fs[u]).k = 5) :
    Calls Try.prog 21 #[.pointer (some ⟨b, 0, none⟩)] w fun e w' => e = .returned (.tuple #[.agg #[.int .i64 (fs[t]).k, .int .i64 (fs[t]).a, .int .i64 (fs[t]).b, .int .i64 (fs[t]).x, .int .i64 (fs[t]).y, .slice none 0 0], .bool true]) ∧ FStk w' O i b (fs.take t) ∧ Step [i] w O w' O := by
  have hbl : b < w.heap.size := hb.lt
  have hOn : ∀ q, w.heap.size ≤ q → O q ∉ [i] := fun q hq => by rw [hO q hq]; simp
  have hOn1 : ∀ q, w.heap.size ≤ q → O q ∉ [i + 1] := fun q hq => by rw [hO q hq]; simp
  refine (callsIn_wide (n := 9)).1 ?_
  refine callsIn_of_wp_marks Try.func21 rfl trivial ?_ rfl
  simp only [Try.ntmps21, List.size_toArray, List.length_cons, List.length_nil, Nat.reduceAdd, Nat.reduceSub, Array.replicate_succ, Array.replicate_zero, List.push_toArray, List.append_toArray, List.nil_append, List.cons_append]
  gi_wp2_with (refine ⟨trivial, ?_⟩; gi_at_call 29; refine (callsIn_wide.2 (down_ok _ _)).mono ?_; rintro e w' ⟨rfl, rfl⟩)
  obtain ⟨w1, hw1⟩ : ∃ w1, w1 = w.alloc (.cells #[.pointer (some ⟨b, 0, none⟩)] 24) := ⟨_, rfl⟩
  obtain ⟨w2, hw2⟩ : ∃ w2, w2 = w1.alloc (.cells #[.int .i64 0, .int .i64 0, .int .i64 0, .int .i64 0, .int .i64 0, .slice none 0 0] 30) := ⟨_, rfl⟩
  obtain ⟨w3, hw3⟩ : ∃ w3, w3 = w2.alloc (.cells #[.bool false] 4) := ⟨_, rfl⟩
  obtain ⟨w4, hw4⟩ : ∃ w4, w4 = w3.alloc (.cells #[.pointer (some ⟨b, 0, none⟩)] 24) := ⟨_, rfl⟩
  rw [← hw1, ← hw2, ← hw3, ← hw4]
  have z1 : w1.heap.size = w.heap.size + 1 := by rw [hw1, World.size_alloc]
  have z2 : w2.heap.size = w.heap.size + 1 + 1 := by rw [hw2, World.size_alloc, z1]
  have z3 : w3.heap.size = w.heap.size + 1 + 1 + 1 := by rw [hw3, World.size_alloc, z2]
  have z4 : w4.heap.size = w.heap.size + 1 + 1 + 1 + 1 := by rw [hw4, World.size_alloc, z3]
  have bF := Boxed.new w 24 (.pointer (some ⟨b, 0, none⟩))
  have bV := FB.new w1 0 0 0 0 0 (.slice none 0 0)
  have bE := Boxed.new w2 4 (.bool false)
  have bD := Boxed.new w3 24 (.pointer (some ⟨b, 0, none⟩))
  rw [← hw1] at bF
  rw [← hw2, z1] at bV
  rw [← hw3, z2] at bE
  rw [← hw4, z3] at bD
  have B1 : Below w.heap.size w w1 := by rw [hw1]; exact (Below.refl _ w).alloc (Nat.le_refl _) _
  have B14 : Below (w.heap.size + 1) w1 w4 := by rw [hw4, hw3, hw2]; exact (((Below.refl _ _).alloc (by omega) _).alloc (by simp; omega) _).alloc (by simp; omega) _
  have B24 : Below (w.heap.size + 1 + 1) w2 w4 := by rw [hw4, hw3]; exact ((Below.refl _ _).alloc (by omega) _).alloc (by simp; omega) _
  have B34 : Below (w.heap.size + 1 + 1 + 1) w3 w4 := by rw [hw4]; exact (Below.refl _ _).alloc (by omega) _
  have hB0 : Below w.heap.size w w4 := B1.trans (B14.mono (by omega))
  have s0 := Step.ofBelow hB0 O
  have cF := (B14.cell (p := ⟨w.heap.size, 0, none⟩) (by show w.heap.size < w.heap.size + 1; omega)).trans bF.cell
  have cV := bV.below B24 (by omega)
  have cE := (B34.cell (p := ⟨w.heap.size + 1 + 1, 0, none⟩) (by show w.heap.size + 1 + 1 < w.heap.size + 1 + 1 + 1; omega)).trans bE.cell
  have fE := (B34.frozen (p := ⟨w.heap.size + 1 + 1, 0, none⟩) (by show w.heap.size + 1 + 1 < w.heap.size + 1 + 1 + 1; omega)).trans bE.frozen
  have hb4 := hb.frame s0 (by simp)
  have hx4 := hx.frame s0 (by simp)
  clear bF bV bE B1 B14 B24 B34 hw1 hw2 hw3 hw4 hb hx
  refine wpIn_rangeFunc_ownG rfl (by omega) (gf := 41) (lb := #[.pointer (some ⟨w.heap.size + 1 + 1 + 1, 0, none⟩)]) rfl trivial (enters_of Try.func41 (by kernel_rfl) rfl)
    (down_stops (9 - 1) (by omega) (w.heap.size + 1 + 1 + 1) b g (w.heap.size + 1 + 1 + 1 + 1) fs.length cap _ _ (by omega) (by omega) (by omega) (fun _ => rfl) (by omega) bD.cell hb4.cell0) belowK_t (belowK_b (by omega)) (Below.refl _ _) (fun _ => rfl)
    (fun pre W => ((∀ p ∈ pre, ¬ (fs[p.1]'p.2).k = 5) ∧ W.cell? ⟨w.heap.size, 0, none⟩ = some (.pointer (some ⟨b, 0, none⟩)) ∧ FB W (w.heap.size + 1) 0 0 0 0 0 (.slice none 0 0) ∧ W.cell? ⟨w.heap.size + 1 + 1, 0, none⟩ = some (.bool false) ∧ W.frozen? ⟨w.heap.size + 1 + 1, 0, none⟩ = false ∧ Blk W O i b 63 #[.slice (some ⟨g, 0, none⟩) fs.length cap] ∧ Rowx W O (i + 1) 30 6 g fs.length cap (frs fs)) ∧ Step [] w O W O)
    (fun cd pre W => (∃ (ini : List (Pl fs.length)) (last : Pl fs.length), pre = ini ++ [last] ∧ (∀ p ∈ ini, ¬ (fs[p.1]'p.2).k = 5) ∧ cd = .ret ∧ (fs[last.1]'last.2).k = 5 ∧ FB W (w.heap.size + 1) (fs[last.1]'last.2).k (fs[last.1]'last.2).a (fs[last.1]'last.2).b (fs[last.1]'last.2).x (fs[last.1]'last.2).y (.slice none 0 0) ∧ W.cell? ⟨w.heap.size + 1 + 1, 0, none⟩ = some (.bool true) ∧ FStk W O i b (fs.take last.1)) ∧ Step [i] w O W O)
    (fun s A B row hs hg hr => by
      obtain ⟨⟨h1, h2, h3, h4, h5, h6, h7⟩, h8⟩ := hs
      have hr' : ∀ r, row = some r → ∃ ob : Obj, A.heap[r]? = some ob ∧ ob.isCells = false := fun r e => (hr r e).2
      exact ⟨⟨h1, cell_kept h2 hg hr', h3.kept hg hr', cell_kept h4 hg hr', (frozen_kept h4 hg hr').trans h5, h6.kept hg hr', h7.kept hg hr'⟩, step_grown (B := w4.heap.size) (by omega) h8 hg (fun r e => (hr r e).1)⟩)
    (fun cd s A B row hs hg hr => by
      obtain ⟨⟨ini, last, e1, e2, e3, e4, e5, e6, e7⟩, h8⟩ := hs
      have hr' : ∀ r, row = some r → ∃ ob : Obj, A.heap[r]? = some ob ∧ ob.isCells = false := fun r e => (hr r e).2
      exact ⟨⟨ini, last, e1, e2, e3, e4, e5.kept hg hr', cell_kept e6 hg hr', e7.kept hg hr'⟩, step_grown (B := w4.heap.size) (by omega) h8 hg (fun r e => (hr r e).1)⟩)
    ⟨⟨by simp, cF, cV, cE, fE, hb4, hx4⟩, s0⟩
    (fun x => { tmps := #[.pointer (some ⟨b, 0, none⟩), .pointer (some ⟨w.heap.size, 0, none⟩), .pointer (some ⟨w.heap.size + 1, 0, none⟩), .pointer (some ⟨w.heap.size + 1 + 1, 0, none⟩), .int .i64 x.1, .pointer (some ⟨g, x.1 * 6, none⟩), undef, .pointer (some ⟨b, 0, none⟩), .func (.func 41) #[] #[.pointer (some ⟨w.heap.size + 1 + 1 + 1, 0, none⟩)], .int .i64 x.1, .pointer (some ⟨g, x.1 * 6, none⟩), undef, undef, undef, undef, undef, undef, undef, undef, undef, undef, undef, undef, undef, undef], defers := [] }) ?assign ?body ?done ?stop
  case assign =>
    intro l x W K hK
    gi_wp2
    exact hK
  case body =>
    rintro l pre x W ⟨⟨hp, hcF, hcV, hcE, hfE, hbW, hxW⟩, hS⟩ _
    obtain ⟨F, hF⟩ : ∃ F, fs[x.1]'x.2 = F := ⟨_, rfl⟩
    have hlv : F.lv = .slice none 0 0 := by rw [← hF]; exact hbare _ (List.getElem_mem _)
    have qr : ∀ (r : Nat) (u : Value), r < 6 → F.cells[r]? = some u → W.cell? ⟨g, x.1 * 6 + r, none⟩ = some u := fun r u hr hu => hxW.cell ((frs_get fs x.1 r x.2 hr).trans (by rw [hF]; exact hu))
    have hsW : FStk W O i b fs := ⟨h128, _, hbW, hxW.row⟩
    have hszW : w.heap.size + 1 + 1 < W.heap.size := cell_block hcE
    have hsz1 : w.heap.size ≤ W.heap.size := by omega
    have q0 : W.cell? ⟨g, x.1 * 6, none⟩ = some (.int .i64 F.k) := qr 0 _ (by omega) rfl
    have q1 : W.cell? ⟨g, x.1 * 6 + 1, none⟩ = some (.int .i64 F.a) := qr 1 _ (by omega) rfl
    have q2 : W.cell? ⟨g, x.1 * 6 + 2, none⟩ = some (.int .i64 F.b) := qr 2 _ (by omega) rfl
    have q3 : W.cell? ⟨g, x.1 * 6 + 3, none⟩ = some (.int .i64 F.x) := qr 3 _ (by omega) rfl
    have q4 : W.cell? ⟨g, x.1 * 6 + 4, none⟩ = some (.int .i64 F.y) := qr 4 _ (by omega) rfl
    have q5 : W.cell? ⟨g, x.1 * 6 + 5, none⟩ = some (.slice none 0 0) := qr 5 _ (by omega) (by show some F.lv = _; rw [hlv])
    have HF := Lib.hid hF
    have HP := Lib.hid hp
    have HUP := Lib.hid hup
    have HBARE := Lib.hid hbare
    have HOO := Lib.hid hO
    have HON := Lib.hid hOn
    have HON1 := Lib.hid hOn1
    clear qr hF hp hup hbare hlv hO hOn hOn1 h5
    by_cases h5x : F.k = 5
    · have hkb : (F.k == 5) = true := by simpa using h5x
      have H5 := Lib.hid h5x
      clear h5x
      have i0 : W.heap[w.heap.size + 1 + 1]? = W.heap[w.heap.size + 1 + 1]? := rfl
      gi_wp2_with (first
        | (refine ⟨trivial, ?_⟩; gi_at_call 28; refine (CallsIn.inRound l (callsIn_wide.2 (own_bare W O F.k F.a F.b F.x F.y))).mono ?_; rintro e W1 ⟨rfl, t1⟩; have T2 : Step [] W O (W1.alloc (.cells #[.int .i64 F.k, .int .i64 F.a, .int .i64 F.b, .int .i64 F.x, .int .i64 F.y, .slice none 0 0] 30)) O := t1.alloc _; have cF2 := (T2.cell (a := ⟨w.heap.size, 0, none⟩) (by show w.heap.size < W.heap.size; omega) (by simp)).trans hcF; have hcut := cut_ok (hsW.frame T2 (by simp) (by simp)) x.1)
        | (refine ⟨trivial, ?_⟩; gi_at_call 16; refine (CallsIn.inRound l (callsIn_wide.2 hcut)).mono ?_; rintro e W3 ⟨rfl, hs3, t3⟩; have hw1 : w.heap.size ≤ W1.heap.size := Nat.le_trans hsz1 t1.size; obtain ⟨⟨t0', t1', t2', t3', t4', t5'⟩, _⟩ := ((FB.new W1 F.k F.a F.b F.x F.y (.slice none 0 0)).step t3 (HON.out _ hw1)).facts; have fV3 := (hcV.step T2 (by simp)).step t3 (HON.out _ (by omega)); obtain ⟨⟨v0, v1, v2, v3, v4, v5⟩, u0, u1, u2, u3, u4, u5⟩ := fV3.facts; have eB : W3.heap[w.heap.size + 1 + 1]? = W.heap[w.heap.size + 1 + 1]? := (t3.blk _ (Nat.lt_of_lt_of_le hszW T2.size) (HON.out _ (by omega))).trans (T2.blk _ hszW (by simp)); have cE3 : W3.cell? ⟨w.heap.size + 1 + 1, 0, none⟩ = some (.bool false) := (World.cell?_of_block (w := W) eB).trans hcE; have fE3 : W3.frozen? ⟨w.heap.size + 1 + 1, 0, none⟩ = false := (World.frozen?_of_block (w := W) eB).trans hfE))
      have T3 : Step [i] W O W3 O := T2.nil.trans t3
      have c6 := (cell_set6 W3 (b := w.heap.size + 1) (q := w.heap.size + 1 + 1) (by omega) F.k F.a F.b F.x F.y (.slice none 0 0)).trans cE3
      have hcut3 : cutF fs (x.1 : Int) = fs.take x.1 := by simp [cutF]
      rw [hcut3] at hs3
      have sS : Step [i + 2] W3 O ((set6 W3 (w.heap.size + 1) F.k F.a F.b F.x F.y (.slice none 0 0)).setCell ⟨w.heap.size + 1 + 1, 0, none⟩ (.bool true)) O :=
        (step_set6 (Step.refl _ _ _) (fun _ => by rw [HOO.out _ (by omega)]; simp) F.k F.a F.b F.x F.y _).setCell (fun _ => by rw [HOO.out _ (by show w.heap.size ≤ w.heap.size + 1 + 1; omega)]; simp) _
      have sT : Step [i] w O ((set6 W3 (w.heap.size + 1) F.k F.a F.b F.x F.y (.slice none 0 0)).setCell ⟨w.heap.size + 1 + 1, 0, none⟩ (.bool true)) O :=
        (step_set6 (hS.nil.trans T3) (fun h => absurd h (by omega)) F.k F.a F.b F.x F.y _).setCell (fun h => absurd h (by show ¬ w.heap.size + 1 + 1 < w.heap.size; omega)) _
      refine ⟨((keeps_step T3 (fun q hq => HON.out q (by omega))).trans ((KeepsOthers.set6 W3 (w.heap.size + 1) F.k F.a F.b F.x F.y (.slice none 0 0)).from _)).trans ((KeepsOthers.setCell _ ⟨w.heap.size + 1 + 1, 0, none⟩ (.bool true)).from _), ⟨⟨pre, x, rfl, HP.out, rfl, ?_, ?_, ?_, hs3.frame sS (by simp) (by simp)⟩, sT⟩⟩
      · rw [HF.out]; exact H5.out
      · rw [HF.out]
        exact FB.other (fV3.set6 F.k F.a F.b F.x F.y (.slice none 0 0)) (q := ⟨w.heap.size + 1 + 1, 0, none⟩) (by show w.heap.size + 1 ≠ w.heap.size + 1 + 1; omega) (.bool true)
      · exact World.cell?_setCell_same' (set6 W3 (w.heap.size + 1) F.k F.a F.b F.x F.y (.slice none 0 0)) ⟨w.heap.size + 1 + 1, 0, none⟩ (.bool true) (by rw [c6]; rfl)
    · have hkb : (F.k == 5) = false := by simpa using h5x
      have H5 := Lib.hid h5x
      clear h5x
      gi_wp2
      exact ⟨KeepsFrom.refl _ _, Below.refl _ _, ⟨fun p hq => (List.mem_append.1 hq).elim (HP.out p) (fun e => by rw [List.mem_singleton] at e; subst e; rw [HF.out]; exact H5.out), hcF, hcV, hcE, hfE, hbW, hxW⟩, hS⟩
  case done =>
    rintro D ys W hD hys ⟨⟨hp, -⟩, -⟩ hK
    exfalso
    have hm : t ∈ ys.map Subtype.val := by
      rw [hys]
      have := mem_Dn (len := fs.length) (k := fs.length) (j := fs.length - 1 - t) (by omega)
      rwa [show fs.length - 1 - (fs.length - 1 - t) = t by omega] at this
    obtain ⟨p, hpm, hpe⟩ := List.mem_map.1 hm
    have := hp p hpm
    simp only [hpe] at this
    exact this h5
  case stop =>
    rintro D cd pre W hD ⟨j, hj, hpre⟩ ⟨⟨ini, last, rfl, hini, rfl, h5l, hV, hE, hst⟩, hS⟩ hK
    have hj1 : ∃ j', j = j' + 1 := by
      cases j with
      | zero => simp [Dn] at hpre
      | succ j' => exact ⟨j', rfl⟩
    obtain ⟨j, rfl⟩ := hj1
    rw [Dn_succ, List.map_append, List.map_singleton] at hpre
    obtain ⟨e1, e2⟩ := List.append_inj' hpre rfl
    have e3 : last.1 = fs.length - 1 - j := by simpa using e2
    have hlt : last.1 = t := by
      rcases Nat.lt_trichotomy last.1 t with h | h | h
      · exfalso
        have hm : t ∈ ini.map Subtype.val := by
          rw [e1]
          have := mem_Dn (len := fs.length) (k := j) (j := fs.length - 1 - t) (by omega)
          rwa [show fs.length - 1 - (fs.length - 1 - t) = t by omega] at this
        obtain ⟨p, hpm, hpe⟩ := List.mem_map.1 hm
        have := hini p hpm
        simp only [hpe] at this
        exact this h5
      · exact h
      · exact absurd h5l (hup last.1 last.2 h)
    subst hlt
    clear hpre e1 e2 e3 hini h5l hup hbare hO hOn hOn1 h5
    gi_wp2
    refine ⟨by simp, .inl ⟨_, _, rfl, run_takeDeferred hK, ?_⟩⟩
    have hgr := grownBy_putObj' W D (.deferred none)
    have hrow : ∀ r, some D = some r → ∃ ob : Obj, W.heap[r]? = some ob ∧ ob.isCells = false := fun r e => by cases e; exact ⟨_, hK, rfl⟩
    obtain ⟨⟨r0, r1, r2, r3, r4, r5⟩, _⟩ := (hV.kept hgr hrow).facts
    have hc6 := cell_kept hE hgr hrow
    refine ⟨.tuple #[.agg #[.int .i64 (fs[last.1]'last.2).k, .int .i64 (fs[last.1]'last.2).a, .int .i64 (fs[last.1]'last.2).b, .int .i64 (fs[last.1]'last.2).x, .int .i64 (fs[last.1]'last.2).y, .slice none 0 0], .bool true], ?_, rfl, hst.kept hgr hrow, step_grown (B := w4.heap.size) (by omega) hS hgr (fun r e => by cases e; exact hD)⟩
    simp [results, Try.f21, go_sem, r0, r1, r2, r3, r4, r5, hc6]
end Go.Proofs.Ytegcpjheglcbcaa
