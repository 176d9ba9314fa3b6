/- Frames whose locals are written: Catch. -/
import Derived.Test.YtegcpjheglcbcaaPtA
namespace Go.Proofs.Ytegcpjheglcbcaa
open Go Go.RowKit Go.Shelf
set_option linter.unusedSimpArgs false
set_option linter.unusedVariables false
attribute [local go_sem] Oper.semAt_some

theorem step_grown' {S : List Nat} {w W W' : World} {O O' : Owner} {row : Option Nat} {B : Nat} (hB : w.heap.size ≤ B) (h : Step S w O W O') (hg : W.grownBy W' row) (hr : ∀ r, row = some r → B ≤ r) : Step S w O W' O' := by
  have hb := (Below.refl w.heap.size W).grown hg h.size (fun k e => Nat.le_trans hB (hr k e))
  exact ⟨hb.os.trans h.os, hb.tape.trans h.tape, hb.output.trans h.output, Nat.le_trans h.size hb.size, h.own, fun b h1 h2 => (hb.block b h1).trans (h.blk b h1 h2)⟩

set_option maxRecDepth 100000 in
set_option maxHeartbeats 4000000 in
theorem catch_raw_t {w : World} {O : Owner} {i b g cap j : Nat} {fs : List Fr} (ll : Nat → List Int) (ow : Nat → Nat) (hO : ∀ q, w.heap.size ≤ q → O q = i + 2) (hlp : 0 < fs.length) (h128 : fs.length ≤ 128) (hrd : ∀ u (h : u < fs.length), (ll u).length ≤ 1000000 ∧ ow u ≠ i ∧ Rd w O (ow u) 1 (fs[u]).lv (ll u).length (cellsOf (ll u))) (hb : Blk w O i b 63 #[.slice (some ⟨g, 0, none⟩) fs.length cap]) (hx : Rowx w O (i + 1) 30 6 g fs.length cap (frs fs)) (hj : j ≠ i ∧ j ≠ i + 2) :
    Calls Try.prog 21 #[.pointer (some ⟨b, 0, none⟩)] w fun e w' => (∃ (t : Nat) (ht : t < fs.length), (fs[t]).k = 5 ∧ (∀ u (h : u < fs.length), t < u → ¬ (fs[u]).k = 5) ∧ ∃ O' lv', e = .returned (.tuple #[.agg #[.int .i64 (fs[t]).k, .int .i64 (fs[t]).a, .int .i64 (fs[t]).b, .int .i64 (fs[t]).x, .int .i64 (fs[t]).y, lv'], .bool true]) ∧ Row w' O' j 22 1 lv' (ll t).length (cellsOf (ll t)) ∧ FStk w' O' i b (fs.take t) ∧ Step [i] w O w' O') ∨ ((∀ u (h : u < fs.length), ¬ (fs[u]).k = 5) ∧ e = .returned (.tuple #[Z6, .bool false]) ∧ Step [] w O w' O) := by
  have hbl : b < w.heap.size := hb.lt
  have hOn : ∀ q, w.heap.size ≤ q → O q ∉ [i] := fun q hq => by rw [hO q hq]; simp
  have hOn1 : ∀ q, w.heap.size ≤ q → O q ∉ [i + 1] := fun q hq => by rw [hO q hq]; simp
  refine (callsIn_wide (n := 9)).1 ?_
  refine callsIn_of_wp_marks Try.func21 rfl trivial ?_ rfl
  simp only [Try.ntmps21, List.size_toArray, List.length_cons, List.length_nil, Nat.reduceAdd, Nat.reduceSub, Array.replicate_succ, Array.replicate_zero, List.push_toArray, List.append_toArray, List.nil_append, List.cons_append]
  gi_wp2_with (refine ⟨trivial, ?_⟩; gi_at_call 29; refine (callsIn_wide.2 (down_ok _ _)).mono ?_; rintro e w' ⟨rfl, rfl⟩)
  obtain ⟨w1, hw1⟩ : ∃ w1, w1 = w.alloc (.cells #[.pointer (some ⟨b, 0, none⟩)] 24) := ⟨_, rfl⟩
  obtain ⟨w2, hw2⟩ : ∃ w2, w2 = w1.alloc (.cells #[.int .i64 0, .int .i64 0, .int .i64 0, .int .i64 0, .int .i64 0, .slice none 0 0] 30) := ⟨_, rfl⟩
  obtain ⟨w3, hw3⟩ : ∃ w3, w3 = w2.alloc (.cells #[.bool false] 4) := ⟨_, rfl⟩
  obtain ⟨w4, hw4⟩ : ∃ w4, w4 = w3.alloc (.cells #[.pointer (some ⟨b, 0, none⟩)] 24) := ⟨_, rfl⟩
  rw [← hw1, ← hw2, ← hw3, ← hw4]
  have z1 : w1.heap.size = w.heap.size + 1 := by rw [hw1, World.size_alloc]
  have z2 : w2.heap.size = w.heap.size + 1 + 1 := by rw [hw2, World.size_alloc, z1]
  have z3 : w3.heap.size = w.heap.size + 1 + 1 + 1 := by rw [hw3, World.size_alloc, z2]
  have z4 : w4.heap.size = w.heap.size + 1 + 1 + 1 + 1 := by rw [hw4, World.size_alloc, z3]
  have bF := Boxed.new w 24 (.pointer (some ⟨b, 0, none⟩))
  have bV := FB.new w1 0 0 0 0 0 (.slice none 0 0)
  have bE := Boxed.new w2 4 (.bool false)
  have bD := Boxed.new w3 24 (.pointer (some ⟨b, 0, none⟩))
  rw [← hw1] at bF
  rw [← hw2, z1] at bV
  rw [← hw3, z2] at bE
  rw [← hw4, z3] at bD
  have B1 : Below w.heap.size w w1 := by rw [hw1]; exact (Below.refl _ w).alloc (Nat.le_refl _) _
  have B14 : Below (w.heap.size + 1) w1 w4 := by rw [hw4, hw3, hw2]; exact (((Below.refl _ _).alloc (by omega) _).alloc (by simp; omega) _).alloc (by simp; omega) _
  have B24 : Below (w.heap.size + 1 + 1) w2 w4 := by rw [hw4, hw3]; exact ((Below.refl _ _).alloc (by omega) _).alloc (by simp; omega) _
  have B34 : Below (w.heap.size + 1 + 1 + 1) w3 w4 := by rw [hw4]; exact (Below.refl _ _).alloc (by omega) _
  have hB0 : Below w.heap.size w w4 := B1.trans (B14.mono (by omega))
  have s0 := Step.ofBelow hB0 O
  have cF := (B14.cell (p := ⟨w.heap.size, 0, none⟩) (by show w.heap.size < w.heap.size + 1; omega)).trans bF.cell
  have cV := bV.below B24 (by omega)
  have cE := (B34.cell (p := ⟨w.heap.size + 1 + 1, 0, none⟩) (by show w.heap.size + 1 + 1 < w.heap.size + 1 + 1 + 1; omega)).trans bE.cell
  have fE := (B34.frozen (p := ⟨w.heap.size + 1 + 1, 0, none⟩) (by show w.heap.size + 1 + 1 < w.heap.size + 1 + 1 + 1; omega)).trans bE.frozen
  have hb4 := hb.frame s0 (by simp)
  have hx4 := hx.frame s0 (by simp)
  clear bF bV bE B1 B14 B24 B34 hw1 hw2 hw3 hw4 hb hx
  refine wpIn_rangeFunc_ownG rfl (by omega) (gf := 41) (lb := #[.pointer (some ⟨w.heap.size + 1 + 1 + 1, 0, none⟩)]) rfl trivial (enters_of Try.func41 (by kernel_rfl) rfl)
    (down_stops (9 - 1) (by omega) (w.heap.size + 1 + 1 + 1) b g (w.heap.size + 1 + 1 + 1 + 1) fs.length cap _ _ (by omega) (by omega) (by omega) (fun _ => rfl) (by omega) bD.cell hb4.cell0) belowK_t (belowK_b (by omega)) (Below.refl _ _) (fun _ => rfl)
    (fun pre W => ((∀ p ∈ pre, ¬ (fs[p.1]'p.2).k = 5) ∧ W.cell? ⟨w.heap.size, 0, none⟩ = some (.pointer (some ⟨b, 0, none⟩)) ∧ FB W (w.heap.size + 1) 0 0 0 0 0 (.slice none 0 0) ∧ W.cell? ⟨w.heap.size + 1 + 1, 0, none⟩ = some (.bool false) ∧ W.frozen? ⟨w.heap.size + 1 + 1, 0, none⟩ = false ∧ Blk W O i b 63 #[.slice (some ⟨g, 0, none⟩) fs.length cap] ∧ Rowx W O (i + 1) 30 6 g fs.length cap (frs fs)) ∧ Step [] w O W O)
    (fun cd pre W => (∃ (ini : List (Pl fs.length)) (last : Pl fs.length), pre = ini ++ [last] ∧ (∀ p ∈ ini, ¬ (fs[p.1]'p.2).k = 5) ∧ cd = .ret ∧ (fs[last.1]'last.2).k = 5 ∧ ∃ O' lv', FB W (w.heap.size + 1) (fs[last.1]'last.2).k (fs[last.1]'last.2).a (fs[last.1]'last.2).b (fs[last.1]'last.2).x (fs[last.1]'last.2).y lv' ∧ W.cell? ⟨w.heap.size + 1 + 1, 0, none⟩ = some (.bool true) ∧ FStk W O' i b (fs.take last.1) ∧ Row W O' j 22 1 lv' (ll last.1).length (cellsOf (ll last.1)) ∧ Step [i] w O W O'))
    (fun s A B row hs hg hr => by
      obtain ⟨⟨h1, h2, h3, h4, h5, h6, h7⟩, h8⟩ := hs
      have hr' : ∀ r, row = some r → ∃ ob : Obj, A.heap[r]? = some ob ∧ ob.isCells = false := fun r e => (hr r e).2
      exact ⟨⟨h1, cell_kept h2 hg hr', h3.kept hg hr', cell_kept h4 hg hr', (frozen_kept h4 hg hr').trans h5, h6.kept hg hr', h7.kept hg hr'⟩, step_grown (B := w4.heap.size) (by omega) h8 hg (fun r e => (hr r e).1)⟩)
    (fun cd s A B row hs hg hr => by
      obtain ⟨ini, last, e1, e2, e3, e4, O', lv', e5, e6, e7, e9, h8⟩ := hs
      have hr' : ∀ r, row = some r → ∃ ob : Obj, A.heap[r]? = some ob ∧ ob.isCells = false := fun r e => (hr r e).2
      exact ⟨ini, last, e1, e2, e3, e4, O', lv', e5.kept hg hr', cell_kept e6 hg hr', e7.kept hg hr', e9.kept hg hr', step_grown' (B := w4.heap.size) (by omega) h8 hg (fun r e => (hr r e).1)⟩)
    ⟨⟨by simp, cF, cV, cE, fE, hb4, hx4⟩, s0⟩
    (fun x => { tmps := #[.pointer (some ⟨b, 0, none⟩), .pointer (some ⟨w.heap.size, 0, none⟩), .pointer (some ⟨w.heap.size + 1, 0, none⟩), .pointer (some ⟨w.heap.size + 1 + 1, 0, none⟩), .int .i64 x.1, .pointer (some ⟨g, x.1 * 6, none⟩), undef, .pointer (some ⟨b, 0, none⟩), .func (.func 41) #[] #[.pointer (some ⟨w.heap.size + 1 + 1 + 1, 0, none⟩)], .int .i64 x.1, .pointer (some ⟨g, x.1 * 6, none⟩), undef, undef, undef, undef, undef, undef, undef, undef, undef, undef, undef, undef, undef, undef], defers := [] }) ?assign ?body ?done ?stop
  case assign =>
    intro l x W K hK
    gi_wp2
    exact hK
  case body =>
    rintro l pre x W ⟨⟨hp, hcF, hcV, hcE, hfE, hbW, hxW⟩, hS⟩ _
    obtain ⟨F, hF⟩ : ∃ F, fs[x.1]'x.2 = F := ⟨_, rfl⟩
    have hrdx := hrd x.1 x.2
    rw [hF] at hrdx
    obtain ⟨hll, how, hlvr⟩ := hrdx
    replace hlvr := hlvr.frame hS (by simp)
    obtain ⟨L, hL⟩ : ∃ L, ll x.1 = L := ⟨_, rfl⟩
    rw [hL] at hlvr hll
    obtain ⟨alv, clv, hlv, _, _, _, _⟩ := id hlvr
    have HLL := Lib.hid hL
    have qr : ∀ (r : Nat) (u : Value), r < 6 → F.cells[r]? = some u → W.cell? ⟨g, x.1 * 6 + r, none⟩ = some u := fun r u hr hu => hxW.cell ((frs_get fs x.1 r x.2 hr).trans (by rw [hF]; exact hu))
    have hsW : FStk W O i b fs := ⟨h128, _, hbW, hxW.row⟩
    have hszW : w.heap.size + 1 + 1 < W.heap.size := cell_block hcE
    have hsz1 : w.heap.size ≤ W.heap.size := by omega
    have q0 : W.cell? ⟨g, x.1 * 6, none⟩ = some (.int .i64 F.k) := qr 0 _ (by omega) rfl
    have q1 : W.cell? ⟨g, x.1 * 6 + 1, none⟩ = some (.int .i64 F.a) := qr 1 _ (by omega) rfl
    have q2 : W.cell? ⟨g, x.1 * 6 + 2, none⟩ = some (.int .i64 F.b) := qr 2 _ (by omega) rfl
    have q3 : W.cell? ⟨g, x.1 * 6 + 3, none⟩ = some (.int .i64 F.x) := qr 3 _ (by omega) rfl
    have q4 : W.cell? ⟨g, x.1 * 6 + 4, none⟩ = some (.int .i64 F.y) := qr 4 _ (by omega) rfl
    have q5 : W.cell? ⟨g, x.1 * 6 + 5, none⟩ = some (.slice alv L.length clv) := qr 5 _ (by omega) (by show some F.lv = _; rw [hlv])
    have HF := Lib.hid hF
    have HP := Lib.hid hp
    rw [hlv] at hlvr
    have HLV := Lib.hid hlvr
    have HRD := Lib.hid hrd
    have HOO := Lib.hid hO
    have HON := Lib.hid hOn
    have HON1 := Lib.hid hOn1
    clear qr hF hp hrd hlv hlvr hL hO hOn hOn1
    by_cases h5x : F.k = 5
    · have hkb : (F.k == 5) = true := by simpa using h5x
      have H5 := Lib.hid h5x
      clear h5x
      have i0 : W.heap[w.heap.size + 1 + 1]? = W.heap[w.heap.size + 1 + 1]? := rfl
      gi_wp2_with fail
      refine ⟨trivial, ?_⟩
      gi_at_call 28
      refine (CallsIn.inRound l (callsIn_wide.2 (own_ok HLV.out hll O j F.k F.a F.b F.x F.y))).mono ?_
      rintro e W1 ⟨lv1, O1, rfl, hrow1, t1⟩
      obtain ⟨ao1, co1, rfl, _, _⟩ := hrow1.slice
      have hO2 : ∃ O2, O2 = O1.set W1.heap.size (i + 2) := ⟨_, rfl⟩
      obtain ⟨O2, HO2⟩ := hO2
      have tA : Step [] W1 O1 (W1.alloc (.cells #[.int .i64 F.k, .int .i64 F.a, .int .i64 F.b, .int .i64 F.x, .int .i64 F.y, .slice ao1 L.length co1] 30)) O2 := by (rw [HO2]; exact ((Step.refl _ _ _).alloc _).give (Nat.le_refl _) _)
      have T2 : Step [] W O (W1.alloc (.cells #[.int .i64 F.k, .int .i64 F.a, .int .i64 F.b, .int .i64 F.x, .int .i64 F.y, .slice ao1 L.length co1] 30)) O2 := t1.trans tA
      have hrow2 := hrow1.frame tA (by simp)
      have hO2n : O2 W1.heap.size = i + 2 := by (rw [HO2]; exact Owner.set_self _ _ _)
      have hO2o : ∀ q, q < W.heap.size → O2 q = O q := T2.own
      have HO2' := Lib.hid HO2
      clear HO2
      have cF2 := (T2.cell (a := ⟨w.heap.size, 0, none⟩) (by show w.heap.size < W.heap.size; omega) (by simp)).trans hcF
      have hcut := cut_ok (hsW.frame T2 (by simp) (by simp)) x.1
      gi_wp2_with fail
      refine ⟨trivial, ?_⟩
      gi_at_call 16
      refine (CallsIn.inRound l (callsIn_wide.2 hcut)).mono ?_
      rintro e W3 ⟨rfl, hs3, t3⟩
      have hw1 : w.heap.size ≤ W1.heap.size := Nat.le_trans hsz1 t1.size
      obtain ⟨⟨t0', t1', t2', t3', t4', t5'⟩, _⟩ := ((FB.new W1 F.k F.a F.b F.x F.y (.slice ao1 L.length co1)).step t3 (by rw [hO2n]; simp)).facts
      have fV3 := (hcV.step T2 (by simp)).step t3 (by rw [hO2o _ (by omega)]; exact HON.out _ (by omega))
      obtain ⟨⟨v0, v1, v2, v3, v4, v5⟩, u0, u1, u2, u3, u4, u5⟩ := fV3.facts
      have eB : W3.heap[w.heap.size + 1 + 1]? = W.heap[w.heap.size + 1 + 1]? := (t3.blk _ (Nat.lt_of_lt_of_le hszW T2.size) (by rw [hO2o _ hszW]; exact HON.out _ (by omega))).trans (T2.blk _ hszW (by simp))
      have cE3 : W3.cell? ⟨w.heap.size + 1 + 1, 0, none⟩ = some (.bool false) := (World.cell?_of_block (w := W) eB).trans hcE
      have fE3 : W3.frozen? ⟨w.heap.size + 1 + 1, 0, none⟩ = false := (World.frozen?_of_block (w := W) eB).trans hfE
      gi_wp2_with fail
      have T3 : Step [i] W O W3 O2 := T2.nil.trans t3
      have hz1 : O2 (w.heap.size + 1) = i + 2 := by rw [hO2o _ (by omega)]; exact HOO.out _ (by omega)
      have hz2 : O2 (w.heap.size + 1 + 1) = i + 2 := by rw [hO2o _ hszW]; exact HOO.out _ (by omega)
      have c6 := (cell_set6 W3 (b := w.heap.size + 1) (q := w.heap.size + 1 + 1) (by omega) F.k F.a F.b F.x F.y (.slice ao1 L.length co1)).trans cE3
      have hcut3 : cutF fs (x.1 : Int) = fs.take x.1 := by simp [cutF]
      rw [hcut3] at hs3
      have sS : Step [i + 2] W3 O2 ((set6 W3 (w.heap.size + 1) F.k F.a F.b F.x F.y (.slice ao1 L.length co1)).setCell ⟨w.heap.size + 1 + 1, 0, none⟩ (.bool true)) O2 :=
        (step_set6 (Step.refl _ _ _) (fun _ => by rw [hz1]; simp) F.k F.a F.b F.x F.y _).setCell (fun _ => by show O2 (w.heap.size + 1 + 1) ∈ [i + 2]; rw [hz2]; simp) _
      have sT : Step [i] w O ((set6 W3 (w.heap.size + 1) F.k F.a F.b F.x F.y (.slice ao1 L.length co1)).setCell ⟨w.heap.size + 1 + 1, 0, none⟩ (.bool true)) O2 :=
        (step_set6 (hS.nil.trans T3) (fun h => absurd h (by omega)) F.k F.a F.b F.x F.y _).setCell (fun h => absurd h (by show ¬ w.heap.size + 1 + 1 < w.heap.size; omega)) _
      refine ⟨((keeps_step T3 (fun q hq => HON.out q (by omega))).trans ((KeepsOthers.set6 W3 (w.heap.size + 1) F.k F.a F.b F.x F.y (.slice ao1 L.length co1)).from _)).trans ((KeepsOthers.setCell _ ⟨w.heap.size + 1 + 1, 0, none⟩ (.bool true)).from _), ⟨pre, x, rfl, HP.out, rfl, ?_, O2, .slice ao1 L.length co1, ?_, ?_, hs3.frame sS (by simp) (by simp), ?_, sT⟩⟩
      · rw [HF.out]; exact H5.out
      · rw [HF.out]
        exact FB.other (fV3.set6 F.k F.a F.b F.x F.y (.slice ao1 L.length co1)) (q := ⟨w.heap.size + 1 + 1, 0, none⟩) (by show w.heap.size + 1 ≠ w.heap.size + 1 + 1; omega) (.bool true)
      · exact World.cell?_setCell_same' (set6 W3 (w.heap.size + 1) F.k F.a F.b F.x F.y (.slice ao1 L.length co1)) ⟨w.heap.size + 1 + 1, 0, none⟩ (.bool true) (by rw [c6]; rfl)
      · rw [HLL.out]
        exact (hrow2.frame t3 (by simpa using hj.1)).frame sS (by simpa using hj.2)
    · have hkb : (F.k == 5) = false := by simpa using h5x
      have H5 := Lib.hid h5x
      clear h5x
      gi_wp2
      exact ⟨KeepsFrom.refl _ _, Below.refl _ _, ⟨fun p hq => (List.mem_append.1 hq).elim (HP.out p) (fun e => by rw [List.mem_singleton] at e; subst e; rw [HF.out]; exact H5.out), hcF, hcV, hcE, hfE, hbW, hxW⟩, hS⟩
  case done =>
    rintro D ys W hD hys ⟨⟨hp, hcF, hV, hE, hfE, hbW, hxW⟩, hS⟩ hK
    obtain ⟨⟨v0, v1, v2, v3, v4, v5⟩, u0, u1, u2, u3, u4, u5⟩ := hV.facts
    have hall : ∀ u (h : u < fs.length), ¬ (fs[u]).k = 5 := fun u hu => by
      have hm : u ∈ ys.map Subtype.val := by
        rw [hys]
        have := mem_Dn (len := fs.length) (k := fs.length) (j := fs.length - 1 - u) (by omega)
        rwa [show fs.length - 1 - (fs.length - 1 - u) = u by omega] at this
      obtain ⟨p, hpm, hpe⟩ := List.mem_map.1 hm
      have := hp p hpm
      simpa only [hpe] using this
    have HALL := Lib.hid hall
    clear hall hp hrd hO hOn hOn1
    gi_wp2
    have c6 := (cell_set6 W (b := w.heap.size + 1) (q := w.heap.size + 1 + 1) (by omega) 0 0 0 0 0 (.slice none 0 0)).trans hE
    have hV2 := FB.other (hV.set6 0 0 0 0 0 (.slice none 0 0)) (q := ⟨w.heap.size + 1 + 1, 0, none⟩) (by show w.heap.size + 1 ≠ w.heap.size + 1 + 1; omega) (.bool false)
    have hE2 := World.cell?_setCell_same' (set6 W (w.heap.size + 1) 0 0 0 0 0 (.slice none 0 0)) ⟨w.heap.size + 1 + 1, 0, none⟩ (.bool false) (by rw [c6]; rfl)
    have hK' := ((KeepsOthers.set6 W (w.heap.size + 1) 0 0 0 0 0 (.slice none 0 0)).trans (KeepsOthers.setCell _ ⟨w.heap.size + 1 + 1, 0, none⟩ (.bool false))).same D _ hK rfl
    refine ⟨by simp, .inl ⟨_, _, rfl, run_takeDeferred hK', ?_⟩⟩
    have hgr := grownBy_putObj' ((set6 W (w.heap.size + 1) 0 0 0 0 0 (.slice none 0 0)).setCell ⟨w.heap.size + 1 + 1, 0, none⟩ (.bool false)) D (.deferred none)
    have hrow : ∀ r, some D = some r → ∃ ob : Obj, ((set6 W (w.heap.size + 1) 0 0 0 0 0 (.slice none 0 0)).setCell ⟨w.heap.size + 1 + 1, 0, none⟩ (.bool false)).heap[r]? = some ob ∧ ob.isCells = false := fun r e => by cases e; exact ⟨_, hK', rfl⟩
    obtain ⟨⟨r0, r1, r2, r3, r4, r5⟩, _⟩ := (hV2.kept hgr hrow).facts
    have hc6 := cell_kept hE2 hgr hrow
    have sS : Step [] w O ((set6 W (w.heap.size + 1) 0 0 0 0 0 (.slice none 0 0)).setCell ⟨w.heap.size + 1 + 1, 0, none⟩ (.bool false)) O :=
      (step_set6 hS (fun h => absurd h (by omega)) 0 0 0 0 0 _).setCell (fun h => absurd h (by show ¬ w.heap.size + 1 + 1 < w.heap.size; omega)) _
    refine ⟨.tuple #[Z6, .bool false], ?_, .inr ⟨HALL.out, rfl, step_grown (B := w4.heap.size) (by omega) sS hgr (fun r e => by cases e; exact hD)⟩⟩
    simp [results, Try.f21, go_sem, r0, r1, r2, r3, r4, r5, hc6]
  case stop =>
    rintro D cd pre W hD ⟨jj, hjj, hpre⟩ ⟨ini, last, rfl, hini, rfl, h5l, O', lv', hV, hE, hst, hrowL, hS⟩ hK
    have hj1 : ∃ j', jj = j' + 1 := by
      cases jj with
      | zero => simp [Dn] at hpre
      | succ j' => exact ⟨j', rfl⟩
    obtain ⟨jj, rfl⟩ := hj1
    rw [Dn_succ, List.map_append, List.map_singleton] at hpre
    obtain ⟨e1, e2⟩ := List.append_inj' hpre rfl
    have e3 : last.1 = fs.length - 1 - jj := by simpa using e2
    have hup : ∀ u (h : u < fs.length), last.1 < u → ¬ (fs[u]).k = 5 := fun u hu hlt => by
      have hm : u ∈ ini.map Subtype.val := by
        rw [e1]
        have := mem_Dn (len := fs.length) (k := jj) (j := fs.length - 1 - u) (by omega)
        rwa [show fs.length - 1 - (fs.length - 1 - u) = u by omega] at this
      obtain ⟨p, hpm, hpe⟩ := List.mem_map.1 hm
      have := hini p hpm
      simpa only [hpe] using this
    have HUP := Lib.hid hup
    have H5L := Lib.hid h5l
    clear hpre e1 e2 e3 hini h5l hup hrd hO hOn hOn1
    obtain ⟨al, cl, rfl, _, _⟩ := hrowL.slice
    gi_wp2
    refine ⟨by simp, .inl ⟨_, _, rfl, run_takeDeferred hK, ?_⟩⟩
    have hgr := grownBy_putObj' W D (.deferred none)
    have hrow : ∀ r, some D = some r → ∃ ob : Obj, W.heap[r]? = some ob ∧ ob.isCells = false := fun r e => by cases e; exact ⟨_, hK, rfl⟩
    obtain ⟨⟨r0, r1, r2, r3, r4, r5⟩, _⟩ := (hV.kept hgr hrow).facts
    have hc6 := cell_kept hE hgr hrow
    refine ⟨.tuple #[.agg #[.int .i64 (fs[last.1]'last.2).k, .int .i64 (fs[last.1]'last.2).a, .int .i64 (fs[last.1]'last.2).b, .int .i64 (fs[last.1]'last.2).x, .int .i64 (fs[last.1]'last.2).y, .slice al (ll last.1).length cl], .bool true], ?_, .inl ⟨last.1, last.2, H5L.out, HUP.out, O', _, rfl, hrowL.kept hgr hrow, hst.kept hgr hrow, step_grown' (B := w4.heap.size) (by omega) hS hgr (fun r e => by cases e; exact hD)⟩⟩
    simp [results, Try.f21, go_sem, r0, r1, r2, r3, r4, r5, hc6]
end Go.Proofs.Ytegcpjheglcbcaa
