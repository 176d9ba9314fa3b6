/- The stack of the program: Do, where cells are taken and put. -/
import Derived.Test.YtkefiimcopeioaaStkE
namespace Go.Proofs.Ytkefiimcopeioaa
open Go Go.RowKit
set_option linter.unusedSimpArgs false
set_option linter.unusedVariables false

theorem Step.iter {S : List Nat} {w w' : World} {o o' : Owner} (h : Step S w o w' o') (s : ByteArray) (p : Nat) : Step S w o (w'.iter s p) o' := h.alloc _

theorem take_any {w : World} {o : Owner} {i b : Nat} {l m : List Int} (hs : Stk 55 w o i b (l ++ m)) {n : Int} (hn : n = m.length) (j : Nat) :
    Calls Try.prog 20 #[.pointer (some ⟨b, 0, none⟩), .int .i64 n] w fun e w' => ∃ v o', e = .returned (.tuple #[v, .int .i64 0]) ∧ Row w' o' j 35 1 v m.length (ints m) ∧ Stk 55 w' o' i b l ∧ Step [i, i + 1] w o w' o' := by
  subst hn
  exact take_split hs j

set_option maxHeartbeats 1000000 in
theorem do_puts {w : World} {o : Owner} {i b : Nat} {l m : List Int} (hs : Stk 55 w o i b (l ++ m)) (hi : i ≠ 0) (j : Nat) (hj : j < 12) (op : Int) (hop : op = 28 + j) (hm : shT j = m.length) (h7 : j = 7 → ∃ x, m = [x] ∧ x ≠ 0)
    (hov : l.length + (shP j).length ≤ 128) :
    Calls Try.prog 13 #[.pointer (some ⟨b, 0, none⟩), .int .i64 op] w fun e w' => ∃ o', e = .returned (.int .i64 0) ∧ Stk 55 w' o' i b (l ++ (shP j).map fun p => m.getD p 0) ∧ Step [i, i + 1] w o w' o' := by
  have hsh := shapes_some op j w o hop hj
  obtain ⟨hp, hp4, hpk, hk4, hk0⟩ := shP_le j hj
  have q40 : (op == 40) = false := by rw [beq_eq_false_iff_ne]; omega
  have q41 : (op == 41) = false := by rw [beq_eq_false_iff_ne]; omega
  have q1 : op < 40 := by omega
  have q2 : 28 ≤ op := by omega
  have h7' : (op == 35) = false ∨ (op = 35 ∧ ∃ x, m = [x] ∧ (x == 0) = false) := by
    by_cases e : j = 7
    · obtain ⟨x, hx, h0⟩ := h7 e; exact .inr ⟨by omega, x, hx, by simpa using h0⟩
    · exact .inl (by rw [beq_eq_false_iff_ne]; omega)
  have hsz := shStr_size (shP j)
  have hget := shStr_get (shP j) hp4
  rw [hm] at hk4 hpk hk0
  obtain ⟨K, hK⟩ : ∃ K : Int, K = (shT j : Int) := ⟨_, rfl⟩
  rw [← hK] at hsh
  rw [hm] at hK
  have k1 : 0 ≤ K := by omega
  have k2 : K ≤ 4 := by omega
  generalize shP j = ps at hsh hsz hget hpk hov hp ⊢
  generalize shStr ps = s at hsh hsz hget
  have hov' : l.length + s.size ≤ 128 := by omega
  have hp' : s.size ≤ 6 := by omega
  have k3 : K ≤ l.length + m.length := by omega
  have k4 : l.length + m.length - K + s.size ≤ 128 := by omega
  have hK' := Lib.hid hK
  clear hK
  have hpk' := Lib.hid hpk
  have hget' := Lib.hid hget
  clear hop h7 hm hpk hget
  obtain ⟨h0, v, hb, hr⟩ := id hs
  have hl0 : 0 ≤ (l.length : Int) := by omega
  refine Or.elim h7' (fun q3 => ?a) (fun ⟨e35, x, em, q3⟩ => ?b)
  case' a =>
    obtain ⟨ao, cap, rfl, _, _⟩ := hr.slice
    have h0' : l.length + m.length ≤ 128 := by simpa using h0
    go_enter Try.func13, Try.ntmps13
    go_wp2_with (go_at_call 26; refine hsh.mono ?_; rintro e w' ⟨rfl, st⟩; have hb' := hb.frame st (by simp); have hc := hb'.cell0; simp only [List.length_append] at hc; have hlt := hb'.lt)
  case' b =>
    subst e35
    have hm1 : m.length = 1 := by simp [em]
    have hx0 : (ints (l ++ m))[l.length]? = some (.int .i64 x) := ints_get (by simp [em])
    have hgl := (List.getElem?_eq_some_iff.1 hx0).1
    obtain ⟨g, cap, rfl, hx⟩ := hr.rowx (by simp; omega)
    have hle := hx.le
    have hcap := hx.capl
    unfold maxLen at hcap
    have h0' : l.length + m.length ≤ 128 := by simpa using h0
    simp only [List.length_append] at hle
    have hm2 : 1 ≤ m.length := by omega
    have hm3 : m.length ≤ 1 := by omega
    have ad : (l.length + m.length : Int) - 1 = l.length := by omega
    clear hm1 em
    go_enter Try.func13, Try.ntmps13
    go_wp2_with (go_at_call 26; refine hsh.mono ?_; rintro e w' ⟨rfl, st⟩; have hb' := hb.frame st (by simp); have hc := hb'.cell0; simp only [List.length_append] at hc; have hlt := hb'.lt; have hx' := hx.frame st (by simp); have c2 : w'.cell? ⟨g, l.length, none⟩ = some (.int .i64 x) := hx'.cell hx0; have hlg : g < w'.heap.size := World.block_lt_of_cell? _ _ c2)
  all_goals
    have hq : Blk (w'.alloc (.cells #[.int .i64 K, .string s] 57)) (o.set w'.heap.size 0) 0 w'.heap.size 57 #[.int .i64 K, .string s] := Blk.new _ _ _ _ _
    have st1 : Step [] w o (w'.alloc (.cells #[.int .i64 K, .string s] 57)) (o.set w'.heap.size 0) := (st.alloc _).give st.size _
    have hs1 := hs.frame st1 (by simp) (by simp)
    refine (take_any hs1 hK'.out 0).mono ?_
    rintro e w2 ⟨v2, o2, rfl, hrow, hs2, st2⟩
    have hq2 := hq.frame st2 (by simp; omega)
    have st3 : Step [i, i + 1] w o w2 o2 := st1.nil.trans st2
    have d1 : w2.cell? ⟨w'.heap.size, 1, none⟩ = some (.string s) := hq2.cell 1
    have hsz2 := st2.size
    simp only [World.size_alloc] at hsz2
    clear hs hs1 hb hr hb' hc hlt hq q3 q40 q41 hsh st1 st2
    go_wp2_with fail
    obtain ⟨g2, cap2, rfl, hx2⟩ := hrow.rowx hk0
    have hle2 := hx2.le
    have hcap2 := hx2.capl
    unfold maxLen at hcap2
    have st0 : Step [] w2 o2 (w2.iter s 0) (o2.set w2.heap.size (i + 2)) := (Step.alloc (Step.refl [] w2 o2) _).give (Nat.le_refl _) _
    have hw2 : w.heap.size ≤ w2.heap.size := st3.size
    clear hrow d1 hq2
    go_loopg [] s.size (fun k wr => ∃ o' p, k = s.size - p ∧ p ≤ s.size ∧ Stk 55 wr o' i b (l ++ (ps.take p).map fun p => m.getD p 0) ∧ Step [i, i + 1] w o wr o' ∧ Rowx wr o' 0 35 1 g2 m.length cap2 (ints m) ∧ wr.heap[w2.heap.size]? = some (.stringIter s p) ∧ o' w2.heap.size = i + 2)
    case atStart => exact ⟨_, 0, rfl, Nat.zero_le _, by simpa using hs2.frame st0 (by simp) (by simp), st3.trans st0.nil, hx2.frame st0 (by simp), World.iter_heap _ _ _, Owner.set_self _ _ _⟩
    case round =>
      obtain ⟨o', p, hk, hp, hs3, st4, hx3, hit, hoi⟩ := hrel
      have HK := Lib.hid hk
      have hwl := hs3.1
      simp only [List.length_append, List.length_map, List.length_take] at hwl
      clear hk hs2 hx2 st3 st0
      by_cases hlt : p < s.size
      · obtain ⟨q, hq1, hq4, hq97⟩ := hget'.out p hlt
        have hqm := hpk'.out q (List.mem_of_getElem? hq1)
        have hn := fun ty => run_next_at (P := Try.prog) hit ty hlt (by omega)
        rw [hq97] at hn
        obtain ⟨W1, hW1⟩ : ∃ W1, W1 = wset wr w2.heap.size (.stringIter s (p + 1)) := ⟨_, rfl⟩
        have hrl : w2.heap.size < wr.heap.size := (Array.getElem?_eq_some_iff.1 hit).1
        have st5 : Step [i + 2] wr o' W1 o' := by rw [hW1]; exact (Step.refl _ _ _).wset (fun _ => by simp [hoi]) _
        have st6 : Step [i, i + 1] w o W1 o' := by rw [hW1]; exact st4.wset (fun h => by omega) _
        have hit1 : W1.heap[w2.heap.size]? = some (.stringIter s (p + 1)) := by rw [hW1]; exact wset_same hrl _
        rw [← hW1] at hn
        have hs5 := hs3.frame st5 (by simp) (by simp)
        have hx5 := hx3.frame st5 (by simp)
        obtain ⟨x, hx⟩ : ∃ x, m[q]? = some x := ⟨m[q], by simp [hqm]⟩
        have cx : W1.cell? ⟨g2, q, none⟩ = some (.int .i64 x) := hx5.cell (ints_get hx)
        have hput : putL (l ++ (ps.take p).map fun p => m.getD p 0) [x] = l ++ (ps.take (p + 1)).map fun p => m.getD p 0 := by
          rw [putL, if_pos (by simp; omega), List.take_add_one, hq1]
          simp [List.getD, hx]
        have HP := Lib.hid hput
        have hqi : (q : Int) < m.length := by omega
        clear hs3 hit hx3 hW1 hput hq1 hq97 hx st5 hwl
        go_wp2_with fail
        refine (push_ok hs5 x).mono ?_
        rintro e w4 ⟨o4, rfl, hs6, st7⟩
        rw [HP.out] at hs6
        have hx6 := hx5.frame st7 (by simp; omega)
        have hit2 := st7.obj hit1 (by rw [hoi]; simp)
        have ho4 := (st7.own w2.heap.size (Array.getElem?_eq_some_iff.1 hit1).1).trans hoi
        have st8 := st6.trans st7
        clear hs5 st7 hit1 hx5 cx
        go_wp2_with fail
        go_roundg (s.size - (p + 1))
        case measure => rw [HK.out]; omega
        case rel => exact ⟨o4, p + 1, rfl, by omega, hs6, st8, hx6, hit2, ho4⟩
      · have hn := fun ty => run_next_stop (P := Try.prog) hit ty hlt
        have hps : ps.take p = ps := List.take_of_length_le (by omega)
        rw [hps] at hs3
        clear hps
        go_wp2_with fail
        go_ret
        exact ⟨o', rfl, hs3, st4⟩
end Go.Proofs.Ytkefiimcopeioaa
