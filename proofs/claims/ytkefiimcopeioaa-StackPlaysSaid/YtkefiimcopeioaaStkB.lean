/- The stack of the program: contracts of Take, Pop, Cut. -/
import Derived.Test.YtkefiimcopeioaaStkA
namespace Go.Proofs.Ytkefiimcopeioaa
open Go Go.RowKit
set_option linter.unusedSimpArgs false
set_option linter.unusedVariables false

/-- What is put is a literal. -/
theorem put_lit {w : World} {o : Owner} {i b : Nat} {l : List Int} (hs : Stk 55 w o i b l) (y : List Int) (hy : y.length ≤ 1000) :
    Calls Try.prog 12 #[.pointer (some ⟨b, 0, none⟩), .slice (some ⟨w.heap.size, 0, none⟩) y.length y.length] (w.alloc (.cells (ints y).toArray 35)) fun e w' => ∃ o', e = .returned (.int .i64 (putE l y)) ∧ Stk 55 w' o' i b (putL l y) ∧ Step [i, i + 1] w o w' o' := by
  have t1 : Step [] w o (w.alloc (.cells (ints y).toArray 35)) o := (Step.refl _ _ _).alloc _
  refine (put_ok (hs.frame t1 (by simp) (by simp)) (Rd.fresh w o 1 35 (ints y).toArray y.length (by simp [maxLen]; omega) (by simp))).mono ?_
  rintro e w' ⟨o', rfl, h1, h2⟩
  exact ⟨o', rfl, h1, t1.nil.trans h2⟩

def takeE (l : List Int) (n : Int) : Int := if n < 0 then 1 else if (l.length : Int) < n then -4 else 0
def takeR (l : List Int) (n : Int) : List Int := if n < 0 then [] else if (l.length : Int) < n then [] else l.drop (l.length - n.toNat)
def takeL (l : List Int) (n : Int) : List Int := if n < 0 then l else if (l.length : Int) < n then l else l.take (l.length - n.toNat)

theorem Row.setOther' {w : World} {o o2 : Owner} {i i2 : Nat} {v u : Value} {n b : Nat} {xs : List Value} {cs : Array Value} (h : Row w o i 35 1 v n xs) (hb : Blk w o2 i2 b 55 cs) : Row (w.setCell ⟨b, 0, none⟩ u) o i 35 1 v n xs :=
  h.setOther hb (by decide) 0 u

theorem take_split {w : World} {o : Owner} {i b : Nat} {l m : List Int} (hs : Stk 55 w o i b (l ++ m)) (j : Nat) :
    Calls Try.prog 20 #[.pointer (some ⟨b, 0, none⟩), .int .i64 m.length] w fun e w' => ∃ v o', e = .returned (.tuple #[v, .int .i64 0]) ∧ Row w' o' j 35 1 v m.length (ints m) ∧ Stk 55 w' o' i b l ∧ Step [i, i + 1] w o w' o' := by
  have hd := depth_ok hs
  obtain ⟨h0, v, hb, hr⟩ := hs
  obtain ⟨ao, cap, rfl, h1, h2⟩ := hr.slice
  have hc := hb.cell0
  have hrd : Rd w o (i + 1) 1 (.slice (adr ao l.length cap 1) m.length (cap - l.length)) m.length (ints m) := by
    have := hr.rd.slice (l := l.length) (k := (l ++ m).length) (by simp) (Nat.le_refl _)
    simpa [ints, List.take_of_length_le] using this
  simp only [List.length_append] at h0 h1 hc hd
  go_enter Try.func20, Try.ntmps20
  go_wp2_with (first | (go_at_call 18; refine hd.mono ?_; rintro e w' ⟨rfl, rfl⟩) | (go_at_call 27; refine (clone_ok hrd (by omega) j).mono ?_; rintro e w' ⟨v', o', rfl, hrow, hst⟩; have hb1 := hb.frame hst (by simp); have hc1 := hb1.cell0; have hf1 := hb1.frozen 0))
  go_ret2
  have hr1 : Row w' o' (i + 1) 35 1 (.slice ao l.length cap) l.length (ints l) := by
    have := (hr.frame hst (by simp)).cut (k := l.length) (by simp)
    simpa [ints, List.map_append, List.take_append_of_le_length, List.take_of_length_le] using this
  have st1 : Step [i, i + 1] w o w' o' := hst.nil
  exact ⟨v', o', rfl, hrow.setOther hb1 (by decide) 0 _, ⟨by omega, _, hb1.set 0 _, hr1.setOther hb1 (by decide) 0 _⟩, st1.setCell (fun _ => by simp [hb.own]) _⟩

theorem take_ok {w : World} {o : Owner} {i b : Nat} {l : List Int} (hs : Stk 55 w o i b l) (n : Int) (hn2 : n ≤ 9223372036854775807) (j : Nat) :
    Calls Try.prog 20 #[.pointer (some ⟨b, 0, none⟩), .int .i64 n] w fun e w' => ∃ v o', e = .returned (.tuple #[v, .int .i64 (takeE l n)]) ∧ Row w' o' j 35 1 v (takeR l n).length (ints (takeR l n)) ∧ Stk 55 w' o' i b (takeL l n) ∧ Step [i, i + 1] w o w' o' := by
  have hd := depth_ok hs
  have h0 := hs.1
  by_cases hneg : n < 0
  · rw [takeE, takeR, takeL, if_pos hneg, if_pos hneg, if_pos hneg]
    go_enter Try.func20, Try.ntmps20
    go_wp2_with (go_at_call 18; refine hd.mono ?_; rintro e w' ⟨rfl, rfl⟩)
    go_ret2
    exact ⟨_, o, rfl, Row.nil _ _ _ _ _ _, hs, Step.refl _ _ _⟩
  · obtain ⟨n, rfl⟩ := Int.eq_ofNat_of_zero_le (show 0 ≤ n by omega)
    by_cases hlen : l.length < n
    · rw [takeE, takeR, takeL, if_neg hneg, if_neg hneg, if_neg hneg, if_pos (by omega), if_pos (by omega), if_pos (by omega)]
      go_enter Try.func20, Try.ntmps20
      go_wp2_with (go_at_call 18; refine hd.mono ?_; rintro e w' ⟨rfl, rfl⟩)
      go_ret2
      exact ⟨_, o, rfl, Row.nil _ _ _ _ _ _, hs, Step.refl _ _ _⟩
    · rw [takeE, takeR, takeL, if_neg hneg, if_neg hneg, if_neg hneg, if_neg (by omega), if_neg (by omega), if_neg (by omega)]
      have hl := List.take_append_drop (l.length - (n : Int).toNat) l
      have hn : n = (l.drop (l.length - (n : Int).toNat)).length := by simp; omega
      generalize l.take (l.length - (n : Int).toNat) = l1 at hl ⊢
      generalize l.drop (l.length - (n : Int).toNat) = l2 at hl hn ⊢
      subst hl
      rw [hn]
      exact take_split hs j
def popE (l : List Int) : Int := if l = [] then -4 else 0
def popV (l : List Int) : Int := l.getLastD 0

theorem pop_ok {w : World} {o : Owner} {i b : Nat} {l : List Int} (hs : Stk 55 w o i b l) :
    Calls Try.prog 21 #[.pointer (some ⟨b, 0, none⟩)] w fun e w' => ∃ o', e = .returned (.tuple #[.int .i64 (popV l), .int .i64 (popE l)]) ∧ Stk 55 w' o' i b l.dropLast ∧ Step [i, i + 1] w o w' o' := by
  rcases List.eq_nil_or_concat l with rfl | ⟨l, x, rfl⟩
  · have ht := take_ok hs 1 (by omega) 0
    simp only [takeE, takeR, takeL] at ht
    go_enter Try.func21, Try.ntmps21
    go_wp2_with (go_at_call 20; refine ht.mono ?_; rintro e w' ⟨v', o', rfl, hrow, hs', hst⟩)
    go_ret2
    exact ⟨o', rfl, hs', hst⟩
  · rw [List.concat_eq_append] at hs ⊢
    have ht := take_split (l := l) (m := [x]) hs 0
    have e1 : popV (l ++ [x]) = x := by simp [popV, List.getLastD_eq_getLast?]
    have e2 : popE (l ++ [x]) = 0 := by simp [popE]
    rw [e1, e2, List.dropLast_concat]
    clear e1 e2
    go_enter Try.func21, Try.ntmps21
    go_wp2_with (go_at_call 20; refine ht.mono ?_; rintro e w' ⟨v', o', rfl, hrow, hs', hst⟩; obtain ⟨ao, cap, rfl, r1, r2, r3, r4⟩ := hrow.rd; obtain ⟨bb, off, rfl, r5, r6, r7⟩ := r4 (by simp); have hc : w'.cell? ⟨bb, off, none⟩ = some (.int .i64 x) := r7 0 (.int .i64 x) rfl)
    go_ret2
    exact ⟨o', rfl, hs', hst⟩

def cutN (n : Int) : Nat := (min (max n 0) 128).toNat
def cutL (l : List Int) (n : Int) : List Int := (l ++ List.replicate (cutN n - l.length) 0).take (cutN n)

theorem cut_step (L : List Int) (m : Nat) (h : L.length < m) : (L ++ [0]) ++ List.replicate (m - (L ++ [0]).length) 0 = L ++ List.replicate (m - L.length) 0 := by
  rw [List.append_assoc, List.length_append, List.length_singleton, show m - L.length = (m - (L.length + 1)) + 1 by omega, List.replicate_succ]
  rfl

theorem cut_ok {w : World} {o : Owner} {i b : Nat} {l : List Int} (hs : Stk 55 w o i b l) (n : Int) :
    Calls Try.prog 24 #[.pointer (some ⟨b, 0, none⟩), .int .i64 n] w fun e w' => ∃ o', e = .returned (.tuple #[]) ∧ Stk 55 w' o' i b (cutL l n) ∧ Step [i, i + 1] w o w' o' := by
  have hN : min (max n 0) 128 = (cutN n : Int) := by unfold cutN; omega
  have hm : cutN n ≤ 128 := by unfold cutN; omega
  rw [cutL]
  generalize cutN n = m at hN hm ⊢
  have HN := Lib.hid hN
  clear hN
  go_enter Try.func24, Try.ntmps24
  go_wp2_with fail
  rw [HN.out]
  clear HN
  go_loopg [] (m - l.length) (fun k wr => ∃ o' L, k = m - L.length ∧ (L ++ List.replicate (m - L.length) 0).take m = (l ++ List.replicate (m - l.length) 0).take m ∧ Stk 55 wr o' i b L ∧ Step [i, i + 1] w o wr o')
  case atStart => exact ⟨o, l, rfl, rfl, hs, Step.refl _ _ _⟩
  case round =>
    obtain ⟨o', L, hk, hL, hs1, st1⟩ := hrel
    have HL := Lib.hid hL
    have HK := Lib.hid hk
    clear hL hk hs
    obtain ⟨h0, v, hb, hr⟩ := hs1
    obtain ⟨ao, cap, rfl, h1, h2⟩ := hr.slice
    have hc := hb.cell0
    have hf := hb.frozen 0
    by_cases hlt : L.length < m
    · have hx := Rd.fresh wr o' 1 35 #[.int .i64 0] 1 (by simp [maxLen]) (by simp)
      have st2 : Step [i + 1] wr o' (wr.alloc (.cells #[.int .i64 0] 35)) o' := (Step.refl _ _ _).alloc _
      have hr2 := hr.frame ((Step.refl [] wr o').alloc (.cells #[.int .i64 0] 35)) (by simp)
      go_wp2_with (at_builtin; refine wpList_app rfl (.tmp 20) (.tmp 21) 22 rfl Try.underlying22 info35 rfl rfl hr2 rfl hx (by simp [Value.oneCell']) (by omega) (by omega) ?_)
      intro v' w' o2 hrow hst
      have hb1 := hb.frame (st2.trans hst) (by simp)
      have hc1 := hb1.cell0
      have hf1 := hb1.frozen 0
      have hrow' : Row w' o2 (i + 1) 35 1 v' (L ++ [0]).length (ints (L ++ [0])) := by simpa [ints] using hrow
      obtain ⟨ao', cap', rfl, _, _⟩ := hrow'.slice
      obtain ⟨g1, g2⟩ := Stk.put (by decide) hb hrow' (st2.trans hst) (by simp; omega)
      simp only [List.length_append, List.length_cons, List.length_nil, Nat.zero_add] at g1 g2
      have g3 := cut_step L m hlt
      have G3 := Lib.hid g3
      clear g3 hrow hst hr2 hx hb1 hb hr
      go_wp2
      go_roundg (m - (L ++ [0]).length)
      case measure => rw [HK.out]; simp; omega
      case rel => exact ⟨o2, L ++ [0], rfl, by rw [G3.out]; exact HL.out, g1, st1.trans g2⟩
    · go_wp2
      go_end0
      have hr1 : Row wr o' (i + 1) 35 1 (.slice ao m cap) m (ints (L.take m)) := by
        have := hr.cut (k := m) (by omega)
        simpa [ints, List.map_take] using this
      have e : (l ++ List.replicate (m - l.length) 0).take m = L.take m := by rw [← HL.out, show m - L.length = 0 by omega]; simp
      rw [e]
      refine ⟨o', rfl, ⟨by simp; omega, _, hb.set 0 _, ?_⟩, st1.setCell (fun h => ?_) _⟩
      · rw [show (L.take m).length = m by simp; omega]
        exact hr1.setOther hb (by decide) 0 _
      · have := st1.own b h
        simp [← this, hb.own]
end Go.Proofs.Ytkefiimcopeioaa
