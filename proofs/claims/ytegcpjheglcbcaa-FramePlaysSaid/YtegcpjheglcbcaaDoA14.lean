/- Both kinds of frames, alike: what is told of them, in one set of words. -/
import Derived.Test.YtegcpjheglcbcaaPtB
import Derived.Test.YtegcpjheglcbcaaRfF
import Derived.Test.YtegcpjheglcbcaaRfG
namespace Go.Proofs.Ytegcpjheglcbcaa
open Go Go.RowKit Go.Shelf
set_option linter.unusedSimpArgs false
set_option linter.unusedVariables false

/-- A frame as it is meant: its numbers, its locals. -/
abbrev Fa := Int × Int × Int × Int × Int × List Int
def ab (p : Fr × List Int × Nat) : Fa := (p.1.k, p.1.a, p.1.b, p.1.x, p.1.y, p.2.1)
def Fa.val (f : Fa) (lv : Value) : Value := .agg #[.int .i64 f.1, .int .i64 f.2.1, .int .i64 f.2.2.1, .int .i64 f.2.2.2.1, .int .i64 f.2.2.2.2.1, lv]
abbrev Fa.l (f : Fa) : List Int := f.2.2.2.2.2
def Z0 : Fa := (0, 0, 0, 0, 0, [])

def topA (s : List Fa) : Fa × Bool := match s.getLast? with | none => (Z0, false) | some f => (f, true)
def popA (s : List Fa) (kk : Int) : Fa × Int × List Fa := match s.getLast? with | none => (Z0, -6, s) | some f => if f.1 = kk then (f, 0, s.dropLast) else (Z0, -6, s)

theorem topA_nil : topA [] = (Z0, false) := rfl
theorem topA_app (s : List Fa) (f : Fa) : topA (s ++ [f]) = (f, true) := by simp [topA]
theorem popA_nil (kk : Int) : popA [] kk = (Z0, -6, []) := rfl
theorem popA_app (s : List Fa) (f : Fa) (kk : Int) : popA (s ++ [f]) kk = if f.1 = kk then (f, 0, s) else (Z0, -6, s ++ [f]) := by simp [popA]

theorem last_cases (fl : List (Fr × List Int × Nat)) : fl = [] ∨ ∃ fl0 k a c x y lv l t, fl = fl0 ++ [((⟨k, a, c, x, y, lv⟩ : Fr), l, t)] := by
  rcases List.eq_nil_or_concat fl with h | ⟨fl0, ⟨⟨k, a, c, x, y, lv⟩, l, t⟩, h⟩
  · exact .inl h
  · exact .inr ⟨fl0, k, a, c, x, y, lv, l, t, by rw [h, List.concat_eq_append]⟩

theorem LT.nilv {w : World} {o : Owner} (j : Nat) : Rd w o j 1 (.slice none 0 0) ([] : List Int).length (cellsOf []) := Rd.nil _ _ _ _ _ _ (by simp [maxLen])

theorem LT.len {w : World} {o : Owner} {i b : Nat} {fl : List (Fr × List Int × Nat)} (h : LT w o i b fl) : fl.length ≤ 128 := by simpa using h.1.1

theorem ptop_ok {w : World} {o : Owner} {b : Nat} {fl : List (Fr × List Int × Nat)} (hs : LT w o 10 b fl) :
    Calls Try.prog 20 #[.pointer (some ⟨b, 0, none⟩)] w fun e w' => ∃ lv' o', e = .returned (.tuple #[(topA (fl.map ab)).1.val lv', .bool (topA (fl.map ab)).2]) ∧ Rd w' o' 40 1 lv' (topA (fl.map ab)).1.l.length (cellsOf (topA (fl.map ab)).1.l) ∧ (topA (fl.map ab)).1.l.length ≤ 1000000 ∧ Step [] w o w' o' := by
  rcases last_cases fl with rfl | ⟨fl0, k, a, c, x, y, lv, l, t, rfl⟩
  · refine (top_none hs.1).mono ?_
    rintro e w' ⟨rfl, s⟩
    exact ⟨.slice none 0 0, o, rfl, LT.nilv _, by simp [topA, Z0, Fa.l], s⟩
  · have hll := (hs.2 (⟨k, a, c, x, y, lv⟩, l, t) (by simp)).1
    refine (top_t hs 40).mono ?_
    rintro e w' ⟨o', lv', rfl, hr, s⟩
    rw [List.map_append, List.map_singleton, topA_app]
    exact ⟨lv', o', rfl, hr.rd, hll, s⟩

theorem rtopA_ok {w : World} {o : Owner} {b : Nat} {fl : List (Fr × List Int × Nat)} (hs : RT w o 30 b fl) :
    Calls Try.prog 26 #[.pointer (some ⟨b, 0, none⟩)] w fun e w' => ∃ lv' o', e = .returned (.tuple #[(topA (fl.map ab)).1.val lv', .bool (topA (fl.map ab)).2]) ∧ Rd w' o' 41 1 lv' (topA (fl.map ab)).1.l.length (cellsOf (topA (fl.map ab)).1.l) ∧ Step [] w o w' o' := by
  rcases last_cases fl with rfl | ⟨fl0, k, a, c, x, y, lv, l, t, rfl⟩
  · refine (rtop_nil hs).mono ?_
    rintro e w' ⟨rfl, s⟩
    exact ⟨.slice none 0 0, o, rfl, LT.nilv _, s⟩
  · refine (rtop_some hs (by decide) 41 (by decide)).mono ?_
    rintro e w' ⟨lv', o', rfl, hr, s⟩
    rw [List.map_append, List.map_singleton, topA_app]
    exact ⟨lv', o', rfl, hr.rd, s⟩

theorem take_len_app {α : Type} (a b : List α) : (a ++ b).take a.length = a := by simp

theorem ppop_ok {w : World} {o : Owner} {b : Nat} {fl : List (Fr × List Int × Nat)} (hs : LT w o 10 b fl) (kk : Int) :
    Calls Try.prog 18 #[.pointer (some ⟨b, 0, none⟩), .int .i64 kk] w fun e w' => ∃ lv' o' m, e = .returned (.tuple #[(popA (fl.map ab) kk).1.val lv', .int .i64 (popA (fl.map ab) kk).2.1]) ∧ Rd w' o' 40 1 lv' (popA (fl.map ab) kk).1.l.length (cellsOf (popA (fl.map ab) kk).1.l) ∧ (popA (fl.map ab) kk).1.l.length ≤ 1000000 ∧ LT w' o' 10 b (fl.take m) ∧ (fl.take m).map ab = (popA (fl.map ab) kk).2.2 ∧ Step [10] w o w' o' := by
  rcases last_cases fl with rfl | ⟨fl0, k, a, c, x, y, lv, l, t, rfl⟩
  · refine (pop_miss hs.1 kk (by simp)).mono ?_
    rintro e w' ⟨rfl, s⟩
    exact ⟨.slice none 0 0, o, 0, rfl, LT.nilv _, by simp [popA, Z0, Fa.l], hs.frame s (by simp) (by simp) (by simp), rfl, s.nil⟩
  · rw [List.map_append, List.map_singleton, popA_app]
    have hll := (hs.2 (⟨k, a, c, x, y, lv⟩, l, t) (by simp)).1
    by_cases hk : k = kk
    · subst hk
      rw [if_pos (show (ab (⟨k, a, c, x, y, lv⟩, l, t)).1 = k from rfl)]
      refine (pop_t hs 40 (by decide)).mono ?_
      rintro e w' ⟨o', lv', rfl, hr, h, s⟩
      exact ⟨lv', o', fl0.length, rfl, hr.rd, hll, by rw [take_len_app]; exact h, by rw [take_len_app], s⟩
    · rw [if_neg (show ¬ (ab (⟨k, a, c, x, y, lv⟩, l, t)).1 = kk from hk)]
      refine (pop_miss hs.1 kk (by rw [List.map_append]; simp; exact hk)).mono ?_
      rintro e w' ⟨rfl, s⟩
      refine ⟨.slice none 0 0, o, (fl0 ++ [((⟨k, a, c, x, y, lv⟩ : Fr), l, t)]).length, rfl, LT.nilv _, by simp [Z0, Fa.l], ?_, ?_, s.nil⟩
      · rw [List.take_length]; exact hs.frame s (by simp) (by simp) (by simp)
      · rw [List.take_length]; simp

theorem rpopA_ok {w : World} {o : Owner} {b : Nat} {fl : List (Fr × List Int × Nat)} (hs : RT w o 30 b fl) (kk : Int) :
    Calls Try.prog 33 #[.pointer (some ⟨b, 0, none⟩), .int .i64 kk] w fun e w' => ∃ lv' o' m, e = .returned (.tuple #[(popA (fl.map ab) kk).1.val lv', .int .i64 (popA (fl.map ab) kk).2.1]) ∧ Rd w' o' 41 1 lv' (popA (fl.map ab) kk).1.l.length (cellsOf (popA (fl.map ab) kk).1.l) ∧ RT w' o' 30 b (fl.take m) ∧ (fl.take m).map ab = (popA (fl.map ab) kk).2.2 ∧ Step [30] w o w' o' := by
  rcases last_cases fl with rfl | ⟨fl0, k, a, c, x, y, lv, l, t, rfl⟩
  · refine (rpop_none hs kk).mono ?_
    rintro e w' ⟨rfl, s⟩
    exact ⟨.slice none 0 0, o, 0, rfl, LT.nilv _, hs.frame0 s, rfl, s.nil⟩
  · rw [List.map_append, List.map_singleton, popA_app]
    by_cases hk : k = kk
    · subst hk
      rw [if_pos (show (ab (⟨k, a, c, x, y, lv⟩, l, t)).1 = k from rfl)]
      refine (rpop_hit hs (by decide) 41 (by decide)).mono ?_
      rintro e w' ⟨lv', o', rfl, hr, h, s⟩
      exact ⟨lv', o', fl0.length, rfl, hr.rd, by rw [take_len_app]; exact h, by rw [take_len_app], s⟩
    · rw [if_neg (show ¬ (ab (⟨k, a, c, x, y, lv⟩, l, t)).1 = kk from hk)]
      refine (rpop_miss hs (by decide) kk hk).mono ?_
      rintro e w' ⟨o', rfl, s⟩
      refine ⟨.slice none 0 0, o', (fl0 ++ [((⟨k, a, c, x, y, lv⟩ : Fr), l, t)]).length, rfl, LT.nilv _, ?_, ?_, s.nil⟩
      · rw [List.take_length]; exact hs.frame0 s
      · rw [List.take_length]; simp

theorem pcut_ok {w : World} {o : Owner} {b : Nat} {fl : List (Fr × List Int × Nat)} (hs : LT w o 10 b fl) (n : Int) :
    Calls Try.prog 16 #[.pointer (some ⟨b, 0, none⟩), .int .i64 n] w fun e w' => e = .returned (.tuple #[]) ∧ LT w' o 10 b (fl.take n.toNat) ∧ Step [10] w o w' o := by
  refine (cut_ok hs.1 n).mono ?_
  rintro e w' ⟨rfl, h, st⟩
  refine ⟨rfl, ⟨?_, fun p hp => ?_⟩, st⟩
  · rw [List.map_take]; simpa [cutF] using h
  · obtain ⟨h1, h2, h3, h4⟩ := hs.2 p (List.mem_of_mem_take hp)
    exact ⟨h1, h2, h3, h4.frame st (by simpa using h2)⟩

theorem Rd.cap {w : World} {o : Owner} {i size : Nat} {v : Value} {n : Nat} {xs : List Value} (h : Rd w o i size v n xs) (j : Nat) : Rd w (o.cap w.heap.size j) i size v n xs := by
  obtain ⟨ao, cap, hv, h1, h2, h3, h4⟩ := h
  refine ⟨ao, cap, hv, h1, h2, h3, fun hn => ?_⟩
  obtain ⟨b, off, ha, hb, hob, hc⟩ := h4 hn
  exact ⟨b, off, ha, hb, (Owner.cap_lo o j hb).trans hob, hc⟩

/-- Where the uppermost frame of kind 5 stands. -/
def C5 (kf : Nat → Int) (n t : Nat) : Prop := t < n ∧ kf t = 5 ∧ ∀ u, u < n → t < u → ¬ kf u = 5
theorem C5.eq {kf : Nat → Int} {n t s : Nat} (h : C5 kf n t) (g : C5 kf n s) : t = s := by
  rcases Nat.lt_trichotomy t s with h1 | h1 | h1
  · exact absurd g.2.1 (h.2.2 s g.1 h1)
  · exact h1
  · exact absurd h.2.1 (g.2.2 t h.1 h1)
theorem c5_cases (kf : Nat → Int) : ∀ n, (∃ t, C5 kf n t) ∨ ∀ u, u < n → ¬ kf u = 5
  | 0 => .inr (fun u h => by omega)
  | n + 1 => by
    by_cases h5 : kf n = 5
    · exact .inl ⟨n, by omega, h5, fun u h1 h2 => by omega⟩
    · rcases c5_cases kf n with ⟨t, h1, h2, h3⟩ | h
      · refine .inl ⟨t, by omega, h2, fun u hu htu => ?_⟩
        rcases Nat.lt_or_ge u n with h4 | h4
        · exact h3 u h4 htu
        · rw [show u = n by omega]; exact h5
      · refine .inr (fun u hu => ?_)
        rcases Nat.lt_or_ge u n with h4 | h4
        · exact h u h4
        · rw [show u = n by omega]; exact h5

abbrev kfa (s : List Fa) (x : Nat) : Int := (s[x]?.getD Z0).1
theorem kfa_ab (fl : List (Fr × List Int × Nat)) (x : Nat) (h : x < fl.length) : kfa (fl.map ab) x = fl[x].1.k := by simp [kfa, h, ab]

theorem pcatch_none {w : World} {o : Owner} {b : Nat} {fl : List (Fr × List Int × Nat)} (hs : LT w o 10 b fl) (hall : ∀ u, u < fl.length → ¬ kfa (fl.map ab) u = 5) :
    Calls Try.prog 21 #[.pointer (some ⟨b, 0, none⟩)] w fun e w' => ∃ o', e = .returned (.tuple #[Z6, .bool false]) ∧ Step [] w o w' o' := by
  by_cases hz : fl.length = 0
  · obtain rfl := List.eq_nil_of_length_eq_zero hz
    refine (catch_nil hs.1).mono ?_
    rintro e w' ⟨rfl, s⟩
    exact ⟨o, rfl, s⟩
  · obtain ⟨h0, v, hb, hr⟩ := hs.1.cap (10 + 2)
    have hlen : (fl.map Prod.fst).length = fl.length := by simp
    obtain ⟨g, cap, rfl, hx⟩ := hr.rowx (by omega)
    refine (catch_raw_t (j := 40) (fun u => (fl.getD u (⟨0, 0, 0, 0, 0, .slice none 0 0⟩, [], 0)).2.1) (fun u => (fl.getD u (⟨0, 0, 0, 0, 0, .slice none 0 0⟩, [], 0)).2.2) (fun q hq => Owner.cap_hi o _ hq) (by omega) h0 (fun u hu => ?_) hb hx (by decide)).mono ?_
    · have hu' : u < fl.length := by simpa using hu
      obtain ⟨r1, r2, r3, r4⟩ := hs.2 fl[u] (List.getElem_mem hu')
      have e : fl.getD u (⟨0, 0, 0, 0, 0, .slice none 0 0⟩, [], 0) = fl[u] := by simp [List.getD, hu']
      simp only [e, List.getElem_map]
      exact ⟨r1, r2, r4.rd.cap _⟩
    · rintro e w' (⟨t, ht, h5, -⟩ | ⟨-, rfl, s⟩)
      · exfalso
        have ht' : t < fl.length := by simpa using ht
        refine hall t ht' ?_
        rw [kfa_ab fl t ht']
        simpa using h5
      · exact ⟨_, rfl, s.uncap⟩

theorem pcatch_some {w : World} {o : Owner} {b : Nat} {fl : List (Fr × List Int × Nat)} (hs : LT w o 10 b fl) {t : Nat} (h5 : C5 (kfa (fl.map ab)) fl.length t) :
    Calls Try.prog 21 #[.pointer (some ⟨b, 0, none⟩)] w fun e w' => ∃ lv' o', e = .returned (.tuple #[((fl.map ab)[t]?.getD Z0).val lv', .bool true]) ∧ Rd w' o' 40 1 lv' ((fl.map ab)[t]?.getD Z0).l.length (cellsOf ((fl.map ab)[t]?.getD Z0).l) ∧ ((fl.map ab)[t]?.getD Z0).l.length ≤ 1000000 ∧ LT w' o' 10 b (fl.take t) ∧ Step [10] w o w' o' := by
  have htl := h5.1
  have het : (fl.map ab)[t]?.getD Z0 = ab fl[t] := by simp [htl]
  obtain ⟨h0, v, hb, hr⟩ := hs.1.cap (10 + 2)
  have hlen : (fl.map Prod.fst).length = fl.length := by simp
  obtain ⟨g, cap, rfl, hx⟩ := hr.rowx (by omega)
  have eD : ∀ u (hu : u < fl.length), fl.getD u (⟨0, 0, 0, 0, 0, .slice none 0 0⟩, [], 0) = fl[u] := fun u hu => by simp [List.getD, hu]
  refine (catch_raw_t (j := 40) (fun u => (fl.getD u (⟨0, 0, 0, 0, 0, .slice none 0 0⟩, [], 0)).2.1) (fun u => (fl.getD u (⟨0, 0, 0, 0, 0, .slice none 0 0⟩, [], 0)).2.2) (fun q hq => Owner.cap_hi o _ hq) (by omega) h0 (fun u hu => ?_) hb hx (by decide)).mono ?_
  · have hu' : u < fl.length := by simpa using hu
    obtain ⟨r1, r2, r3, r4⟩ := hs.2 fl[u] (List.getElem_mem hu')
    simp only [eD u hu', List.getElem_map]
    exact ⟨r1, r2, r4.rd.cap _⟩
  · rintro e w' (⟨s, hsl, h5s, hup, O', lv', rfl, hrow, hF, st⟩ | ⟨hno, -, -⟩)
    · have hsl' : s < fl.length := by simpa using hsl
      have hC : C5 (kfa (fl.map ab)) fl.length s := ⟨hsl', by rw [kfa_ab fl s hsl']; simpa using h5s, fun u hu hlt => by have := hup u (by simpa using hu) hlt; rw [List.getElem_map] at this; rw [kfa_ab fl u hu]; exact this⟩
      obtain rfl := hC.eq h5
      rw [het]
      simp only [eD s hsl'] at hrow
      have st2 := st.uncap
      refine ⟨lv', O', by simp [Fa.val, ab], hrow.rd, (hs.2 fl[s] (List.getElem_mem hsl')).1, ⟨by rw [List.map_take]; exact hF, fun p hp => ?_⟩, st2⟩
      obtain ⟨r1, r2, r3, r4⟩ := hs.2 p (List.mem_of_mem_take hp)
      exact ⟨r1, r2, r3, r4.frame st2 (by simpa using r2)⟩
    · exfalso
      refine hno t (by simpa using htl) ?_
      have := h5.2.1
      rw [kfa_ab fl t htl] at this
      simpa using this

theorem rcatch_none {w : World} {o : Owner} {b : Nat} {fl : List (Fr × List Int × Nat)} (hs : RT w o 30 b fl) (hall : ∀ u, u < fl.length → ¬ kfa (fl.map ab) u = 5) :
    Calls Try.prog 38 #[.pointer (some ⟨b, 0, none⟩)] w fun e w' => ∃ o', e = .returned (.tuple #[Z6, .bool false]) ∧ Step [] w o w' o' := by
  refine (rcatch_ok hs (by decide) (fun p hp => (hs.2.2 p hp).2.1)).mono ?_
  rintro e w' (⟨p, hp, h5, -⟩ | ⟨-, o', rfl, s⟩)
  · exact absurd (by rw [kfa_ab fl p hp]; exact h5) (hall p hp)
  · exact ⟨o', rfl, s⟩

theorem rcatch_some {w : World} {o : Owner} {b : Nat} {fl : List (Fr × List Int × Nat)} (hs : RT w o 30 b fl) {t : Nat} (h5 : C5 (kfa (fl.map ab)) fl.length t) :
    Calls Try.prog 38 #[.pointer (some ⟨b, 0, none⟩)] w fun e w' => ∃ lv' o' k, e = .returned (.tuple #[((fl.map ab)[t]?.getD Z0).val lv', .bool true]) ∧ Rd w' o' k 1 lv' ((fl.map ab)[t]?.getD Z0).l.length (cellsOf ((fl.map ab)[t]?.getD Z0).l) ∧ RT w' o' 30 b (fl.take t) ∧ Step [30] w o w' o' := by
  have htl := h5.1
  have het : (fl.map ab)[t]?.getD Z0 = ab fl[t] := by simp [htl]
  refine (rcatch_ok hs (by decide) (fun p hp => (hs.2.2 p hp).2.1)).mono ?_
  rintro e w' (⟨s, hsl, h5s, hup, o', rfl, hR, hrow, st⟩ | ⟨hno, -⟩)
  · have hC : C5 (kfa (fl.map ab)) fl.length s := ⟨hsl, by rw [kfa_ab fl s hsl]; exact h5s, fun u hu hlt => by rw [kfa_ab fl u hu]; exact hup u hu hlt⟩
    obtain rfl := hC.eq h5
    rw [het]
    exact ⟨_, o', _, rfl, hrow.rd, hR, st⟩
  · exfalso
    refine hno t htl ?_
    have := h5.2.1
    rwa [kfa_ab fl t htl] at this
end Go.Proofs.Ytegcpjheglcbcaa
