/- Both kinds of frames stand alike. -/
import Derived.Test.YtegcpjheglcbcaaDoA14
namespace Go.Proofs.Ytegcpjheglcbcaa
open Go Go.RowKit Go.Shelf
set_option linter.unusedSimpArgs false
set_option linter.unusedVariables false

/-- Both kinds of frames, alike; the locals of the program's have owners from 1000 on, each its own; the document's from 5000 on. -/
structure Both (w : World) (o : Owner) (b c N : Nat) (fl fr : List (Fr × List Int × Nat)) : Prop where
  p : LT w o 10 b fl
  r : RT w o 30 c fr
  e : fl.map ab = fr.map ab
  po : ∀ p ∈ fl, 1000 ≤ p.2.2 ∧ p.2.2 < 1000 + N
  pn : (fl.map fun p => p.2.2).Nodup
  ro : ∀ p ∈ fr, 5000 ≤ p.2.2 ∧ p.2.2 < 5000 + N
  small : N ≤ 1000

theorem Both.frame {S : List Nat} {w w' : World} {o o' : Owner} {b c N : Nat} {fl fr : List (Fr × List Int × Nat)} (h : Both w o b c N fl fr) (st : Step S w o w' o') (hS : ∀ x ∈ S, 34 ≤ x ∧ x < 1000) : Both w' o' b c N fl fr :=
  ⟨h.p.frame st (fun hx => by have := hS _ hx; omega) (fun hx => by have := hS _ hx; omega) (fun p hp hx => by have := hS _ hx; have := h.po p hp; omega),
   h.r.frame st (fun hx => by have := hS _ hx; omega) (fun hx => by have := hS _ hx; omega) (fun p hp hx => by have := hS _ hx; have := h.ro p hp; omega), h.e, h.po, h.pn, h.ro, h.small⟩

theorem Both.len {w : World} {o : Owner} {b c N : Nat} {fl fr : List (Fr × List Int × Nat)} (h : Both w o b c N fl fr) : fl.length = fr.length := by
  have := congrArg List.length h.e
  simpa using this

/-- The document's side, over a step of the program's. -/
theorem Both.rOver {w w' : World} {o o' : Owner} {b c N : Nat} {fl fr : List (Fr × List Int × Nat)} {S : List Nat} (h : Both w o b c N fl fr) (st : Step S w o w' o') (hS : ∀ x ∈ S, x = 10 ∨ x = 11 ∨ (34 ≤ x ∧ x < 5000)) : RT w' o' 30 c fr :=
  h.r.frame st (fun hx => by have := hS _ hx; omega) (fun hx => by have := hS _ hx; omega) (fun p hp hx => by have := hS _ hx; have := h.ro p hp; omega)
/-- The program's side, over a step of the document's. -/
theorem LT.pOver {w w' : World} {o o' : Owner} {b N : Nat} {fl : List (Fr × List Int × Nat)} {S : List Nat} (h : LT w o 10 b fl) (hpo : ∀ p ∈ fl, 1000 ≤ p.2.2 ∧ p.2.2 < 1000 + N) (hN : N ≤ 1000) (st : Step S w o w' o') (hS : ∀ x ∈ S, x = 30 ∨ x = 31 ∨ (34 ≤ x ∧ x < 1000) ∨ 5000 ≤ x) : LT w' o' 10 b fl :=
  h.frame st (fun hx => by have := hS _ hx; omega) (fun hx => by have := hS _ hx; omega) (fun p hp hx => by have := hS _ hx; have := hpo p hp; omega)

theorem Both.take {w w' : World} {o o' : Owner} {b c N m m' : Nat} {fl fr : List (Fr × List Int × Nat)} (h : Both w o b c N fl fr) (hp : LT w' o' 10 b (fl.take m)) (hr : RT w' o' 30 c (fr.take m')) (he : (fl.take m).map ab = (fr.take m').map ab) : Both w' o' b c (N + 1) (fl.take m) (fr.take m') ∨ 1000 < N + 1 := by
  by_cases hN : N + 1 ≤ 1000
  · exact .inl ⟨hp, hr, he, fun p hp => by have := h.po p (List.mem_of_mem_take hp); omega, List.Sublist.nodup ((List.take_sublist m fl).map _) h.pn, fun p hp => by have := h.ro p (List.mem_of_mem_take hp); omega, hN⟩
  · exact .inr (by omega)

theorem Both.more {w : World} {o : Owner} {b c N : Nat} {fl fr : List (Fr × List Int × Nat)} (h : Both w o b c N fl fr) (hN : N + 1 ≤ 1000) : Both w o b c (N + 1) fl fr :=
  ⟨h.p, h.r, h.e, fun p hp => by have := h.po p hp; omega, h.pn, fun p hp => by have := h.ro p hp; omega, hN⟩

theorem Both.cut {w w' : World} {o o' : Owner} {b c N m m' : Nat} {fl fr : List (Fr × List Int × Nat)} (h : Both w o b c N fl fr) (hN : N + 1 ≤ 1000) (hp : LT w' o' 10 b (fl.take m)) (hr : RT w' o' 30 c (fr.take m')) (he : (fl.take m).map ab = (fr.take m').map ab) : Both w' o' b c (N + 1) (fl.take m) (fr.take m') := by
  rcases h.take hp hr he with h | h
  · exact h
  · omega

theorem Both.same {w w' : World} {o o' : Owner} {b c N : Nat} {fl fr : List (Fr × List Int × Nat)} (h : Both w o b c N fl fr) (hN : N + 1 ≤ 1000) (hp : LT w' o' 10 b fl) (hr : RT w' o' 30 c fr) : Both w' o' b c (N + 1) fl fr :=
  ⟨hp, hr, h.e, fun p hp => by have := h.po p hp; omega, h.pn, fun p hp => by have := h.ro p hp; omega, hN⟩

theorem map_app {α β : Type} {f : α → β} {l : List α} {a b : List β} (h : l.map f = a ++ b) : ∃ x y, l = x ++ y ∧ x.map f = a ∧ y.map f = b := List.map_eq_append_iff.1 h
theorem both_mid {fl fr lo hi : List (Fr × List Int × Nat)} {t : Fr × List Int × Nat} (he : fl.map ab = fr.map ab) (hfl : fl = lo ++ t :: hi) : ∃ lo' t' hi', fr = lo' ++ t' :: hi' ∧ ab t' = ab t ∧ lo'.map ab = lo.map ab ∧ hi'.map ab = hi.map ab := by
  rw [hfl, List.map_append, List.map_cons] at he
  obtain ⟨x, y, rfl, h1, h2⟩ := List.map_eq_append_iff.1 he.symm
  obtain ⟨t', hi', rfl, h3, h4⟩ := List.map_eq_cons_iff.1 h2
  exact ⟨x, t', hi', rfl, h3, h1, h4⟩
theorem both_last {fl fr fl0 : List (Fr × List Int × Nat)} {k a c x y : Int} {lv : Value} {l : List Int} {t : Nat} (he : fl.map ab = fr.map ab) (hfl : fl = fl0 ++ [((⟨k, a, c, x, y, lv⟩ : Fr), l, t)]) : ∃ fr0 lv' t', fr = fr0 ++ [((⟨k, a, c, x, y, lv'⟩ : Fr), l, t')] ∧ fl0.map ab = fr0.map ab := by
  obtain ⟨lo', ⟨⟨k', a', c', x', y', lv'⟩, l', t'⟩, hi', h1, h2, h3, h4⟩ := both_mid (lo := fl0) (hi := []) he hfl
  obtain rfl : hi' = [] := by simpa using h4
  simp only [ab, Prod.mk.injEq] at h2
  obtain ⟨rfl, rfl, rfl, rfl, rfl, rfl⟩ := h2
  exact ⟨lo', lv', t', h1, h3.symm⟩

/-- The uppermost frame of kind 4 or 1. -/
theorem lastL : ∀ fl : List (Fr × List Int × Nat), (∀ p ∈ fl, ¬ isL p.1.k) ∨ ∃ lo t hi, fl = lo ++ t :: hi ∧ isL t.1.k ∧ ∀ p ∈ hi, ¬ isL p.1.k
  | [] => .inl (by simp)
  | f :: r => by
    rcases lastL r with h | ⟨lo, t, hi, rfl, h1, h2⟩
    · by_cases hf : isL f.1.k
      · exact .inr ⟨[], f, r, rfl, hf, h⟩
      · exact .inl (by simpa [hf] using h)
    · exact .inr ⟨f :: lo, t, hi, rfl, h1, h2⟩

theorem noL {hi hi' : List (Fr × List Int × Nat)} (h : hi'.map ab = hi.map ab) (hh : ∀ p ∈ hi, ¬ isL p.1.k) : ∀ p ∈ hi', ¬ isL p.1.k := by
  intro p hp
  have : ab p ∈ hi.map ab := by rw [← h]; exact List.mem_map_of_mem hp
  obtain ⟨q, hq, e⟩ := List.mem_map.1 this
  have e1 : q.1.k = p.1.k := congrArg (fun f : Fa => f.1) e
  rw [← e1]
  exact hh q hq

theorem kfs_kfa (fl : List (Fr × List Int × Nat)) : kfs (fl.map Prod.fst) = kfa (fl.map ab) := by
  funext x
  by_cases h : x < fl.length
  · simp [kfs, kfa, h, ab]
  · simp [kfs, kfa, h, Fr.zero, Z0]
theorem xfs_eq {fl fr : List (Fr × List Int × Nat)} (he : fl.map ab = fr.map ab) : xfs (fl.map Prod.fst) = xfs (fr.map Prod.fst) := by
  have key : ∀ l : List (Fr × List Int × Nat), xfs (l.map Prod.fst) = fun x => ((l.map ab)[x]?.getD Z0).2.2.2.1 := fun l => by
    funext x
    by_cases h : x < l.length
    · simp [xfs, h, ab]
    · simp [xfs, h, Fr.zero, Z0]
  rw [key, key, he]

theorem rstep_on {w : World} {o : Owner} {i b : Nat} {fl : List (Fr × List Int × Nat)} {a c x y : Int} {lv : Value} {l : List Int} {t : Nat} (hs : RT w o i b (fl ++ [(⟨3, a, c, x, y, lv⟩, l, t)])) (hi : i ≠ 77 ∧ i + 1 ≠ 77) (j : Nat) (hj : j ≠ i ∧ j ≠ i + 1 ∧ j ≠ 77) (by_ : Int) (hend : endF x y by_ = false) :
    Calls Try.prog 35 #[.pointer (some ⟨b, 0, none⟩), .int .i64 by_] w fun e w' => ∃ o' lv', e = .returned (.tuple #[.bool false, .int .i64 0]) ∧ RT w' o' i b (fl ++ [(⟨3, a, c, wrap64 (x + by_), y, lv'⟩, l, j)]) ∧ Step [i, i + 1] w o w' o' :=
  rstep_put hs hi j hj by_ _ _ _ rfl rfl rfl _ _ _ (stepT _ _ _) hend
end Go.Proofs.Ytegcpjheglcbcaa
