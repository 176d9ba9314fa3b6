/- How many loops are open ahead of each instruction: what can be reached, and with how many loops open; plain laws. -/
import Derived.Test.YtglchagfclafgaaDoorInsB
namespace Go.Proofs.YtglchagfclafgaaDoor
open Go Go.RowKit
set_option linter.unusedSimpArgs false
set_option linter.unusedVariables false

/-- A place that is reached, with so many loops open. -/
inductive Rch (l : List In) : Int → Int → Prop
  | start : Rch l 0 0
  | step {i : Nat} {m : Int} {x : In} {q : Int × Int} : Rch l i m → l[i]? = some x → q ∈ stepsA x i m → Rch l q.1 q.2

/-- Each place that is reached is one that is there, and so many loops are open there, always. -/
def Good (l : List In) : Prop := ∀ i m, Rch l i m → 0 ≤ i ∧ i < l.length ∧ 0 ≤ m ∧ ∀ m', Rch l i m' → m' = m

open Classical in
noncomputable def labA (l : List In) (i : Nat) : Int := if h : ∃ m, Rch l i m then Classical.choose h else -1
noncomputable def labs (l : List In) : List Int := (List.range l.length).map (labA l)
theorem labs_len (l : List In) : (labs l).length = l.length := by simp [labs]

theorem bad_out {l : List In} {i m : Int} (h : Rch l i m) (hb : i < 0 ∨ l.length ≤ i ∨ m < 0) : ¬ Good l := fun g => by
  have := g i m h
  omega
theorem bad_two {l : List In} {i m m' : Int} (h : Rch l i m) (h' : Rch l i m') (hne : m ≠ m') : ¬ Good l := fun g => hne ((g i m' h').2.2.2 m h)

/-- A whole labelling is the one. -/
theorem labs_unique {l : List In} {L : List Int} (hlen : L.length = l.length) (hlab : ∀ (i : Nat) (m : Int), L[i]? = some m → 0 ≤ m → Rch l i m) (hlo : ∀ (i : Nat) (m : Int), L[i]? = some m → -1 ≤ m)
    (h0 : L[0]? = some 0) (hcl : ∀ (i : Nat) (m : Int) (x : In), L[i]? = some m → 0 ≤ m → l[i]? = some x → ∀ q ∈ stepsA x i m, 0 ≤ q.1 ∧ L[q.1.toNat]? = some q.2 ∧ 0 ≤ q.2) : Good l ∧ L = labs l := by
  have key : ∀ i m, Rch l i m → 0 ≤ i ∧ L[i.toNat]? = some m ∧ 0 ≤ m := by
    intro i m h
    induction h with
    | start => exact ⟨by omega, h0, by omega⟩
    | step hr hx hq ih =>
      rename_i i m x q
      obtain ⟨_, h1, h2⟩ := ih
      rw [Int.toNat_natCast] at h1
      exact hcl i m x h1 h2 hx q hq
  have good : Good l := fun i m h => by
    obtain ⟨h1, h2, h3⟩ := key i m h
    have := (List.getElem?_eq_some_iff.1 h2).1
    refine ⟨h1, by omega, h3, fun m' h' => ?_⟩
    have := (key i m' h').2.1
    rw [h2] at this
    exact (Option.some.inj this).symm
  refine ⟨good, ?_⟩
  apply List.ext_getElem (by rw [hlen, labs_len])
  intro i h1 h2
  simp only [labs, List.getElem_map, List.getElem_range]
  unfold labA
  split
  · next h =>
    have hc := Classical.choose_spec h
    have := (key _ _ hc).2.1
    rw [Int.toNat_natCast, List.getElem?_eq_getElem h1] at this
    exact Option.some.inj this
  · next h =>
    have hlo' := hlo i _ (List.getElem?_eq_getElem h1)
    rcases Int.lt_or_le L[i] 0 with hneg | hpos
    · omega
    · exact absurd ⟨_, hlab i _ (List.getElem?_eq_getElem h1) hpos⟩ h

/-- How many have a label. -/
def cnt (L : List Int) : Nat := (L.filter fun m => decide (0 ≤ m)).length
theorem cnt_le (L : List Int) : cnt L ≤ L.length := List.length_filter_le _ _
theorem cnt_set : ∀ {L : List Int} {i : Nat} {u m : Int}, L[i]? = some u → u < 0 → 0 ≤ m → cnt (L.set i m) = cnt L + 1
  | [], i, u, m, h, _, _ => by simp at h
  | v :: L, 0, u, m, h, hu, hm => by
    simp at h
    subst h
    simp [cnt, hm, show ¬ 0 ≤ v by omega]
  | v :: L, i + 1, u, m, h, hu, hm => by
    have ih := cnt_set (L := L) (i := i) (u := u) (m := m) (by simpa using h) hu hm
    unfold cnt at *
    rw [List.set_cons_succ, List.filter_cons, List.filter_cons]
    split
    · simp only [List.length_cons, ih]
    · exact ih

/-- What stands while the work goes on: the labels, and what is to do. -/
structure WI (l : List In) (L : List Int) (T : List (Int × Int)) : Prop where
  len : L.length = l.length
  lab : ∀ (i : Nat) (m : Int), L[i]? = some m → 0 ≤ m → Rch l i m
  lo : ∀ (i : Nat) (m : Int), L[i]? = some m → -1 ≤ m
  todo : ∀ p ∈ T, Rch l p.1 p.2
  start : L[0]? = some 0 ∨ ((0, 0) : Int × Int) ∈ T
  cl : ∀ (i : Nat) (m : Int) (x : In), L[i]? = some m → 0 ≤ m → l[i]? = some x → ∀ q ∈ stepsA x i m, q ∈ T ∨ (0 ≤ q.1 ∧ L[q.1.toNat]? = some q.2 ∧ 0 ≤ q.2)
  bd : ∀ p ∈ T, -1 ≤ p.2 ∧ p.2 ≤ cnt L

theorem WI.begin (l : List In) : WI l (List.replicate l.length (-1)) [(0, 0)] :=
  ⟨by simp, fun i m h hm => by
    have := List.mem_of_getElem? h
    simp at this
    omega, fun i m h => by
    have := List.mem_of_getElem? h
    simp at this
    omega, fun p hp => by simp at hp; subst hp; exact .start, .inr (by simp), fun i m x h hm => by
    have := List.mem_of_getElem? h
    simp at this
    omega, fun p hp => by simp at hp; subst hp; simp⟩

theorem WI.end {l : List In} {L : List Int} (h : WI l L []) : Good l ∧ L = labs l :=
  labs_unique h.len h.lab h.lo (by rcases h.start with h | h; exact h; simp at h) (fun i m x h1 h2 h3 q hq => by
    rcases h.cl i m x h1 h2 h3 q hq with h | h
    · simp at h
    · exact h)

theorem WI.bad {l : List In} {L : List Int} {T : List (Int × Int)} {p : Int × Int} (h : WI l L (T ++ [p])) (hb : p.1 < 0 ∨ l.length ≤ p.1 ∨ p.2 < 0) : ¬ Good l := bad_out (h.todo p (by simp)) hb

theorem WI.clash {l : List In} {L : List Int} {T : List (Int × Int)} {i : Nat} {m u : Int} (h : WI l L (T ++ [((i : Int), m)])) (hu : L[i]? = some u) (h0 : 0 ≤ u) (hne : u ≠ m) : ¬ Good l :=
  bad_two (h.lab i u hu h0) (h.todo ((i : Int), m) (by simp)) hne

theorem WI.again {l : List In} {L : List Int} {T : List (Int × Int)} {i : Nat} {m : Int} (h : WI l L (T ++ [((i : Int), m)])) (hu : L[i]? = some m) (h0 : 0 ≤ m) : WI l L T where
  len := h.len
  lab := h.lab
  lo := h.lo
  todo := fun p hp => h.todo p (by simp [hp])
  start := by
    rcases h.start with h1 | h1
    · exact .inl h1
    · rcases List.mem_append.1 h1 with h1 | h1
      · exact .inr h1
      · simp at h1
        obtain ⟨h1, rfl⟩ := h1
        have : i = 0 := by omega
        subst this
        exact .inl hu
  cl := fun i' m' x' h1 h2 h3 q hq => by
    rcases h.cl i' m' x' h1 h2 h3 q hq with h4 | h4
    · rcases List.mem_append.1 h4 with h4 | h4
      · exact .inl h4
      · rw [List.mem_singleton] at h4
        subst h4
        exact .inr ⟨by show (0 : Int) ≤ (i : Int); omega, by rw [Int.toNat_natCast]; exact hu, h0⟩
    · exact .inr h4
  bd := fun p hp => h.bd p (by simp [hp])

theorem stepsA_bd (x : In) (i m : Int) : ∀ q ∈ stepsA x i m, m - 1 ≤ q.2 ∧ q.2 ≤ m + 1 := by
  intro q hq
  unfold stepsA at hq
  split at hq
  · simp at hq
  all_goals (try split at hq)
  all_goals (try split at hq)
  all_goals (try split at hq)
  all_goals (try split at hq)
  all_goals (try split at hq)
  all_goals (try split at hq)
  all_goals simp at hq
  all_goals first | (subst hq; simp) | (rcases hq with rfl | rfl <;> simp)
  all_goals omega
theorem stepsA_len (x : In) (i m : Int) : (stepsA x i m).length ≤ 2 := by
  unfold stepsA
  repeat' split
  all_goals simp

theorem WI.more {l : List In} {L : List Int} {T : List (Int × Int)} {i : Nat} {m u : Int} {x : In} (h : WI l L (T ++ [((i : Int), m)])) (hx : l[i]? = some x) (hu : L[i]? = some u) (h0 : 0 ≤ m) (hneg : u < 0) : WI l (L.set i m) (T ++ stepsA x i m) := by
  have hr : Rch l i m := h.todo ((i : Int), m) (by simp)
  have hil : i < L.length := (List.getElem?_eq_some_iff.1 hu).1
  have hget : ∀ {k : Nat} {v : Int}, (L.set i m)[k]? = some v → (k = i ∧ v = m) ∨ (k ≠ i ∧ L[k]? = some v) := fun {k v} hk => by
    rw [List.getElem?_set] at hk
    split at hk
    · next e =>
      subst e
      simp [hil] at hk
      exact .inl ⟨rfl, hk.symm⟩
    · next e => exact .inr ⟨fun e' => e e'.symm, hk⟩
  have hkeep : ∀ {k : Nat} {v : Int}, L[k]? = some v → 0 ≤ v → (L.set i m)[k]? = some v := fun {k v} hk hv => by
    rw [List.getElem?_set]
    split
    · next e => subst e; rw [hu] at hk; have := Option.some.inj hk; omega
    · exact hk
  have hself : (L.set i m)[i]? = some m := by simp [hil]
  have hcnt := cnt_set hu hneg h0
  refine ⟨by simpa using h.len, fun k v hk hv => ?_, fun k v hk => ?_, fun p hp => ?_, ?_, fun k v y hk hv hy q hq => ?_, fun p hp => ?_⟩
  · rcases hget hk with ⟨rfl, rfl⟩ | ⟨_, hk⟩
    · exact hr
    · exact h.lab k v hk hv
  · rcases hget hk with ⟨rfl, rfl⟩ | ⟨_, hk⟩
    · omega
    · exact h.lo k v hk
  · rcases List.mem_append.1 hp with hp | hp
    · exact h.todo p (by simp [hp])
    · exact .step hr hx hp
  · rcases h.start with h1 | h1
    · exact .inl (hkeep h1 (by omega))
    · rcases List.mem_append.1 h1 with h1 | h1
      · exact .inr (by simp [h1])
      · simp at h1
        obtain ⟨h1, rfl⟩ := h1
        have : i = 0 := by omega
        subst this
        exact .inl hself
  · rcases hget hk with ⟨rfl, rfl⟩ | ⟨_, hk⟩
    · rw [hx] at hy
      obtain rfl := Option.some.inj hy
      exact .inl (by simp [hq])
    · rcases h.cl k v y hk hv hy q hq with h4 | ⟨h4, h5, h6⟩
      · rcases List.mem_append.1 h4 with h4 | h4
        · exact .inl (by simp [h4])
        · rw [List.mem_singleton] at h4
          subst h4
          exact .inr ⟨by show (0 : Int) ≤ (i : Int); omega, by rw [Int.toNat_natCast]; exact hself, h0⟩
      · exact .inr ⟨h4, hkeep h5 h6, h6⟩
  · rw [hcnt]
    rcases List.mem_append.1 hp with hp | hp
    · have := h.bd p (by simp [hp]); omega
    · have h1 := stepsA_bd x i m p hp
      have h2 := h.bd ((i : Int), m) (by simp)
      dsimp only at h2
      omega
end Go.Proofs.YtglchagfclafgaaDoor
