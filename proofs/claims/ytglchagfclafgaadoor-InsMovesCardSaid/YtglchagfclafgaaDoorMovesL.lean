/- A definition behind jumps, with its places so much farther: plain laws. -/
import Derived.Test.YtglchagfclafgaaDoorInsH
namespace Go.Proofs.YtglchagfclafgaaDoor
open Go Go.RowKit
set_option linter.unusedSimpArgs false
set_option linter.unusedVariables false

/-- An instruction with its place so much farther. -/
def shI (n : Int) (x : In) : In := if goesA x.op then ⟨x.op, wrap64 (x.a + n), x.w⟩ else x
/-- Jumps, each to the next one. -/
def jumps (n : Nat) : List In := (List.range n).map fun (i : Nat) => ⟨3, (i : Int) + 1, 0⟩
def moved (n : Nat) (l : List In) : List In := jumps n ++ l.map (shI n)
theorem jumps_len (n : Nat) : (jumps n).length = n := by simp [jumps]
theorem jumps_succ (n : Nat) : jumps (n + 1) = jumps n ++ [⟨3, (n : Int) + 1, 0⟩] := by simp [jumps, List.range_succ]
theorem moved_len (n : Nat) (l : List In) : (moved n l).length = n + l.length := by simp [moved, jumps_len]
theorem moved_zero {l : List In} (h : ∀ x ∈ l, x.ok) : moved 0 l = l := by
  have e : l.map (shI ((0 : Nat) : Int)) = l := by
    have h2 : l.map (shI ((0 : Nat) : Int)) = l.map id := List.map_congr_left fun x hx => by
      have hx := h x hx
      unfold shI
      split
      · have : wrap64 (x.a + ((0 : Nat) : Int)) = x.a := by obtain ⟨_, ⟨h3, h4⟩, _⟩ := hx; unfold wrap64; omega
        rw [this]
        rfl
      · rfl
    rw [h2, List.map_id]
  unfold moved
  rw [e]
  rfl
theorem moved_jump {n : Nat} {l : List In} {q : Nat} (h : q < n) : (moved n l)[q]? = some ⟨3, (q : Int) + 1, 0⟩ := by
  unfold moved
  rw [List.getElem?_append_left (by rw [jumps_len]; exact h)]
  simp [jumps, h]
theorem moved_at {n : Nat} {l : List In} {q : Nat} (h : n ≤ q) : (moved n l)[q]? = (l[q - n]?).map (shI n) := by
  unfold moved
  rw [List.getElem?_append_right (by rw [jumps_len]; exact h), jumps_len, List.getElem?_map]
theorem shI_op (n : Int) (x : In) : (shI n x).op = x.op := by unfold shI; split <;> rfl
theorem shI_w (n : Int) (x : In) : (shI n x).w = x.w := by unfold shI; split <;> rfl
theorem shI_ok {n : Int} {x : In} (h : x.ok) : (shI n x).ok := by
  unfold shI
  split
  · refine ⟨h.1, ?_, h.2.2⟩
    dsimp only
    unfold wrap64
    omega
  · exact h
theorem shI_steps {n : Nat} {x : In} (ha : 0 ≤ x.a ∧ x.a ≤ 1000) (hn : n ≤ 10) (i m : Int) : stepsA (shI n x) (i + n) m = (stepsA x i m).map fun q => ((q.1 + (n : Int), q.2) : Int × Int) := by
  have hw : wrap64 (x.a + (n : Int)) = x.a + n := by unfold wrap64; omega
  obtain ⟨op, a, w⟩ := x
  dsimp only at hw ha
  have e1 : i + (n : Int) + 1 = i + 1 + n := by omega
  by_cases hg : goesA op
  · have hs : shI n ⟨op, a, w⟩ = ⟨op, a + n, w⟩ := by unfold shI; rw [if_pos hg]; dsimp only; rw [hw]
    rw [hs]
    clear hs hw
    unfold stepsA
    dsimp only
    rcases hg with rfl | rfl | rfl | rfl | rfl | rfl | rfl <;> simp [e1]
  · have hs : shI n ⟨op, a, w⟩ = ⟨op, a, w⟩ := by unfold shI; rw [if_neg hg]
    rw [hs]
    clear hs hw
    unfold stepsA
    dsimp only
    by_cases h15 : op = 15
    · subst h15; simp
    by_cases h5 : op = 5
    · subst h5; simp [e1]
    unfold goesA at hg
    simp only [not_or] at hg
    obtain ⟨n3, n4, n6, n7, n8, n9, n10⟩ := hg
    simp [h15, h5, n3, n4, n6, n7, n8, n9, n10, e1]

theorem stepsA_pl (x : In) (i m : Int) (hi : 0 ≤ i) (ha : 0 ≤ x.a) : ∀ q ∈ stepsA x i m, 0 ≤ q.1 := by
  intro q hq
  unfold stepsA at hq
  repeat' split at hq
  all_goals simp at hq
  all_goals first | (subst hq; dsimp only; omega) | (rcases hq with rfl | rfl <;> dsimp only <;> omega)

section
variable {n : Nat} {l : List In} (hn : n ≤ 10) (ha : ∀ x ∈ l, 0 ≤ x.a ∧ x.a ≤ 1000)
include hn ha
theorem moved_rch {i m : Int} (h : Rch l i m) : Rch (moved n l) (i + n) m := by
  induction h with
  | start =>
    have key : ∀ k : Nat, k ≤ n → Rch (moved n l) k 0 := by
      intro k
      induction k with
      | zero => intro _; exact .start
      | succ k ih =>
        intro hk
        have := Rch.step (ih (by omega)) (moved_jump (l := l) (q := k) (by omega)) (q := ((k : Int) + 1, 0)) (by simp [stepsA])
        simpa using this
    have := key n (Nat.le_refl _)
    simpa using this
  | step hr hx hq ih =>
    rename_i i m x q
    have hxa := ha x (List.mem_of_getElem? hx)
    have h1 : (moved n l)[i + n]? = some (shI n x) := by rw [moved_at (by omega), Nat.add_sub_cancel, hx]; rfl
    have h2 := Rch.step (by rw [Int.natCast_add]; exact ih) h1 (q := (q.1 + n, q.2)) (by rw [Int.natCast_add, shI_steps hxa hn]; exact List.mem_map_of_mem hq)
    exact h2
theorem moved_inv {i m : Int} (h : Rch (moved n l) i m) : (0 ≤ i ∧ i < n ∧ m = 0) ∨ ((n : Int) ≤ i ∧ Rch l (i - n) m) := by
  refine rch_inv (l := moved n l) (fun i m => (0 ≤ i ∧ i < n ∧ m = 0) ∨ ((n : Int) ≤ i ∧ Rch l (i - n) m)) ?_ ?_ h
  · rcases Nat.eq_zero_or_pos n with h0 | h0
    · right
      subst h0
      exact ⟨by omega, .start⟩
    · left; omega
  · rintro i m x hI hx q hq
    rcases hI with ⟨h1, h2, rfl⟩ | ⟨h1, hr⟩
    · rw [moved_jump (by omega)] at hx
      obtain rfl := Option.some.inj hx
      have : q = ((i : Int) + 1, 0) := by simpa [stepsA] using hq
      subst this
      dsimp only
      rcases Nat.lt_or_ge (i + 1) n with h3 | h3
      · left; omega
      · right
        refine ⟨by omega, ?_⟩
        have : (i : Int) + 1 - n = 0 := by omega
        rw [this]
        exact .start
    · rw [moved_at (by omega)] at hx
      obtain ⟨y, hy, rfl⟩ := Option.map_eq_some_iff.1 hx
      have hya := ha y (List.mem_of_getElem? hy)
      have e : (i : Int) = ((i - n : Nat) : Int) + n := by omega
      rw [e, shI_steps hya hn] at hq
      obtain ⟨p, hp, rfl⟩ := List.mem_map.1 hq
      dsimp only
      have hr' : Rch l ((i - n : Nat) : Int) m := by rw [show ((i - n : Nat) : Int) = (i : Int) - n by omega]; exact hr
      have h3 := Rch.step hr' hy hp
      right
      have hp0 : 0 ≤ p.1 := by
        have := stepsA_pl y ((i - n : Nat) : Int) m (by omega) hya.1 p hp
        exact this
      exact ⟨by omega, by rw [show p.1 + (n : Int) - n = p.1 by omega]; exact h3⟩
omit hn in
theorem rch_pos {i m : Int} (h : Rch l i m) : 0 ≤ i := by
  induction h with
  | start => omega
  | step hr hx hq ih => exact stepsA_pl _ _ _ ih (ha _ (List.mem_of_getElem? hx)).1 _ hq
theorem moved_good : Good (moved n l) ↔ Good l := by
  constructor
  · intro g i m h
    obtain ⟨h1, h2, h3, h4⟩ := g _ _ (moved_rch hn ha h)
    rw [moved_len] at h2
    have h0 := rch_pos ha h
    refine ⟨h0, by omega, h3, fun m' h' => h4 m' (moved_rch hn ha h')⟩
  · intro g i m h
    rw [moved_len]
    rcases moved_inv hn ha h with ⟨h1, h2, rfl⟩ | ⟨h1, hr⟩
    · refine ⟨h1, by omega, by omega, fun m' h' => ?_⟩
      rcases moved_inv hn ha h' with ⟨_, _, h5⟩ | ⟨h5, _⟩
      · exact h5
      · omega
    · obtain ⟨g1, g2, g3, g4⟩ := g _ _ hr
      refine ⟨by omega, by omega, g3, fun m' h' => ?_⟩
      rcases moved_inv hn ha h' with ⟨_, h6, _⟩ | ⟨_, h5⟩
      · omega
      · exact g4 m' h5
theorem moved_may {words : Int} (h12 : ∀ x ∈ l, x.op ≠ 12) (hl : l.length ≤ 30) (hne : l ≠ []) : mayP (moved n l) words ↔ mayP l words := by
  have hlen := moved_len n l
  have hpos : 0 < l.length := by cases l with | nil => exact absurd rfl hne | cons a b => simp
  have loc1 : locA l = 0 := by
    cases l with
    | nil => rfl
    | cons a b => exact if_neg (h12 a (by simp))
  have loc2 : locA (moved n l) = 0 := by
    rcases h : moved n l with _ | ⟨a, b⟩
    · rfl
    · have h0 : (moved n l)[0]? = some a := by rw [h]; rfl
      rcases Nat.eq_zero_or_pos n with hz | hz
      · rw [moved_at (by omega)] at h0
        obtain ⟨y, hy, rfl⟩ := Option.map_eq_some_iff.1 h0
        exact if_neg (by rw [shI_op]; exact h12 y (List.mem_of_getElem? hy))
      · rw [moved_jump hz] at h0
        obtain rfl := Option.some.inj h0
        rfl
  have hlast : (moved n l)[(moved n l).length - 1]? = (l[l.length - 1]?).map (shI n) := by
    rw [hlen, moved_at (by omega), show n + l.length - 1 - n = l.length - 1 by omega]
  have hins : ∀ (q : Nat) (y : In) (u u' : Int), y ∈ l → (0 < u ↔ 0 < u') → (insP ((moved n l).length : Int) words 0 u ((q + n : Nat) : Int) (shI n y) ↔ insP (l.length : Int) words 0 u' q y) := by
    intro q y u u' hy hu
    have hya := ha y hy
    have hy12 := h12 y hy
    unfold insP
    rw [shI_op, shI_w, hlen]
    have hq : ((q + n : Nat) : Int) = ((n + l.length : Nat) : Int) - 1 ↔ (q : Int) = (l.length : Int) - 1 := by omega
    have hpl : (lowA (kindA y.op) ≤ (shI n y).a ∧ (shI n y).a ≤ highA ((n + l.length : Nat) : Int) words 0 (kindA y.op)) ↔ (lowA (kindA y.op) ≤ y.a ∧ y.a ≤ highA (l.length : Int) words 0 (kindA y.op)) := by
      by_cases hg : goesA y.op
      · have hk : kindA y.op = 1 := by unfold kindA; rw [if_pos hg]
        have hw : wrap64 (y.a + (n : Int)) = y.a + n := by unfold wrap64; omega
        rw [hk]
        unfold shI
        rw [if_pos hg]
        dsimp only
        rw [hw]
        simp [lowA, highA]
        omega
      · have hk : kindA y.op ≠ 1 := by
          unfold kindA
          rw [if_neg hg]
          repeat' split
          all_goals decide
        unfold shI
        rw [if_neg hg]
        unfold highA
        simp only [hk, if_false]
    rw [hq, hu]
    constructor
    · rintro ⟨i1, i2, i3, i4, i5, i6, i7⟩
      obtain ⟨j4, j5⟩ := hpl.1 ⟨i4, i5⟩
      exact ⟨i1, i2, i3, j4, j5, fun h => hy12 h.1, i7⟩
    · rintro ⟨i1, i2, i3, i4, i5, i6, i7⟩
      obtain ⟨j4, j5⟩ := hpl.2 ⟨i4, i5⟩
      exact ⟨i1, i2, i3, j4, j5, fun h => hy12 h.1, i7⟩
  have hlab : Good l → ∀ q : Nat, q < l.length → (0 < (labs (moved n l))[q + n]?.getD 0 ↔ 0 < (labs l)[q]?.getD 0) := by
    intro g q hq
    have g' := (moved_good hn ha).2 g
    have e1 : (labs l)[q]? = some ((labs l)[q]?.getD 0) := by rw [List.getElem?_eq_getElem (by rw [labs_len]; exact hq)]; rfl
    have e2 : (labs (moved n l))[q + n]? = some ((labs (moved n l))[q + n]?.getD 0) := by rw [List.getElem?_eq_getElem (by rw [labs_len, hlen]; omega)]; rfl
    constructor
    · intro h
      rcases labs_get e2 with ⟨h1, _⟩ | h1
      · omega
      · rcases moved_inv hn ha h1 with ⟨_, h2, _⟩ | ⟨_, h2⟩
        · omega
        · rw [show ((q + n : Nat) : Int) - n = q by omega] at h2
          rw [labs_rch g h2]
          exact h
    · intro h
      rcases labs_get e1 with ⟨h1, _⟩ | h1
      · omega
      · have h2 := moved_rch hn ha h1
        rw [show (q : Int) + n = ((q + n : Nat) : Int) by omega] at h2
        rw [labs_rch g' h2]
        exact h
  unfold mayP
  rw [moved_good hn ha, hlast, loc1, loc2]
  constructor
  · rintro ⟨g, h1, ⟨x, hx, hx2⟩, h3⟩
    obtain ⟨y, hy, rfl⟩ := Option.map_eq_some_iff.1 hx
    refine ⟨g, by omega, ⟨y, hy, by rwa [shI_op] at hx2⟩, fun q y hy => ?_⟩
    have hq := (List.getElem?_eq_some_iff.1 hy).1
    have h4 := h3 (q + n) (shI n y) (by rw [moved_at (by omega), Nat.add_sub_cancel, hy]; rfl)
    exact (hins q y _ _ (List.mem_of_getElem? hy) (hlab g q hq)).1 h4
  · rintro ⟨g, h1, ⟨y, hy, hy2⟩, h3⟩
    refine ⟨g, by omega, ⟨shI n y, by rw [hy]; rfl, by rwa [shI_op]⟩, fun q x hx => ?_⟩
    rcases Nat.lt_or_ge q n with hqn | hqn
    · rw [moved_jump hqn] at hx
      obtain rfl := Option.some.inj hx
      rw [hlen]
      refine ⟨by show (1 : Int) ≤ 3; decide, by show (3 : Int) < 16; decide, .inr rfl, ?_, ?_, fun h => absurd h.1 (by show ¬ (3 : Int) = 12; decide), fun h => absurd h.1 (by show ¬ (3 : Int) = 15; decide)⟩
      · show lowA 1 ≤ (q : Int) + 1
        simp [lowA]
        omega
      · show (q : Int) + 1 ≤ highA _ words 0 1
        simp [highA]
        omega
    · rw [moved_at hqn] at hx
      obtain ⟨y, hy, rfl⟩ := Option.map_eq_some_iff.1 hx
      have hq := (List.getElem?_eq_some_iff.1 hy).1
      have h4 := h3 (q - n) y hy
      have e : q = (q - n) + n := by omega
      rw [e]
      exact (hins (q - n) y _ _ (List.mem_of_getElem? hy) (hlab g (q - n) hq)).2 h4
end
/-- Jumps alone lead out. -/
theorem jumps_not {n : Nat} (hn : 0 < n) {words : Int} : ¬ mayP (jumps n) words := fun h => by
  have h1 := h.2.2.2 (n - 1) ⟨3, ((n - 1 : Nat) : Int) + 1, 0⟩ (by have := moved_jump (n := n) (l := []) (q := n - 1) (by omega); simpa [moved] using this)
  obtain ⟨i1, i2, i3, i4, i5, i6, i7⟩ := h1
  rw [jumps_len] at i5
  have hk : kindA 3 = 1 := by decide
  dsimp only at i5
  rw [hk] at i5
  simp [highA] at i5
  omega
end Go.Proofs.YtglchagfclafgaaDoor
