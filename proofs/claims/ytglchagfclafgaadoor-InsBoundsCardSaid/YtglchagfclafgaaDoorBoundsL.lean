/- One instruction that is none spoils a definition: plain laws. -/
import Derived.Test.YtglchagfclafgaaDoorInsK
namespace Go.Proofs.YtglchagfclafgaaDoor
open Go Go.RowKit
set_option linter.unusedSimpArgs false
set_option linter.unusedVariables false

/-- The five that come in turn. -/
def fiveI (i : Nat) : In := if i % 5 = 0 then ⟨1, 0, -3⟩ else if i % 5 = 1 then ⟨2, 4, 0⟩ else if i % 5 = 2 then ⟨13, 1, 0⟩ else if i % 5 = 3 then ⟨14, 0, 0⟩ else ⟨11, 0, 0⟩
/-- So many of them behind the locals. -/
def headI (k : Nat) : List In := ⟨12, 2, 0⟩ :: (List.range k).map fiveI
def wellI (k : Nat) : List In := headI k ++ [⟨15, 0, 0⟩]
theorem headI_len (k : Nat) : (headI k).length = k + 1 := by simp [headI]
theorem wellI_len (k : Nat) : (wellI k).length = k + 2 := by simp [wellI, headI_len]
theorem headI_succ (k : Nat) : headI (k + 1) = headI k ++ [fiveI k] := by simp [headI, List.range_succ]
theorem wellI_at {k q : Nat} {x : In} (h : (wellI k)[q]? = some x) : (q = 0 ∧ x = ⟨12, 2, 0⟩) ∨ (1 ≤ q ∧ q ≤ k ∧ x = fiveI (q - 1)) ∨ (q = k + 1 ∧ x = ⟨15, 0, 0⟩) := by
  have hq := (List.getElem?_eq_some_iff.1 h).1
  rw [wellI_len] at hq
  unfold wellI at h
  rcases Nat.lt_or_ge q (k + 1) with h1 | h1
  · rw [List.getElem?_append_left (by rw [headI_len]; exact h1)] at h
    unfold headI at h
    rcases q with _ | q
    · simp at h
      exact .inl ⟨rfl, h.symm⟩
    · rw [List.getElem?_cons_succ, List.getElem?_map] at h
      obtain ⟨a, ha, rfl⟩ := Option.map_eq_some_iff.1 h
      rw [List.getElem?_range (by omega)] at ha
      obtain rfl := Option.some.inj ha
      exact .inr (.inl ⟨by omega, by omega, by simp⟩)
  · rw [List.getElem?_append_right (by rw [headI_len]; exact h1), headI_len] at h
    have e : q - (k + 1) = 0 := by omega
    rw [e] at h
    simp at h
    exact .inr (.inr ⟨by omega, h.symm⟩)
theorem five_cases (i : Nat) : fiveI i = ⟨1, 0, -3⟩ ∨ fiveI i = ⟨2, 4, 0⟩ ∨ fiveI i = ⟨13, 1, 0⟩ ∨ fiveI i = ⟨14, 0, 0⟩ ∨ fiveI i = ⟨11, 0, 0⟩ := by
  unfold fiveI
  repeat' split
  all_goals simp
theorem wellI_ok (k : Nat) : ∀ x ∈ wellI k, x.ok := by
  have ok1 : ∀ op a w : Int, (0 ≤ op ∧ op ≤ 255) → (-10 ≤ a ∧ a ≤ 10) → (-10 ≤ w ∧ w ≤ 10) → (⟨op, a, w⟩ : In).ok := fun op a w h1 h2 h3 => ⟨h1, ⟨by dsimp only; omega, by dsimp only; omega⟩, ⟨by dsimp only; omega, by dsimp only; omega⟩⟩
  intro x hx
  obtain ⟨q, hq⟩ := List.mem_iff_getElem?.1 hx
  rcases wellI_at hq with ⟨_, rfl⟩ | ⟨_, _, rfl⟩ | ⟨_, rfl⟩
  · exact ok1 _ _ _ (by decide) (by decide) (by decide)
  · rcases five_cases (q - 1) with h | h | h | h | h <;> rw [h] <;> exact ok1 _ _ _ (by decide) (by decide) (by decide)
  · exact ok1 _ _ _ (by decide) (by decide) (by decide)
theorem wellI_loc (k : Nat) : locA (wellI k) = 2 := rfl
theorem wellI_may (k : Nat) (hk : k ≤ 100) : mayP (wellI k) 4 := by
  have hlen := wellI_len k
  refine mayP_intro (fun i m => m = 0 ∧ 0 ≤ i ∧ i ≤ k + 1) ⟨rfl, by omega, by omega⟩ ?_ ?_ (by omega) ⟨⟨15, 0, 0⟩, ?_, .inl rfl⟩ ?_
  · rintro i m x ⟨rfl, h0, hi⟩ hx q hq
    rcases wellI_at hx with ⟨h1, rfl⟩ | ⟨h1, h2, rfl⟩ | ⟨h1, rfl⟩
    · have : q = ((i : Int) + 1, 0) := by simpa [stepsA] using hq
      subst this
      exact ⟨rfl, by dsimp only; omega, by dsimp only; omega⟩
    · have : q = ((i : Int) + 1, 0) := by
        rcases five_cases (i - 1) with h | h | h | h | h <;> rw [h] at hq <;> simpa [stepsA] using hq
      subst this
      exact ⟨rfl, by dsimp only; omega, by dsimp only; omega⟩
    · simp [stepsA] at hq
  · rintro i m ⟨rfl, h0, hi⟩
    exact ⟨h0, by omega, by omega, fun m' h => h.1⟩
  · rw [hlen]
    unfold wellI
    rw [List.getElem?_append_right (by rw [headI_len]; omega), headI_len]
    have e : k + 2 - 1 - (k + 1) = 0 := by omega
    rw [e]
    rfl
  · intro q x u hx hu
    rw [wellI_loc]
    rcases wellI_at hx with ⟨h1, rfl⟩ | ⟨h1, h2, rfl⟩ | ⟨h1, rfl⟩
    · subst h1
      exact insP12.2 ⟨rfl, by decide, by decide, by decide⟩
    · rcases five_cases (q - 1) with h | h | h | h | h <;> rw [h]
      · exact (insPo (by decide) (by decide) (by decide) (by decide) (by decide) (by decide) (by decide) (by decide)).2 ⟨.inl rfl, rfl⟩
      · exact insP2.2 ⟨rfl, by decide, by decide⟩
      · exact (insP13 (.inl rfl) (by decide)).2 ⟨rfl, by decide, by decide⟩
      · exact (insP13 (.inr rfl) (by decide)).2 ⟨rfl, by decide, by decide⟩
      · exact (insPo (by decide) (by decide) (by decide) (by decide) (by decide) (by decide) (by decide) (by decide)).2 ⟨.inr rfl, rfl⟩
    · refine insP15.2 ⟨rfl, rfl, fun h => ?_⟩
      have h3 := (hu (by omega)).1
      omega
theorem five_call {k : Nat} (h : 2 ≤ k) : (wellI k)[2]? = some ⟨2, 4, 0⟩ := by
  unfold wellI
  rw [List.getElem?_append_left (by rw [headI_len]; omega)]
  unfold headI
  rw [List.getElem?_cons_succ, List.getElem?_map, List.getElem?_range (by omega)]
  rfl
theorem wellI_less (k : Nat) (hk : k ≤ 100) : mayP (wellI k) 3 ↔ k < 2 := by
  constructor
  · intro h
    rcases Nat.lt_or_ge k 2 with h1 | h1
    · exact h1
    · have := h.2.2.2 2 _ (five_call h1)
      have h2 := (insP2.1 this).2.2
      omega
  · intro h
    have h4 := wellI_may k hk
    refine ⟨h4.1, h4.2.1, h4.2.2.1, fun q x hx => ?_⟩
    have h5 := h4.2.2.2 q x hx
    rcases wellI_at hx with ⟨h1, rfl⟩ | ⟨h1, h2, rfl⟩ | ⟨h1, rfl⟩
    · exact insP12.2 (insP12.1 h5)
    · have e : q - 1 = 0 := by omega
      rw [e]
      exact (insPo (by decide) (by decide) (by decide) (by decide) (by decide) (by decide) (by decide) (by decide)).2 ⟨.inl rfl, rfl⟩
    · exact insP15.2 (insP15.1 h5)

/-- Fourteen that may not be; n instructions in all. -/
def badI (n : Int) (j : Nat) : In := match j with
  | 0 => ⟨0, 0, 0⟩ | 1 => ⟨16, 0, 0⟩ | 2 => ⟨255, 0, 0⟩ | 3 => ⟨2, 0, 0⟩ | 4 => ⟨2, 5, 0⟩ | 5 => ⟨3, n, 0⟩ | 6 => ⟨4, -1, 0⟩ | 7 => ⟨13, 2, 0⟩ | 8 => ⟨14, -1, 0⟩ | 9 => ⟨12, 17, 0⟩ | 10 => ⟨11, 0, 1⟩ | 11 => ⟨11, 1, 0⟩ | 12 => ⟨1, 1, 0⟩ | _ => ⟨15, 1, 0⟩
theorem badI_not {n lab q lc : Int} (hlc : lc = 2 ∨ lc = 0) (j : Nat) : ¬ insP n 4 lc lab q (badI n j) := by
  rintro ⟨i1, i2, i3, i4, i5, i6, i7⟩
  have hw : ∀ z : Int, z = 2 ∨ z = 0 → wrap64 (z - 1) = z - 1 := by intro z hz; unfold wrap64; omega
  have hw' := hw lc hlc
  unfold badI at *
  split at i1
  all_goals (simp [kindA, lowA, highA, hw'] at i1 i2 i3 i4 i5 i6 i7)
  all_goals (try omega)
def bads (n : Int) : List In := (List.range 14).map (badI n)
theorem bads_at {n : Int} {j : Nat} (h : j < 14) : (bads n)[j]? = some (badI n j) := by
  unfold bads
  rw [List.getElem?_map, List.getElem?_range h]
  rfl
theorem badI_ok {n : Int} (hn : 0 ≤ n ∧ n ≤ 100) (j : Nat) : (badI n j).ok := by
  unfold badI
  split
  all_goals exact ⟨⟨by dsimp only; omega, by dsimp only; omega⟩, ⟨by dsimp only; omega, by dsimp only; omega⟩, ⟨by dsimp only; omega, by dsimp only; omega⟩⟩
theorem bad12 {n : Int} {j : Nat} : (badI n j).op = 12 → badI n j = ⟨12, 17, 0⟩ := by
  unfold badI
  split <;> simp
theorem spoilt_not {k p j : Nat} (hp : p < k + 2) : ¬ mayP ((wellI k).set p (badI ((k + 2 : Nat) : Int) j)) 4 := fun h => by
  have hx : ((wellI k).set p (badI ((k + 2 : Nat) : Int) j))[p]? = some (badI ((k + 2 : Nat) : Int) j) := by
    rw [List.getElem?_set_self (by rw [wellI_len]; exact hp)]
  have h1 := h.2.2.2 p _ hx
  rw [List.length_set, wellI_len] at h1
  refine badI_not ?_ j h1
  rcases p with _ | p
  · have e : (wellI k).set 0 (badI ((k + 2 : Nat) : Int) j) = badI ((k + 2 : Nat) : Int) j :: ((List.range k).map fiveI ++ [⟨15, 0, 0⟩]) := rfl
    rw [e]
    unfold locA
    dsimp only
    split
    · next h12 =>
      exfalso
      rw [bad12 h12] at h1
      have := (insP12.1 h1).2.2.1
      omega
    · exact .inr rfl
  · left
    rfl
end Go.Proofs.YtglchagfclafgaaDoor
