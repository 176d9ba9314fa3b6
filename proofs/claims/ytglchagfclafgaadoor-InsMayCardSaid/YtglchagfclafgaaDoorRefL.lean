/- The document's Loops: what it reads of an instruction; plain laws. -/
import Derived.Test.YtglchagfclafgaaDoorInsD
namespace Go.Proofs.YtglchagfclafgaaDoor
open Go Go.RowKit
set_option linter.unusedSimpArgs false
set_option linter.unusedVariables false

def onB (op : Int) : Bool := decide (op ≠ 3 ∧ op ≠ 9 ∧ op ≠ 15)
def goesB (op : Int) : Bool := decide (goesA op)
def moreA (op : Int) : Int := if op = 5 ∨ op = 6 then 1 else if op = 7 ∨ op = 8 then -1 else 0
def moreC (op : Int) : Int := if op = 9 then -1 else 0
theorem moreA_bd (op : Int) : -1 ≤ moreA op ∧ moreA op ≤ 1 := by
  unfold moreA
  repeat' split
  all_goals omega
theorem moreC_bd (op : Int) : -1 ≤ moreC op ∧ moreC op ≤ 0 := by
  unfold moreC
  repeat' split
  all_goals omega
/-- Where it goes on, as the document says it. -/
def stepsR (x : In) (i m : Int) : List (Int × Int) := (if onB x.op then [(i + 1, m + moreA x.op)] else []) ++ (if goesB x.op then [(x.a, m + moreC x.op)] else [])
theorem stepsR_eq (x : In) (i m : Int) : stepsA x i m = stepsR x i m := by
  obtain ⟨op, a, ww⟩ := x
  unfold stepsA stepsR
  dsimp only
  by_cases h15 : op = 15
  · subst h15; simp [onB, goesB, moreA, moreC]
  by_cases h3 : op = 3
  · subst h3; simp [onB, goesB, moreA, moreC]
  by_cases h9 : op = 9
  · subst h9; simp [onB, goesB, moreA, moreC]; omega
  by_cases h4 : op = 4
  · subst h4; simp [onB, goesB, moreA, moreC]
  by_cases h10 : op = 10
  · subst h10; simp [onB, goesB, moreA, moreC]
  by_cases h5 : op = 5
  · subst h5; simp [onB, goesB, moreA, moreC]
  by_cases h6 : op = 6
  · subst h6; simp [onB, goesB, moreA, moreC]
  by_cases h7 : op = 7
  · subst h7; simp [onB, goesB, moreA, moreC]; omega
  by_cases h8 : op = 8
  · subst h8; simp [onB, goesB, moreA, moreC]; omega
  simp [onB, goesB, moreA, moreC, h15, h3, h9, h4, h10, h5, h6, h7, h8]

theorem on_ok (w : World) (op : Int) : Calls Tryd.prog 20 #[.int .u8 op] w fun e w' => e = .returned (.bool (onB op)) ∧ w' = w := by
  by_cases h3 : op = 3
  · subst h3; go_enter Tryd.func20, Tryd.ntmps20; go_wp2_with fail; go_ret; exact ⟨rfl, rfl⟩
  by_cases h9 : op = 9
  · subst h9; go_enter Tryd.func20, Tryd.ntmps20; go_wp2_with fail; go_ret; exact ⟨rfl, rfl⟩
  by_cases h15 : op = 15
  · subst h15; go_enter Tryd.func20, Tryd.ntmps20; go_wp2_with fail; go_ret; exact ⟨rfl, rfl⟩
  have e : onB op = true := by simp [onB, h3, h9, h15]
  have b3 : (op == 3) = false := by simpa using h3
  have b9 : (op == 9) = false := by simpa using h9
  have b15 : (op == 15) = false := by simpa using h15
  have c3 : (op != 3) = true := by simpa using h3
  have c9 : (op != 9) = true := by simpa using h9
  have c15 : (op != 15) = true := by simpa using h15
  rw [e]
  clear e h3 h9 h15
  go_enter Tryd.func20, Tryd.ntmps20
  go_wp2_with fail
  go_ret
  exact ⟨rfl, rfl⟩

theorem goes_ok (w : World) (op : Int) : Calls Tryd.prog 21 #[.int .u8 op] w fun e w' => e = .returned (.bool (goesB op)) ∧ w' = w := by
  by_cases h3 : op = 3
  · subst h3; go_enter Tryd.func21, Tryd.ntmps21; go_wp2_with fail; go_ret; exact ⟨rfl, rfl⟩
  by_cases h4 : op = 4
  · subst h4; go_enter Tryd.func21, Tryd.ntmps21; go_wp2_with fail; go_ret; exact ⟨rfl, rfl⟩
  by_cases h6 : op = 6
  · subst h6; go_enter Tryd.func21, Tryd.ntmps21; go_wp2_with fail; go_ret; exact ⟨rfl, rfl⟩
  by_cases h7 : op = 7
  · subst h7; go_enter Tryd.func21, Tryd.ntmps21; go_wp2_with fail; go_ret; exact ⟨rfl, rfl⟩
  by_cases h8 : op = 8
  · subst h8; go_enter Tryd.func21, Tryd.ntmps21; go_wp2_with fail; go_ret; exact ⟨rfl, rfl⟩
  by_cases h9 : op = 9
  · subst h9; go_enter Tryd.func21, Tryd.ntmps21; go_wp2_with fail; go_ret; exact ⟨rfl, rfl⟩
  by_cases h10 : op = 10
  · subst h10; go_enter Tryd.func21, Tryd.ntmps21; go_wp2_with fail; go_ret; exact ⟨rfl, rfl⟩
  have e : goesB op = false := by simp [goesB, h3, h4, h6, h7, h8, h9, h10]
  have b3 : (op == 3) = false := by simpa using h3
  have b4 : (op == 4) = false := by simpa using h4
  have b6 : (op == 6) = false := by simpa using h6
  have b7 : (op == 7) = false := by simpa using h7
  have b8 : (op == 8) = false := by simpa using h8
  have b9 : (op == 9) = false := by simpa using h9
  have b10 : (op == 10) = false := by simpa using h10
  rw [e]
  clear e h3 h4 h6 h7 h8 h9 h10
  go_enter Tryd.func21, Tryd.ntmps21
  go_wp2_with fail
  go_ret
  exact ⟨rfl, rfl⟩

theorem more_ok (w : World) (op : Int) : Calls Tryd.prog 19 #[.int .u8 op] w fun e w' => e = .returned (.tuple #[.int .i64 (moreA op), .int .i64 (moreC op)]) ∧ w' = w := by
  by_cases h5 : op = 5
  · subst h5; go_enter Tryd.func19, Tryd.ntmps19; go_wp2_with fail; refine bodyPost_ret (v := .tuple #[.int .i64 1, .int .i64 0]) (by simp [results, Tryd.results19, go_sem]) rfl ⟨rfl, rfl⟩
  by_cases h6 : op = 6
  · subst h6; go_enter Tryd.func19, Tryd.ntmps19; go_wp2_with fail; refine bodyPost_ret (v := .tuple #[.int .i64 1, .int .i64 0]) (by simp [results, Tryd.results19, go_sem]) rfl ⟨rfl, rfl⟩
  by_cases h7 : op = 7
  · subst h7; go_enter Tryd.func19, Tryd.ntmps19; go_wp2_with fail; refine bodyPost_ret (v := .tuple #[.int .i64 (-1), .int .i64 0]) (by simp [results, Tryd.results19, go_sem]) rfl ⟨rfl, rfl⟩
  by_cases h8 : op = 8
  · subst h8; go_enter Tryd.func19, Tryd.ntmps19; go_wp2_with fail; refine bodyPost_ret (v := .tuple #[.int .i64 (-1), .int .i64 0]) (by simp [results, Tryd.results19, go_sem]) rfl ⟨rfl, rfl⟩
  by_cases h9 : op = 9
  · subst h9; go_enter Tryd.func19, Tryd.ntmps19; go_wp2_with fail; refine bodyPost_ret (v := .tuple #[.int .i64 0, .int .i64 (-1)]) (by simp [results, Tryd.results19, go_sem]) rfl ⟨rfl, rfl⟩
  have e1 : moreA op = 0 := by simp [moreA, h5, h6, h7, h8]
  have e2 : moreC op = 0 := by simp [moreC, h9]
  have b5 : (op == 5) = false := by simpa using h5
  have b6 : (op == 6) = false := by simpa using h6
  have b7 : (op == 7) = false := by simpa using h7
  have b8 : (op == 8) = false := by simpa using h8
  have b9 : (op == 9) = false := by simpa using h9
  rw [e1, e2]
  clear e1 e2 h5 h6 h7 h8 h9
  go_enter Tryd.func19, Tryd.ntmps19
  go_wp2_with fail
  refine bodyPost_ret (v := .tuple #[.int .i64 0, .int .i64 0]) (by simp [results, Tryd.results19, go_sem]) rfl ⟨rfl, rfl⟩

/-- What stands while labels are laid. -/
structure RI (l : List In) (L : List Int) : Prop where
  len : L.length = l.length
  lab : ∀ (i : Nat) (m : Int), L[i]? = some m → 0 ≤ m → Rch l i m
  lo : ∀ (i : Nat) (m : Int), L[i]? = some m → -1 ≤ m
  bd : ∀ (i : Nat) (m : Int), L[i]? = some m → m < cnt L
  start : L[0]? = some 0
/-- What is reached from j has its label. -/
def ClosedAt (l : List In) (L : List Int) (j : Nat) : Prop := ∀ (m : Int) (x : In), L[j]? = some m → 0 ≤ m → l[j]? = some x → ∀ q ∈ stepsA x j m, 0 ≤ q.1 ∧ L[q.1.toNat]? = some q.2 ∧ 0 ≤ q.2
theorem RI.fin {l : List In} {L : List Int} (h : RI l L) (hc : ∀ j, j < l.length → ClosedAt l L j) : Good l ∧ L = labs l :=
  labs_unique h.len h.lab h.lo h.start (fun i m x h1 h2 h3 q hq => hc i (List.getElem?_eq_some_iff.1 h3).1 m x h1 h2 h3 q hq)
theorem RI.begin {l : List In} (hn : 0 < l.length) : RI l ((List.replicate l.length (-1)).set 0 0) := by
  have hg : ∀ {i : Nat} {m : Int}, ((List.replicate l.length (-1 : Int)).set 0 0)[i]? = some m → (i = 0 ∧ m = 0) ∨ m = -1 := fun {i m} h => by
    rw [List.getElem?_set] at h
    split at h
    · next e => subst e; simp [hn] at h; exact .inl ⟨rfl, h.symm⟩
    · right
      have := List.mem_of_getElem? h
      exact (List.mem_replicate.1 this).2
  have h0 : ((List.replicate l.length (-1 : Int)).set 0 0)[0]? = some 0 := by simp [hn]
  have hc : 1 ≤ cnt ((List.replicate l.length (-1 : Int)).set 0 0) := by
    have := cnt_set (L := List.replicate l.length (-1 : Int)) (i := 0) (u := -1) (m := 0) (by simp [hn]) (by decide) (by decide)
    omega
  refine ⟨by simp, fun i m h hm => ?_, fun i m h => ?_, fun i m h => ?_, h0⟩
  · rcases hg h with ⟨rfl, rfl⟩ | rfl
    · exact .start
    · omega
  · rcases hg h with ⟨rfl, rfl⟩ | rfl <;> omega
  · rcases hg h with ⟨rfl, rfl⟩ | rfl <;> omega
theorem set_keep {L : List Int} {t : Nat} {u m : Int} (hu : L[t]? = some u) (hneg : u < 0) {k : Nat} {v : Int} (hk : L[k]? = some v) (hv : 0 ≤ v) : (L.set t m)[k]? = some v := by
  rw [List.getElem?_set]
  split
  · next e => subst e; rw [hu] at hk; have := Option.some.inj hk; omega
  · exact hk
theorem set_self {L : List Int} {t : Nat} {u m : Int} (hu : L[t]? = some u) : (L.set t m)[t]? = some m := by
  have := (List.getElem?_eq_some_iff.1 hu).1
  simp [this]
theorem RI.set {l : List In} {L : List Int} (h : RI l L) {t : Nat} {u m : Int} (hu : L[t]? = some u) (hneg : u < 0) (hr : Rch l t m) (h0 : 0 ≤ m) (hb : m ≤ cnt L) : RI l (L.set t m) ∧ cnt (L.set t m) = cnt L + 1 := by
  have hc := cnt_set hu hneg h0
  have hget : ∀ {k : Nat} {v : Int}, (L.set t m)[k]? = some v → (k = t ∧ v = m) ∨ L[k]? = some v := fun {k v} hk => by
    rw [List.getElem?_set] at hk
    split at hk
    · next e =>
      subst e
      have := (List.getElem?_eq_some_iff.1 hu).1
      simp [this] at hk
      exact .inl ⟨rfl, hk.symm⟩
    · exact .inr hk
  refine ⟨⟨by simpa using h.len, fun i v hv h0' => ?_, fun i v hv => ?_, fun i v hv => ?_, set_keep hu hneg h.start (by decide)⟩, hc⟩
  · rcases hget hv with ⟨rfl, rfl⟩ | hv
    · exact hr
    · exact h.lab i v hv h0'
  · rcases hget hv with ⟨rfl, rfl⟩ | hv
    · omega
    · exact h.lo i v hv
  · rw [hc]
    rcases hget hv with ⟨rfl, rfl⟩ | hv
    · omega
    · have := h.bd i v hv
      omega

/-- Where a pass over the instructions stands: ahead of instruction i; c: something has changed. -/
structure PS (l : List In) (L0 L : List Int) (c : Bool) (i : Nat) : Prop where
  ri : RI l L
  le : cnt L0 ≤ cnt L
  up : c = true → cnt L0 < cnt L
  cl : c = false → ∀ j, j < i → ClosedAt l L j
/-- Where it stands behind k of the places S that instruction i goes on to. -/
structure KS (l : List In) (L0 L : List Int) (c : Bool) (i : Nat) (m : Int) (S : List (Int × Int)) (k : Nat) : Prop where
  ps : PS l L0 L c i
  hm : L[i]? = some m
  h0 : 0 ≤ m
  hx : ∃ x, l[i]? = some x ∧ stepsA x i m = S
  don : ∀ (k' : Nat) (q : Int × Int), k' < k → S[k']? = some q → 0 ≤ q.1 ∧ L[q.1.toNat]? = some q.2 ∧ 0 ≤ q.2
theorem PS.begin {l : List In} {L : List Int} (h : RI l L) : PS l L L false 0 := ⟨h, Nat.le_refl _, fun h => (by cases h), fun _ j hj => by omega⟩
theorem PS.skip {l : List In} {L0 L : List Int} {c : Bool} {i : Nat} {m : Int} (h : PS l L0 L c i) (hm : L[i]? = some m) (hneg : m < 0) : PS l L0 L c (i + 1) :=
  ⟨h.ri, h.le, h.up, fun hc j hj => by
    rcases Nat.lt_or_ge j i with h1 | h1
    · exact h.cl hc j h1
    · obtain rfl : j = i := by omega
      intro m' x h2 h3
      rw [hm] at h2
      have := Option.some.inj h2
      omega⟩
theorem KS.begin {l : List In} {L0 L : List Int} {c : Bool} {i : Nat} {m : Int} {x : In} (h : PS l L0 L c i) (hm : L[i]? = some m) (h0 : 0 ≤ m) (hx : l[i]? = some x) : KS l L0 L c i m (stepsA x i m) 0 :=
  ⟨h, hm, h0, ⟨x, hx, rfl⟩, fun k' q hk => by omega⟩
theorem KS.rch {l : List In} {L0 L : List Int} {c : Bool} {i : Nat} {m : Int} {S : List (Int × Int)} {k k2 : Nat} (h : KS l L0 L c i m S k) {q : Int × Int} (hq : S[k2]? = some q) : Rch l q.1 q.2 := by
  obtain ⟨x, hx, rfl⟩ := h.hx
  exact .step (h.ps.ri.lab i m h.hm h.h0) hx (List.mem_of_getElem? hq)
theorem KS.same {l : List In} {L0 L : List Int} {c : Bool} {i : Nat} {m : Int} {S : List (Int × Int)} {k : Nat} (h : KS l L0 L c i m S k) {t : Nat} {p : Int} (hq : S[k]? = some ((t : Int), p)) (ht : L[t]? = some p) (hp : 0 ≤ p) : KS l L0 L c i m S (k + 1) :=
  ⟨h.ps, h.hm, h.h0, h.hx, fun k' q hk hq' => by
    rcases Nat.lt_or_ge k' k with h1 | h1
    · exact h.don k' q h1 hq'
    · obtain rfl : k' = k := by omega
      rw [hq] at hq'
      obtain rfl := Option.some.inj hq'
      exact ⟨by show (0 : Int) ≤ (t : Int); omega, by rw [Int.toNat_natCast]; exact ht, hp⟩⟩
theorem KS.new {l : List In} {L0 L : List Int} {c : Bool} {i : Nat} {m : Int} {S : List (Int × Int)} {k : Nat} (h : KS l L0 L c i m S k) {t : Nat} {p u : Int} (hq : S[k]? = some ((t : Int), p)) (hu : L[t]? = some u) (hneg : u < 0) (hp : 0 ≤ p) :
    KS l L0 (L.set t p) true i m S (k + 1) ∧ cnt (L.set t p) = cnt L + 1 := by
  have hr := h.rch hq
  have hb : p ≤ cnt L := by
    obtain ⟨x, hx, rfl⟩ := h.hx
    have h1 := stepsA_bd x i m _ (List.mem_of_getElem? hq)
    have h2 := h.ps.ri.bd i m h.hm
    dsimp only at h1
    omega
  obtain ⟨h1, h2⟩ := h.ps.ri.set (m := p) hu hneg hr hp hb
  have hle := h.ps.le
  refine ⟨⟨⟨h1, by omega, fun _ => by omega, fun hc => by cases hc⟩, set_keep hu hneg h.hm h.h0, h.h0, h.hx, fun k' q hk hq' => ?_⟩, h2⟩
  rcases Nat.lt_or_ge k' k with h3 | h3
  · obtain ⟨d1, d2, d3⟩ := h.don k' q h3 hq'
    exact ⟨d1, set_keep hu hneg d2 d3, d3⟩
  · obtain rfl : k' = k := by omega
    rw [hq] at hq'
    obtain rfl := Option.some.inj hq'
    exact ⟨by show (0 : Int) ≤ (t : Int); omega, by rw [Int.toNat_natCast]; exact set_self hu, hp⟩
theorem KS.fin {l : List In} {L0 L : List Int} {c : Bool} {i : Nat} {m : Int} {S : List (Int × Int)} (h : KS l L0 L c i m S S.length) : PS l L0 L c (i + 1) :=
  ⟨h.ps.ri, h.ps.le, h.ps.up, fun hc j hj => by
    rcases Nat.lt_or_ge j i with h1 | h1
    · exact h.ps.cl hc j h1
    · obtain rfl : j = i := by omega
      intro m' x h2 h3 h4 q hq
      obtain ⟨y, hy, hS⟩ := h.hx
      rw [h.hm] at h2
      obtain rfl := Option.some.inj h2
      rw [hy] at h4
      obtain rfl := Option.some.inj h4
      rw [hS] at hq
      obtain ⟨k', hk⟩ := List.mem_iff_getElem?.1 hq
      exact h.don k' q (List.getElem?_eq_some_iff.1 hk).1 hk⟩
theorem KS.bad {l : List In} {L0 L : List Int} {c : Bool} {i : Nat} {m : Int} {S : List (Int × Int)} {k : Nat} (h : KS l L0 L c i m S k) {q : Int × Int} (hq : S[k]? = some q) (hb : q.1 < 0 ∨ (l.length : Int) ≤ q.1 ∨ q.2 < 0) : ¬ Good l := by
  refine bad_out (h.rch hq) ?_
  omega
theorem KS.clash {l : List In} {L0 L : List Int} {c : Bool} {i : Nat} {m : Int} {S : List (Int × Int)} {k : Nat} (h : KS l L0 L c i m S k) {t : Nat} {p u : Int} (hq : S[k]? = some ((t : Int), p)) (hu : L[t]? = some u) (h0 : 0 ≤ u) (hne : u ≠ p) : ¬ Good l :=
  bad_two (h.ps.ri.lab t u hu h0) (h.rch hq) hne

/-- The two rows of what is gone on to. -/
structure Two (w : World) (o : Owner) (a b : Value) (S : List (Int × Int)) : Prop where
  ra : Row w o 98 3 1 a S.length (ints (S.map (·.1)))
  rb : Row w o 99 3 1 b S.length (ints (S.map (·.2)))
structure TwoC (w0 : World) (o0 : Owner) (S : List (Int × Int)) (a b : Value) (w : World) : Prop where
  ex : ∃ o, Two w o a b S ∧ Step [98, 99] w0 o0 w o
end Go.Proofs.YtglchagfclafgaaDoor
