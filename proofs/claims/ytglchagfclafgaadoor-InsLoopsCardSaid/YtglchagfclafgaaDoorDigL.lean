/- Digits of numbers, letters of digits, texts of numbers: plain lemmas. -/
import Derived.Test.YtglchagfclafgaaDoorDigA
namespace Go.Proofs.YtglchagfclafgaaDoor
open Go Go.RowKit
set_option linter.unusedSimpArgs false
set_option linter.unusedVariables false

/-- The digits of a number, the last one first; of 0: none. -/
def ds (b n : Nat) : List Nat := if h : 2 ≤ b ∧ 0 < n then n % b :: ds b (n / b) else []
termination_by n
decreasing_by exact Nat.div_lt_self (by omega) (by omega)
/-- One at least. -/
def dgs (b n : Nat) : List Nat := n % b :: ds b (n / b)

theorem ds_zero (b : Nat) : ds b 0 = [] := by rw [ds]; simp
theorem ds_pos {b n : Nat} (hb : 2 ≤ b) (hn : 0 < n) : ds b n = n % b :: ds b (n / b) := by rw [ds, dif_pos ⟨hb, hn⟩]
theorem dgs_pos {b n : Nat} (hb : 2 ≤ b) (hn : 0 < n) : ds b n = dgs b n := ds_pos hb hn

theorem ds_lt {b : Nat} (hb : 2 ≤ b) : ∀ n d, d ∈ ds b n → d < b := by
  intro n
  induction n using Nat.strongRecOn with
  | _ n ih =>
    intro d hd
    rcases Nat.eq_zero_or_pos n with rfl | hn
    · rw [ds_zero] at hd; cases hd
    · rw [ds_pos hb hn] at hd
      rcases List.mem_cons.1 hd with rfl | hd
      · exact Nat.mod_lt _ (by omega)
      · exact ih (n / b) (Nat.div_lt_self hn (by omega)) d hd
theorem dgs_lt {b : Nat} (hb : 2 ≤ b) {n d : Nat} (hd : d ∈ dgs b n) : d < b := by
  rcases List.mem_cons.1 hd with rfl | hd
  · exact Nat.mod_lt _ (by omega)
  · exact ds_lt hb _ d hd

def hor (b : Nat) (l : List Nat) : Nat := l.foldr (fun d a => a * b + d) 0
theorem ds_hor {b : Nat} (hb : 2 ≤ b) : ∀ n, hor b (ds b n) = n := by
  intro n
  induction n using Nat.strongRecOn with
  | _ n ih =>
    rcases Nat.eq_zero_or_pos n with rfl | hn
    · rw [ds_zero]; rfl
    · rw [ds_pos hb hn]
      show hor b (ds b (n / b)) * b + n % b = n
      rw [ih (n / b) (Nat.div_lt_self hn (by omega))]
      exact Nat.div_add_mod' n b
theorem dgs_hor {b : Nat} (hb : 2 ≤ b) (n : Nat) : hor b (dgs b n) = n := by
  show hor b (ds b (n / b)) * b + n % b = n
  rw [ds_hor hb]
  exact Nat.div_add_mod' n b

theorem ds_len {b : Nat} (hb : 2 ≤ b) : ∀ k n, n < b ^ k → (ds b n).length ≤ k := by
  intro k
  induction k with
  | zero => intro n hn; rw [show n = 0 by simpa using hn, ds_zero]; exact Nat.le_refl _
  | succ k ih =>
    intro n hn
    rcases Nat.eq_zero_or_pos n with rfl | h0
    · rw [ds_zero]; exact Nat.zero_le _
    · rw [ds_pos hb h0, List.length_cons]
      have := ih (n / b) (by rw [Nat.div_lt_iff_lt_mul (by omega), ← Nat.pow_succ]; exact hn)
      omega
theorem dgs_len {b : Nat} (hb : 2 ≤ b) {k n : Nat} (hn : n < b ^ (k + 1)) : (dgs b n).length ≤ k + 1 := by
  have := ds_len hb k (n / b) (by rw [Nat.div_lt_iff_lt_mul (by omega), ← Nat.pow_succ]; exact hn)
  simpa [dgs] using this
theorem dgs_le128 {b : Nat} (hb : 2 ≤ b) {n : Nat} (hn : n < 340282366920938463463374607431768211456) : (dgs b n).length ≤ 128 :=
  dgs_len hb (k := 127) (Nat.lt_of_lt_of_le hn (by have := Nat.pow_le_pow_left hb 128; simpa using this))
theorem ds_up {b : Nat} (hb : 2 ≤ b) : ∀ n, n < b ^ (ds b n).length := by
  intro n
  induction n using Nat.strongRecOn with
  | _ n ih =>
    rcases Nat.eq_zero_or_pos n with rfl | hn
    · rw [ds_zero]; simp
    · have h := ih (n / b) (Nat.div_lt_self hn (by omega))
      rw [ds_pos hb hn, List.length_cons, Nat.pow_succ]
      exact (Nat.div_lt_iff_lt_mul (by omega)).1 h
theorem dgs_up {b : Nat} (hb : 2 ≤ b) (n : Nat) : n < b ^ (dgs b n).length := by
  have h := ds_up hb (n / b)
  rw [dgs, List.length_cons, Nat.pow_succ]
  exact (Nat.div_lt_iff_lt_mul (by omega)).1 h
theorem ds_low {b : Nat} (hb : 2 ≤ b) : ∀ n, 0 < n → b ^ ((ds b n).length - 1) ≤ n := by
  intro n
  induction n using Nat.strongRecOn with
  | _ n ih =>
    intro hn
    rw [ds_pos hb hn, List.length_cons, Nat.add_sub_cancel]
    rcases Nat.eq_zero_or_pos (n / b) with h0 | h0
    · rw [h0, ds_zero]; simp; omega
    · have h := ih (n / b) (Nat.div_lt_self hn (by omega)) h0
      have h1 : (ds b (n / b)).length = ((ds b (n / b)).length - 1) + 1 := by rw [ds_pos hb h0]; simp
      rw [h1, Nat.pow_succ]
      calc b ^ ((ds b (n / b)).length - 1) * b ≤ n / b * b := Nat.mul_le_mul_right _ h
        _ ≤ n := Nat.div_mul_le_self _ _
theorem dgs_low {b : Nat} (hb : 2 ≤ b) (n : Nat) (h : 2 ≤ (dgs b n).length) : b ^ ((dgs b n).length - 1) ≤ n := by
  have hl : (dgs b n).length = (ds b (n / b)).length + 1 := rfl
  have h0 : 0 < n / b := by
    rcases Nat.eq_zero_or_pos (n / b) with h0 | h0
    · rw [h0, ds_zero] at hl; simp at hl; omega
    · exact h0
  have h1 := ds_low hb (n / b) h0
  have h2 : (ds b (n / b)).length = ((ds b (n / b)).length - 1) + 1 := by omega
  rw [hl, Nat.add_sub_cancel, h2, Nat.pow_succ]
  calc b ^ ((ds b (n / b)).length - 1) * b ≤ n / b * b := Nat.mul_le_mul_right _ h1
    _ ≤ n := Nat.div_mul_le_self _ _
theorem ds_last {b : Nat} (hb : 2 ≤ b) : ∀ n, (ds b n).getLast? ≠ some 0 := by
  intro n
  induction n using Nat.strongRecOn with
  | _ n ih =>
    rcases Nat.eq_zero_or_pos n with rfl | hn
    · rw [ds_zero]; simp
    · rw [ds_pos hb hn]
      have h := ih (n / b) (Nat.div_lt_self hn (by omega))
      rcases Nat.eq_zero_or_pos (n / b) with h0 | h0
      · rw [h0, ds_zero]
        have : n % b = n := Nat.mod_eq_of_lt (by rcases Nat.lt_or_ge n b with h | h; exact h; have := Nat.div_pos h (by omega); omega)
        simp [this]; omega
      · obtain ⟨x, l, e⟩ : ∃ x l, ds b (n / b) = x :: l := ⟨_, _, ds_pos hb h0⟩
        rw [e] at h ⊢
        rw [List.getLast?_cons_cons]
        exact h
theorem dgs_last {b : Nat} (hb : 2 ≤ b) (n : Nat) (h : 2 ≤ (dgs b n).length) : (dgs b n).getLast? ≠ some 0 := by
  have h1 := ds_last hb (n / b)
  unfold dgs at h ⊢
  cases e : ds b (n / b) with
  | nil => rw [e] at h; simp at h
  | cons x l =>
    rw [e] at h1
    rw [List.getLast?_cons_cons]
    exact h1

/-- The letter of a digit. -/
def chu (d : Nat) : UInt8 := UInt8.ofNat (if d < 10 then 48 + d else 55 + d)
theorem chu_chr : ∀ d : Nat, d < 36 → (((chu d).toNat : Nat) : Int) = chr (d : Int) := by decide
theorem chu_dig : ∀ d : Nat, d < 36 → dig ((chu d).toNat : Nat) = (d : Int) := by decide
theorem chu_zero : ∀ d : Nat, d < 36 → chu d = 48 → d = 0 := by decide
theorem chu_not : ∀ d : Nat, d < 36 → chu d ≠ 35 ∧ chu d ≠ 36 ∧ chu d ≠ 37 ∧ chu d ≠ 45 ∧ chu d ≠ 46 := by decide
theorem chu_lt (d e : Nat) (hd : d < 36) (he : e < 36) : chu d < chu e ↔ d < e := by
  have h : ∀ d : Nat, d < 36 → (chu d).toNat = if d < 10 then 48 + d else 55 + d := by decide
  rw [UInt8.lt_iff_toNat_lt, h d hd, h e he]
  split <;> split <;> omega
theorem chu_inj (d e : Nat) (hd : d < 36) (he : e < 36) : chu d = chu e ↔ d = e := by
  constructor
  · intro h
    have h1 := chu_dig d hd
    have h2 := chu_dig e he
    rw [h] at h1
    omega
  · rintro rfl; rfl
theorem chu_val {b d : Nat} (hb : b ≤ 36) (hd : d < b) : valB ((chu d).toNat : Nat) (b : Int) = true ∧ dig ((chu d).toNat : Nat) = (d : Int) := by
  have h := chu_dig d (by omega)
  refine ⟨?_, h⟩
  unfold valB
  rw [h]
  simp; omega

/-- Letters taken in. -/
def acc (b : Int) : Int → List UInt8 → Int × Int
  | p, [] => (p, 0)
  | p, c :: l => if valB (c.toNat : Nat) b then acc b (p * b + dig (c.toNat : Nat)) l else (p, (l.length : Int) + 1)

theorem acc_cons (b p : Int) (c : UInt8) (l : List UInt8) : acc b p (c :: l) = if valB (c.toNat : Nat) b then acc b (p * b + dig (c.toNat : Nat)) l else (p, (l.length : Int) + 1) := rfl
theorem acc_range (b : Int) : ∀ (l : List UInt8) (p : Int), 0 ≤ (acc b p l).2 ∧ (acc b p l).2 ≤ l.length := by
  intro l
  induction l with
  | nil => intro p; simp [acc]
  | cons c l ih =>
    intro p
    unfold acc
    split
    · have := ih (p * b + dig (c.toNat : Nat)); simp only [List.length_cons]; omega
    · simp only [List.length_cons]; omega
theorem acc_app (b : Int) : ∀ (x y : List UInt8) (p : Int), acc b p (x ++ y) = if (acc b p x).2 = 0 then acc b (acc b p x).1 y else ((acc b p x).1, (acc b p x).2 + y.length) := by
  intro x
  induction x with
  | nil => intro y p; simp [acc]
  | cons c x ih =>
    intro y p
    rw [List.cons_append, acc_cons, acc_cons]
    split
    · exact ih y _
    · rw [if_neg (by show ¬ ((x.length : Int) + 1 = 0); omega)]; simp; omega
theorem acc_digits {b : Nat} (hb : b ≤ 36) : ∀ (l : List Nat) (p : Nat), (∀ d ∈ l, d < b) → acc (b : Int) (p : Int) (l.map chu) = (((l.foldl (fun a d => a * b + d) p : Nat) : Int), 0) := by
  intro l
  induction l with
  | nil => intro p _; rfl
  | cons d l ih =>
    intro p h
    obtain ⟨h1, h2⟩ := chu_val hb (h d List.mem_cons_self)
    rw [List.map_cons]
    unfold acc
    rw [if_pos h1, h2, List.foldl_cons]
    have := ih (p * b + d) fun x hx => h x (List.mem_cons_of_mem _ hx)
    rw [← this]
    first | done | congr 1
/-- A letter that is no digit, anywhere. -/
theorem acc_bad {b : Int} {c : UInt8} (hc : valB (c.toNat : Nat) b = false) (x y : List UInt8) (p : Int) : 0 < (acc b p (x ++ c :: y)).2 := by
  rw [acc_app]
  split
  · unfold acc; rw [if_neg (by simp [hc])]; show (0 : Int) < (y.length : Int) + 1; omega
  · have := acc_range b x p; simp; omega
/-- The letter ahead of what is left is none. -/
theorem acc_left (b : Int) : ∀ (l : List UInt8) (p : Int), 0 < (acc b p l).2 → ∃ x c y, l = x ++ c :: y ∧ (acc b p l).2 = (y.length : Int) + 1 ∧ valB (c.toNat : Nat) b = false := by
  intro l
  induction l with
  | nil => intro p h; simp [acc] at h
  | cons c l ih =>
    intro p h
    unfold acc at h ⊢
    split at h
    · rename_i hv
      obtain ⟨x, d, y, e1, e2, e3⟩ := ih _ h
      rw [if_pos hv]
      exact ⟨c :: x, d, y, by rw [e1]; rfl, e2, e3⟩
    · rename_i hv
      rw [if_neg hv]
      exact ⟨[], c, l, rfl, rfl, by simpa using hv⟩

/-- A number's text. -/
def txt (b n : Nat) : List UInt8 := ((dgs b n).map chu).reverse
theorem txt_acc {b : Nat} (hb : 2 ≤ b) (hb2 : b ≤ 36) (n : Nat) : acc (b : Int) 0 (txt b n) = ((n : Int), 0) := by
  have h := acc_digits hb2 (dgs b n).reverse 0 fun d hd => dgs_lt hb (List.mem_reverse.1 hd)
  rw [List.foldl_reverse] at h
  unfold txt
  rw [← List.map_reverse]
  rw [show List.foldr (fun x y => (fun a d => a * b + d) y x) 0 (dgs b n) = n from dgs_hor hb n] at h
  exact h
theorem txt_len (b n : Nat) : (txt b n).length = (dgs b n).length := by simp [txt]
theorem txt_ne (b n : Nat) : txt b n ≠ [] := by simp [txt, dgs]
theorem txt_mem {b : Nat} (hb : 2 ≤ b) {n : Nat} {c : UInt8} (h : c ∈ txt b n) : ∃ d, d < b ∧ c = chu d := by
  simp only [txt, List.mem_reverse, List.mem_map] at h
  obtain ⟨d, hd, rfl⟩ := h
  exact ⟨d, dgs_lt hb hd, rfl⟩

theorem fold_lt {b : Nat} : ∀ (x y : List Nat) (p q : Nat), p < q → x.length = y.length → (∀ d ∈ x, d < b) → x.foldl (fun a d => a * b + d) p < y.foldl (fun a d => a * b + d) q := by
  intro x
  induction x with
  | nil => intro y p q h hl _; rw [List.length_nil] at hl; rw [List.eq_nil_of_length_eq_zero hl.symm]; exact h
  | cons d x ih =>
    intro y p q h hl hx
    cases y with
    | nil => simp at hl
    | cons e y =>
      rw [List.foldl_cons, List.foldl_cons]
      refine ih y _ _ ?_ (by simpa using hl) fun k hk => hx k (List.mem_cons_of_mem _ hk)
      have h1 := hx d List.mem_cons_self
      have h2 : (p + 1) * b ≤ q * b := Nat.mul_le_mul_right _ h
      rw [Nat.add_mul, Nat.one_mul] at h2
      omega
theorem fold_less {b : Nat} (hb : b ≤ 36) : ∀ (x y : List Nat) (p : Nat), x.length = y.length → (∀ d ∈ x, d < b) → (∀ d ∈ y, d < b) →
    (Op.bytesLess (x.map chu) (y.map chu) = decide (x.foldl (fun a d => a * b + d) p < y.foldl (fun a d => a * b + d) p)) := by
  intro x
  induction x with
  | nil => intro y p hl _ _; rw [List.length_nil] at hl; rw [List.eq_nil_of_length_eq_zero hl.symm]; simp [Op.bytesLess]
  | cons d x ih =>
    intro y p hl hx hy
    cases y with
    | nil => simp at hl
    | cons e y =>
      have h1 := hx d List.mem_cons_self
      have h2 := hy e List.mem_cons_self
      have hx' : ∀ k ∈ x, k < b := fun k hk => hx k (List.mem_cons_of_mem _ hk)
      have hy' : ∀ k ∈ y, k < b := fun k hk => hy k (List.mem_cons_of_mem _ hk)
      have hl' : x.length = y.length := by simpa using hl
      simp only [List.map_cons, Op.bytesLess, List.foldl_cons]
      have a1 := chu_lt d e (by omega) (by omega)
      have a2 := chu_inj d e (by omega) (by omega)
      rcases Nat.lt_trichotomy d e with h | h | h
      · have := fold_lt x y (p * b + d) (p * b + e) (by omega) hl' hx'
        simp [a1.2 h, this]
      · subst h
        have := ih y (p * b + d) hl' hx' hy'
        have n1 : ¬ chu d < chu d := fun k => by have := a1.1 k; omega
        rw [this, beq_self_eq_true, Bool.true_and, decide_eq_false n1, Bool.false_or]
        congr
      · have := fold_lt y x (p * b + e) (p * b + d) (by omega) hl'.symm hy'
        have n1 : ¬ chu d < chu e := fun k => by have := a1.1 k; omega
        have n2 : ¬ chu d = chu e := fun k => by have := a2.1 k; omega
        have n3 : ¬ (x.foldl (fun a d => a * b + d) (p * b + d) < y.foldl (fun a d => a * b + d) (p * b + e)) := by omega
        simp [n1, n2, n3]

theorem txt_fold {b : Nat} (hb : 2 ≤ b) (n : Nat) : (dgs b n).reverse.foldl (fun a d => a * b + d) 0 = n := by
  rw [List.foldl_reverse]; exact dgs_hor hb n
theorem txt_inj {b : Nat} (hb : 2 ≤ b) (hb2 : b ≤ 36) {m n : Nat} (h : txt b m = txt b n) : m = n := by
  have h1 := txt_acc hb hb2 m
  rw [h, txt_acc hb hb2 n] at h1
  have := (Prod.mk.inj h1).1
  omega
theorem txt_less {b : Nat} (hb : 2 ≤ b) (hb2 : b ≤ 36) (m n : Nat) :
    (decide (((txt b m).length : Int) < (txt b n).length) || (decide (((txt b m).length : Int) = (txt b n).length) && Op.bytesLess (txt b m) (txt b n))) = decide (m < n) := by
  have u1 := dgs_up hb m
  have u2 := dgs_up hb n
  rw [txt_len, txt_len]
  rcases Nat.lt_trichotomy (dgs b m).length (dgs b n).length with h | h | h
  · have h1 := dgs_low hb n (by have : 0 < (dgs b m).length := by simp [dgs]
                                omega)
    have h2 : b ^ (dgs b m).length ≤ b ^ ((dgs b n).length - 1) := Nat.pow_le_pow_right (by omega) (by omega)
    have h3 : m < n := by omega
    simp [h, h3]
  · have h1 := fold_less hb2 (dgs b m).reverse (dgs b n).reverse 0 (by simpa using h) (fun d hd => dgs_lt hb (List.mem_reverse.1 hd)) (fun d hd => dgs_lt hb (List.mem_reverse.1 hd))
    rw [txt_fold hb, txt_fold hb, List.map_reverse, List.map_reverse] at h1
    unfold txt
    rw [h1, h]
    simp
  · have h1 := dgs_low hb m (by have : 0 < (dgs b n).length := by simp [dgs]
                                omega)
    have h2 : b ^ (dgs b n).length ≤ b ^ ((dgs b m).length - 1) := Nat.pow_le_pow_right (by omega) (by omega)
    have h3 : ¬ m < n := by omega
    have h4 : ¬ ((dgs b m).length : Int) < (dgs b n).length := by omega
    have h5 : ¬ ((dgs b m).length : Int) = (dgs b n).length := by omega
    simp [h3, h4, h5]

/-- The base that a letter stands for. -/
def base1 (c : UInt8) : Int := if c = 35 then 10 else if c = 36 then 16 else if c = 37 then 2 else 0
def baseB (c : UInt8) (b : Int) : Int := if base1 c = 0 then b else base1 c
def baseL (c : UInt8) (r : List UInt8) : List UInt8 := if base1 c = 0 then c :: r else r
def negB (l : List UInt8) : Bool := l.head? == some 45
def negL (l : List UInt8) : List UInt8 := if negB l then l.tail else l
def dotB (l : List UInt8) : Bool := l.getLast? == some 46
def dotL (l : List UInt8) : List UInt8 := if dotB l then l.dropLast else l
def numE (b : Int) (neg : Bool) (l : List UInt8) : Int × Int :=
  if dotL l = [] ∨ 0 < (acc b 0 (dotL l)).2 then (0, 0) else
  let v := if neg then -(acc b 0 (dotL l)).1 else (acc b 0 (dotL l)).1
  if dotB l then (v, 2) else (v % 18446744073709551616, 1)
def num (l : List UInt8) (b : Int) : Int × Int :=
  if rightB b then match l with
    | [] => (0, 0)
    | c :: r => numE (baseB c b) (negB (baseL c r)) (negL (baseL c r))
  else (0, 0)
end Go.Proofs.YtglchagfclafgaaDoor
