/- DictOrders: the plain law; and two rows of numbers that read alike. -/
import Derived.Test.YtaledmoakhlmgaaListsL
import Derived.Test.YtaledmoakhlmgaaDicO
namespace Go.Proofs.Ytaledmoakhlmgaa
open Go Go.RowKit
set_option linter.unusedSimpArgs false
set_option linter.unusedVariables false

/-- Two rows of numbers that read alike are alike. -/
theorem ints_ok {w : World} {o : Owner} {i j : Nat} {u v : Value} {l m : List Int} (hu : Rd w o i 1 u l.length (ints l)) (hv : Rd w o j 1 v m.length (ints m)) (hl : l.length ≤ 1000000) (hm : m.length ≤ 1000000) :
    Calls Try.prog 21 #[u, v] w fun e w' => e = .returned (.bool (decide (l = m))) ∧ Step [] w o w' o := by
  obtain ⟨ao, ca, rfl, g1, g2, g3, g4⟩ := hu
  obtain ⟨bo, cb, rfl, k1, k2, k3, k4⟩ := hv
  by_cases hlen : l.length = m.length
  · obtain ⟨n, hn⟩ : ∃ n, l.length = n := ⟨_, rfl⟩
    have hmn : m.length = n := by rw [← hlen, hn]
    rw [hn, hmn]
    rw [hn] at g4
    rw [hmn] at k4
    have HN := Lib.hid hn
    have HM := Lib.hid hmn
    have hnm : n ≤ 1000000 := by omega
    clear g1 g2 g3 k1 k2 k3 hl hm hlen hn hmn
    have HG := Lib.hid g4
    have HK := Lib.hid k4
    obtain ⟨R, hR⟩ : ∃ R, decide (l = m) = R := ⟨_, rfl⟩
    rw [hR]
    have HR := Lib.hid hR
    clear g4 k4 hR
    go_enter Try.func21, Try.ntmps21
    go_wp2_with fail
    go_loopg [5, 13] n (fun g a5 a wr => ∃ q : Nat, g = n - q ∧ q ≤ n ∧ a = .int .i64 q ∧ Step [] w o wr o ∧ Hid (l.take q = m.take q))
    case atStart => exact ⟨0, rfl, Nat.zero_le _, rfl, Step.refl _ _ _, Lib.hid rfl⟩
    case round =>
      obtain ⟨q, hg, hq, rfl, st, hinv⟩ := hrel
      have HQ := Lib.hid hg
      clear hg
      by_cases hlt : q < n
      · have hqi : (q : Int) < n := by omega
        have hql : q < l.length := by rw [HN.out]; exact hlt
        have hqm : q < m.length := by rw [HM.out]; exact hlt
        obtain ⟨x, hx⟩ : ∃ x, l[q] = x := ⟨_, rfl⟩
        obtain ⟨y, hy⟩ : ∃ y, m[q] = y := ⟨_, rfl⟩
        obtain ⟨b1, off1, rfl, hb1, ho1, hc1⟩ := HG.out (by omega)
        obtain ⟨b2, off2, rfl, hb2, ho2, hc2⟩ := HK.out (by omega)
        have e1 := (st.cell (a := ⟨b1, off1 + q, none⟩) hb1 (by simp)).trans (hc1 q (.int .i64 x) (by rw [List.getElem?_map, List.getElem?_eq_getElem hql, hx]; rfl))
        have e2 := (st.cell (a := ⟨b2, off2 + q, none⟩) hb2 (by simp)).trans (hc2 q (.int .i64 y) (by rw [List.getElem?_map, List.getElem?_eq_getElem hqm, hy]; rfl))
        have t1 : l.take (q + 1) = l.take q ++ [x] := by rw [List.take_succ_eq_append_getElem hql, hx]
        have t2 : m.take (q + 1) = m.take q ++ [y] := by rw [List.take_succ_eq_append_getElem hqm, hy]
        have T1 := Lib.hid t1
        have T2 := Lib.hid t2
        clear hc1 hc2 hx hy t1 t2
        by_cases hxe : x = y
        · subst hxe
          have hxy : (x == x) = true := by simp
          go_wp2_with fail
          go_region
          all_goals go_wp2_with fail
          all_goals go_roundg (n - (q + 1))
          case measure => rw [HQ.out]; omega
          case rel => exact ⟨q + 1, rfl, by omega, by go_num, st.drew, Lib.hid (by rw [T1.out, T2.out, hinv.out])⟩
        · have hxy : (x == y) = false := by simp [hxe]
          have hne : l ≠ m := by
            intro h
            apply hxe
            have h1 := T1.out
            have h2 := T2.out
            rw [h] at h1
            rw [h1] at h2
            have := List.append_inj_right' h2 rfl
            simpa using this
          have hRf : R = false := by rw [← HR.out]; exact decide_eq_false hne
          subst hRf
          go_wp2_with fail
          go_region
          all_goals go_wp2_with fail
          all_goals go_ret
          all_goals exact ⟨rfl, st.drew⟩
      · obtain rfl : q = n := by omega
        have h := hinv.out
        rw [List.take_of_length_le (by rw [HN.out]; exact Nat.le_refl _), List.take_of_length_le (by rw [HM.out]; exact Nat.le_refl _)] at h
        have hqi : ¬ (q : Int) < q := by omega
        have hRt : R = true := by rw [← HR.out]; exact decide_eq_true h
        subst hRt
        clear h hinv
        go_wp2_with fail
        go_ret
        exact ⟨rfl, st⟩
  · have hne : l ≠ m := fun h => hlen (by rw [h])
    have hli : ¬ (l.length : Int) = (m.length : Int) := by omega
    have hlb : ((l.length : Int) == (m.length : Int)) = false := by rw [beq_eq_false_iff_ne]; exact hli
    rw [decide_eq_false hne]
    clear g4 k4
    go_enter Try.func21, Try.ntmps21
    go_wp2_with fail
    go_ret
    exact ⟨rfl, Step.refl _ _ _⟩

/-- What a name of a list means; 0: nothing. -/
def wantF (ws : List Wd) (k : Int) : Int := match find k (low ⟨#[110, 97, 109, 101]⟩) ws with | some x => x.xt | none => 0
def wantL (ws : List Wd) : List Int := (List.range 9).map fun k : Nat => wantF ws k
theorem low_same : low ⟨#[78, 65, 77, 69]⟩ = low ⟨#[110, 97, 109, 101]⟩ := by kernel_rfl
theorem wantF_cons (ws : List Wd) (k j : Int) (x : Int) (b : Bool) : wantF (⟨⟨#[110, 97, 109, 101]⟩, x, b, j⟩ :: ws) k = if j = k then x else wantF ws k := by
  unfold wantF
  rw [find_cons]
  by_cases h : j = k
  · rw [if_pos ⟨h, rfl⟩, if_pos h]
  · rw [if_neg (fun e => h e.1), if_neg h]
theorem wantL_len (ws : List Wd) : (wantL ws).length = 9 := by simp [wantL]
theorem wantL_at (ws : List Wd) {k : Nat} (h : k < 9) : (wantL ws)[k]? = some (wantF ws k) := by
  unfold wantL
  rw [List.getElem?_map, List.getElem?_range h]
  rfl
theorem wantL_cons (ws : List Wd) {j : Nat} (x : Int) (b : Bool) : wantL (⟨⟨#[110, 97, 109, 101]⟩, x, b, (j : Int)⟩ :: ws) = (wantL ws).set j x := by
  apply List.ext_getElem?
  intro k
  rw [List.getElem?_set]
  rcases Nat.lt_or_ge k 9 with hk | hk
  · rw [wantL_at _ hk, wantL_at _ hk, wantF_cons]
    by_cases h : j = k
    · subst h
      rw [if_pos rfl, if_pos rfl, if_pos (by rw [wantL_len]; exact hk)]
    · rw [if_neg (by omega), if_neg h]
  · rw [List.getElem?_eq_none (by rw [wantL_len]; exact hk), List.getElem?_eq_none (by rw [wantL_len]; exact hk), wantL_len]
    split
    · rw [if_neg (by omega)]
    · rfl
theorem wantL_nil : wantL [] = [0, 0, 0, 0, 0, 0, 0, 0, 0] := rfl
/-- The first meaning in the order. -/
def fstW (ws : List Wd) : List Int → Int
  | [] => 0
  | k :: r => if wantF ws k = 0 then fstW ws r else wantF ws k
theorem fstW_push (ws : List Wd) (k : Int) : ∀ l : List Int, fstW ws (l ++ [k]) = if fstW ws l = 0 then wantF ws k else fstW ws l
  | [] => by
    show (if wantF ws k = 0 then 0 else wantF ws k) = _
    unfold fstW
    rw [if_pos rfl]
    split
    · rename_i h; exact h.symm
    · rfl
  | j :: l => by
    rw [List.cons_append]
    unfold fstW
    by_cases h : wantF ws j = 0
    · rw [if_pos h, if_pos h, fstW_push ws k l]
    · rw [if_neg h, if_neg h, if_neg h]
theorem find_mem {k : Int} {s : ByteArray} {x : Wd} : ∀ {l : List Wd}, find k s l = some x → x ∈ l
  | [], h => by cases h
  | y :: r, h => by
    rw [find_cons] at h
    split at h
    · obtain rfl := Option.some.inj h
      simp
    · exact List.mem_cons_of_mem _ (find_mem h)
theorem wantF_pos {ws : List Wd} (h : ∀ x ∈ ws, 1 ≤ x.xt) (k : Int) : (find k (low ⟨#[110, 97, 109, 101]⟩) ws = none ∧ wantF ws k = 0) ∨ ∃ x, find k (low ⟨#[110, 97, 109, 101]⟩) ws = some x ∧ wantF ws k = x.xt ∧ 1 ≤ x.xt := by
  unfold wantF
  cases hf : find k (low ⟨#[110, 97, 109, 101]⟩) ws with
  | none => exact .inl ⟨rfl, rfl⟩
  | some x => exact .inr ⟨x, rfl, rfl, h x (find_mem hf)⟩
/-- What is found in lists in order. -/
theorem orders_find {ws : List Wd} (h : ∀ x ∈ ws, 1 ≤ x.xt) {c : Int} {l0 : List Int} : ∀ {l : List Int}, (∀ k ∈ l, 1 ≤ k ∧ k ≤ 8) →
    (findO ⟨ws, 8, l0, c⟩ ⟨#[78, 65, 77, 69]⟩ l = none ∧ fstW ws l = 0) ∨ ∃ x, findO ⟨ws, 8, l0, c⟩ ⟨#[78, 65, 77, 69]⟩ l = some x ∧ x.xt = fstW ws l ∧ 1 ≤ x.xt
  | [], _ => .inl ⟨rfl, rfl⟩
  | k :: r, hk => by
    have hk1 := hk k (by simp)
    have hin : inD ⟨ws, 8, l0, c⟩ k ⟨#[78, 65, 77, 69]⟩ = find k (low ⟨#[110, 97, 109, 101]⟩) ws := by
      unfold inD
      rw [show knownB ⟨ws, 8, l0, c⟩ k = true from decide_eq_true hk1, if_pos rfl, low_same]
    unfold findO fstW
    rw [hin]
    rcases wantF_pos h k with ⟨h1, h2⟩ | ⟨x, h1, h2, h3⟩
    · rw [h1, if_pos h2]
      exact orders_find h fun j hj => hk j (by simp [hj])
    · rw [h1, if_neg (by omega)]
      exact .inr ⟨x, rfl, h2.symm, h3⟩
theorem orders_set {ws : List Wd} {c : Int} {l : List Int} (h8 : l.length ≤ 8) (hk : ∀ k ∈ l, 1 ≤ k ∧ k ≤ 8) : ordE (dA ws c) l = 0 ∧ ordS (dA ws c) l = ⟨ws, 8, l, c⟩ := by
  have hany : l.any (fun k => !knownB (dA ws c) k) = false := by
    cases h : l.any (fun k => !knownB (dA ws c) k) with
    | false => rfl
    | true =>
      obtain ⟨k, h1, h2⟩ := List.any_eq_true.1 h
      rw [show knownB (dA ws c) k = true from decide_eq_true (hk k h1)] at h2
      cases h2
  unfold ordE ordS
  have h8' : ¬ 8 < l.length := by omega
  rw [if_neg h8', if_neg h8', hany]
  exact ⟨rfl, rfl⟩
theorem orders_nine {ws : List Wd} {c : Int} {l : List Int} : ordE ⟨ws, 8, l, c⟩ [9] = -49 ∧ ordS ⟨ws, 8, l, c⟩ [9] = ⟨ws, 8, l, c⟩ := ⟨rfl, rfl⟩
theorem orders_long {ws : List Wd} {c : Int} {l : List Int} : ordE ⟨ws, 8, l, c⟩ [0, 0, 0, 0, 0, 0, 0, 0, 0] = -49 ∧ ordS ⟨ws, 8, l, c⟩ [0, 0, 0, 0, 0, 0, 0, 0, 0] = ⟨ws, 8, l, c⟩ := ⟨rfl, rfl⟩
theorem orders_none {ws : List Wd} {c : Int} {l : List Int} : curE ⟨ws, 8, l, c⟩ 0 = -49 ∧ curS ⟨ws, 8, l, c⟩ 0 = ⟨ws, 8, l, c⟩ := ⟨rfl, rfl⟩
theorem dL_tell {j : Nat} (h : j < 7) : listK (dL j) = j + 2 ∧ listE (dL j) = 0 := by
  unfold listK listE
  rw [if_neg (by show ¬ 8 ≤ (1 + j : Int); omega), if_neg (by show ¬ 8 ≤ (1 + j : Int); omega)]
  exact ⟨by show (1 + (j : Int)) + 1 = _; omega, rfl⟩
end Go.Proofs.Ytaledmoakhlmgaa
