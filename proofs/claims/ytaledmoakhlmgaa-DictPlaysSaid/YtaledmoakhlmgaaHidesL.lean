/- DictHides: the plain law. -/
import Derived.Test.YtaledmoakhlmgaaDicW
namespace Go.Proofs.Ytaledmoakhlmgaa
open Go Go.RowKit
set_option linter.unusedSimpArgs false
set_option linter.unusedVariables false

def upc (c : UInt8) : UInt8 := if 97 ≤ c.toNat ∧ c.toNat ≤ 122 then UInt8.ofNat (c.toNat - 32) else c
def up (s : ByteArray) : ByteArray := ⟨((lst s).map upc).toArray⟩
theorem up_lst (s : ByteArray) : lst (up s) = (lst s).map upc := by simp [up, lst]
theorem up_size (s : ByteArray) : (up s).size = s.size := by
  show (((lst s).map upc).toArray).size = s.size
  rw [List.size_toArray, List.length_map]
  rfl
theorem upc_down {c : UInt8} (h : 97 ≤ c.toNat ∧ c.toNat ≤ 122) : (upc c).toNat = c.toNat - 32 := by
  rw [upc, if_pos h]
  simp
  omega
theorem upc_no {c : UInt8} (h : ¬ (97 ≤ c.toNat ∧ c.toNat ≤ 122)) : upc c = c := by rw [upc, if_neg h]
theorem lowc_upc (c : UInt8) : lowc (upc c) = lowc c := by
  by_cases h : 97 ≤ c.toNat ∧ c.toNat ≤ 122
  · have hu := upc_down h
    apply UInt8.toNat_inj.1
    rw [lowc_up (by rw [hu]; omega), hu, lowc_no (by omega)]
    omega
  · rw [upc_no h]
theorem low_up (s : ByteArray) : low (up s) = low s := by
  apply lst_inj
  rw [low_lst, low_lst, up_lst, List.map_map]
  apply List.map_congr_left
  intro c _
  exact lowc_upc c

def mixU (k : Nat) (l : List UInt8) : List UInt8 := (l.take k).map upc ++ l.drop k
theorem mixU_length (k : Nat) (l : List UInt8) : (mixU k l).length = l.length := by
  simp only [mixU, List.length_append, List.length_map, List.length_take, List.length_drop]; omega
theorem mixU_at {k : Nat} {l : List UInt8} (h : k < l.length) : (mixU k l)[k]? = some l[k] := by
  rw [mixU, List.getElem?_append_right (by simp; omega), List.getElem?_drop]
  simp only [List.length_map, List.length_take]
  rw [Nat.min_eq_left (by omega), Nat.sub_self, Nat.add_zero, List.getElem?_eq_getElem h]
theorem mixU_succ {k : Nat} {l : List UInt8} (h : k < l.length) : mixU (k + 1) l = (mixU k l).set k (upc l[k]) := by
  apply List.ext_getElem?
  intro j
  rw [List.getElem?_set]
  simp only [mixU_length, h, if_true]
  by_cases hj : k = j
  · subst hj
    rw [if_pos rfl, mixU, List.getElem?_append_left (by simp; omega), List.getElem?_map, List.getElem?_take_of_lt (by omega), List.getElem?_eq_getElem h]
    rfl
  · rw [if_neg hj]
    by_cases hl : j < k
    · rw [mixU, mixU, List.getElem?_append_left (by simp; omega), List.getElem?_append_left (by simp; omega), List.getElem?_map, List.getElem?_map, List.getElem?_take_of_lt (by omega), List.getElem?_take_of_lt hl]
    · rw [mixU, mixU, List.getElem?_append_right (by simp; omega), List.getElem?_append_right (by simp; omega), List.getElem?_drop, List.getElem?_drop]
      simp only [List.length_map, List.length_take]
      congr 1
      omega
theorem mixU_zero (l : List UInt8) : mixU 0 l = l := rfl
theorem mixU_all (l : List UInt8) : mixU l.length l = l.map upc := by simp [mixU]
theorem mixU_same {k : Nat} {l : List UInt8} (h : k < l.length) (hc : upc l[k] = l[k]) : mixU (k + 1) l = mixU k l := by
  rw [mixU_succ h, hc]
  apply List.ext_getElem?
  intro j
  rw [List.getElem?_set]
  by_cases hj : k = j
  · subst hj
    rw [if_pos rfl, mixU_length, if_pos h, mixU_at h]
  · rw [if_neg hj]

def sH (ws : List Wd) : Dst := ⟨ws, 1, [1], 1⟩
theorem sH_add (ws : List Wd) (nm : ByteArray) (xt : Int) : ∃ ws', addS (sH ws) nm xt = sH ws' ∧ ws'.length ≤ ws.length + 1 := by
  unfold addS
  split
  · exact ⟨⟨nm, xt, false, 1⟩ :: ws, rfl, by simp⟩
  · exact ⟨ws, rfl, by omega⟩
theorem sH_bad0 {ws : List Wd} {nm : ByteArray} (h : nm.size = 0) (xt : Int) : addE (sH ws) nm = -16 ∧ addS (sH ws) nm xt = sH ws := by
  have hE : addE (sH ws) nm = -16 := by unfold addE; rw [if_pos h]
  refine ⟨hE, ?_⟩
  unfold addS
  rw [hE, if_neg (by decide)]
theorem sH_bad1 {ws : List Wd} {nm : ByteArray} (h : 31 < nm.size) (xt : Int) : addE (sH ws) nm = -19 ∧ addS (sH ws) nm xt = sH ws := by
  have hE : addE (sH ws) nm = -19 := by unfold addE; rw [if_neg (by omega), if_pos h]
  refine ⟨hE, ?_⟩
  unfold addS
  rw [hE, if_neg (by decide)]
theorem sH_good {ws : List Wd} {nm : ByteArray} (h0 : nm.size ≠ 0) (h31 : nm.size ≤ 31) (hl : ws.length < 2000) (xt : Int) : addE (sH ws) nm = 0 ∧ addS (sH ws) nm xt = sH (⟨nm, xt, false, 1⟩ :: ws) := by
  have hE : addE (sH ws) nm = 0 := by
    unfold addE
    rw [if_neg h0, if_neg (by omega), if_neg (by show ¬ 2000 ≤ ws.length; omega)]
  refine ⟨hE, ?_⟩
  unfold addS
  rw [if_pos hE]
  rfl
theorem sH_find (ws : List Wd) (nm : ByteArray) : findD (sH ws) nm = find 1 (low nm) ws := by
  show findO (sH ws) nm [1] = _
  unfold findO inD
  rw [show knownB (sH ws) 1 = true from rfl, if_pos rfl]
  show (match find 1 (low nm) ws with
    | some x => some x
    | none => findO (sH ws) nm []) = _
  cases find 1 (low nm) ws <;> rfl
theorem sH_top {ws : List Wd} {U nm : ByteArray} (h : low U = low nm) (x : Int) (b : Bool) : findD (sH (⟨U, x, b, 1⟩ :: ws)) nm = some ⟨U, x, b, 1⟩ := by
  rw [sH_find, find_cons, if_pos ⟨rfl, h⟩]
theorem sH_now (x : Wd) (ws : List Wd) : nowE (sH (x :: ws)) = 0 ∧ nowS (sH (x :: ws)) = sH ({ x with now := true } :: ws) := ⟨rfl, rfl⟩
theorem sH_back {ws : List Wd} (h : ∀ x ∈ ws, x.li ≤ 1) (a c : Wd) : backE (sH (a :: c :: ws)) ws.length 1 = 0 ∧ backS (sH (a :: c :: ws)) ws.length 1 = sH ws := by
  have hk : kept (sH (a :: c :: ws)) ws.length = ws := by
    unfold kept
    show (a :: c :: ws).drop ((a :: c :: ws).length - (ws.length : Int).toNat) = ws
    rw [Int.toNat_natCast, List.length_cons, List.length_cons, show ws.length + 1 + 1 - ws.length = 2 by omega]
    rfl
  have hE : backE (sH (a :: c :: ws)) ws.length 1 = 0 := by
    unfold backE
    rw [if_neg (by omega), if_neg (by show ¬ ((a :: c :: ws).length : Int) < ws.length; simp; omega), if_neg (by decide), if_neg (by show ¬ (1 : Int) < 1; decide), hk, if_neg]
    rw [List.any_eq_true]
    rintro ⟨x, h1, h2⟩
    have := h x h1
    simp at h2
    omega
  refine ⟨hE, ?_⟩
  unfold backS
  rw [if_pos hE, hk]
  rfl
/-- A word's parts; nothing's. -/
def nmO : Option Wd → ByteArray | some x => x.nm | none => ⟨#[]⟩
def xtO : Option Wd → Int | some x => x.xt | none => 0
def nwO : Option Wd → Bool | some x => x.now | none => false
theorem entV_eq : ∀ E : Option Wd, entV E = .tuple #[.agg #[.string (nmO E), .int .i64 (xtO E), .bool (nwO E)], .bool E.isSome]
  | none => rfl
  | some _ => rfl
end Go.Proofs.Ytaledmoakhlmgaa
