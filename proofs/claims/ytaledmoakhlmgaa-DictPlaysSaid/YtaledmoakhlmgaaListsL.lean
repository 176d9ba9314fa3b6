/- DictLists: the plain law. A dictionary of its own for each list tells what the list tells. -/
import Derived.Test.YtaledmoakhlmgaaDicS
namespace Go.Proofs.Ytaledmoakhlmgaa
open Go
set_option linter.unusedSimpArgs false
set_option linter.unusedVariables false

def li1 (x : Wd) : Wd := { x with li := 1 }
/-- The words of a list, in a dictionary of their own. -/
def ownW (k : Int) : List Wd → List Wd
  | [] => []
  | x :: r => if x.li = k then li1 x :: ownW k r else ownW k r
theorem ownW_names (k : Int) : ∀ l : List Wd, names 1 (ownW k l) = names k l
  | [] => rfl
  | x :: r => by
    rw [ownW, names_cons]
    by_cases h : x.li = k
    · rw [if_pos h, if_pos h, names_cons, if_pos (show (li1 x).li = 1 from rfl), ownW_names k r]
      rfl
    · rw [if_neg h, if_neg h, ownW_names k r]
theorem ownW_find (k : Int) (s : ByteArray) : ∀ l : List Wd, find 1 s (ownW k l) = (find k s l).map li1
  | [] => rfl
  | x :: r => by
    rw [ownW, find_cons]
    by_cases h : x.li = k
    · rw [if_pos h, find_cons]
      by_cases hs : low x.nm = s
      · rw [if_pos ⟨rfl, hs⟩, if_pos ⟨h, hs⟩]
        rfl
      · rw [if_neg (fun e => hs e.2), if_neg (fun e => hs e.2)]
        exact ownW_find k s r
    · rw [if_neg h, if_neg (fun e => h e.1)]
      exact ownW_find k s r
theorem ownW_len (k : Int) : ∀ l : List Wd, (ownW k l).length ≤ l.length
  | [] => Nat.le_refl _
  | x :: r => by
    have := ownW_len k r
    rw [ownW]
    split <;> simp <;> omega
theorem entV_li1 : ∀ x : Option Wd, entV (x.map li1) = entV x
  | none => rfl
  | some _ => rfl
def dA (ws : List Wd) (c : Int) : Dst := ⟨ws, 8, [1], c⟩
def ownD (k : Int) (ws : List Wd) : Dst := ⟨ownW k ws, 1, [1], 1⟩
theorem knownA {ws : List Wd} {c k : Int} (h1 : 1 ≤ k) (h2 : k ≤ 8) : knownB (dA ws c) k = true := decide_eq_true ⟨h1, h2⟩
theorem lists_names {ws : List Wd} {c k : Int} (h1 : 1 ≤ k) (h2 : k ≤ 8) : namesD (ownD k ws) 1 = namesD (dA ws c) k := by
  unfold namesD
  rw [knownA h1 h2, show knownB (ownD k ws) 1 = true from rfl, if_pos rfl, if_pos rfl]
  exact ownW_names k ws
theorem lists_find {ws : List Wd} {c k : Int} (h1 : 1 ≤ k) (h2 : k ≤ 8) (nm : ByteArray) : entV (findD (ownD k ws) nm) = entV (inD (dA ws c) k nm) := by
  have : findD (ownD k ws) nm = (find k (low nm) ws).map li1 := by
    unfold findD
    show findO (ownD k ws) nm [1] = _
    unfold findO inD
    rw [show knownB (ownD k ws) 1 = true from rfl, if_pos rfl]
    show (match find 1 (low nm) (ownW k ws) with
      | some x => some x
      | none => findO (ownD k ws) nm []) = _
    rw [ownW_find]
    cases find k (low nm) ws <;> rfl
  rw [this, entV_li1]
  unfold inD
  rw [knownA h1 h2, if_pos rfl]
  rfl
theorem lists_cur {ws : List Wd} {c k : Int} (h1 : 1 ≤ k) (h2 : k ≤ 8) : curE (dA ws c) k = 0 ∧ curS (dA ws c) k = dA ws k := by
  unfold curE curS
  rw [knownA h1 h2, if_pos rfl, if_pos rfl]
  exact ⟨rfl, rfl⟩
theorem lists_add {ws : List Wd} {k : Int} {n : ByteArray} (h0 : n.size ≠ 0) (h31 : n.size ≤ 31) (hl : ws.length < 2000) (xt : Int) :
    addE (dA ws k) n = 0 ∧ addS (dA ws k) n xt = dA (⟨n, xt, false, k⟩ :: ws) k := by
  have hE : addE (dA ws k) n = 0 := by
    unfold addE
    rw [if_neg h0, if_neg (by omega), if_neg (by show ¬ 2000 ≤ ws.length; omega)]
  refine ⟨hE, ?_⟩
  unfold addS
  rw [if_pos hE]
  rfl
theorem lists_own {ws : List Wd} {k : Int} {n : ByteArray} (h0 : n.size ≠ 0) (h31 : n.size ≤ 31) (hl : ws.length < 2000) (xt : Int) :
    addE (ownD k ws) n = 0 ∧ addS (ownD k ws) n xt = ownD k (⟨n, xt, false, k⟩ :: ws) := by
  have hE : addE (ownD k ws) n = 0 := by
    unfold addE
    rw [if_neg h0, if_neg (by omega), if_neg (by show ¬ 2000 ≤ (ownW k ws).length; have := ownW_len k ws; omega)]
  refine ⟨hE, ?_⟩
  unfold addS
  rw [if_pos hE]
  show (⟨⟨n, xt, false, 1⟩ :: ownW k ws, 1, [1], 1⟩ : Dst) = ⟨ownW k (⟨n, xt, false, k⟩ :: ws), 1, [1], 1⟩
  rw [ownW, if_pos rfl]
  rfl
theorem lists_other {ws : List Wd} {j k : Int} (h : j ≠ k) (n : ByteArray) (xt : Int) (b : Bool) : ownD j (⟨n, xt, b, k⟩ :: ws) = ownD j ws := by
  unfold ownD
  rw [ownW, if_neg (fun e => h e.symm)]
/-- Lists that are made one after the other. -/
def dL (j : Nat) : Dst := ⟨[], 1 + j, [1], 1⟩
theorem dL_list {j : Nat} (h : j < 7) : listS (dL j) = dL (j + 1) := by
  unfold listS
  rw [if_neg (by show ¬ 8 ≤ (1 + j : Int); omega)]
  unfold dL
  have e : (1 + (j : Int)) + 1 = 1 + ((j + 1 : Nat) : Int) := by omega
  exact congrArg (fun z => (⟨[], z, [1], 1⟩ : Dst)) e
theorem dL_end : dL 7 = dA [] 1 := rfl
end Go.Proofs.Ytaledmoakhlmgaa
