/- DictNames: the plain law. Words whose meanings are their places, the last one first. -/
import Derived.Test.YtaledmoakhlmgaaDicL
namespace Go.Proofs.Ytaledmoakhlmgaa
open Go
set_option linter.unusedSimpArgs false
set_option linter.unusedVariables false

def mkW : List ByteArray → List Wd
  | [] => []
  | n :: r => ⟨n, (r.length : Int), false, 1⟩ :: mkW r
theorem mkW_len : ∀ hs : List ByteArray, (mkW hs).length = hs.length
  | [] => rfl
  | n :: r => by rw [mkW, List.length_cons, List.length_cons, mkW_len r]
theorem mkW_names : ∀ hs : List ByteArray, names 1 (mkW hs) = hs
  | [] => rfl
  | n :: r => by rw [mkW, names_cons, if_pos rfl, mkW_names r]
/-- The dictionary that holds just these. -/
def dS (hs : List ByteArray) : Dst := ⟨mkW hs, 1, [1], 1⟩
theorem dS_nil : dS [] = new0 := rfl
theorem dS_names (hs : List ByteArray) : namesD (dS hs) 1 = hs := by
  unfold namesD
  rw [show knownB (dS hs) 1 = true from rfl, if_pos rfl]
  exact mkW_names hs
theorem dS_names0 (hs : List ByteArray) : namesD (dS hs) 0 = [] := rfl
theorem dS_names2 (hs : List ByteArray) : namesD (dS hs) 2 = [] := rfl
theorem dS_len (hs : List ByteArray) : (dS hs).ws.length = hs.length := mkW_len hs
theorem dS_add {hs : List ByteArray} {n : ByteArray} (h0 : n.size ≠ 0) (h31 : n.size ≤ 31) (hl : hs.length < 2000) :
    addE (dS hs) n = 0 ∧ addS (dS hs) n hs.length = dS (n :: hs) := by
  have hE : addE (dS hs) n = 0 := by
    unfold addE
    rw [if_neg h0, if_neg (by omega), if_neg (by rw [dS_len]; omega)]
  refine ⟨hE, ?_⟩
  unfold addS
  rw [if_pos hE]
  rfl
/-- What is found of a word that is in: the last one that folds alike. -/
theorem mkW_find : ∀ (pre : List ByteArray) (n : ByteArray) (r : List ByteArray), ∃ (x : ByteArray) (p r' : List ByteArray),
    find 1 (low n) (mkW (pre ++ n :: r)) = some ⟨x, (r'.length : Int), false, 1⟩ ∧ pre ++ n :: r = p ++ x :: r' ∧ x.size = n.size ∧ r.length ≤ r'.length
  | [], n, r => ⟨n, [], r, by rw [List.nil_append, mkW, find_cons, if_pos ⟨rfl, rfl⟩], rfl, rfl, Nat.le_refl _⟩
  | q :: pre, n, r => by
    by_cases hq : low q = low n
    · refine ⟨q, [], pre ++ n :: r, ?_, rfl, ?_, by rw [List.length_append, List.length_cons]; omega⟩
      · rw [List.cons_append, mkW, find_cons, if_pos ⟨rfl, hq⟩]
      · rw [← low_size q, hq, low_size]
    · obtain ⟨x, p, r', h1, h2, h3, h4⟩ := mkW_find pre n r
      refine ⟨x, q :: p, r', ?_, by rw [List.cons_append, h2, List.cons_append], h3, h4⟩
      rw [List.cons_append, mkW, find_cons, if_neg (fun h => hq h.2)]
      exact h1
theorem dS_find (pre : List ByteArray) (n : ByteArray) (r : List ByteArray) : ∃ (x : ByteArray) (p r' : List ByteArray),
    findD (dS (pre ++ n :: r)) n = some ⟨x, (r'.length : Int), false, 1⟩ ∧ pre ++ n :: r = p ++ x :: r' ∧ x.size = n.size ∧ r.length ≤ r'.length := by
  obtain ⟨x, p, r', h1, h2⟩ := mkW_find pre n r
  refine ⟨x, p, r', ?_, h2⟩
  show findO (dS (pre ++ n :: r)) n [1] = _
  unfold findO inD
  rw [show knownB (dS (pre ++ n :: r)) 1 = true from rfl, if_pos rfl]
  show (match find 1 (low n) (mkW (pre ++ n :: r)) with
    | some x => some x
    | none => findO (dS (pre ++ n :: r)) n []) = _
  rw [h1]
/-- A name's first 31 letters. -/
def cut31 (s : ByteArray) : ByteArray := s.extract 0 (min (s.size : Int) 31).toNat
theorem cut31_size (s : ByteArray) : (cut31 s).size ≤ 31 := by
  unfold cut31
  rw [ByteArray.size_extract]
  omega
/-- The first loop: which words are added, the last one first. -/
def step31 (i : Nat) (n : ByteArray) (hs : List ByteArray) : List ByteArray := if i < 30 ∧ (cut31 n).size ≠ 0 then cut31 n :: hs else hs
def run31 : Nat → List ByteArray → List ByteArray → List ByteArray
  | _, [], hs => hs
  | i, n :: r, hs => run31 (i + 1) r (step31 i n hs)
theorem step31_len (i : Nat) (n : ByteArray) (hs : List ByteArray) (h : hs.length ≤ min i 30) : (step31 i n hs).length ≤ min (i + 1) 30 := by
  unfold step31
  split
  · rename_i h1
    rw [List.length_cons]
    omega
  · omega
end Go.Proofs.Ytaledmoakhlmgaa
