/- The words that are there from the beginning, as lists of bytes; plain facts about them. -/
import Derived.Test.YtnfbldkejbgbiaaDoorCore
import Derived.Lib.SplitLaws
import Derived.Lib.SlicesS
import Derived.KernelRfl
namespace Go.Proofs.YtnfbldkejbgbiaaDoor
open Go Go.RowKit
set_option linter.unusedSimpArgs false
set_option linter.unusedVariables false

def w8 (l : List UInt8) : ByteArray := ⟨l.toArray⟩
/-- The bytes of a text. -/
def lst (s : ByteArray) : List UInt8 := s.data.toList
theorem lst_inj {a b : ByteArray} (h : lst a = lst b) : a = b := by
  cases a; cases b
  simp only [lst] at h
  congr 1
  exact Array.ext' h
theorem map_lst_inj : ∀ {a b : List ByteArray}, a.map lst = b.map lst → a = b
  | [], [], _ => rfl
  | [], _ :: _, h => by cases h
  | _ :: _, [], h => by cases h
  | x :: a, y :: b, h => by
    simp only [List.map_cons, List.cons.injEq] at h
    rw [lst_inj h.1, map_lst_inj h.2]

def namesP : List ByteArray := [
  w8 [110, 101, 103, 97, 116, 101], w8 [97, 98, 115], w8 [105, 110, 118, 101, 114, 116], w8 [49, 43], w8 [49, 45], w8 [50, 42],
  w8 [50, 47], w8 [48, 61], w8 [48, 60], w8 [48, 60, 62], w8 [43], w8 [45],
  w8 [42], w8 [47], w8 [109, 111, 100], w8 [97, 110, 100], w8 [111, 114], w8 [120, 111, 114],
  w8 [108, 115, 104, 105, 102, 116], w8 [114, 115, 104, 105, 102, 116], w8 [61], w8 [60, 62], w8 [60], w8 [62],
  w8 [117, 60], w8 [109, 105, 110], w8 [109, 97, 120], w8 [100, 117, 112], w8 [100, 114, 111, 112], w8 [115, 119, 97, 112],
  w8 [111, 118, 101, 114], w8 [114, 111, 116], w8 [110, 105, 112], w8 [116, 117, 99, 107], w8 [63, 100, 117, 112], w8 [50, 100, 117, 112],
  w8 [50, 100, 114, 111, 112], w8 [50, 115, 119, 97, 112], w8 [50, 111, 118, 101, 114], w8 [112, 105, 99, 107], w8 [114, 111, 108, 108], w8 [100, 101, 112, 116, 104],
  w8 [115, 62, 100], w8 [100, 43], w8 [100, 45], w8 [100, 110, 101, 103, 97, 116, 101], w8 [100, 97, 98, 115], w8 [100, 60],
  w8 [100, 117, 60], w8 [100, 61], w8 [100, 50, 42], w8 [100, 50, 47], w8 [109, 42], w8 [117, 109, 42],
  w8 [117, 109, 47, 109, 111, 100], w8 [102, 109, 47, 109, 111, 100], w8 [115, 109, 47, 114, 101, 109], w8 [42, 47], w8 [42, 47, 109, 111, 100], w8 [47, 109, 111, 100],
  w8 [102, 110, 101, 103, 97, 116, 101], w8 [102, 97, 98, 115], w8 [102, 43], w8 [102, 45], w8 [102, 42], w8 [102, 47],
  w8 [102, 109, 105, 110], w8 [102, 109, 97, 120], w8 [102, 60], w8 [102, 61], w8 [115, 62, 102], w8 [102, 62, 115],
  w8 [64], w8 [33], w8 [99, 64], w8 [99, 33], w8 [43, 33], w8 [50, 64],
  w8 [50, 33], w8 [102, 105, 108, 108], w8 [109, 111, 118, 101], w8 [104, 101, 114, 101], w8 [97, 108, 108, 111, 116], w8 [44],
  w8 [99, 44], w8 [97, 108, 105, 103, 110], w8 [97, 108, 105, 103, 110, 101, 100], w8 [99, 101, 108, 108, 115], w8 [99, 111, 117, 110, 116], w8 [101, 109, 105, 116],
  w8 [46], w8 [117, 46], w8 [100, 46], w8 [102, 46], w8 [99, 114], w8 [115, 112, 97, 99, 101],
  w8 [115, 112, 97, 99, 101, 115], w8 [116, 121, 112, 101], w8 [46, 115], w8 [100, 101, 99, 105, 109, 97, 108], w8 [104, 101, 120], w8 [60, 35],
  w8 [35], w8 [35, 115], w8 [104, 111, 108, 100], w8 [115, 105, 103, 110], w8 [35, 62]]
def namesC : List ByteArray := [
  w8 [62, 114], w8 [114, 62], w8 [114, 64], w8 [105], w8 [106], w8 [117, 110, 108, 111, 111, 112],
  w8 [101, 120, 101, 99, 117, 116, 101], w8 [99, 97, 116, 99, 104], w8 [116, 104, 114, 111, 119]]
def namesF : List ByteArray := [
  w8 [105, 102], w8 [101, 108, 115, 101], w8 [116, 104, 101, 110], w8 [98, 101, 103, 105, 110], w8 [119, 104, 105, 108, 101], w8 [114, 101, 112, 101, 97, 116],
  w8 [117, 110, 116, 105, 108], w8 [97, 103, 97, 105, 110], w8 [100, 111], w8 [63, 100, 111], w8 [108, 111, 111, 112], w8 [43, 108, 111, 111, 112],
  w8 [108, 101, 97, 118, 101], w8 [99, 97, 115, 101], w8 [111, 102], w8 [101, 110, 100, 111, 102], w8 [101, 110, 100, 99, 97, 115, 101]]
def namesH : List ByteArray := [
  w8 [58], w8 [58, 110, 111, 110, 97, 109, 101], w8 [59], w8 [101, 120, 105, 116], w8 [114, 101, 99, 117, 114, 115, 101], w8 [91],
  w8 [93], w8 [108, 105, 116, 101, 114, 97, 108], w8 [99, 111, 109, 112, 105, 108, 101, 44], w8 [112, 111, 115, 116, 112, 111, 110, 101], w8 [39], w8 [91, 39, 93],
  w8 [105, 109, 109, 101, 100, 105, 97, 116, 101], w8 [99, 114, 101, 97, 116, 101], w8 [100, 111, 101, 115, 62], w8 [99, 111, 110, 115, 116, 97, 110, 116], w8 [118, 97, 114, 105, 97, 98, 108, 101], w8 [118, 97, 108, 117, 101],
  w8 [116, 111], w8 [100, 101, 102, 101, 114], w8 [105, 115], w8 [99, 104, 97, 114], w8 [91, 99, 104, 97, 114, 93], w8 [40],
  w8 [92], w8 [115, 34], w8 [115, 92, 34], w8 [46, 34], w8 [101, 118, 97, 108, 117, 97, 116, 101], w8 [112, 97, 114, 115, 101],
  w8 [112, 97, 114, 115, 101, 45, 110, 97, 109, 101], w8 [115, 97, 118, 101, 45, 105, 110, 112, 117, 116], w8 [114, 101, 115, 116, 111, 114, 101, 45, 105, 110, 112, 117, 116], w8 [123, 58], w8 [119, 111, 114, 100, 108, 105, 115, 116], w8 [115, 101, 116, 45, 99, 117, 114, 114, 101, 110, 116],
  w8 [115, 101, 116, 45, 111, 114, 100, 101, 114], w8 [103, 101, 116, 45, 111, 114, 100, 101, 114], w8 [109, 97, 114, 107, 101, 114], w8 [115, 101, 116, 45, 114, 101, 99, 111, 103, 110, 105, 122, 101, 114, 115], w8 [103, 101, 116, 45, 114, 101, 99, 111, 103, 110, 105, 122, 101, 114, 115], w8 [107, 101, 121],
  w8 [98, 121, 101], w8 [40, 100, 111, 101, 115, 62, 41], w8 [40, 116, 111, 41], w8 [40, 105, 115, 41], w8 [40, 109, 97, 114, 107, 101, 114, 41]]
def nowsL : List ByteArray := [
  w8 [59], w8 [101, 120, 105, 116], w8 [114, 101, 99, 117, 114, 115, 101], w8 [91], w8 [108, 105, 116, 101, 114, 97, 108], w8 [112, 111, 115, 116, 112, 111, 110, 101],
  w8 [91, 39, 93], w8 [100, 111, 101, 115, 62], w8 [116, 111], w8 [105, 115], w8 [91, 99, 104, 97, 114, 93], w8 [40],
  w8 [92], w8 [115, 34], w8 [115, 92, 34], w8 [46, 34], w8 [123, 58]]
def onlysL : List ByteArray := [
  w8 [62, 114], w8 [114, 62], w8 [114, 64], w8 [105], w8 [106], w8 [117, 110, 108, 111, 111, 112],
  w8 [59], w8 [101, 120, 105, 116], w8 [114, 101, 99, 117, 114, 115, 101], w8 [108, 105, 116, 101, 114, 97, 108], w8 [112, 111, 115, 116, 112, 111, 110, 101], w8 [91, 39, 93],
  w8 [100, 111, 101, 115, 62], w8 [91, 99, 104, 97, 114, 93], w8 [123, 58], w8 [40, 100, 111, 101, 115, 62, 41], w8 [40, 116, 111, 41], w8 [40, 105, 115, 41],
  w8 [40, 109, 97, 114, 107, 101, 114, 41]]

/-- The names of a kind. -/
def nm (k : Int) : List ByteArray := if k = 1 then namesP else if k = 2 then namesC else if k = 3 then namesF else if k = 4 then namesH else []

/-- A word of the table. -/
structure B where
  name : ByteArray
  k : Nat
  n : Nat
  now : Bool
  only : Bool
def B.cells (b : B) : List Value := [.string b.name, .int .i64 b.k, .int .i64 b.n, .bool b.now, .bool b.only]
def B.val (b : B) : Value := .agg #[.string b.name, .int .i64 b.k, .int .i64 b.n, .bool b.now, .bool b.only]
def bcells (l : List B) : List Value := l.flatMap B.cells

def nowB (k : Nat) (s : ByteArray) : Bool := k == 3 || (k != 1 && Lib.containsS nowsL s)
def onlyB (k : Nat) (s : ByteArray) : Bool := k == 3 || (k != 1 && Lib.containsS onlysL s)
def mkB (k i : Nat) (s : ByteArray) : B := ⟨s, k, i + 1, nowB k s, onlyB k s⟩
/-- The first i words of a kind; the words of the first kinds; all. -/
def part (k i : Nat) : List B := (List.range i).map fun j => mkB k j ((nm k).getD j ByteArray.empty)
def upto : Nat → List B
  | 0 => []
  | k + 1 => upto k ++ part (k + 1) (nm (k + 1 : Nat)).length
def built : List B := upto 4

theorem part_succ (k i : Nat) : part k (i + 1) = part k i ++ [mkB k i ((nm k).getD i ByteArray.empty)] := by
  unfold part
  rw [List.range_succ, List.map_append]
  rfl
theorem part_length (k i : Nat) : (part k i).length = i := by
  unfold part
  rw [List.length_map, List.length_range]
theorem bcells_app (l r : List B) : bcells (l ++ r) = bcells l ++ bcells r := List.flatMap_append
theorem bcells_one (b : B) : bcells [b] = b.cells := List.append_nil _
theorem bcells_cons (x : B) (l : List B) : bcells (x :: l) = x.cells ++ bcells l := rfl
theorem bcells_length (l : List B) : (bcells l).length = l.length * 5 := by
  induction l with
  | nil => rfl
  | cons x l ih =>
    rw [bcells_cons, List.length_append, ih, List.length_cons, show x.cells.length = 5 from rfl]
    omega
theorem bcells_get (l : List B) (i r : Nat) (hi : i < l.length) (hr : r < 5) : (bcells l)[i * 5 + r]? = (l[i].cells)[r]? := by
  induction l generalizing i with
  | nil => exact absurd hi (by simp)
  | cons x l ih =>
    rw [bcells_cons]
    cases i with
    | zero =>
      rw [List.getElem?_append_left (by show 0 * 5 + r < 5; omega)]
      simp
    | succ i =>
      rw [List.getElem?_append_right (by show 5 ≤ _; omega)]
      have e : (i + 1) * 5 + r - x.cells.length = i * 5 + r := by show (i + 1) * 5 + r - 5 = _; omega
      rw [e, ih i (by simpa using hi)]
      simp

/-- Great letters made small. -/
def lowc (c : UInt8) : UInt8 := if 65 ≤ c.toNat ∧ c.toNat ≤ 90 then UInt8.ofNat (c.toNat + 32) else c
def low (s : ByteArray) : ByteArray := ⟨((lst s).map lowc).toArray⟩
theorem low_lst (s : ByteArray) : lst (low s) = (lst s).map lowc := by simp [low, lst]
theorem low_size (s : ByteArray) : (low s).size = s.size := by
  show (((lst s).map lowc).toArray).size = s.size
  rw [List.size_toArray, List.length_map]
  rfl

theorem built_length : built.length = 180 := by kernel_rfl
theorem nm_lengths : (nm 1).length = 107 ∧ (nm 2).length = 9 ∧ (nm 3).length = 17 ∧ (nm 4).length = 47 := by refine ⟨?_, ?_, ?_, ?_⟩ <;> kernel_rfl
end Go.Proofs.YtnfbldkejbgbiaaDoor
