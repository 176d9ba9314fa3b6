/- Words of a dictionary, the last one first: plain lemmas. -/
import Derived.Test.YtaledmoakhlmgaaFold
namespace Go.Proofs.Ytaledmoakhlmgaa
open Go Go.RowKit
set_option linter.unusedSimpArgs false
set_option linter.unusedVariables false

/-- A word: its name, its number, whether it is done at once, its list. -/
structure Wd where
  nm : ByteArray
  xt : Int
  now : Bool
  li : Int

/-- Where the last word of a list is; -1: there is none. -/
def ix (k : Int) : List Wd → Int
  | [] => -1
  | x :: r => if x.li = k then (r.length : Int) else ix k r
def hd (link : Int) (x : Wd) : List Value := [.string x.nm, .int .i64 x.xt, .bool x.now, .string (low x.nm), .int .i64 x.li, .int .i64 link]
/-- The cells of the words, the first one first. -/
def hcells : List Wd → List Value
  | [] => []
  | x :: r => hcells r ++ hd (ix x.li r) x
/-- The last word of a list that has a folded name. -/
def find (k : Int) (s : ByteArray) : List Wd → Option Wd
  | [] => none
  | x :: r => if x.li = k ∧ low x.nm = s then some x else find k s r
def names (k : Int) : List Wd → List ByteArray
  | [] => []
  | x :: r => if x.li = k then x.nm :: names k r else names k r

theorem names_cons (k : Int) (x : Wd) (r : List Wd) : names k (x :: r) = if x.li = k then x.nm :: names k r else names k r := rfl
theorem find_cons (k : Int) (s : ByteArray) (x : Wd) (r : List Wd) : find k s (x :: r) = if x.li = k ∧ low x.nm = s then some x else find k s r := rfl
theorem ix_cons (k : Int) (x : Wd) (r : List Wd) : ix k (x :: r) = if x.li = k then (r.length : Int) else ix k r := rfl
theorem hcells_len : ∀ l : List Wd, (hcells l).length = l.length * 6
  | [] => rfl
  | x :: r => by rw [hcells, List.length_append, hcells_len r, List.length_cons]; simp [hd]; omega
theorem ix_range (k : Int) : ∀ l : List Wd, -1 ≤ ix k l ∧ ix k l < l.length
  | [] => by simp [ix]
  | x :: r => by
    have := ix_range k r
    unfold ix
    split <;> simp only [List.length_cons] <;> omega
theorem hcells_at {x : Wd} {r : List Wd} {j : Nat} (hj : j < 6) : ∀ pre : List Wd, (hcells (pre ++ x :: r))[6 * r.length + j]? = (hd (ix x.li r) x)[j]?
  | [] => by
    rw [List.nil_append, hcells, List.getElem?_append_right (by rw [hcells_len]; omega), hcells_len]
    congr 1
    omega
  | p :: pre => by
    have ih := hcells_at (x := x) (r := r) hj pre
    rw [List.cons_append, hcells, List.getElem?_append_left (by rw [hcells_len]; simp; omega)]
    exact ih

/-- From a place on: the word there, and what goes on. -/
theorem ix_at (k : Int) : ∀ (r : List Wd), 0 ≤ ix k r → ∃ pre x r', r = pre ++ x :: r' ∧ x.li = k ∧ ix k r = (r'.length : Int) ∧ (∀ s, find k s r = if low x.nm = s then some x else find k s r') ∧ names k r = x.nm :: names k r'
  | [], h => by simp [ix] at h
  | y :: r, h => by
    by_cases hy : y.li = k
    · refine ⟨[], y, r, rfl, hy, by rw [ix_cons, if_pos hy], fun s => ?_, by rw [names_cons, if_pos hy]⟩
      rw [find_cons]
      by_cases hs : low y.nm = s
      · rw [if_pos ⟨hy, hs⟩, if_pos hs]
      · rw [if_neg (fun h => hs h.2), if_neg hs]
    · have h' : 0 ≤ ix k r := by unfold ix at h; rwa [if_neg hy] at h
      obtain ⟨pre, x, r', e1, e2, e3, e4, e5⟩ := ix_at k r h'
      refine ⟨y :: pre, x, r', by rw [e1]; rfl, e2, by rw [ix_cons, if_neg hy]; exact e3, fun s => ?_, by rw [names_cons, if_neg hy]; exact e5⟩
      rw [find_cons]
      rw [if_neg (fun h => hy h.1)]
      exact e4 s
theorem ix_none (k : Int) : ∀ (r : List Wd), ix k r < 0 → (∀ s, find k s r = none) ∧ names k r = []
  | [], _ => ⟨fun _ => rfl, rfl⟩
  | y :: r, h => by
    by_cases hy : y.li = k
    · unfold ix at h; rw [if_pos hy] at h; omega
    · unfold ix at h
      rw [if_neg hy] at h
      obtain ⟨h1, h2⟩ := ix_none k r h
      exact ⟨fun s => by rw [find_cons, if_neg (fun h => hy h.1)]; exact h1 s, by rw [names_cons, if_neg hy]; exact h2⟩

/-- How a dictionary stands. -/
structure Dst where
  ws : List Wd
  lists : Int
  order : List Int
  cur : Int
structure Dst.Ok (s : Dst) : Prop where
  l1 : 1 ≤ s.lists
  l8 : s.lists ≤ 8
  c1 : 1 ≤ s.cur
  c2 : s.cur ≤ s.lists
  o : ∀ k ∈ s.order, 1 ≤ k ∧ k ≤ s.lists
  ol : s.order.length ≤ 8
  wl : s.ws.length ≤ 2000
  w : ∀ x ∈ s.ws, 1 ≤ x.li ∧ x.li ≤ s.lists ∧ 1 ≤ x.nm.size ∧ x.nm.size ≤ 31
def new0 : Dst := ⟨[], 1, [1], 1⟩
theorem new0_ok : new0.Ok := ⟨by decide, by decide, by decide, by decide, by decide, by decide, by decide, fun x hx => by cases hx⟩

/-- What adding a word tells, and leaves. -/
def addE (s : Dst) (nm : ByteArray) : Int := if nm.size = 0 then -16 else if 31 < nm.size then -19 else if 2000 ≤ s.ws.length then -8 else 0
def addS (s : Dst) (nm : ByteArray) (xt : Int) : Dst := if addE s nm = 0 then { s with ws := ⟨nm, xt, false, s.cur⟩ :: s.ws } else s
theorem addS_ok {s : Dst} (h : s.Ok) (nm : ByteArray) (xt : Int) : (addS s nm xt).Ok := by
  unfold addS
  split
  · rename_i he
    unfold addE at he
    obtain ⟨h1, h2, h3, h4, h5, h6, h7, h8⟩ := h
    refine ⟨h1, h2, h3, h4, h5, h6, ?_, ?_⟩
    · show (_ :: s.ws).length ≤ 2000
      rw [List.length_cons]
      split at he; omega
      split at he; omega
      split at he; omega
      omega
    · intro x hx
      rcases List.mem_cons.1 hx with rfl | hx
      · refine ⟨h3, h4, ?_, ?_⟩
        · show 1 ≤ nm.size
          split at he; omega
          omega
        · show nm.size ≤ 31
          split at he; omega
          split at he; omega
          omega
      · exact h8 x hx
  · exact h
def knownB (s : Dst) (k : Int) : Bool := decide (1 ≤ k ∧ k ≤ s.lists)
/-- A word in a list. -/
def inD (s : Dst) (k : Int) (nm : ByteArray) : Option Wd := if knownB s k then find k (low nm) s.ws else none
/-- A word in lists, one after the other. -/
def findO (s : Dst) (nm : ByteArray) : List Int → Option Wd
  | [] => none
  | k :: r => match inD s k nm with
    | some x => some x
    | none => findO s nm r
def findD (s : Dst) (nm : ByteArray) : Option Wd := findO s nm s.order
def namesD (s : Dst) (k : Int) : List ByteArray := if knownB s k then names k s.ws else []
end Go.Proofs.Ytaledmoakhlmgaa
