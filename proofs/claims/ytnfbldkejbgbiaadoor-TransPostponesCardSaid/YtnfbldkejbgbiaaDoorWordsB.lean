/- Contracts: a text with its great letters made small, two ways; a text among texts; which words are done at once; the name of a kind and number. -/
import Derived.Test.YtnfbldkejbgbiaaDoorWordsA
import Derived.Laws.IdiomStrings
import Derived.Lib.ConvBytes
namespace Go.Proofs.YtnfbldkejbgbiaaDoor
open Go Go.RowKit
set_option linter.unusedSimpArgs false
set_option linter.unusedVariables false

theorem cont_ok {w : World} {o : Owner} {i b : Nat} {l : List ByteArray} (h : SR w o i b l) {n : Nat} (hn : l.length = n) (hm : n ≤ 9223372036854775807) (x : ByteArray) :
    Calls Tryd.prog 42 #[.slice (some ⟨b, 0, none⟩) n n, .string x] w fun e w' => e = .returned (.bool (Lib.containsS l x)) ∧ w' = w := by
  have := Tryd.slices_Contains_string b 0 n n l x w (by omega) hm (fun j hj => by
    rw [Nat.zero_add, SR.at h hj, List.getD_eq_getElem?_getD, List.getElem?_eq_getElem hj]
    rfl)
  rwa [List.take_of_length_le (by omega)] at this

def nowN : List Int := [3, 4, 5, 6, 8, 10, 12, 15, 19, 21, 23, 24, 25, 26, 27, 28, 34]
def onlyN : List Int := [3, 4, 5, 8, 10, 12, 15, 23, 34, 44, 45, 46, 47]

theorem rnow_ok (n : Int) (w : World) : Calls Tryd.prog 33 #[.int .i64 n] w fun e w' => e = .returned (.bool (decide (n ∈ nowN))) ∧ w' = w := by
  go_enter Tryd.func33, Tryd.ntmps33
  go_wp2_with fail
  all_goals (go_ret; refine ⟨?_, rfl⟩; simp_all [nowN])

theorem ronly_ok (n : Int) (w : World) : Calls Tryd.prog 34 #[.int .i64 n] w fun e w' => e = .returned (.bool (decide (n ∈ onlyN))) ∧ w' = w := by
  go_enter Tryd.func34, Tryd.ntmps34
  go_wp2_with fail
  all_goals (go_ret; refine ⟨?_, rfl⟩; simp_all [onlyN])

/-- A row of bytes that a conversion has laid: its cells, none of them frozen. -/
structure BR (w : World) (b : Nat) (l : List UInt8) : Prop where
  heap : ∃ cur, w.heap[b]? = some (.cells cur 5 (cur.size, cur.size + 1)) ∧ l.length ≤ cur.size ∧ cur.toList.take l.length = l.map fun c => Value.int .u8 c.toNat

theorem BR.lt {w : World} {b : Nat} {l : List UInt8} (h : BR w b l) : b < w.heap.size := by
  obtain ⟨cur, h1, _⟩ := h.heap
  exact (Array.getElem?_eq_some_iff.1 h1).1
theorem BR.at {w : World} {b : Nat} {l : List UInt8} (h : BR w b l) {j : Nat} (hj : j < l.length) : w.cell? ⟨b, j, none⟩ = some (.int .u8 (l[j].toNat : Nat)) ∧ w.frozen? ⟨b, j, none⟩ = false := by
  obtain ⟨cur, h1, h2, h3⟩ := h.heap
  constructor
  · have e := congrArg (fun x => x[j]?) h3
    simp only [List.getElem?_take, if_pos hj, List.getElem?_map, List.getElem?_eq_getElem hj, Option.map_some] at e
    simp only [World.cell?, h1]
    simpa using e
  · simp only [World.frozen?, h1]
    simp
    omega
theorem BR.set {w : World} {b : Nat} {l : List UInt8} (h : BR w b l) (j : Nat) (c : UInt8) (x : Int) (hx : x = (c.toNat : Nat)) : BR (w.setCell ⟨b, j, none⟩ (.int .u8 x)) b (l.set j c) := by
  obtain ⟨cur, h1, h2, h3⟩ := h.heap
  subst hx
  refine ⟨cur.setIfInBounds j (.int .u8 (c.toNat : Nat)), ?_, by simpa using h2, ?_⟩
  · have := heap_setCell_same h1 j (Value.int .u8 (c.toNat : Nat))
    simpa using this
  · rw [Array.toList_setIfInBounds, List.length_set, List.take_set, h3, List.map_set]
theorem BR.frame {S : List Nat} {w w' : World} {o o' : Owner} {b : Nat} {l : List UInt8} (h : BR w b l) (st : Step S w o w' o') (hb : o b ∉ S) : BR w' b l := by
  obtain ⟨cur, h1, h2, h3⟩ := h.heap
  exact ⟨cur, (st.blk b h.lt hb).trans h1, h2, h3⟩

theorem br_new (w : World) (s : ByteArray) : ∃ w' cap, (convert 9 47 (.string s)).run Tryd.prog w = .ok (.slice (some ⟨w.heap.size, 0, none⟩) s.size cap) w' ∧ BR w' w.heap.size (lst s) ∧ (∀ o, Step [] w o w' o) := by
  refine ⟨_, _, Lib.run_convert_string_bytes w 9 47 5 s Tryd.underlying9 Tryd.underlying47 Tryd.underlying5, ⟨⟨_, Lib.bytesWorld_at_new w 5 s, ?_, ?_⟩⟩, fun o => ⟨rfl, ?_, rfl, ?_, fun _ _ => rfl, fun b hb _ => Lib.bytesWorld_at_old w 5 s b hb⟩⟩
  · show s.data.toList.length ≤ (Lib.bytesCells w 5 s).size
    unfold Lib.bytesCells
    rw [Array.size_append, Array.size_map, Array.length_toList]
    exact Nat.le_add_right _ _
  · show (Lib.bytesCells w 5 s).toList.take s.data.toList.length = s.data.toList.map _
    unfold Lib.bytesCells
    rw [Array.toList_append, Array.toList_map, List.take_append_of_le_length (by rw [List.length_map]; exact Nat.le_refl _), List.take_of_length_le (by rw [List.length_map]; exact Nat.le_refl _)]
  · rfl
  · rw [Lib.bytesWorld_size]; omega

theorem br_back {w : World} {b : Nat} {l : List UInt8} (h : BR w b l) (n cap : Nat) (hn : n = l.length) : (convert 47 9 (.slice (some ⟨b, 0, none⟩) n cap)).run Tryd.prog w = .ok (.string ⟨l.toArray⟩) w := by
  subst hn
  exact run_convert_bytes_back w 47 9 5 ⟨b, 0, none⟩ cap l Tryd.underlying47 Tryd.underlying5 Tryd.underlying9 (fun j hj => by
    have := (h.at hj).1
    simpa [Addr.add_lit] using this)
end Go.Proofs.YtnfbldkejbgbiaaDoor
