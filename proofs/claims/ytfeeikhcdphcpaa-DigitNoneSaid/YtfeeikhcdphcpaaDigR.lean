/- A row of bytes, reversed in place. -/
import Derived.Test.YtfeeikhcdphcpaaPairK
import Derived.Test.YtfeeikhcdphcpaaRowx
import Derived.Test.YtfeeikhcdphcpaaTextW
import Derived.Great.Walk
namespace Go.Proofs.Ytfeeikhcdphcpaa
open Go Go.RowKit
set_option linter.unusedSimpArgs false
set_option linter.unusedVariables false

/-- A list whose first k and last k letters are changed for one another. -/
def RevAt (l m : List UInt8) (k : Nat) : Prop := m.length = l.length ∧ ∀ t, t < l.length → m[t]? = if t < k ∨ l.length ≤ t + k then l[l.length - 1 - t]? else l[t]?
theorem RevAt.step {l m : List UInt8} {k j : Nat} {x y : UInt8} (h : RevAt l m k) (hkj : k < j) (hj : j + 1 + k = l.length) (hx : m[k]? = some x) (hy : m[j]? = some y) : RevAt l ((m.set k y).set j x) (k + 1) := by
  obtain ⟨h1, h2⟩ := h
  have e1 := h2 k (by omega)
  have e2 := h2 j (by omega)
  rw [if_neg (by omega), hx] at e1
  rw [if_neg (by omega), hy] at e2
  refine ⟨by simpa using h1, fun t ht => ?_⟩
  rw [List.getElem?_set]
  by_cases c1 : j = t
  · subst c1
    rw [if_pos rfl, if_pos (by simp; omega), if_pos (by omega), show l.length - 1 - j = k by omega]
    exact e1
  · rw [if_neg c1, List.getElem?_set]
    by_cases c2 : k = t
    · subst c2
      rw [if_pos rfl, if_pos (by omega), if_pos (by omega), show l.length - 1 - k = j by omega]
      exact e2
    · rw [if_neg c2, h2 t ht]
      by_cases c3 : t < k ∨ l.length ≤ t + k
      · rw [if_pos c3, if_pos (by omega)]
      · rw [if_neg c3, if_neg (by omega)]
theorem RevAt.fin {l m : List UInt8} {k : Nat} (h : RevAt l m k) (hk : l.length ≤ k + k + 1) : m = l.reverse := by
  obtain ⟨h1, h2⟩ := h
  apply List.ext_getElem?
  intro t
  by_cases ht : t < l.length
  · rw [h2 t ht, List.getElem?_reverse ht]
    by_cases c : t < k ∨ l.length ≤ t + k
    · rw [if_pos c]
    · rw [if_neg c, show l.length - 1 - t = t by omega]
  · rw [List.getElem?_eq_none (by omega), List.getElem?_eq_none (by simp; omega)]

theorem u8s_len (l : List UInt8) : (u8s l).length = l.length := by simp [u8s]
theorem u8s_at {l : List UInt8} {j : Nat} {x : UInt8} (h : l[j]? = some x) : (u8s l)[j]? = some (.int .u8 (x.toNat : Nat)) := by simp [u8s, h]
theorem u8s_set (l : List UInt8) (j : Nat) (x : UInt8) : (u8s l).set j (.int .u8 (x.toNat : Nat)) = u8s (l.set j x) := by simp [u8s, List.map_set]

set_option maxHeartbeats 4000000 in
theorem rev_ok {w : World} {o : Owner} {i g n cap : Nat} {l : List UInt8} (h : Rowx w o i 5 1 g n cap (u8s l)) :
    Calls Try.prog 33 #[.slice (some ⟨g, 0, none⟩) n cap] w fun e w' => (∃ v, e = .returned v) ∧ Rowx w' o i 5 1 g n cap (u8s l.reverse) ∧ Step [i] w o w' o := by
  have hl : l.length = n := by have := h.len; rw [u8s_len] at this; omega
  have hc := h.capl
  have hnc := h.le
  have hmax : n ≤ 9223372036854775807 := by simp only [maxLen] at hc; omega
  have HO := Lib.hid h.own
  have HL := Lib.hid hl
  have HB := Lib.hid (show g < w.heap.size by obtain ⟨cur, h1, _⟩ := h.cells; exact (Array.getElem?_eq_some_iff.1 h1).1)
  clear hl hc
  go_enter Try.func33, Try.ntmps33
  go_wp2_with fail
  go_loopg [2, 3] n (fun q a b wr => ∃ (k : Nat) (m : List UInt8), q = n - k ∧ k ≤ n ∧ a = .int .i64 k ∧ b = .int .i64 ((n : Int) - 1 - k) ∧ Rowx wr o i 5 1 g n cap (u8s m) ∧ Step [i] w o wr o ∧ RevAt l m k)
  case atStart => exact ⟨0, l, rfl, Nat.zero_le _, rfl, by simp, h, Step.refl _ _ _, rfl, fun t ht => by rw [if_neg (by omega)]⟩
  case round =>
    obtain ⟨k, m, hq, hk, rfl, rfl, hr, sr, hR⟩ := hrel
    have HQ := Lib.hid hq
    clear hq h
    by_cases hlt : (k : Int) < (n : Int) - 1 - k
    · obtain ⟨j, hj⟩ : ∃ j : Nat, (n : Int) - 1 - k = j := ⟨n - 1 - k, by omega⟩
      have HJ := Lib.hid hj
      rw [hj] at hlt ⊢
      have hml : m.length = n := by rw [hR.1, HL.out]
      obtain ⟨x, hx⟩ : ∃ x, m[k]? = some x := ⟨m[k]'(by omega), List.getElem?_eq_getElem (by omega)⟩
      obtain ⟨y, hy⟩ : ∃ y, m[j]? = some y := ⟨m[j]'(by omega), List.getElem?_eq_getElem (by omega)⟩
      have cx := hr.cell (u8s_at hx)
      have cy := hr.cell (u8s_at hy)
      have fx := (hr.spare (j := k) (by omega)).2
      have fy := (hr.spare (j := j) (by omega)).2
      have hkn : (k : Int) < n := by omega
      have hjn : (j : Int) < n := by omega
      have hne : ¬ k = j := by omega
      have hR2 := hR.step (by omega) (by rw [HL.out]; omega) hx hy
      have hr2 := (hr.setElem k (.int .u8 (y.toNat : Nat))).setElem j (.int .u8 (x.toNat : Nat))
      rw [u8s_set, u8s_set] at hr2
      have sr2 := (sr.setCell (a := ⟨g, k, none⟩) (fun _ => by show o g ∈ [i]; rw [HO.out]; simp) (.int .u8 (y.toNat : Nat))).setCell (a := ⟨g, j, none⟩) (fun _ => by show o g ∈ [i]; rw [HO.out]; simp) (.int .u8 (x.toNat : Nat))
      have HX := Lib.hid hx
      have HY := Lib.hid hy
      clear hj hx hy hml
      go_wp2_with fail
      go_region
      all_goals go_wp2_with fail
      all_goals go_roundg (n - (k + 1))
      case measure => rw [HQ.out]; omega
      case rel => exact ⟨k + 1, _, rfl, by omega, by go_num, by have := HJ.out; congr 1; omega, hr2.frame ((Step.refl [] _ o).drew) (by simp), sr2.drew, hR2⟩
    · have hfin := hR.fin (by rw [HL.out]; omega)
      subst hfin
      go_wp2_with fail
      refine Go.Great.bodyPost_end0 (by kernel_rfl) rfl ?_
      exact ⟨⟨_, rfl⟩, hr, sr⟩
end Go.Proofs.Ytfeeikhcdphcpaa
