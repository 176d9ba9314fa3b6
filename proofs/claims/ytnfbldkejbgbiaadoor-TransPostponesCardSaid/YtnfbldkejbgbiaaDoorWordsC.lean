/- Contracts: a text with its great letters made small (the program's way, and the reference's); the name of a kind and number (both). -/
import Derived.Test.YtnfbldkejbgbiaaDoorWordsB
namespace Go.Proofs.YtnfbldkejbgbiaaDoor
open Go Go.RowKit
set_option linter.unusedSimpArgs false
set_option linter.unusedVariables false

/-- The first k letters made small. -/
def mixL (k : Nat) (l : List UInt8) : List UInt8 := (l.take k).map lowc ++ l.drop k
theorem mixL_length (k : Nat) (l : List UInt8) : (mixL k l).length = l.length := by
  simp only [mixL, List.length_append, List.length_map, List.length_take, List.length_drop]; omega
theorem mixL_at {k : Nat} {l : List UInt8} (h : k < l.length) : (mixL k l)[k]? = some l[k] := by
  rw [mixL, List.getElem?_append_right (by simp; omega), List.getElem?_drop]
  simp only [List.length_map, List.length_take]
  rw [Nat.min_eq_left (by omega), Nat.sub_self, Nat.add_zero, List.getElem?_eq_getElem h]
theorem mixL_succ {k : Nat} {l : List UInt8} (h : k < l.length) : mixL (k + 1) l = (mixL k l).set k (lowc l[k]) := by
  apply List.ext_getElem?
  intro j
  rw [List.getElem?_set]
  simp only [mixL_length, h, if_true]
  by_cases hj : k = j
  · subst hj
    rw [if_pos rfl, mixL, List.getElem?_append_left (by simp; omega), List.getElem?_map, List.getElem?_take_of_lt (by omega), List.getElem?_eq_getElem h]
    rfl
  · rw [if_neg hj]
    by_cases hl : j < k
    · rw [mixL, mixL, List.getElem?_append_left (by simp; omega), List.getElem?_append_left (by simp; omega), List.getElem?_map, List.getElem?_map, List.getElem?_take_of_lt (by omega), List.getElem?_take_of_lt hl]
    · rw [mixL, mixL, List.getElem?_append_right (by simp; omega), List.getElem?_append_right (by simp; omega), List.getElem?_drop, List.getElem?_drop]
      simp only [List.length_map, List.length_take]
      congr 1
      omega
theorem mixL_zero (l : List UInt8) : mixL 0 l = l := rfl
theorem mixL_all (l : List UInt8) : mixL l.length l = l.map lowc := by simp [mixL]
theorem mixL_same {k : Nat} {l : List UInt8} (h : k < l.length) (hc : lowc l[k] = l[k]) : mixL (k + 1) l = mixL k l := by
  rw [mixL_succ h, hc]
  apply List.ext_getElem?
  intro j
  rw [List.getElem?_set]
  by_cases hj : k = j
  · subst hj
    rw [if_pos rfl, mixL_length, if_pos h, mixL_at h]
  · rw [if_neg hj]
theorem lowc_up {c : UInt8} (h : 65 ≤ c.toNat ∧ c.toNat ≤ 90) : (lowc c).toNat = c.toNat + 32 := by
  rw [lowc, if_pos h]
  simp
  omega
theorem lowc_no {c : UInt8} (h : ¬ (65 ≤ c.toNat ∧ c.toNat ≤ 90)) : lowc c = c := by rw [lowc, if_neg h]

set_option maxHeartbeats 4000000 in
theorem fold_ok (s : ByteArray) (hs : s.size ≤ 1000000) (w : World) (o : Owner) : Calls Tryd.prog 27 #[.string s] w fun e w' => e = .returned (.string (low s)) ∧ Step [] w o w' o := by
  obtain ⟨w1, cap, kc, hb, st⟩ := br_new w s
  have hsz : (lst s).length = s.size := rfl
  replace st := st o
  obtain ⟨l, hl⟩ : ∃ l, lst s = l := ⟨_, rfl⟩
  obtain ⟨N, hN⟩ : ∃ N, s.size = N := ⟨_, rfl⟩
  obtain ⟨b, hbb⟩ : ∃ b, w.heap.size = b := ⟨_, rfl⟩
  have hlow : low s = ⟨(l.map lowc).toArray⟩ := by rw [← hl]; rfl
  rw [hlow]
  rw [hl] at hb hsz
  rw [hN] at hsz kc hs
  rw [hbb] at kc hb
  have HB := Lib.hid hbb
  have HS := Lib.hid hsz
  clear hl hN hlow hbb hsz
  go_enter Tryd.func27, Tryd.ntmps27
  go_wp2_with fail
  go_loopg [10] N (fun g v wr => ∃ k : Nat, g = N - k ∧ k ≤ N ∧ v = .int .i64 k ∧ BR wr b (mixL k l) ∧ Step [] w o wr o)
  case atStart => exact ⟨0, rfl, Nat.zero_le _, rfl, hb, st⟩
  case round =>
    obtain ⟨k, hg, hk, rfl, hr, sr⟩ := hrel
    have HG := Lib.hid hg
    clear hg hb st kc
    by_cases hlt : k < N
    · have hki : (k : Int) < N := by omega
      have hkl : k < l.length := by rw [HS.out]; exact hlt
      have hsame := mixL_same (l := l) hkl
      have hsucc := mixL_succ hkl
      have hat : (mixL k l)[k]'(by rw [mixL_length]; exact hkl) = l[k] := by
        have := mixL_at hkl
        rw [List.getElem?_eq_getElem (by rw [mixL_length]; exact hkl)] at this
        exact Option.some.inj this
      obtain ⟨y, f⟩ := hr.at (j := k) (by rw [mixL_length]; exact hkl)
      rw [hat] at y
      generalize l[k] = c at y hsame hsucc
      obtain ⟨d, hd⟩ : ∃ d, c.toNat = d := ⟨_, rfl⟩
      have hup := lowc_up (c := c)
      have hno := lowc_no (c := c)
      rw [hd] at y hup hno
      have HD := Lib.hid hd
      have HSA := Lib.hid hsame
      have HSU := Lib.hid hsucc
      have HUP := Lib.hid hup
      have HNO := Lib.hid hno
      clear hat hsame hsucc hd hup hno
      by_cases h1 : 65 ≤ d
      · have h1i : (65 : Int) ≤ d := by omega
        by_cases h2 : d ≤ 90
        · have h2i : (d : Int) ≤ 90 := by omega
          go_wp2_with fail
          go_roundg (N - (k + 1))
          case measure => rw [HG.out]; omega
          case rel =>
            refine ⟨k + 1, rfl, by omega, by go_num, ?_, sr.setCell (by intro hb; exact absurd hb (by have := HB.out; show ¬ (b < w.heap.size); omega)) _⟩
            rw [HSU.out]
            exact hr.set k (lowc c) _ (by rw [HUP.out ⟨h1, h2⟩]; first | omega | (go_num; omega))
        · have h2i : ¬ (d : Int) ≤ 90 := by omega
          go_wp2_with fail
          go_roundg (N - (k + 1))
          case measure => rw [HG.out]; omega
          case rel => exact ⟨k + 1, rfl, by omega, by go_num, by rw [HSA.out (HNO.out (by omega))]; exact hr, sr⟩
      · have h1i : ¬ (65 : Int) ≤ d := by omega
        go_wp2_with fail
        go_roundg (N - (k + 1))
        case measure => rw [HG.out]; omega
        case rel => exact ⟨k + 1, rfl, by omega, by go_num, by rw [HSA.out (HNO.out (by omega))]; exact hr, sr⟩
    · obtain rfl : k = N := by omega
      have hki : ¬ (k : Int) < k := by omega
      have hall : mixL k l = l.map lowc := by rw [← HS.out]; exact mixL_all l
      rw [hall] at hr
      have kb := br_back hr k cap (by rw [List.length_map]; exact HS.out.symm)
      clear hall
      go_wp2_with fail
      go_ret
      exact ⟨rfl, sr⟩
end Go.Proofs.YtnfbldkejbgbiaaDoor
