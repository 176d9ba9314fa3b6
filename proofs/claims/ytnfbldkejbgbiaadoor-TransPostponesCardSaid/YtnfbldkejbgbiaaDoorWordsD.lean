/- Contracts: the reference's Fold; the name of a kind and number (both). -/
import Derived.Test.YtnfbldkejbgbiaaDoorWordsC
namespace Go.Proofs.YtnfbldkejbgbiaaDoor
open Go Go.RowKit
set_option linter.unusedSimpArgs false
set_option linter.unusedVariables false

def u8s (l : List UInt8) : List Value := l.map fun c => Value.int .u8 (c.toNat : Nat)
theorem u8s_one (l : List UInt8) : ∀ u ∈ u8s l, u.oneCell' = true := by
  intro u hu
  obtain ⟨c, _, rfl⟩ := List.mem_map.1 hu
  rfl
theorem infoU8 : (Tryd.prog.info? 5).map (fun i => (i.zero, i.size, i.bytes)) = some (some (.int .u8 0), 1, 1) := by kernel_rfl
theorem Row.cast {w : World} {o : Owner} {i E size n : Nat} {v : Value} {xs ys : List Value} (h : Row w o i E size v n xs) (e : xs = ys) : Row w o i E size v n ys := e ▸ h
theorem Row.slice' {w : World} {o : Owner} {i E size n : Nat} {v : Value} {xs : List Value} (h : Row w o i E size v n xs) : ∃ ao c, v = .slice ao n c := by
  obtain ⟨_, ⟨ao, rfl, rfl⟩ | ⟨g, cap, cur, rfl, _⟩⟩ := h
  · exact ⟨_, _, rfl⟩
  · exact ⟨_, _, rfl⟩

/-- What writes only into new blocks leaves all that was there, whoever owns it. -/
theorem Step.calm0 {S : List Nat} {w w' : World} {o1 : Owner} (h : Step S w (fun _ => 0) w' o1) (o : Owner) (hS : 0 ∉ S) : ∃ o', Step [] w o w' o' :=
  ⟨fun b => if b < w.heap.size then o b else o1 b, h.os, h.tape, h.output, h.size, fun b hb => if_pos hb, fun b hb _ => h.blk b hb hS⟩

/-- 'string(b)' of a row that is owned. -/
theorem row_back {w : World} {o : Owner} {i n : Nat} {a : Option Addr} {c : Nat} {l : List UInt8} (h : Row w o i 5 1 (.slice a n c) n (u8s l)) : (convert 47 9 (.slice a n c)).run Tryd.prog w = .ok (.string ⟨l.toArray⟩) w := by
  have hl : l.length = n := by have := h.len; simpa [u8s] using this
  obtain ⟨ao, cap, hv, h1, h2, h3, h4⟩ := h.rd
  simp only [Value.slice.injEq, true_and] at hv
  obtain ⟨rfl, rfl⟩ := hv
  by_cases hn : 0 < n
  · obtain ⟨b, off, rfl, hb, ho, hc⟩ := h4 hn
    subst hl
    exact run_convert_bytes_back w 47 9 5 ⟨b, off, none⟩ c l Tryd.underlying47 Tryd.underlying5 Tryd.underlying9 (fun j hj => by
      rw [Addr.add_lit]
      exact hc j _ (by simp [u8s, hj]))
  · obtain rfl : n = 0 := by omega
    obtain rfl : l = [] := List.eq_nil_of_length_eq_zero hl
    cases a with
    | none => exact run_convert_bytes_nil w 47 5 Tryd.underlying47 Tryd.underlying5 0 c _ Tryd.underlying9
    | some a => exact run_convert_bytes_back w 47 9 5 a c [] Tryd.underlying47 Tryd.underlying5 Tryd.underlying9 (fun j hj => absurd hj (by simp))

theorem low_take {k : Nat} {l : List UInt8} (h : k < l.length) : (l.take (k + 1)).map lowc = (l.take k).map lowc ++ [lowc l[k]] := by
  rw [List.take_succ_eq_append_getElem h, List.map_append]; rfl

set_option maxHeartbeats 4000000 in
theorem rfold_ok (s : ByteArray) (hs : s.size ≤ 1000000) (w : World) (o : Owner) : Calls Tryd.prog 31 #[.string s] w fun e w' => e = .returned (.string (low s)) ∧ ∃ o', Step [] w o w' o' := by
  obtain ⟨l, hl⟩ : ∃ l, lst s = l := ⟨_, rfl⟩
  have hsz : l.length = s.size := by rw [← hl]; rfl
  have hlow : low s = ⟨(l.map lowc).toArray⟩ := by rw [← hl]; rfl
  have hel : ∀ k (h : k < s.size) (h2 : k < l.length), s[k]'h = l[k]'h2 := fun k h h2 => by subst hl; rfl
  rw [hlow]
  have HS := Lib.hid hsz
  have HE := Lib.hid hel
  clear hl hlow hsz hel
  go_enter Tryd.func31, Tryd.ntmps31
  go_wp2_with fail
  go_loopg [3, 4] s.size (fun g x v wr => ∃ (k : Nat) (o' : Owner), g = s.size - k ∧ k ≤ s.size ∧ v = .int .i64 k ∧ Row wr o' 77 5 1 x k (u8s ((l.take k).map lowc)) ∧ Step [77] w (fun _ => 0) wr o')
  case atStart => exact ⟨0, fun _ => 0, rfl, Nat.zero_le _, rfl, Row.nil _ _ _ _ _ none, Step.refl _ _ _⟩
  case round =>
    obtain ⟨k, o3, hg, hk, rfl, hr, sr⟩ := hrel
    have HG := Lib.hid hg
    clear hg
    obtain ⟨ax, cx, rfl⟩ := hr.slice'
    by_cases hlt : k < s.size
    · have hki : (k : Int) < s.size := by omega
      have hks := hlt
      have hkl : k < l.length := by rw [HS.out]; exact hks
      have hch := HE.out k hks hkl
      have hlt2 := low_take hkl
      generalize l[k] = c at hch hlt2
      obtain ⟨d, hd⟩ : ∃ d, c.toNat = d := ⟨_, rfl⟩
      have hup := lowc_up (c := c)
      have hno := lowc_no (c := c)
      rw [hd] at hup hno
      have HD := Lib.hid hd
      have HLT := Lib.hid hlt2
      have HUP := Lib.hid hup
      have HNO := Lib.hid hno
      have HCH := Lib.hid hch
      have hxB : ∀ cs, Row (wr.alloc (.cells cs 5)) o3 77 5 1 (.slice ax k cx) k (u8s ((l.take k).map lowc)) := fun cs => hr.frame ((Step.refl [] wr o3).alloc _) (by simp)
      obtain ⟨X, hX⟩ : ∃ X, X = u8s ((l.take k).map lowc) := ⟨_, rfl⟩
      rw [← hX] at hxB
      have HX := Lib.hid hX
      have hdc : ((s[k]'hks).toNat : Nat) = d := by rw [hch, hd]
      clear hlt2 hd hup hno hch hr hX
      have hbig : k < 9223372036854775807 := by omega
      have hk47 : (k + 1) * 1 ≤ 140737488355328 := by omega
      by_cases h1 : 65 ≤ d
      · have h1i : (65 : Int) ≤ d := by omega
        by_cases h2 : d ≤ 90
        · have h2i : (d : Int) ≤ 90 := by omega
          go_wp2_with (at_builtin; refine wpList_app rfl (.tmp 23) (.tmp 25) 47 rfl Tryd.underlying47 infoU8 rfl rfl (hxB _) rfl (Rd.fresh wr o3 1 5 _ 1 (by decide) rfl) (by simp [Value.oneCell']) (by omega) (by omega) ?_)
          intro vx w6 o6 hx6 s6
          obtain ⟨ax6, cx6, rfl⟩ := hx6.slice'
          have S6 := (sr.alloc _).trans s6
          go_wp2_with fail
          go_roundg (s.size - (k + 1))
          case measure => rw [HG.out]; omega
          case rel =>
            refine ⟨k + 1, o6, rfl, by omega, by go_num, hx6.cast ?_, S6⟩
            rw [HLT.out, HX.out]
            have h := HUP.out ⟨h1, h2⟩; simp only [u8s, List.map_append, List.map_cons, List.map_nil]; rw [h]; first | (congr 3; omega) | simp
        · have h2i : ¬ (d : Int) ≤ 90 := by omega
          go_wp2_with (at_builtin; refine wpList_app rfl (.tmp 23) (.tmp 25) 47 rfl Tryd.underlying47 infoU8 rfl rfl (hxB _) rfl (Rd.fresh wr o3 1 5 _ 1 (by decide) rfl) (by simp [Value.oneCell']) (by omega) (by omega) ?_)
          intro vx w6 o6 hx6 s6
          obtain ⟨ax6, cx6, rfl⟩ := hx6.slice'
          have S6 := (sr.alloc _).trans s6
          go_wp2_with fail
          go_roundg (s.size - (k + 1))
          case measure => rw [HG.out]; omega
          case rel =>
            refine ⟨k + 1, o6, rfl, by omega, by go_num, hx6.cast ?_, S6⟩
            rw [HLT.out, HX.out]
            rw [HNO.out (by omega)]; simp only [u8s, List.map_append, List.map_cons, List.map_nil, HD.out]
      · have h1i : ¬ (65 : Int) ≤ d := by omega
        go_wp2_with (at_builtin; refine wpList_app rfl (.tmp 23) (.tmp 25) 47 rfl Tryd.underlying47 infoU8 rfl rfl (hxB _) rfl (Rd.fresh wr o3 1 5 _ 1 (by decide) rfl) (by simp [Value.oneCell']) (by omega) (by omega) ?_)
        intro vx w6 o6 hx6 s6
        obtain ⟨ax6, cx6, rfl⟩ := hx6.slice'
        have S6 := (sr.alloc _).trans s6
        go_wp2_with fail
        go_roundg (s.size - (k + 1))
        case measure => rw [HG.out]; omega
        case rel =>
          refine ⟨k + 1, o6, rfl, by omega, by go_num, hx6.cast ?_, S6⟩
          rw [HLT.out, HX.out]
          rw [HNO.out (by omega)]; simp only [u8s, List.map_append, List.map_cons, List.map_nil, HD.out]
    · obtain rfl : k = s.size := by omega
      have hki : ¬ (s.size : Int) < s.size := by omega
      rw [List.take_of_length_le (by rw [HS.out]; exact Nat.le_refl _)] at hr
      have kb := row_back hr
      go_wp2_with fail
      go_ret
      exact ⟨rfl, sr.calm0 o (by decide)⟩

/-- The name of a kind and number. -/
def nameOf (k n : Int) : ByteArray := if 1 ≤ n ∧ n ≤ (nm k).length then (nm k).getD (n - 1).toNat ByteArray.empty else ByteArray.empty

theorem Rd.text {w : World} {o : Owner} {i : Nat} {a : Option Addr} {l : List ByteArray} {n : Nat} (h : Rd w o i 1 (.slice a n n) n (l.map Value.string)) (j : Nat) (hj : j < n) : ∃ b off, a = some ⟨b, off, none⟩ ∧ w.cell? ⟨b, off + j, none⟩ = some (.string (l.getD j ByteArray.empty)) := by
  have hl := h.len
  obtain ⟨ao, cap, hv, h1, h2, h3, h4⟩ := h
  simp only [Value.slice.injEq, true_and] at hv
  obtain ⟨rfl, rfl⟩ := hv
  obtain ⟨b, off, rfl, hb, ho, hc⟩ := h4 (by omega)
  rw [List.length_map, Nat.mul_one] at hl
  refine ⟨b, off, rfl, hc j _ ?_⟩
  rw [List.getElem?_map, List.getElem?_eq_getElem (by omega), List.getD_eq_getElem?_getD, List.getElem?_eq_getElem (by omega)]
  rfl

theorem nm_le (k : Int) : (nm k).length ≤ 107 := by
  unfold nm
  split
  · exact Nat.le_of_eq nm_lengths.1
  split
  · exact Nat.le_trans (Nat.le_of_eq nm_lengths.2.1) (by decide)
  split
  · exact Nat.le_trans (Nat.le_of_eq nm_lengths.2.2.1) (by decide)
  split
  · exact Nat.le_trans (Nat.le_of_eq nm_lengths.2.2.2) (by decide)
  · exact Nat.zero_le _

end Go.Proofs.YtnfbldkejbgbiaaDoor
