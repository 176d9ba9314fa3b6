/- slices.DeleteFunc over a row of numbers, by Back's second closure. -/
import Derived.Test.YtaledmoakhlmgaaDicK
namespace Go.Proofs.Ytaledmoakhlmgaa
open Go Go.RowKit
set_option linter.unusedSimpArgs false
set_option linter.unusedVariables false

theorem fstI_ge (p : Int → Bool) : ∀ l : List Int, -1 ≤ fstI p l
  | [] => Int.le_refl _
  | x :: r => by
    have ih := fstI_ge p r
    unfold fstI
    split
    · omega
    · show (-1 : Int) ≤ if fstI p r < 0 then (-1 : Int) else fstI p r + 1
      split <;> omega
theorem fstI_spec (p : Int → Bool) : ∀ l : List Int, 0 ≤ fstI p l → ∃ j x, fstI p l = (j : Nat) ∧ l[j]? = some x ∧ p x = true ∧ (∀ y ∈ l.take j, p y = false)
  | [], h => by simp [fstI] at h
  | x :: r, h => by
    cases hp : p x with
    | true => exact ⟨0, x, by unfold fstI; rw [if_pos hp]; rfl, rfl, hp, by simp⟩
    | false =>
      have e : fstI p (x :: r) = if fstI p r < 0 then (-1 : Int) else fstI p r + 1 := by rw [fstI, if_neg (by rw [hp]; decide)]
      have hr : 0 ≤ fstI p r := by rw [e] at h; split at h <;> omega
      obtain ⟨j, y, h1, h2, h3, h4⟩ := fstI_spec p r hr
      refine ⟨j + 1, y, by rw [e, if_neg (by omega), h1]; omega, by simpa using h2, h3, fun z hz => ?_⟩
      rw [List.take_succ_cons] at hz
      rcases List.mem_cons.1 hz with rfl | hz
      · exact hp
      · exact h4 z hz
theorem filter_none {p : Int → Bool} {l : List Int} (h : ∀ y ∈ l, p y = false) : l.filter (fun k => !p k) = l :=
  List.filter_eq_self.2 fun y hy => by rw [h y hy]; rfl
theorem fstI_no {p : Int → Bool} : ∀ {l : List Int}, fstI p l < 0 → ∀ y ∈ l, p y = false
  | [], _, y, hy => by cases hy
  | x :: r, h, y, hy => by
    cases hp : p x with
    | true => unfold fstI at h; rw [if_pos hp] at h; omega
    | false =>
      have e : fstI p (x :: r) = if fstI p r < 0 then (-1 : Int) else fstI p r + 1 := by rw [fstI, if_neg (by rw [hp]; decide)]
      have hr : fstI p r < 0 := by rw [e] at h; split at h <;> omega
      rcases List.mem_cons.1 hy with rfl | hy
      · exact hp
      · exact fstI_no hr y hy

/-- The row half way: its first a are those kept of the first q; from q on it is as it was. -/
structure Half (p : Int → Bool) (l xs : List Int) (n q a : Nat) : Prop where
  len : xs.length = n
  head : xs.take a = (l.take q).filter (fun k => !p k)
  tail : xs.drop q = l.drop q
theorem Half.skip {p : Int → Bool} {l xs : List Int} {n q a : Nat} (h : Half p l xs n q a) {x : Int} (hx : l[q]? = some x) (hp : p x = true) : Half p l xs n (q + 1) a := by
  have hq : q < l.length := (List.getElem?_eq_some_iff.1 hx).1
  have hx' : l[q] = x := (List.getElem?_eq_some_iff.1 hx).2
  refine ⟨h.len, ?_, ?_⟩
  · rw [List.take_succ_eq_append_getElem hq, List.filter_append, h.head, hx']
    simp [hp]
  · rw [← List.drop_drop, ← List.drop_drop, h.tail]
theorem Half.keep {p : Int → Bool} {l xs : List Int} {n q a : Nat} (h : Half p l xs n q a) (hln : l.length = n) (ha : a ≤ q) {x : Int} (hx : l[q]? = some x) (hp : p x = false) : Half p l (xs.set a x) n (q + 1) (a + 1) := by
  have hq : q < l.length := (List.getElem?_eq_some_iff.1 hx).1
  have hx' : l[q] = x := (List.getElem?_eq_some_iff.1 hx).2
  have hal : a < xs.length := by rw [h.len, ← hln]; omega
  refine ⟨by rw [List.length_set]; exact h.len, ?_, ?_⟩
  · rw [List.take_succ_eq_append_getElem hq, List.filter_append, ← h.head, hx', List.take_succ_eq_append_getElem (by rw [List.length_set]; exact hal), List.take_set_of_le (Nat.le_refl _)]
    simp [hp]
  · rw [List.drop_set_of_lt (by omega), ← List.drop_drop, ← List.drop_drop, h.tail]

set_option maxHeartbeats 8000000 in
theorem del_ok {w : World} {o : Owner} {i n : Nat} {v c : Value} {l : List Int} (hr : Row w o i 3 1 v n (ints l)) (hn : n ≤ 1000) (p : Int → Bool)
    (hcl : ∀ W, Step [i] w o W o → ∀ k, Calls Try.prog 38 #[.int .i64 k, c] W fun e w' => e = .returned (.bool (p k)) ∧ w' = W) :
    Calls Try.prog 37 #[v, .func (.func 38) #[] #[c]] w fun e w' => (∃ v', e = .returned v' ∧ Row w' o i 3 1 v' (l.filter (fun k => !p k)).length (ints (l.filter (fun k => !p k)))) ∧ Step [i] w o w' o := by
  have hln : l.length = n := by have := hr.len; simpa [ints] using this
  have hix := ixf_ok 38 (.inr rfl) hr.rd p (fun W st k => hcl W st.nil k)
  by_cases hR : 0 ≤ fstI p l
  · obtain ⟨j, x, hj, hxj, hpx, hpre⟩ := fstI_spec p l hR
    have hjl : j < n := by rw [← hln]; exact (List.getElem?_eq_some_iff.1 hxj).1
    rw [hj] at hix
    obtain ⟨g, cap, rfl, hx⟩ := hr.rowx (by omega)
    have hcap := hx.capl
    have hle := hx.le
    have hgo := hx.own
    have hhalf : Half p l l n (j + 1) j := by
      refine ⟨hln, ?_, rfl⟩
      have hjl' : j < l.length := by rw [hln]; exact hjl
      have hx' : l[j] = x := (List.getElem?_eq_some_iff.1 hxj).2
      rw [List.take_succ_eq_append_getElem hjl', List.filter_append, filter_none hpre, hx']
      simp [hpx]
    have HH := Lib.hid hhalf
    have HLN := Lib.hid hln
    have hj1 : ((j : Int) == -1) = false := by rw [beq_eq_false_iff_ne]; omega
    unfold maxLen at hcap
    clear hhalf hln hxj hpx hpre hj hR hr
    go_enter Try.func37, Try.ntmps37
    go_wp2_with (go_at_call 47; refine hix.mono ?_; rintro e w2 ⟨rfl, s2⟩)
    go_loopg [5, 6] (n - (j + 1)) (fun gg a5 a6 wr => ∃ (q a : Nat) (xs : List Int), gg = n - q ∧ q ≤ n ∧ a < q ∧ a6 = .int .i64 q ∧ a5 = .int .i64 a ∧ Rowx wr o i 3 1 g n cap (ints xs) ∧ Step [i] w o wr o ∧ Hid (Half p l xs n q a))
    case atStart => exact ⟨j + 1, j, l, rfl, by omega, by omega, by go_num, rfl, hx.frame s2 (by simp), s2.nil, HH⟩
    case round =>
      obtain ⟨q, a, xs, hg, hq, haq, rfl, rfl, hrow, st, A⟩ := hrel
      have HQ := Lib.hid hg
      clear hg hx s2
      by_cases hlt : q < n
      · have hqi : (q : Int) < n := by omega
        have hql : q < l.length := by rw [HLN.out]; exact hlt
        obtain ⟨y, hy⟩ : ∃ y, l[q]? = some y := ⟨_, List.getElem?_eq_getElem hql⟩
        have hxy : xs[q]? = some y := by
          have := congrArg (fun z => z[0]?) A.out.tail
          simpa [List.getElem?_drop, hy] using this
        have e1 := hrow.cell (j := q) (u := .int .i64 y) (by rw [List.getElem?_map, hxy]; rfl)
        have hcy := hcl wr st y
        have HY := Lib.hid hy
        cases hp : p y with
        | true =>
          rw [hp] at hcy
          have HP := Lib.hid hp
          clear hy hxy hp
          go_wp2_with (go_at_call 38; refine hcy.mono ?_; rintro e w3 ⟨rfl, rfl⟩)
          go_roundg (n - (q + 1))
          case measure => rw [HQ.out]; omega
          case rel => exact ⟨q + 1, a, xs, rfl, by omega, by omega, by go_num, rfl, hrow, st, Lib.hid (A.out.skip HY.out HP.out)⟩
        | false =>
          rw [hp] at hcy
          have HP := Lib.hid hp
          have hai : (a : Int) < n := by omega
          obtain ⟨z, hz⟩ : ∃ z, xs[a]? = some z := ⟨_, List.getElem?_eq_getElem (by rw [A.out.len]; omega)⟩
          have e2 := hrow.cell (j := a) (u := .int .i64 z) (by rw [List.getElem?_map, hz]; rfl)
          have e3 := (hrow.spare (j := a) (by omega)).2
          clear hy hxy hp hz
          go_wp2_with (go_at_call 38; refine hcy.mono ?_; rintro e w3 ⟨rfl, rfl⟩)
          go_roundg (n - (q + 1))
          case measure => rw [HQ.out]; omega
          case rel =>
            refine ⟨q + 1, a + 1, xs.set a y, rfl, by omega, by omega, by go_num, by go_num, ?_, st.setCell (fun _ => by simp [hgo]) _, Lib.hid (A.out.keep HLN.out (by omega) HY.out HP.out)⟩
            have := hrow.setElem a (.int .i64 y)
            rw [show ints (xs.set a y) = (ints xs).set a (.int .i64 y) from List.map_set ..]
            exact this
      · obtain rfl : q = n := by omega
        have hqi : ¬ (q : Int) < q := by omega
        have hai : (a : Int) ≤ q := by omega
        have hfin : l.filter (fun k => !p k) = xs.take a := by
          rw [A.out.head, List.take_of_length_le (by rw [HLN.out]; exact Nat.le_refl _)]
        have hfl : (l.filter (fun k => !p k)).length = a := by rw [hfin, List.length_take, A.out.len]; omega
        have hcut := hrow.cut (k := a) (by omega)
        rw [Nat.mul_one, show (ints xs).take a = ints (xs.take a) from List.map_take.symm, ← hfin] at hcut
        have HF := Lib.hid hfl
        have ha : adr (some ⟨g, 0, none⟩) a cap 1 = some ⟨g, a, none⟩ := by
          rw [adr, if_neg (by omega)]; simp [Addr.add_lit]
        have HA := Lib.hid ha
        have hz : ∀ w, (zeroValue 3).run Try.prog w = .ok (.int .i64 0) w := fun _ => by kernel_rfl
        have hac : (a : Int) ≤ cap := by omega
        clear ha hfin hfl hrow
        go_wp2_with (refine wpList_clear rfl (.tmp 38) 46 rfl Try.underlying46 hz rfl rfl hcut rfl HA.out (by omega) (by omega) (by omega) ?_)
        intro w4 hr4 s4
        go_wp2_with fail
        go_ret
        refine ⟨⟨_, rfl, ?_⟩, st.trans s4⟩
        rw [HF.out]
        exact hr4.row
  · have hm1 : fstI p l = -1 := by have := fstI_ge p l; omega
    have hf := filter_none (fstI_no (p := p) (l := l) (by omega))
    rw [hm1] at hix
    rw [hf, hln]
    obtain ⟨ao, cap, rfl, g1, g2⟩ := hr.slice
    clear hm1 hf hR
    go_enter Try.func37, Try.ntmps37
    go_wp2_with (go_at_call 47; refine hix.mono ?_; rintro e w2 ⟨rfl, s2⟩)
    go_ret
    exact ⟨⟨_, rfl, hr.frame s2 (by simp)⟩, s2.nil⟩
end Go.Proofs.Ytaledmoakhlmgaa
