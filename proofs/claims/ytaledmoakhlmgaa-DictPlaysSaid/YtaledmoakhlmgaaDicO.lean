/- A dictionary: closures that ask for a list; a row searched by one; the order is changed. -/
import Derived.Test.YtaledmoakhlmgaaDicS
import Derived.Deep.CutRange
namespace Go.Proofs.Ytaledmoakhlmgaa
open Go Go.RowKit
set_option linter.unusedSimpArgs false
set_option linter.unusedVariables false

/-- The first place at which p holds; -1: there is none. -/
def fstI (p : Int → Bool) : List Int → Int
  | [] => -1
  | x :: r => if p x then 0 else (let k := fstI p r; if k < 0 then -1 else k + 1)
theorem fstI_none {p : Int → Bool} : ∀ {l : List Int}, (∀ x ∈ l, p x = false) → fstI p l = -1
  | [], _ => rfl
  | x :: r, h => by
    unfold fstI
    rw [if_neg (by rw [h x (by simp)]; decide), fstI_none fun y hy => h y (by simp [hy])]
    rfl
theorem fstI_at {p : Int → Bool} : ∀ {l : List Int} {j : Nat} {x : Int}, l[j]? = some x → p x = true → (∀ q, q < j → ∀ y, l[q]? = some y → p y = false) → fstI p l = j
  | [], j, x, h, _, _ => by simp at h
  | y :: r, 0, x, h, hp, _ => by
    simp at h
    subst h
    unfold fstI
    rw [if_pos hp]
    rfl
  | y :: r, j + 1, x, h, hp, hq => by
    have ih := fstI_at (l := r) (j := j) (x := x) (by simpa using h) hp fun q hqj z hz => hq (q + 1) (by omega) z (by simpa using hz)
    have h0 := hq 0 (by omega) y rfl
    unfold fstI
    rw [if_neg (by rw [h0]; decide), ih]
    show (if (j : Int) < 0 then (-1 : Int) else j + 1) = _
    rw [if_neg (by omega)]
    omega
theorem fstI_any (p : Int → Bool) : ∀ l : List Int, decide (0 ≤ fstI p l) = l.any p
  | [] => rfl
  | x :: r => by
    have ih := fstI_any p r
    unfold fstI
    cases hp : p x with
    | true => simp [hp]
    | false =>
      simp only [List.any_cons, hp, Bool.false_or, ← ih, Bool.false_eq_true, if_false]
      show decide (0 ≤ if fstI p r < 0 then (-1 : Int) else fstI p r + 1) = _
      split <;> simp <;> omega

/-- slices.IndexFunc over a row of numbers, by a function of the program that tells p. -/
theorem ixf_ok (F : Nat) (hF : F = 32 ∨ F = 38) {w : World} {o : Owner} {i n : Nat} {v c : Value} {l : List Int} (hr : Rd w o i 1 v n (ints l)) (p : Int → Bool)
    (hcl : ∀ W, Step [] w o W o → ∀ k, Calls Try.prog F #[.int .i64 k, c] W fun e w' => e = .returned (.bool (p k)) ∧ w' = W) :
    Calls Try.prog 47 #[v, .func (.func F) #[] #[c]] w fun e w' => e = .returned (.int .i64 (fstI p l)) ∧ Step [] w o w' o := by
  obtain ⟨ao, cap, rfl, g1, g2, g3, g4⟩ := hr
  have hln : l.length = n := by simpa [ints] using g3
  have HL := Lib.hid hln
  have HG := Lib.hid g4
  obtain ⟨R, hR⟩ : ∃ R, fstI p l = R := ⟨_, rfl⟩
  rw [hR]
  have HR := Lib.hid hR
  unfold maxLen at g2
  clear g3 g4 hln hR
  rcases hF with rfl | rfl
  all_goals
    go_enter Try.func47, Try.ntmps47
    go_wp2_with fail
    go_loopg [8] n (fun g a wr => ∃ j : Nat, g = n - j ∧ j ≤ n ∧ a = .int .i64 j ∧ Step [] w o wr o ∧ Hid (∀ q, q < j → ∀ y, l[q]? = some y → p y = false))
    case atStart => exact ⟨0, rfl, Nat.zero_le _, rfl, Step.refl _ _ _, Lib.hid (by intro q hq; omega)⟩
    case round =>
      obtain ⟨j, hg, hj, rfl, st, A⟩ := hrel
      have HQ := Lib.hid hg
      clear hg
      by_cases hlt : j < n
      · have hji : (j : Int) < n := by omega
        have hjl : j < l.length := by rw [HL.out]; exact hlt
        obtain ⟨x, hx⟩ : ∃ x, l[j] = x := ⟨_, rfl⟩
        have hxl : l[j]? = some x := by rw [List.getElem?_eq_getElem hjl, hx]
        obtain ⟨b1, off1, rfl, hb1, ho1, hc1⟩ := HG.out (by omega)
        have e1 := (st.cell (a := ⟨b1, off1 + j, none⟩) hb1 (by simp)).trans (hc1 j (.int .i64 x) (by rw [List.getElem?_map, hxl]; rfl))
        have hcx := hcl wr st x
        have HX := Lib.hid hxl
        cases hp : p x with
        | true =>
          rw [hp] at hcx
          have HP := Lib.hid hp
          clear hc1 hx hxl hp
          go_wp2_with (first | (go_at_call 32; refine hcx.mono ?_; rintro e w2 ⟨rfl, rfl⟩) | (go_at_call 38; refine hcx.mono ?_; rintro e w2 ⟨rfl, rfl⟩))
          go_ret
          have hRj : R = (j : Int) := by rw [← HR.out]; exact fstI_at HX.out HP.out A.out
          subst hRj
          exact ⟨rfl, st⟩
        | false =>
          rw [hp] at hcx
          have HP := Lib.hid hp
          clear hc1 hx hxl hp
          go_wp2_with (first | (go_at_call 32; refine hcx.mono ?_; rintro e w2 ⟨rfl, rfl⟩) | (go_at_call 38; refine hcx.mono ?_; rintro e w2 ⟨rfl, rfl⟩))
          go_roundg (n - (j + 1))
          case measure => rw [HQ.out]; omega
          case rel =>
            refine ⟨j + 1, rfl, by omega, by go_num, st, Lib.hid fun q hq y hy => ?_⟩
            by_cases hqj : q = j
            · subst hqj
              rw [HX.out] at hy
              obtain rfl := Option.some.inj hy
              exact HP.out
            · exact A.out q (by omega) y hy
      · obtain rfl : j = n := by omega
        have hji : ¬ (j : Int) < j := by omega
        have hRn : R = -1 := by
          rw [← HR.out]
          refine fstI_none fun x hx => ?_
          obtain ⟨q, hq, hqx⟩ := List.getElem_of_mem hx
          exact A.out q (by rw [HL.out] at hq; exact hq) x (by rw [List.getElem?_eq_getElem hq, hqx])
        subst hRn
        go_wp2_with fail
        go_ret
        exact ⟨rfl, st⟩

theorem cf_ok (F : Nat) (hF : F = 32 ∨ F = 38) {w : World} {o : Owner} {i n : Nat} {v c : Value} {l : List Int} (hr : Rd w o i 1 v n (ints l)) (p : Int → Bool)
    (hcl : ∀ W, Step [] w o W o → ∀ k, Calls Try.prog F #[.int .i64 k, c] W fun e w' => e = .returned (.bool (p k)) ∧ w' = W) :
    Calls Try.prog 33 #[v, .func (.func F) #[] #[c]] w fun e w' => e = .returned (.bool (l.any p)) ∧ Step [] w o w' o := by
  have hix := ixf_ok F hF hr p hcl
  rw [← fstI_any]
  obtain ⟨ao, cap, rfl, g1, g2, g3, g4⟩ := hr
  clear g4 hcl
  generalize fstI p l = R at hix ⊢
  go_enter Try.func33, Try.ntmps33
  go_wp2_with (go_at_call 47; refine hix.mono ?_; rintro e w2 ⟨rfl, s2⟩)
  go_ret
  exact ⟨rfl, s2⟩

/-- The closures of SetOrder and of Back: a list that is not known. -/
theorem cl32_ok {w : World} {o : Owner} {i b N : Nat} {s : Dst} (h : DB w o i b s N) {c : Nat} (hc : w.cell? ⟨c, 0, none⟩ = some (.pointer (some ⟨b, 0, none⟩))) (k : Int) :
    Calls Try.prog 32 #[.int .i64 k, .pointer (some ⟨c, 0, none⟩)] w fun e w' => e = .returned (.bool (!knownB s k)) ∧ w' = w := by
  have hkn := known_ok h k
  generalize knownB s k = B at hkn ⊢
  clear h
  cases B
  · go_enter Try.func32, Try.ntmps32
    go_wp2_with (go_at_call 31; refine hkn.mono ?_; rintro e w2 ⟨rfl, rfl⟩)
    go_ret
    exact ⟨rfl, rfl⟩
  · go_enter Try.func32, Try.ntmps32
    go_wp2_with (go_at_call 31; refine hkn.mono ?_; rintro e w2 ⟨rfl, rfl⟩)
    go_ret
    exact ⟨rfl, rfl⟩
theorem cl38_ok {w : World} {o : Owner} {i b N : Nat} {s : Dst} (h : DB w o i b s N) {c : Nat} (hc : w.cell? ⟨c, 0, none⟩ = some (.pointer (some ⟨b, 0, none⟩))) (k : Int) :
    Calls Try.prog 38 #[.int .i64 k, .pointer (some ⟨c, 0, none⟩)] w fun e w' => e = .returned (.bool (!knownB s k)) ∧ w' = w := by
  have hkn := known_ok h k
  generalize knownB s k = B at hkn ⊢
  clear h
  cases B
  · go_enter Try.func38, Try.ntmps38
    go_wp2_with (go_at_call 31; refine hkn.mono ?_; rintro e w2 ⟨rfl, rfl⟩)
    go_ret
    exact ⟨rfl, rfl⟩
  · go_enter Try.func38, Try.ntmps38
    go_wp2_with (go_at_call 31; refine hkn.mono ?_; rintro e w2 ⟨rfl, rfl⟩)
    go_ret
    exact ⟨rfl, rfl⟩

/-- What setting the order tells, and leaves. -/
def ordE (s : Dst) (l : List Int) : Int := if 8 < l.length then -49 else if l.any (fun k => !knownB s k) then -49 else 0
def ordS (s : Dst) (l : List Int) : Dst := if 8 < l.length then s else if l.any (fun k => !knownB s k) then s else { s with order := l }
theorem ordS_ok {s : Dst} (h : s.Ok) (l : List Int) : (ordS s l).Ok := by
  unfold ordS
  split
  · exact h
  · split
    · exact h
    · rename_i h1 h2
      refine ⟨h.l1, h.l8, h.c1, h.c2, ?_, by show l.length ≤ 8; omega, h.wl, h.w⟩
      intro k hk
      have : knownB s k = true := by
        cases hB : knownB s k with
        | true => rfl
        | false => exact absurd (List.any_eq_true.2 ⟨k, hk, by rw [hB]; rfl⟩) h2
      simpa [knownB] using this
theorem DB.nil {w w' : World} {o o' : Owner} {i b N : Nat} {s : Dst} (h : DB w o i b s N) (st : Step [] w o w' o') : DB w' o' i b s N := h.frame st (by simp) (by simp) (by simp) (by simp)

set_option maxHeartbeats 4000000 in
theorem setorder_ok {w : World} {o : Owner} {i b N : Nat} {s : Dst} (h : DB w o i b s N) {j n : Nat} {v : Value} {l : List Int} (hr : Rd w o j 1 v n (ints l)) :
    Calls Try.prog 20 #[.pointer (some ⟨b, 0, none⟩), v] w fun e w' => e = .returned (.int .i64 (ordE s l)) ∧ ∃ o', DB w' o' i b (ordS s l) N ∧ Step [i] w o w' o' := by
  have s0 : Step [] w o (w.alloc (.cells #[.pointer (some ⟨b, 0, none⟩)] 24)) o := (Step.refl _ _ _).alloc _
  have hC : (w.alloc (.cells #[.pointer (some ⟨b, 0, none⟩)] 24)).heap[w.heap.size]? = some (.cells #[.pointer (some ⟨b, 0, none⟩)] 24 (0, 0)) := heap_alloc_new _ _
  have hc0 : ∀ (W : World) (oW : Owner), Step [] (w.alloc (.cells #[.pointer (some ⟨b, 0, none⟩)] 24)) o W oW → W.cell? ⟨w.heap.size, 0, none⟩ = some (.pointer (some ⟨b, 0, none⟩)) := fun W oW st => by
    have := st.obj hC (by simp)
    simp [World.cell?, this]
  have h1 := h.nil s0
  have hr1 := hr.frame s0 (by simp)
  have hcf := cf_ok 32 (.inl rfl) hr1 (fun k => !knownB s k) (c := .pointer (some ⟨w.heap.size, 0, none⟩)) (fun W st k => cl32_ok (h1.nil st) (hc0 W o st) k)
  have hln : l.length = n := by obtain ⟨_, _, _, _, _, h3, _⟩ := hr; simpa [ints] using h3
  have hokS := ordS_ok h.ok l
  unfold ordE
  unfold ordS at hokS ⊢
  rw [hln] at hokS ⊢
  have hcc := hc0 _ o (Step.refl _ _ _)
  by_cases h8 : 8 < n
  · rw [if_pos h8, if_pos h8]
    have h8i : (8 : Int) < n := by omega
    obtain ⟨ao, cap, rfl, g1, g2, -, -⟩ := hr
    unfold maxLen at g2
    clear hcf hokS hc0 hr1
    go_enter Try.func20, Try.ntmps20
    go_wp2_with fail
    go_ret
    exact ⟨rfl, o, h1, s0.weaken (by simp)⟩
  · rw [if_neg h8] at hokS
    rw [if_neg h8, if_neg h8]
    have h8i : ¬ (8 : Int) < n := by omega
    cases hany : l.any (fun k => !knownB s k) with
    | true =>
      rw [hany] at hcf
      rw [if_pos rfl, if_pos rfl]
      obtain ⟨ao, cap, rfl, g1, g2, -, -⟩ := hr
      unfold maxLen at g2
      clear hokS hc0 hr1
      go_enter Try.func20, Try.ntmps20
      go_wp2_with (go_at_call 33; refine hcf.mono ?_; rintro e w2 ⟨rfl, s2⟩)
      go_ret
      exact ⟨rfl, o, h1.nil s2, (s0.trans s2).weaken (by simp)⟩
    | false =>
      rw [hany] at hcf hokS
      rw [if_neg (by decide)] at hokS
      rw [if_neg (by decide), if_neg (by decide)]
      have HOK := Lib.hid hokS
      have HC0 := Lib.hid hc0
      obtain ⟨ao, cap, rfl, g1, g2, -, -⟩ := hr
      unfold maxLen at g2
      have HL := Lib.hid hln
      have hcl := fun (W : World) (st : Step [] (w.alloc (.cells #[.pointer (some ⟨b, 0, none⟩)] 24)) o W o) => clone_ok (hr1.frame st (by simp)) (by omega) (i + 2)
      clear hokS hc0 hln hany
      go_enter Try.func20, Try.ntmps20
      go_wp2_with (go_at_call 33; refine hcf.mono ?_; rintro e w2 ⟨rfl, s2⟩)
      have c2 := HC0.out _ _ s2
      have sd : Step [] w2 o w2.drew o := (Step.refl _ _ _).drew
      have d2 := HC0.out _ _ (s2.trans sd)
      obtain ⟨ok2, hv, mb, ov, hb, hrr, hr2, hm⟩ := (h1.nil s2).nil sd
      obtain ⟨e0, e1, e2, e3, e4, f0, f1, f2, f3, f4⟩ := hb.cells5
      go_region_with (go_at_call 34; refine (hcl _ (s2.trans sd)).mono ?_; rintro e w3 ⟨v3, o3, rfl, hr3, s3⟩; obtain ⟨a3, p3, rfl, -, -⟩ := hr3.slice; have d3 := HC0.out _ _ ((s2.trans sd).trans s3); have hb3 := hb.frame s3 (by simp); obtain ⟨k0, k1, k2, k3, k4, l0, l1, l2, l3, l4⟩ := hb3.cells5)
      all_goals go_wp2_with fail
      all_goals go_ret
      all_goals
        have s6 := hb3.sstep 3 (.slice a3 n p3)
        refine ⟨rfl, o3, ⟨HOK.out, hv, mb, .slice a3 n p3, hb3.set 3 (.slice a3 n p3), (hrr.frame s3 (by simp)).frame s6 (by simp), ?_, (hm.frame s3 (by simp)).frame s6 (by simp)⟩, (((s0.trans s2).trans sd).trans s3).nil.trans s6⟩
        have := hr3.frame s6 (by simp)
        show Row _ o3 (i + 2) 3 1 _ l.length (ints l)
        rw [HL.out]
        exact this
end Go.Proofs.Ytaledmoakhlmgaa
