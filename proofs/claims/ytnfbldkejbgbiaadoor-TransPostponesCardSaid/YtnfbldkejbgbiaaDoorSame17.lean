/- Contracts: are both rows of what is to do (rows that are alike); the document's example. -/
import Derived.Test.YtnfbldkejbgbiaaDoorPlanB
namespace Go.Proofs.YtnfbldkejbgbiaaDoor
open Go Go.RowKit Go.Shelf
set_option linter.unusedSimpArgs false
set_option linter.unusedVariables false

theorem Rd.todo {w : World} {o : Owner} {i n c : Nat} {a : Option Addr} {l : List Td} (h : Rd w o i 5 (.slice a n c) n (tcells l)) {j : Nat} {t : Td} (hj : l[j]? = some t) :
    ∃ b off, a = some ⟨b, off, none⟩ ∧ b < w.heap.size ∧ w.cell? ⟨b, off + j * 5, none⟩ = some (.int .i64 t.k) ∧ w.cell? ⟨b, off + j * 5 + 1, none⟩ = some (.int .i64 t.x) ∧ w.cell? ⟨b, off + j * 5 + 2, none⟩ = some (.int .u8 t.op) ∧ w.cell? ⟨b, off + j * 5 + 3, none⟩ = some (.int .i64 t.a) ∧ w.cell? ⟨b, off + j * 5 + 4, none⟩ = some (.int .i64 t.w) := by
  obtain ⟨hjl, rfl⟩ := List.getElem?_eq_some_iff.1 hj
  have hl := h.len
  rw [tcells_length] at hl
  obtain ⟨ao, cap, hv, h1, h2, h3, h4⟩ := h
  simp only [Value.slice.injEq, true_and] at hv
  obtain ⟨rfl, rfl⟩ := hv
  obtain ⟨b, off, rfl, hb, ho, hc⟩ := h4 (by omega)
  refine ⟨b, off, rfl, hb, hc _ _ (tcells_get l j 0 hjl (by decide)), ?_, ?_, ?_, ?_⟩
  · rw [Nat.add_assoc]; exact hc _ _ (tcells_get l j 1 hjl (by decide))
  · rw [Nat.add_assoc]; exact hc _ _ (tcells_get l j 2 hjl (by decide))
  · rw [Nat.add_assoc]; exact hc _ _ (tcells_get l j 3 hjl (by decide))
  · rw [Nat.add_assoc]; exact hc _ _ (tcells_get l j 4 hjl (by decide))

theorem tlen {w : World} {o : Owner} {i n : Nat} {v : Value} {l : List Td} (h : Rd w o i 5 v n (tcells l)) : l.length = n := by
  have := h.len
  rw [tcells_length] at this
  omega

set_option maxHeartbeats 4000000 in
theorem same_ok {w : World} {o : Owner} {i1 i2 n c1 c2 : Nat} {a1 a2 : Option Addr} {l : List Td} (h1 : Rd w o i1 5 (.slice a1 n c1) n (tcells l)) (h2 : Rd w o i2 5 (.slice a2 n c2) n (tcells l)) :
    Calls Tryd.prog 12 #[.slice a1 n c1, .slice a2 n c2] w fun e w' => e = .returned (.bool true) ∧ Step [] w o w' o := by
  have hl := tlen h1
  have hbig : n ≤ 9223372036854775807 := by have := h1.le; simpa [maxLen] using this
  have HL := Lib.hid hl
  clear hl
  go_enter Tryd.func12, Tryd.ntmps12
  go_wp2_with fail
  go_loopg [5] n (fun g v wr => ∃ j : Nat, g = n - j ∧ j ≤ n ∧ v = .int .i64 j ∧ Step [] w o wr o)
  case atStart => exact ⟨0, rfl, Nat.zero_le _, rfl, Step.refl _ _ _⟩
  case round =>
    obtain ⟨j, hg, hj, rfl, st⟩ := hrel
    have HG := Lib.hid hg
    clear hg
    by_cases hlt : j < n
    · have hji : (j : Int) < n := by omega
      obtain ⟨t, ht⟩ : ∃ t, l[j]? = some t := ⟨_, List.getElem?_eq_getElem (by rw [HL.out]; exact hlt)⟩
      obtain ⟨b1, f1, rfl, _, y0, y1, y2, y3, y4⟩ := (h1.frame st (by simp)).todo ht
      obtain ⟨b2, f2, rfl, _, z0, z1, z2, z3, z4⟩ := (h2.frame st (by simp)).todo ht
      clear ht
      go_wp2_with fail
      go_quiet (fail)
      go_wp2_with fail
      go_roundg (n - (j + 1))
      case measure => rw [HG.out]; omega
      case rel => exact ⟨j + 1, rfl, by omega, by go_num, st.drewN nq⟩
    · obtain rfl : j = n := by omega
      have hji : ¬ (j : Int) < j := by omega
      go_wp2_with fail
      go_ret
      exact ⟨rfl, st⟩

set_option maxRecDepth 100000 in
set_option maxHeartbeats 8000000 in
theorem shown17_ok {w : World} {o : Owner} (hm : ML w o) : Calls Tryd.prog 9 #[] w fun e w' => e = .returned (.bool true) ∧ ∃ o', Step [] w o w' o' := by
  have hpl := plan_ok hm 20 2 0 false 5 0 3
  have hF : planF 2 0 false 5 0 3 = ([tLit 5, tCall xtLit], 0) := rfl
  rw [hF] at hpl
  have hxl : seekI (low ⟨#[108, 105, 116, 101, 114, 97, 108]⟩) + 1 = xtLit := rfl
  obtain ⟨L, hL⟩ : ∃ L, xtLit = L := ⟨_, rfl⟩
  rw [hL] at hpl hxl
  have HXL := Lib.hid hxl
  clear hF hL hxl
  go_enter Tryd.func9, Tryd.ntmps9
  go_wp2_with fail
  refine hpl.mono ?_
  rintro e w1 ⟨v, o1, rfl, hr1, s1⟩
  obtain ⟨a, c, rfl⟩ := hr1.slice'
  have hm1 := hm.frame s1 (by simp)
  have hr := hr1.rd
  obtain ⟨bb, off, rfl, _⟩ := hr.todo (j := 0) (t := tLit 5) rfl
  clear hr1 hpl hm
  go_wp2_with fail
  refine q_start (fun W => ∃ o', Step [] w1 o1 W o') (by kernel_rfl) ⟨_, (Step.refl _ _ _).drew⟩ ?_
  repeat (first
    | (refine q_off (by rfl) ?_; simp only [Act.put, List.setIfInBounds_toArray, List.set_cons_zero, List.set_cons_succ])
    | (refine q_on (by rfl) ?_; apply Exists.intro; refine ⟨fun W hW => ?_, ?_⟩; (obtain ⟨oW, sW⟩ := hW; have hrW := hr.frame sW (by simp); obtain ⟨b1, f1, e1, _, y0, y1, y2, y3, y4⟩ := hrW.todo (j := 0) (t := tLit 5) rfl; obtain ⟨b2, f2, e2, _, z0, z1, z2, z3, z4⟩ := hrW.todo (j := 1) (t := tCall L) rfl; simp only [Option.some.injEq, Addr.mk.injEq, and_true] at e1 e2; obtain ⟨rfl, rfl⟩ := e1; obtain ⟨rfl, rfl⟩ := e2; simp only [tLit, tCall, Nat.zero_mul, Nat.one_mul, Nat.add_zero] at y0 y1 y2 y3 y4 z0 z1 z2 z3 z4; go_simp; first | done | with_reducible rfl | (go_at_call 13; exact (xt_ok _ (by decide) (hm1.frame sW (by simp))).mono fun e w' k => ⟨k.1.trans (by rw [HXL.out]), k.2.elim fun o2 st => ⟨o2, sW.trans st⟩⟩)); simp only [Act.put, List.setIfInBounds_toArray, List.set_cons_zero, List.set_cons_succ])
    | fail)
  refine q_end ?_
  rintro w5 ⟨o5, s5⟩
  clear hr
  go_wp2_with fail
  go_ret
  exact ⟨rfl, _, s1.trans s5⟩
end Go.Proofs.YtnfbldkejbgbiaaDoor
