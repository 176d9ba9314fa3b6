/- Signed texts; small functions over strings. -/
import Derived.Test.YtglchagfclafgaaDoorDigT
import Derived.Laws.DeepStrings4
namespace Go.Proofs.YtglchagfclafgaaDoor
open Go Go.RowKit
set_option linter.unusedSimpArgs false
set_option linter.unusedVariables false

def textL (p b : Int) : List UInt8 := if rightB b then txt b.toNat (U p).toNat else []
theorem textP_eq (p b : Int) : textP p b = ⟨(textL p b).toArray⟩ := by unfold textP textL; split <;> rfl
theorem textL_len (p b : Int) : (textL p b).length ≤ 128 := by
  unfold textL
  split
  · rename_i h
    obtain ⟨h1, h2⟩ := right_C h
    rw [txt_len]
    have := U_range p
    exact dgs_le128 (by omega) (by omega)
  · simp

/-- The text of a pair with its sign. -/
def signL (p b : Int) : List UInt8 := if p < 0 ∧ rightB b = true then 45 :: textL (-p) b else textL p b

theorem pv_sign {p lo hi : Int} (hp : S128 p) (e : pv p = .agg #[.int .i64 lo, .int .i64 hi]) : (0 ≤ hi ↔ 0 ≤ p) := by
  obtain ⟨h1, h2⟩ := hp
  simp only [pv, Value.agg.injEq, Array.mk.injEq, List.cons.injEq, Value.int.injEq, true_and, and_true] at e
  obtain ⟨rfl, rfl⟩ := e
  unfold wrap64
  omega

theorem negR_calm' (a : Int) (w : World) : Calls Tryd.prog 36 #[pv a] w fun e w' => e = .returned (pv (-a)) ∧ Calm w w' := negR_calm a w

set_option maxHeartbeats 2000000 in
theorem rsigned_ok (p b : Int) (hp : S128 p) (w : World) : Calls Tryd.prog 26 #[pv p, .int .i64 b] w fun e w' => e = .returned (.string ⟨(signL p b).toArray⟩) ∧ Calm w w' := by
  obtain ⟨pl, ph, -, -, -, ep, -⟩ := pv_split p
  obtain ⟨nl, nh, -, -, -, en, -⟩ := pv_split (-p)
  have hs := pv_sign hp ep
  have hri := rright_ok b
  have ht := rtext_ok p b
  have htn := rtext_ok (-p) b
  have hn := negR_calm p
  rw [textP_eq] at ht htn
  rw [ep] at ht hn
  rw [en] at htn hn
  have ks := sadd [45] (textL (-p) b) (by have := textL_len (-p) b; simp; omega)
  rw [ep]
  unfold signL
  by_cases h0 : 0 ≤ p
  · have h1 := hs.2 h0
    have h1' : ¬ ph < 0 := by omega
    rw [if_neg (by omega)]
    clear hs hri htn hn ks ep en
    go_enter Tryd.func26, Tryd.ntmps26
    go_wp2_with (go_at_call 35; refine (ht _).mono ?_; rintro e w2 ⟨rfl, s2⟩)
    go_ret
    exact ⟨rfl, ((Calm.refl _).alloc _).trans s2⟩
  · have h1 : ¬ 0 ≤ ph := fun h => h0 (hs.1 h)
    have h1' : ph < 0 := by omega
    cases hr : rightB b with
    | false =>
      rw [hr] at hri
      rw [if_neg (by simp)]
      clear hs htn hn ks ep en
      go_enter Tryd.func26, Tryd.ntmps26
      go_wp2_with (first | (go_at_call 34; refine (hri _).mono ?_; rintro e w1 ⟨rfl, rfl⟩) | (go_at_call 35; refine (ht _).mono ?_; rintro e w2 ⟨rfl, s2⟩))
      go_ret
      exact ⟨rfl, ((Calm.refl _).alloc _).trans s2⟩
    | true =>
      rw [hr] at hri
      rw [if_pos ⟨by omega, rfl⟩]
      have hL : 45 :: textL (-p) b = [45] ++ textL (-p) b := rfl
      rw [hL]
      generalize [45] ++ textL (-p) b = L at *
      generalize textL (-p) b = L2 at *
      clear hs ht ep en hL
      go_enter Tryd.func26, Tryd.ntmps26
      go_wp2_with (first | (go_at_call 34; refine (hri _).mono ?_; rintro e w1 ⟨rfl, rfl⟩) | (go_at_call 36; refine (hn _).mono ?_; rintro e w3 ⟨rfl, s3⟩) | (go_at_call 35; refine (htn _).mono ?_; rintro e w2 ⟨rfl, s2⟩) | (simp only [ks]))
      go_ret
      exact ⟨rfl, (((Calm.refl _).alloc _).trans s3).trans s2⟩
theorem rof_ok (a : Int) (ha : C64 a) (w : World) : Calls Tryd.prog 27 #[.int .i64 a] w fun e w' => e = .returned (pv a) ∧ Calm w w' := by
  by_cases h : a < 0
  · have e : pv a = .agg #[.int .i64 a, .int .i64 (-1)] := by
      have h2 : a / 9223372036854775808 = (-1) := by unfold C64 at ha; omega
      rw [pv_cell ha, h2]
    rw [e]
    clear e
    go_enter Tryd.func27, Tryd.ntmps27
    go_wp2_with fail
    refine bodyPost_ret (v := .agg #[.int .i64 a, .int .i64 (-1)]) (by simp [results, Tryd.results27, go_sem]) rfl ⟨rfl, ?_⟩
    exact (Calm.refl w).alloc _
  · have e : pv a = .agg #[.int .i64 a, .int .i64 0] := by
      have h2 : a / 9223372036854775808 = 0 := by unfold C64 at ha; omega
      rw [pv_cell ha, h2]
    rw [e]
    clear e
    go_enter Tryd.func27, Tryd.ntmps27
    go_wp2_with fail
    refine bodyPost_ret (v := .agg #[.int .i64 a, .int .i64 0]) (by simp [results, Tryd.results27, go_sem]) rfl ⟨rfl, ?_⟩
    exact (Calm.refl w).alloc _
end Go.Proofs.YtglchagfclafgaaDoor
