/- Signed texts; small functions over strings. -/
import Derived.Test.YtfeeikhcdphcpaaDigT
import Derived.Laws.DeepStrings4
namespace Go.Proofs.Ytfeeikhcdphcpaa
open Go Go.RowKit
set_option linter.unusedSimpArgs false
set_option linter.unusedVariables false

theorem neg_calm (a : Int) (w : World) : Calls Try.prog 34 #[pv a] w fun e w' => e = .returned (pv (-a)) ∧ Calm w w' := by
  refine (neg_ok a w).mono ?_
  rintro e w' ⟨rfl, c1, c2, c3, rfl⟩
  exact ⟨rfl, (((Calm.refl _).alloc _).alloc _).alloc _⟩

def textL (p b : Int) : List UInt8 := if rightB b then txt b.toNat (U p).toNat else []
theorem textB_eq (p b : Int) : textB p b = ⟨(textL p b).toArray⟩ := by unfold textB textL; split <;> rfl
theorem textL_len (p b : Int) : (textL p b).length ≤ 128 := by
  unfold textL
  split
  · rename_i h
    obtain ⟨h1, h2⟩ := right_C h
    rw [txt_len]
    have := U_range p
    exact dgs_le128 (by omega) (by omega)
  · simp

/-- The text of a pair with its sign. -/
def signL (p b : Int) : List UInt8 := if p < 0 ∧ rightB b = true then 45 :: textL (-p) b else textL p b

theorem pv_sign {p lo hi : Int} (hp : S128 p) (e : pv p = .agg #[.int .i64 lo, .int .i64 hi]) : (0 ≤ hi ↔ 0 ≤ p) := by
  obtain ⟨h1, h2⟩ := hp
  simp only [pv, Value.agg.injEq, Array.mk.injEq, List.cons.injEq, Value.int.injEq, true_and, and_true] at e
  obtain ⟨rfl, rfl⟩ := e
  unfold wrap64
  omega

set_option maxHeartbeats 2000000 in
theorem signed_ok (p b : Int) (hp : S128 p) (w : World) : Calls Try.prog 17 #[pv p, .int .i64 b] w fun e w' => e = .returned (.string ⟨(signL p b).toArray⟩) ∧ Calm w w' := by
  obtain ⟨pl, ph, -, -, -, ep, -⟩ := pv_split p
  obtain ⟨nl, nh, -, -, -, en, -⟩ := pv_split (-p)
  have hs := pv_sign hp ep
  have hri := right_ok b
  have ht := text_ok p b
  have htn := text_ok (-p) b
  have hn := neg_calm p
  rw [textB_eq] at ht htn
  rw [ep] at ht hn
  rw [en] at htn hn
  have ks := sadd [45] (textL (-p) b) (by have := textL_len (-p) b; simp; omega)
  rw [ep]
  unfold signL
  by_cases h0 : 0 ≤ p
  · have h1 := hs.2 h0
    rw [if_neg (by omega)]
    clear hs hri htn hn ks ep en
    go_enter Try.func17, Try.ntmps17
    go_wp2_with (go_at_call 15; refine (ht _).mono ?_; rintro e w2 ⟨rfl, s2⟩)
    go_ret
    exact ⟨rfl, ((Calm.refl _).alloc _).trans s2⟩
  · have h1 : ¬ 0 ≤ ph := fun h => h0 (hs.1 h)
    cases hr : rightB b with
    | false =>
      rw [hr] at hri
      rw [if_neg (by simp)]
      clear hs htn hn ks ep en
      go_enter Try.func17, Try.ntmps17
      go_wp2_with (first | (go_at_call 28; refine (hri _).mono ?_; rintro e w1 ⟨rfl, rfl⟩) | (go_at_call 15; refine (ht _).mono ?_; rintro e w2 ⟨rfl, s2⟩))
      go_ret
      exact ⟨rfl, ((Calm.refl _).alloc _).trans s2⟩
    | true =>
      rw [hr] at hri
      rw [if_pos ⟨by omega, rfl⟩]
      have hL : 45 :: textL (-p) b = [45] ++ textL (-p) b := rfl
      rw [hL]
      generalize [45] ++ textL (-p) b = L at *
      generalize textL (-p) b = L2 at *
      clear hs ht ep en hL
      go_enter Try.func17, Try.ntmps17
      go_wp2_with (first | (go_at_call 28; refine (hri _).mono ?_; rintro e w1 ⟨rfl, rfl⟩) | (go_at_call 34; refine (hn _).mono ?_; rintro e w3 ⟨rfl, s3⟩) | (go_at_call 15; refine (htn _).mono ?_; rintro e w2 ⟨rfl, s2⟩) | (simp only [ks]))
      go_ret
      exact ⟨rfl, (((Calm.refl _).alloc _).trans s3).trans s2⟩

theorem negR_calm' (a : Int) (w : World) : Calls Try.prog 35 #[pv a] w fun e w' => e = .returned (pv (-a)) ∧ Calm w w' := negR_calm a w

set_option maxHeartbeats 2000000 in
theorem rsigned_ok (p b : Int) (hp : S128 p) (w : World) : Calls Try.prog 18 #[pv p, .int .i64 b] w fun e w' => e = .returned (.string ⟨(signL p b).toArray⟩) ∧ Calm w w' := by
  obtain ⟨pl, ph, -, -, -, ep, -⟩ := pv_split p
  obtain ⟨nl, nh, -, -, -, en, -⟩ := pv_split (-p)
  have hs := pv_sign hp ep
  have hri := rright_ok b
  have ht := rtext_ok p b
  have htn := rtext_ok (-p) b
  have hn := negR_calm p
  rw [textB_eq] at ht htn
  rw [ep] at ht hn
  rw [en] at htn hn
  have ks := sadd [45] (textL (-p) b) (by have := textL_len (-p) b; simp; omega)
  rw [ep]
  unfold signL
  by_cases h0 : 0 ≤ p
  · have h1 := hs.2 h0
    have h1' : ¬ ph < 0 := by omega
    rw [if_neg (by omega)]
    clear hs hri htn hn ks ep en
    go_enter Try.func18, Try.ntmps18
    go_wp2_with (go_at_call 16; refine (ht _).mono ?_; rintro e w2 ⟨rfl, s2⟩)
    go_ret
    exact ⟨rfl, ((Calm.refl _).alloc _).trans s2⟩
  · have h1 : ¬ 0 ≤ ph := fun h => h0 (hs.1 h)
    have h1' : ph < 0 := by omega
    cases hr : rightB b with
    | false =>
      rw [hr] at hri
      rw [if_neg (by simp)]
      clear hs htn hn ks ep en
      go_enter Try.func18, Try.ntmps18
      go_wp2_with (first | (go_at_call 30; refine (hri _).mono ?_; rintro e w1 ⟨rfl, rfl⟩) | (go_at_call 16; refine (ht _).mono ?_; rintro e w2 ⟨rfl, s2⟩))
      go_ret
      exact ⟨rfl, ((Calm.refl _).alloc _).trans s2⟩
    | true =>
      rw [hr] at hri
      rw [if_pos ⟨by omega, rfl⟩]
      have hL : 45 :: textL (-p) b = [45] ++ textL (-p) b := rfl
      rw [hL]
      generalize [45] ++ textL (-p) b = L at *
      generalize textL (-p) b = L2 at *
      clear hs ht ep en hL
      go_enter Try.func18, Try.ntmps18
      go_wp2_with (first | (go_at_call 30; refine (hri _).mono ?_; rintro e w1 ⟨rfl, rfl⟩) | (go_at_call 35; refine (hn _).mono ?_; rintro e w3 ⟨rfl, s3⟩) | (go_at_call 16; refine (htn _).mono ?_; rintro e w2 ⟨rfl, s2⟩) | (simp only [ks]))
      go_ret
      exact ⟨rfl, (((Calm.refl _).alloc _).trans s3).trans s2⟩

/-- The bytes of a text. -/
def lst (s : ByteArray) : List UInt8 := s.data.toList
theorem lst_len (s : ByteArray) : (lst s).length = s.size := rfl

theorem bases_ok (c : UInt8) (w : World) : Calls Try.prog 41 #[.int .u8 (c.toNat : Nat)] w fun e w' => e = .returned (.int .i64 (base1 c)) ∧ w' = w := by
  have h35 : ((c.toNat : Nat) : Int) = 35 ↔ c = 35 := by constructor <;> intro h; (· apply UInt8.toNat_inj.1; show c.toNat = 35; omega); (· subst h; rfl)
  have h36 : ((c.toNat : Nat) : Int) = 36 ↔ c = 36 := by constructor <;> intro h; (· apply UInt8.toNat_inj.1; show c.toNat = 36; omega); (· subst h; rfl)
  have h37 : ((c.toNat : Nat) : Int) = 37 ↔ c = 37 := by constructor <;> intro h; (· apply UInt8.toNat_inj.1; show c.toNat = 37; omega); (· subst h; rfl)
  have hv : base1 c = if ((c.toNat : Nat) : Int) = 35 then 10 else if ((c.toNat : Nat) : Int) = 36 then 16 else if ((c.toNat : Nat) : Int) = 37 then 2 else 0 := by
    unfold base1; simp only [h35, h36, h37]
  rw [hv]
  clear h35 h36 h37 hv
  generalize ((c.toNat : Nat) : Int) = d
  go_enter Try.func41, Try.ntmps41
  go_wp2
  all_goals (go_ret; refine ⟨?_, rfl⟩; simp_all)
end Go.Proofs.Ytfeeikhcdphcpaa
