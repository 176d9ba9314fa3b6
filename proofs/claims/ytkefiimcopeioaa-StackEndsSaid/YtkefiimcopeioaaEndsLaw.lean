/- StackEnds: plain laws, and the methods of no stack. -/
import Derived.Test.YtkefiimcopeioaaDoLaws
import Derived.Test.YtkefiimcopeioaaShown
namespace Go.Proofs.Ytkefiimcopeioaa
open Go Go.RowKit
set_option linter.unusedSimpArgs false
set_option linter.unusedVariables false

theorem farM_err (m : List Int) (k op : Int) : ((farM m k op).1 = 0 ∨ ((farM m k op).1 = -4 ∧ (farM m k op).2 = m ++ [k])) := by
  unfold farM
  split
  · exact .inr ⟨rfl, rfl⟩
  · split <;> exact .inl rfl

theorem farS_err (l : List Int) (op : Int) : ((farS l op).1 = 0 ∨ ((farS l op).1 = -4 ∧ (farS l op).2 = l)) := by
  rcases List.eq_nil_or_concat l with rfl | ⟨m, k, rfl⟩
  · exact .inr ⟨rfl, rfl⟩
  · rw [List.concat_eq_append, farS_cc]; exact farM_err m k op

theorem tabS_err (l : List Int) (j : Nat) : ((tabS l j).1 = 0 ∨ (((tabS l j).1 = -4 ∨ (tabS l j).1 = -3) ∧ (tabS l j).2 = l)) := by
  unfold tabS
  split
  · exact .inr ⟨.inl rfl, rfl⟩
  · split
    · exact .inl rfl
    · split
      · exact .inr ⟨.inr rfl, rfl⟩
      · exact .inl rfl

/-- What is told: an operation that is none; or there is too little, or too much, and nothing changes; or all is well. -/
theorem doS_err (l : List Int) (op : Int) : ((op < 28 ∨ 42 < op) ∧ (doS l op).1 = 1 ∧ (doS l op).2 = l) ∨ ((28 ≤ op ∧ op ≤ 42) ∧ ((doS l op).1 = 0 ∨ (((doS l op).1 = -4 ∨ (doS l op).1 = -3) ∧ (doS l op).2 = l))) := by
  unfold doS
  split
  · rename_i h
    refine .inr ⟨by omega, ?_⟩
    rcases farS_err l op with h1 | ⟨h1, h2⟩
    · exact .inl h1
    · exact .inr ⟨.inl h1, h2⟩
  · split
    · refine .inr ⟨by omega, ?_⟩
      by_cases hf : l.length + [(l.length : Int)].length ≤ 128
      · exact .inl (by simp only [putE, if_pos hf])
      · exact .inr ⟨.inr (by simp only [putE, if_neg hf]), by simp only [putL, if_neg hf]⟩
    · split
      · exact .inr ⟨by omega, tabS_err _ _⟩
      · exact .inl ⟨by omega, rfl, rfl⟩

theorem depth_nil (w : World) : Calls Try.prog 18 #[.pointer none] w fun e w' => e = .returned (.int .i64 0) ∧ w' = w := by
  go_enter Try.func18, Try.ntmps18
  go_wp2
  go_ret
  exact ⟨rfl, rfl⟩
theorem put_nil (w : World) (ao : Option Addr) (n c : Nat) : Calls Try.prog 12 #[.pointer none, .slice ao n c] w fun e w' => e = .returned (.int .i64 2) ∧ w' = w := by
  go_enter Try.func12, Try.ntmps12
  go_wp2
  go_ret
  exact ⟨rfl, rfl⟩
theorem push_nil (w : World) (x : Int) (o : Owner) : Calls Try.prog 17 #[.pointer none, .int .i64 x] w fun e w' => e = .returned (.int .i64 2) ∧ Step [] w o w' o := by
  go_enter Try.func17, Try.ntmps17
  go_wp2_with (go_at_call 12; refine (put_nil _ _ _ _).mono ?_; rintro e w' ⟨rfl, rfl⟩)
  go_ret
  exact ⟨rfl, (Step.refl _ _ _).alloc _⟩
theorem do_nil (w : World) (op : Int) : Calls Try.prog 13 #[.pointer none, .int .i64 op] w fun e w' => e = .returned (.int .i64 2) ∧ w' = w := by
  go_enter Try.func13, Try.ntmps13
  go_wp2
  go_ret
  exact ⟨rfl, rfl⟩
theorem take_nil (w : World) : Calls Try.prog 20 #[.pointer none, .int .i64 1] w fun e w' => e = .returned (.tuple #[.slice none 0 0, .int .i64 2]) ∧ w' = w := by
  go_enter Try.func20, Try.ntmps20
  go_wp2_with (go_at_call 18; refine (depth_nil _).mono ?_; rintro e w' ⟨rfl, rfl⟩)
  go_ret2
  exact ⟨rfl, rfl⟩
theorem pop_nil (w : World) : Calls Try.prog 21 #[.pointer none] w fun e w' => e = .returned (.tuple #[.int .i64 0, .int .i64 2]) ∧ w' = w := by
  go_enter Try.func21, Try.ntmps21
  go_wp2_with (go_at_call 20; refine (take_nil _).mono ?_; rintro e w' ⟨rfl, rfl⟩)
  go_ret2
  exact ⟨rfl, rfl⟩

/-- The numbers from 0 on. -/
def rng (n : Nat) : List Int := (List.range n).map fun (i : Nat) => (i : Int)
theorem rng_len (n : Nat) : (rng n).length = n := by simp [rng]
theorem rng_succ (n : Nat) : rng n ++ [(n : Int)] = rng (n + 1) := by simp [rng, List.range_succ]
theorem rng_wf {n : Nat} (h : n ≤ 128) : ∀ u ∈ rng n, I64 u := by
  intro u hu
  simp only [rng, List.mem_map, List.mem_range] at hu
  obtain ⟨i, hi, rfl⟩ := hu
  constructor <;> omega
theorem cut_len (L : List Int) : (cutL L 128).length = 128 := by
  rw [cutL, List.length_take, List.length_append, List.length_replicate, show cutN 128 = 128 from rfl]
  omega
theorem cut_zero (L : List Int) : cutL L 0 = [] := by rw [cutL, show cutN 0 = 0 from rfl, List.take_zero]
end Go.Proofs.Ytkefiimcopeioaa
