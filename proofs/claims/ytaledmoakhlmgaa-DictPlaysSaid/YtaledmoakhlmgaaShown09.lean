/- shown: the document's example holds. -/
import Derived.Test.YtaledmoakhlmgaaDicD
namespace Go.Proofs.Ytaledmoakhlmgaa
open Go Go.RowKit
set_option linter.unusedSimpArgs false
set_option linter.unusedVariables false

theorem Step.rebase {S : List Nat} {w w' : World} {o' : Owner} (h : Step S w (fun _ => 0) w' o') (hS : 0 ∉ S) (o : Owner) : Step [] w o w' o :=
  ⟨h.os, h.tape, h.output, h.size, fun _ _ => rfl, fun b hb _ => h.blk b hb hS⟩

def dup1 : Dst := ⟨[⟨⟨#[68, 117, 112]⟩, 5, false, 1⟩], 1, [1], 1⟩
theorem dup_add : addS new0 ⟨#[68, 117, 112]⟩ 5 = dup1 := by kernel_rfl
theorem dup_err : addE new0 ⟨#[68, 117, 112]⟩ = 0 := by kernel_rfl
theorem dup_find : entV (findD dup1 ⟨#[100, 85, 80]⟩) = .tuple #[.agg #[.string ⟨#[68, 117, 112]⟩, .int .i64 5, .bool false], .bool true] := by kernel_rfl

set_option maxRecDepth 100000 in
set_option maxHeartbeats 4000000 in
theorem shown_ok (w : World) (o : Owner) : Calls Try.prog 9 #[] w fun e w' => e = .returned (.bool true) ∧ Step [] w o w' o := by
  go_enter Try.func9, Try.ntmps9
  go_wp2_with fail
  refine (new_ok w (fun _ => 0) 10).mono ?_
  rintro e w1 ⟨b, o1, rfl, h1, s1⟩
  go_wp2_with fail
  refine (add_ok h1 (by decide) ⟨#[68, 117, 112]⟩ (by decide) 5).mono ?_
  rintro e w2 ⟨rfl, o2, h2, s2⟩
  rw [dup_add] at h2
  rw [dup_err]
  replace s1 : Step [10, 11, 13] _ _ _ _ := (s1.nil).trans s2
  go_wp2_with fail
  have hf := find_ok h2 ⟨#[100, 85, 80]⟩ (by decide)
  rw [dup_find] at hf
  refine hf.mono ?_
  rintro e w3 ⟨rfl, o3, s3⟩
  replace s1 := s1.trans s3.nil
  go_wp2_with fail
  go_ret
  exact ⟨rfl, (s1.trans (Step.nil ((Step.refl [] w3 o3).alloc _))).rebase (by decide) o⟩
end Go.Proofs.Ytaledmoakhlmgaa
