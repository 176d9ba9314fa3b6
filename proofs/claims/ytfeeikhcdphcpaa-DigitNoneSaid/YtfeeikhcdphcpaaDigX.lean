/- What the statements of the digit layer are walked with: their head; is a letter a digit's. -/
import Derived.Test.YtfeeikhcdphcpaaDigW
import Derived.Test.YtfeeikhcdphcpaaQuietC
namespace Go.Proofs.Ytfeeikhcdphcpaa
open Go Go.RowKit
set_option linter.unusedSimpArgs false
set_option linter.unusedVariables false

theorem num_ex : num [36, 45, 102, 102, 46] 10 = (-255, 2) := by kernel_rfl
theorem ds_16 : ds 16 15 = [15] := by rw [ds_pos (by decide) (by decide)]; simp [ds_zero]
theorem sign_ex : signL (-255) 16 = [45, 70, 70] := by
  have h1 : U (-(-255)) = 255 := by decide
  have h2 : dgs 16 255 = [15, 15] := by unfold dgs; rw [show 255 / 16 = 15 by decide, ds_16]
  unfold signL textL
  rw [if_pos ⟨by decide, by decide⟩, if_pos (by decide), h1, txt, show (16 : Int).toNat = 16 by decide, show (255 : Int).toNat = 255 by decide, h2]
  decide
theorem pv_ex : pv (-255) = .agg #[.int .i64 (-255), .int .i64 (-1)] := by kernel_rfl

set_option maxHeartbeats 4000000 in
theorem shown_ok (w : World) : Calls Try.prog 10 #[] w fun e w' => e = .returned (.bool true) ∧ Calm w w' := by
  have hn := number_ok [36, 45, 102, 102, 46] (by decide) 10 ⟨by decide, by decide⟩
  have hs := signed_ok (-255) 16 ⟨by decide, by decide⟩
  rw [numV, num_ex, show bl [36, 45, 102, 102, 46] = ⟨#[36, 45, 102, 102, 46]⟩ from rfl] at hn
  rw [sign_ex] at hs
  simp only at hn
  rw [pv_ex] at hn hs
  obtain ⟨p, hp⟩ : ∃ p : Int, p = -255 := ⟨_, rfl⟩
  obtain ⟨q, hq⟩ : ∃ q : Int, q = -1 := ⟨_, rfl⟩
  have EP := Lib.hid pv_ex
  go_enter Try.func10, Try.ntmps10
  go_wp2_with (first
    | (go_at_call 24; refine (hn _).mono ?_; rintro e w1 ⟨rfl, s1⟩)
    | (go_at_call 17; refine (hs _).mono ?_; rintro e w2 ⟨rfl, s2⟩; have P2 := (PBlk.new w1 EP.out).calm s2; obtain ⟨a0, a1, -, -⟩ := P2.cells EP.out))
  go_ret
  exact ⟨rfl, (s1.alloc _).trans s2⟩

theorem is_ok (c b : Int) (h0 : 0 ≤ c) (h1 : c < 256) (w : World) : Calls Try.prog 26 #[.int .u8 c, .int .i64 b] w fun e w' => e = .returned (.bool (valB c b)) ∧ w' = w := by
  have h := val_ok c b h0 h1
  go_enter Try.func26, Try.ntmps26
  go_wp2_with (go_at_call 13; refine (h _).mono ?_; rintro e w1 ⟨rfl, rfl⟩)
  go_ret
  exact ⟨rfl, rfl⟩

theorem stV_parts (p b : Int) : ∃ ql qh x, stV p b = .tuple #[.agg #[.int .i64 ql, .int .i64 qh], .int .u8 x] := by
  unfold stV
  split
  · exact ⟨_, _, _, rfl⟩
  · exact ⟨_, _, _, rfl⟩
theorem few_len (s : ByteArray) : (fewB s).size ≤ 200 := by
  unfold fewB
  rw [ByteArray.size_extract]; omega
end Go.Proofs.Ytfeeikhcdphcpaa
