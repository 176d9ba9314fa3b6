/- The digit of a letter; the last digit taken off: both sides. -/
import Derived.Test.YtfeeikhcdphcpaaDigL
namespace Go.Proofs.Ytfeeikhcdphcpaa
open Go Go.RowKit
set_option linter.unusedSimpArgs false
set_option linter.unusedVariables false

def ixl (c : Int) : Int := if 48 ≤ c ∧ c ≤ 57 then c - 48 else if 65 ≤ c ∧ c ≤ 90 then c - 55 else -1
theorem ixl_eq (c : Int) (h0 : 0 ≤ c) (h1 : c < 256) : Lib.indexByte LET.data.toList c.toNat.toUInt8 = ixl c := by
  have h : ((List.range 256).all fun k => Lib.indexByte LET.data.toList k.toUInt8 == ixl (k : Int)) = true := by kernel_rfl
  have := List.all_eq_true.1 h c.toNat (by simp; omega)
  rw [beq_iff_eq, Int.toNat_of_nonneg h0] at this
  exact this
theorem ixl_up (c : Int) : ixl (up c) = dig c := rfl

theorem alg_run (s : ByteArray) (c : Int) (w : World) : (callFunc 56 #[.string s, .int .u8 c]).run Try.prog w = .ok (.value (.int .i64 (Lib.indexByte s.data.toList c.toNat.toUInt8))) w := by
  rw [run_callFunc_extern Try.func56 (by kernel_rfl) (by kernel_rfl) (by kernel_rfl) (e := Extern.BytealgIndexByte.indexByte) (by kernel_rfl), Lib.run_indexByteString]
  rfl
theorem lite_ok (s : ByteArray) (c : Int) (w : World) : Calls Try.prog 47 #[.string s, .int .u8 c] w fun e w' => e = .returned (.int .i64 (Lib.indexByte s.data.toList c.toNat.toUInt8)) ∧ w' = w := by
  go_enter Try.func47, Try.ntmps47
  go_wp2_with (simp only [alg_run])
  go_ret
  exact ⟨rfl, rfl⟩
theorem ix_ok (c : Int) (h0 : 0 ≤ c) (h1 : c < 256) (w : World) : Calls Try.prog 32 #[.string LET, .int .u8 c] w fun e w' => e = .returned (.int .i64 (ixl c)) ∧ w' = w := by
  rw [← ixl_eq c h0 h1]
  go_enter Try.func32, Try.ntmps32
  go_wp2_with (go_at_call 47; refine (lite_ok _ _ _).mono ?_; rintro e w1 ⟨rfl, rfl⟩)
  go_ret
  exact ⟨rfl, rfl⟩

theorem val_ok (c b : Int) (h0 : 0 ≤ c) (h1 : c < 256) (w : World) : Calls Try.prog 13 #[.int .u8 c, .int .i64 b] w fun e w' => e = .returned (.tuple #[.int .i64 (valV c b), .bool (valB c b)]) ∧ w' = w := by
  obtain ⟨u, hu⟩ : ∃ u, up c = u := ⟨_, rfl⟩
  have u0 : 0 ≤ u ∧ u < 256 := by subst hu; unfold up; split <;> omega
  have hix := ix_ok u u0.1 u0.2
  obtain ⟨n, hn⟩ : ∃ n, ixl u = n := ⟨_, rfl⟩
  rw [hn] at hix
  have hd : dig c = n := by rw [← ixl_up, hu, hn]
  have hv : (0 ≤ n ∧ n < b → valV c b = n ∧ valB c b = true) ∧ (¬ (0 ≤ n ∧ n < b) → valV c b = 0 ∧ valB c b = false) := by
    unfold valV valB
    rw [hd]
    constructor
    · intro h; simp [h]
    · intro h; rw [decide_eq_false h]; exact ⟨rfl, rfl⟩
  have huc : (97 ≤ c ∧ c ≤ 122 → u = c - 32) ∧ (¬ (97 ≤ c ∧ c ≤ 122) → u = c) := by
    subst hu; unfold up
    constructor
    · intro h; rw [if_pos h]
    · intro h; rw [if_neg h]
  clear hu hn hd
  have hcase : (0 ≤ n ∧ n < b) ∨ ¬ (0 ≤ n) ∨ (0 ≤ n ∧ ¬ n < b) := by omega
  have hlet : (97 ≤ c ∧ c ≤ 122) ∨ ¬ (97 ≤ c) ∨ (97 ≤ c ∧ ¬ c ≤ 122) := by omega
  rcases hlet with ⟨k1, k2⟩ | k1 | ⟨k1, k2⟩
  · have hw : IntKind.u8.wrap (c - 32) = u := by rw [huc.1 ⟨k1, k2⟩, IntKind.wrap_u8]; omega
    clear huc u0
    rcases hcase with ⟨k3, k4⟩ | k3 | ⟨k3, k4⟩
    · obtain ⟨v1, v2⟩ := hv.1 ⟨k3, k4⟩
      rw [v1, v2]
      clear hv v1 v2
      go_enter Try.func13, Try.ntmps13
      go_wp2_with (go_at_call 32; refine (hix _).mono ?_; rintro e w1 ⟨rfl, rfl⟩)
      go_ret2
      exact ⟨rfl, rfl⟩
    all_goals
      obtain ⟨v1, v2⟩ := hv.2 (by omega)
      rw [v1, v2]
      clear hv v1 v2
      go_enter Try.func13, Try.ntmps13
      go_wp2_with (go_at_call 32; refine (hix _).mono ?_; rintro e w1 ⟨rfl, rfl⟩)
      go_ret2
      exact ⟨rfl, rfl⟩
  all_goals
    obtain rfl := huc.2 (by omega)
    clear huc u0
    rcases hcase with ⟨k3, k4⟩ | k3 | ⟨k3, k4⟩
    · obtain ⟨v1, v2⟩ := hv.1 ⟨k3, k4⟩
      rw [v1, v2]
      clear hv v1 v2
      go_enter Try.func13, Try.ntmps13
      go_wp2_with (go_at_call 32; refine (hix _).mono ?_; rintro e w1 ⟨rfl, rfl⟩)
      go_ret2
      exact ⟨rfl, rfl⟩
    all_goals
      obtain ⟨v1, v2⟩ := hv.2 (by omega)
      rw [v1, v2]
      clear hv v1 v2
      go_enter Try.func13, Try.ntmps13
      go_wp2_with (go_at_call 32; refine (hix _).mono ?_; rintro e w1 ⟨rfl, rfl⟩)
      go_ret2
      exact ⟨rfl, rfl⟩

/-- Is c the letter of k? -/
def isL (k c : Int) : Bool := chr k == c || (decide (9 < k) && IntKind.u8.wrap (chr k + 32) == c)
theorem isL_dig (k c : Int) (h0 : 0 ≤ k) (h1 : k < 36) (c0 : 0 ≤ c) (c1 : c < 256) : isL k c = (dig c == k) := by
  have h : ((List.range 36).all fun k => (List.range 256).all fun c => isL (k : Int) (c : Int) == (dig (c : Int) == (k : Int))) = true := by kernel_rfl
  have h2 := List.all_eq_true.1 h k.toNat (by simp; omega)
  have h3 := List.all_eq_true.1 h2 c.toNat (by simp; omega)
  rw [beq_iff_eq, Int.toNat_of_nonneg h0, Int.toNat_of_nonneg c0] at h3
  exact h3

set_option maxHeartbeats 4000000 in
theorem rval_ok (c b : Int) (h0 : 0 ≤ c) (h1 : c < 256) (w : World) : Calls Try.prog 14 #[.int .u8 c, .int .i64 b] w fun e w' => e = .returned (.tuple #[.int .i64 (valV c b), .bool (valB c b)]) ∧ w' = w := by
  have hdr : -1 ≤ dig c ∧ dig c < 36 := by unfold dig; split <;> (try split) <;> omega
  have hvs : (0 ≤ dig c ∧ dig c < b → valV c b = dig c ∧ valB c b = true) ∧ (¬ (0 ≤ dig c ∧ dig c < b) → valV c b = 0 ∧ valB c b = false) := by
    unfold valV valB
    constructor
    · intro h; simp [h]
    · intro h; rw [decide_eq_false h]; exact ⟨rfl, rfl⟩
  obtain ⟨D, hD⟩ : ∃ D, dig c = D := ⟨_, rfl⟩
  obtain ⟨V, hV⟩ : ∃ V, valV c b = V := ⟨_, rfl⟩
  obtain ⟨B, hB⟩ : ∃ B, valB c b = B := ⟨_, rfl⟩
  have hI : ∀ k : Int, 0 ≤ k → k < 36 → isL k c = (D == k) := fun k a1 a2 => by rw [isL_dig k c a1 a2 h0 h1, hD]
  rw [hD, hV, hB] at hvs
  rw [hV, hB]
  rw [hD] at hdr
  have HI := Lib.hid hI
  have HV := Lib.hid hvs
  have HR := Lib.hid hdr
  clear hD hV hB hI hvs hdr
  go_enter Try.func14, Try.ntmps14
  go_wp2_with fail
  go_loopg [6] 36 (fun g v wr => ∃ k : Nat, g = 36 - k ∧ k ≤ 36 ∧ v = .int .i64 k ∧ Hid (¬ (0 ≤ D ∧ D < k)) ∧ wr = w)
  case atStart => exact ⟨0, rfl, by omega, rfl, Lib.hid (by omega), rfl⟩
  case round =>
    obtain ⟨k, hg, hk, rfl, hno, rfl⟩ := hrel
    have HG := Lib.hid hg
    clear hg
    by_cases hkb : (k : Int) < b
    · by_cases hk36 : (k : Int) < 36
      · have hkn : k < 36 := by omega
        have hel := let_nat k (show k < LET.size from hkn)
        have hi := HI.out k (by omega) hk36
        unfold isL at hi
        generalize chr (k : Int) = ch at hi hel
        rw [IntKind.wrap_u8] at hi
        have HE := Lib.hid hi
        clear hi
        go_wp2
        rotate_left 2
        · have hD : (D == (k : Int)) = false := by rw [← HE.out]; rename_i a1 a2 a3; rw [a3.1, a3.2]; simp
          have hD2 : ¬ D = k := by simpa using hD
          go_roundg (36 - (k + 1))
          case measure => rw [HG.out]; omega
          case rel => exact ⟨k + 1, rfl, by omega, by go_num, Lib.hid (by have := hno.out; omega), rfl⟩
        · have hD : (D == (k : Int)) = false := by rw [← HE.out]; rename_i a1 a2 a3; rw [a2, decide_eq_false (by omega)]; simp
          have hD2 : ¬ D = k := by simpa using hD
          go_roundg (36 - (k + 1))
          case measure => rw [HG.out]; omega
          case rel => exact ⟨k + 1, rfl, by omega, by go_num, Lib.hid (by have := hno.out; omega), rfl⟩
        · have hD : (D == (k : Int)) = true := by rw [← HE.out]; rename_i a1; rw [a1]; simp
          have hD2 : D = k := by simpa using hD
          obtain ⟨rfl, rfl⟩ := HV.out.1 (by omega)
          subst hD2
          go_ret2
          exact ⟨rfl, rfl⟩
        · have hD : (D == (k : Int)) = true := by rw [← HE.out]; rename_i a1 a2 a3; rw [decide_eq_true a2, Bool.true_and]; rcases a3 with a3 | a3 <;> rw [a3] <;> simp
          have hD2 : D = k := by simpa using hD
          obtain ⟨rfl, rfl⟩ := HV.out.1 (by omega)
          subst hD2
          go_ret2
          exact ⟨rfl, rfl⟩
      · obtain ⟨rfl, rfl⟩ := HV.out.2 (by have := hno.out; have := HR.out; omega)
        go_wp2
        go_ret2
        exact ⟨rfl, rfl⟩
    · obtain ⟨rfl, rfl⟩ := HV.out.2 (by have := hno.out; omega)
      go_wp2
      go_ret2
      exact ⟨rfl, rfl⟩
end Go.Proofs.Ytfeeikhcdphcpaa
