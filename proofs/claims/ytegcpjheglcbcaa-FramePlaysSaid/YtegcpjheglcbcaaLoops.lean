/- FrameLoops: how often a loop is stepped. -/
import Derived.Test.YtegcpjheglcbcaaFrmE
namespace Go.Proofs.Ytegcpjheglcbcaa
open Go Go.RowKit Go.Shelf
set_option linter.unusedSimpArgs false
set_option linter.unusedVariables false

/-- Nothing old has changed, whoever owns what. -/
def Calm (w w' : World) : Prop := ∀ o, Step [] w o w' o
theorem Calm.refl (w : World) : Calm w w := fun o => Step.refl _ _ _
theorem Calm.trans {w w' w'' : World} (h : Calm w w') (k : Calm w' w'') : Calm w w'' := fun o => (h o).trans (k o)
theorem Calm.drew {w w' : World} (h : Calm w w') : Calm w w'.drew := fun o => (h o).drew
theorem Calm.below {w w' : World} (h : Calm w w') : Below w.heap.size w w' := ((Base.start w).step (h _) (by simp)).below
theorem Calm.of {S : List Nat} {w w' : World} {o' : Owner} (s : Step S w (fun _ => 0) w' o') (hS : 0 ∉ S) : Calm w w' := fun _ => ⟨s.os, s.tape, s.output, s.size, fun _ _ => rfl, fun b hb _ => s.blk b hb hS⟩

/-- So far from its end, is a loop at it. -/
def endL (l by_ : Int) : Bool := (decide (l < 0) == decide (0 ≤ by_)) && (decide (l < 0) != decide (l + by_ < 0))

theorem endF_L {X y l by_ : Int} (h : wrap64 (X - y) = l) (h1 : -100000 ≤ l ∧ l ≤ 100000) (h2 : -10 ≤ by_ ∧ by_ ≤ 10) : endF X y by_ = endL l by_ := by
  rw [endF, endL, h, show wrap64 (l + by_) = l + by_ by unfold wrap64; omega]

set_option maxHeartbeats 2000000 in
theorem loops_ok (x y by_ d : Int) (hx : -9223372036854775808 ≤ x ∧ x ≤ 9223372036854775807) (hd : ∀ i : Nat, i ≤ 300 → wrap64 (wrap64 (x + i * by_) - y) = d + i * by_ ∧ -100000 ≤ d + i * by_ ∧ d + i * by_ ≤ 100000) (hby : -10 ≤ by_ ∧ by_ ≤ 10) (m : Nat) (hm : m ≤ 300)
    (hbef : ∀ j : Nat, j < m → endL (d + j * by_) by_ = false) (hend : m < 300 → endL (d + m * by_) by_ = true) {r : Int} (hr : r = if m < 300 then (m : Int) + 1 else 0) (w : World) :
    Calls Try.prog 11 #[.int .i64 x, .int .i64 y, .int .i64 by_] w fun e w' => e = .returned (.int .i64 r) ∧ Calm w w' := by
  have HD := Lib.hid hd
  have HBEF := Lib.hid hbef
  have HEND := Lib.hid hend
  have HBY := Lib.hid hby
  have HR := Lib.hid hr
  have HX := Lib.hid hx
  clear hd hbef hend hby hr hx
  go_enter Try.func11, Try.ntmps11
  go_wp2_with fail
  refine (new_ok w (fun _ => 0) 10).mono ?_
  rintro e w1 ⟨b, o1, rfl, hs, s1⟩
  replace s1 : Step [10, 11] w (fun _ => 0) w1 o1 := s1.nil
  go_wp2_with fail
  refine (push_bare hs 3 0 0 x y).mono ?_
  rintro e w2 ⟨o2, rfl, hs, s2⟩
  replace s1 := s1.trans s2
  replace hs : FStk w2 o2 10 b [L1 x y] := hs
  clear s2
  rw [show pushE [] = 0 from rfl]
  go_wp2_with fail
  go_loopg [20] 300 (fun g v wr => ∃ (i : Nat) (o' : Owner), g = 300 - i ∧ i ≤ m ∧ i ≤ 300 ∧ v = .int .i64 i ∧ FStk wr o' 10 b [L1 (wrap64 (x + i * by_)) y] ∧ Step [10, 11] w (fun _ => 0) wr o')
  case atStart =>
    refine ⟨0, o2, rfl, Nat.zero_le _, by omega, rfl, ?_, s1⟩
    have hx := HX.out
    rw [show wrap64 (x + ((0 : Nat) : Int) * by_) = x by simp only [Int.natCast_zero, Int.zero_mul]; unfold wrap64; omega]
    exact hs
  case round =>
    obtain ⟨i, o3, hg, him, hi3, rfl, hs3, s3⟩ := hrel
    have HG := Lib.hid hg
    clear hg hs s1
    obtain ⟨X, hX⟩ : ∃ X, X = wrap64 (x + (i : Int) * by_) := ⟨_, rfl⟩
    rw [← hX] at hs3
    obtain ⟨hl, hl2⟩ := HD.out i hi3
    rw [← hX] at hl
    have hEL := endF_L hl hl2 HBY.out
    by_cases hlt : i < 300
    · have hii : (i : Int) < 300 := by omega
      have hne : (X != wrap64 (x + wrap64 ((i : Int) * by_))) = false := by
        rw [hX, bne_eq_false_iff_eq]
        generalize (i : Int) * by_ = q
        unfold wrap64; omega
      have hXn : wrap64 (X + by_) = wrap64 (x + ((i + 1 : Nat) : Int) * by_) := by
        rw [hX, show ((i + 1 : Nat) : Int) * by_ = (i : Int) * by_ + by_ by rw [Int.natCast_add, Int.add_mul]; simp]
        generalize (i : Int) * by_ = q
        unfold wrap64; omega
      have HXN := Lib.hid hXn
      have HEL := Lib.hid hEL
      have hix := index_one hs3
      clear hl hl2 hXn hEL hX
      go_wp2_with fail
      refine hix.mono ?_
      rintro e w5 ⟨rfl, s5⟩
      have hst := step_one (hs3.frame s5 (by decide) (by decide)) by_
      replace s3 := s3.trans s5.nil
      rw [HEL.out] at hst
      clear hix hs3 s5
      by_cases hem : i = m
      · subst hem
        rw [HEND.out hlt] at hst
        go_wp2_with fail
        refine hst.mono ?_
        rintro e w6 ⟨o6, rfl, hs6, s6⟩
        go_wp2_with fail
        go_ret
        refine ⟨?_, Calm.of (s3.trans s6) (by decide)⟩
        have := HR.out
        rw [if_pos hlt] at this
        rw [this]
        rfl
      · rw [HBEF.out i (by omega)] at hst
        go_wp2_with fail
        refine hst.mono ?_
        rintro e w6 ⟨o6, rfl, hs6, s6⟩
        replace hs6 : FStk w6 o6 10 b [L1 (wrap64 (X + by_)) y] := hs6
        rw [HXN.out] at hs6
        go_wp2_with fail
        go_roundg (300 - (i + 1))
        case measure => rw [HG.out]; omega
        case rel => exact ⟨i + 1, o6, rfl, by omega, by omega, by go_num, hs6, s3.trans s6⟩
    · obtain rfl : i = 300 := by omega
      obtain rfl : m = 300 := by omega
      clear hl hl2 hEL hX
      go_wp2_with fail
      go_ret
      refine ⟨?_, Calm.of s3 (by decide)⟩
      have := HR.out
      rw [if_neg (by omega)] at this
      rw [this]
      rfl
end Go.Proofs.Ytegcpjheglcbcaa
