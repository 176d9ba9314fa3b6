/- shown: the document's examples hold. -/
import Derived.Test.YtkefiimcopeioaaStkG
import Derived.Test.YtkefiimcopeioaaSame
namespace Go.Proofs.Ytkefiimcopeioaa
open Go Go.RowKit
set_option linter.unusedSimpArgs false
set_option linter.unusedVariables false

theorem Step.rebase {S : List Nat} {w w' : World} {o' : Owner} (h : Step S w (fun _ => 0) w' o') (hS : 0 ∉ S) (o : Owner) : Step [] w o w' o :=
  ⟨h.os, h.tape, h.output, h.size, fun _ _ => rfl, fun b hb _ => h.blk b hb hS⟩

theorem shown_ok (w : World) (o : Owner) : Calls Try.prog 10 #[] w fun e w' => e = .returned (.bool true) ∧ Step [] w o w' o := by
  go_enter Try.func10, Try.ntmps10
  go_wp2_with fail
  refine (new_ok w (fun _ => 0) 10).mono ?_
  rintro e w1 ⟨a, o1, rfl, ha, s1⟩
  go_wp2_with fail
  refine (new_ok w1 o1 20).mono ?_
  rintro e w2 ⟨b, o2, rfl, hb, s2⟩
  replace ha := ha.frame s2 (by decide) (by decide)
  replace s1 : Step [10, 11, 20, 21] _ _ _ _ := (s1.trans s2).nil
  clear s2
  go_wp2_with fail
  refine (put_lit ha [1, 2, 3] (by decide)).mono ?_
  rintro e w3 ⟨o3, rfl, ha, t2⟩
  replace hb := hb.frame t2 (by decide) (by decide)
  replace s1 := s1.trans (t2.weaken (by decide))
  replace ha : Stk 55 w3 o3 10 a [1, 2, 3] := ha
  go_wp2_with fail
  refine (do_ok ha (by decide) (by simp [I64]) 32).mono ?_
  rintro e w4 ⟨o4, rfl, ha, t2⟩
  replace hb := hb.frame t2 (by decide) (by decide)
  replace s1 := s1.trans (t2.weaken (by decide))
  replace ha : Stk 55 w4 o4 10 a [2, 3, 1] := ha
  rw [show (doS [1, 2, 3] 32).1 = 0 from by decide]
  go_wp2_with fail
  refine (put_lit hb [7] (by decide)).mono ?_
  rintro e w5 ⟨o5, rfl, hb, t2⟩
  replace ha := ha.frame t2 (by decide) (by decide)
  replace s1 := s1.trans (t2.weaken (by decide))
  replace hb : Stk 55 w5 o5 20 b [7] := hb
  go_wp2_with fail
  refine (put_lit hb [1] (by decide)).mono ?_
  rintro e w6 ⟨o6, rfl, hb, t2⟩
  replace ha := ha.frame t2 (by decide) (by decide)
  replace s1 := s1.trans (t2.weaken (by decide))
  replace hb : Stk 55 w6 o6 20 b [7, 1] := hb
  go_wp2_with fail
  refine (all_ok ha 0).mono ?_
  rintro e w7 ⟨v, o7, rfl, hv, t2⟩
  replace hb := hb.frame t2 (by decide) (by decide)
  replace s1 := s1.trans t2.nil
  go_wp2_with fail
  refine (same_ok (y := [2, 3, 1]) (hv.frame ((Step.refl [] w7 o7).alloc _) (by decide)).rd (Rd.fresh w7 o7 1 35 #[.int .i64 2, .int .i64 3, .int .i64 1] 3 (by simp [maxLen]) (by simp))).mono ?_
  rintro e w8 ⟨rfl, n, rfl⟩
  rw [show sameB [2, 3, 1] [2, 3, 1] = true from rfl]
  have t3 : Step [] w7 o7 ((w7.alloc (.cells #[.int .i64 2, .int .i64 3, .int .i64 1] 35)).drewN n) o7 := ((Step.refl _ _ _).alloc _).drewN n
  replace hb := hb.frame t3 (by decide) (by decide)
  replace s1 := s1.trans t3.nil
  go_wp2_with fail
  refine (do_ok hb (by decide) (by simp [I64]) 40).mono ?_
  rintro e w9 ⟨o9, rfl, hb, t2⟩
  replace s1 := s1.trans (t2.weaken (by decide))
  rw [show (doS [7, 1] 40).1 = -4 from by decide]
  go_wp2_with fail
  go_ret
  exact ⟨rfl, s1.rebase (by decide) _⟩
end Go.Proofs.Ytkefiimcopeioaa
