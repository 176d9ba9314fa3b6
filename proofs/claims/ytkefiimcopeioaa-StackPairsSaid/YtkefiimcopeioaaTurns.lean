/- StackTurns: the closure. -/
import Derived.Test.YtkefiimcopeioaaShown
import Derived.Test.YtkefiimcopeioaaDoLaws
namespace Go.Proofs.Ytkefiimcopeioaa
open Go Go.RowKit
set_option linter.unusedSimpArgs false
set_option linter.unusedVariables false

/-- One thing after the other is done, each without an error. -/
def runO : List Int → List Int → Option (List Int)
  | l, [] => some l
  | l, op :: r => if (doS l op).1 = 0 then runO (doS l op).2 r else none

theorem runO_cons {l r l' : List Int} {op : Int} (h : runO l (op :: r) = some l') : (doS l op).1 = 0 ∧ runO (doS l op).2 r = some l' := by
  rw [runO] at h
  split at h
  · exact ⟨by assumption, h⟩
  · cases h

set_option maxHeartbeats 2000000 in
theorem again_ok {w : World} {o : Owner} {bs bx b : Nat} {l x ops l' : List Int} {vx vo : Value} (hbs : Blk w o 0 bs 24 #[.pointer (some ⟨b, 0, none⟩)]) (hbx : Blk w o 0 bx 22 #[vx])
    (hs : Stk 55 w o 10 b l) (hx : Rd w o 0 1 vx x.length (ints x)) (hops : Rd w o 0 1 vo ops.length (ints ops)) (hw : ∀ u ∈ l, I64 u) (k : Nat) (hk : k ≤ 1000) (hrun : runO l (List.replicate k ops).flatten = some l') :
    Calls Try.prog 16 #[.int .i64 k, vo, .pointer (some ⟨bs, 0, none⟩), .pointer (some ⟨bx, 0, none⟩)] w fun e w' => ∃ o', e = .returned (.bool (sameB l' x)) ∧ Stk 55 w' o' 10 b l' ∧ Step [10, 11] w o w' o' := by
  have hol := hops.le
  unfold maxLen at hol
  obtain ⟨ao, cap, rfl, _, _, _, _⟩ := id hops
  have HR := Lib.hid hrun
  clear hrun
  go_enter Try.func16, Try.ntmps16
  go_wp2_with fail
  go_loopg [10] k (fun g v wr => ∃ (a : Nat) (o' : Owner) (la : List Int), g = k - a ∧ a ≤ k ∧ v = .int .i64 a ∧ Hid (runO la (List.replicate (k - a) ops).flatten = some l') ∧ Hid (∀ u ∈ la, I64 u) ∧ Stk 55 wr o' 10 b la ∧ Step [10, 11] w o wr o')
  case atStart => exact ⟨0, o, l, rfl, Nat.zero_le _, rfl, HR, hw, hs, Step.refl _ _ _⟩
  case round =>
    obtain ⟨a, o1, la, hg, ha, rfl, hr1, hw1, hs1, st1⟩ := hrel
    have HG := Lib.hid hg
    clear hg HR hs
    obtain ⟨wo, rfl⟩ : ∃ wo : World, wo = wr := ⟨_, rfl⟩
    by_cases hlt : a < k
    · have hrest : runO la (ops ++ (List.replicate (k - (a + 1)) ops).flatten) = some l' := by
        have := hr1.out
        rwa [show k - a = (k - (a + 1)) + 1 by omega, List.replicate_succ, List.flatten_cons] at this
      have HRest := Lib.hid hrest
      clear hrest hr1
      have hai : (a : Int) < k := by omega
      go_wp2_with fail
      go_loopg [14] ops.length (fun g v wr => ∃ (p : Nat) (o' : Owner) (lp : List Int), g = ops.length - p ∧ p ≤ ops.length ∧ v = .int .i64 p ∧ Hid (runO lp (ops.drop p ++ (List.replicate (k - (a + 1)) ops).flatten) = some l') ∧ Hid (∀ u ∈ lp, I64 u) ∧ Stk 55 wr o' 10 b lp ∧ Step [10, 11] w o wr o')
      case atStart => exact ⟨0, o1, la, rfl, Nat.zero_le _, rfl, HRest, hw1, hs1, st1⟩
      case round =>
        obtain ⟨p, o2, lp, hg2, hp, rfl, hr2, hw2, hs2, st2⟩ := hrel
        have HG2 := Lib.hid hg2
        clear hg2 hs1 st1 HRest hw1
        have hb2 := hbs.frame st2 (by decide)
        have hc2 := hb2.cell0
        by_cases hlt2 : p < ops.length
        · obtain ⟨bo, off, rfl, hco⟩ := (hops.frame st2 (by decide)).cellInt (by omega)
          have ho := hco p hlt2
          have hpi : (p : Int) < ops.length := by omega
          have hstep := hr2.out
          rw [List.drop_eq_getElem_cons hlt2, List.cons_append] at hstep
          generalize ops[p] = op at ho hstep
          obtain ⟨h0, h1⟩ := runO_cons hstep
          have hd := do_ok hs2 (by decide) hw2.out op
          rw [h0] at hd
          have hw3 := Lib.hid (doS_wf lp hs2.1 hw2.out op)
          have H1 := Lib.hid h1
          clear h1 h0 hstep hr2 hw2 hs2 hco hb2
          go_wp2_with (go_at_call 13; refine hd.mono ?_; rintro e w3 ⟨o3, rfl, hs3, st3⟩)
          go_roundg (ops.length - (p + 1))
          case measure => rw [HG2.out]; omega
          case rel => exact ⟨p + 1, o3, _, rfl, by omega, by go_num, H1, hw3, hs3, st2.trans st3⟩
        · have hdr : ops.drop p = [] := List.drop_eq_nil_of_le (by omega)
          have hr3 := hr2.out
          rw [hdr, List.nil_append] at hr3
          have HR3 := Lib.hid hr3
          clear hr3 hdr hr2 hb2
          go_wp2_with fail
          go_roundg (k - (a + 1))
          case measure => rw [HG.out]; omega
          case rel => exact ⟨a + 1, o2, lp, rfl, by omega, by go_num, HR3, hw2, hs2, st2⟩
    · have hak : k - a = 0 := by omega
      have hl' : la = l' := by
        have := hr1.out
        rw [hak] at this
        simpa [runO] using this
      subst hl'
      clear hr1 hw1 HG hak
      have st0 : Step [10, 11] w o wo.drew o1 := st1.drew
      have hs1 := hs1.frame ((Step.refl [] wo o1).drew) (by decide) (by decide)
      have hb2 := (hbs.frame st0 (by decide)).cell0
      have hx2 := (hbx.frame st0 (by decide)).cell0
      have hxr := hx.frame st0 (by decide)
      have hai : ¬ ((a : Int) < k) := by omega
      go_wp2_with fail
      go_region_with (first | (go_at_call 14; refine (all_ok hs1 0).mono ?_; rintro e w4 ⟨u, o4, rfl, hu, st4⟩; have hx4 := ((hbx.frame st0 (by decide)).frame st4 (by decide)).cell0; have hxr4 := hxr.frame st4 (by decide)) | (go_at_call 15; refine (same_ok hu.rd hxr4).mono ?_; rintro e w5 ⟨rfl, n2, rfl⟩))
      all_goals
        go_wp2_with fail
        go_ret
        exact ⟨o4, rfl, (hs1.frame st4 (by decide) (by decide)).frame ((Step.refl [] w4 o4).drewN n2) (by decide) (by decide), (st0.trans st4.nil).drewN n2⟩

theorem again_lit {w : World} {o : Owner} {bs bx b : Nat} {l x l' : List Int} {vx : Value} (hbs : Blk w o 0 bs 24 #[.pointer (some ⟨b, 0, none⟩)]) (hbx : Blk w o 0 bx 22 #[vx])
    (hs : Stk 55 w o 10 b l) (hx : Rd w o 0 1 vx x.length (ints x)) (hw : ∀ u ∈ l, I64 u) (ops : List Int) (hops : ops.length ≤ 1000) (k : Nat) {K : Int} (hK : K = k) (hk : k ≤ 1000) (hrun : runO l (List.replicate k ops).flatten = some l') :
    Calls Try.prog 16 #[.int .i64 K, .slice (some ⟨w.heap.size, 0, none⟩) ops.length ops.length, .pointer (some ⟨bs, 0, none⟩), .pointer (some ⟨bx, 0, none⟩)] (w.alloc (.cells (ints ops).toArray 3)) fun e w' => ∃ o', e = .returned (.bool (sameB l' x)) ∧ Stk 55 w' o' 10 b l' ∧ Step [10, 11] w o w' o' := by
  subst hK
  have st : Step [] w o (w.alloc (.cells (ints ops).toArray 3)) (o.set w.heap.size 0) := ((Step.refl _ _ _).alloc _).give (Nat.le_refl _) _
  have hr := Rd.fresh w (o.set w.heap.size 0) 1 3 (ints ops).toArray ops.length (by simp [maxLen]; omega) (by simp)
  rw [Owner.set_self] at hr
  refine (again_ok (hbs.frame st (by decide)) (hbx.frame st (by decide)) (hs.frame st (by decide) (by decide)) (hx.frame st (by decide)) hr hw k hk hrun).mono ?_
  rintro e w' ⟨o', rfl, h1, h2⟩
  exact ⟨o', rfl, h1, st.nil.trans h2⟩
end Go.Proofs.Ytkefiimcopeioaa
