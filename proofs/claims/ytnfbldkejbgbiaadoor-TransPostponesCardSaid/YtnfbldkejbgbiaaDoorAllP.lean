/- Contract: table.All. -/
import Derived.Test.YtnfbldkejbgbiaaDoorWordsD
import Derived.Test.YtnfbldkejbgbiaaDoorRowx
namespace Go.Proofs.YtnfbldkejbgbiaaDoor
open Go Go.RowKit
set_option linter.unusedSimpArgs false
set_option linter.unusedVariables false

def ZB : Value := .agg #[.string ByteArray.empty, .int .i64 0, .int .i64 0, .bool false, .bool false]
theorem infoB : (Tryd.prog.info? 49).map (fun i => (i.zero, i.size, i.bytes)) = some (some ZB, 5, 40) := by kernel_rfl

theorem upto_succ (p : Nat) : upto (p + 1) = upto p ++ part (p + 1) (nm (p + 1 : Nat)).length := rfl
theorem upto_len : (upto 0).length = 0 ∧ (upto 1).length = 107 ∧ (upto 2).length = 116 ∧ (upto 3).length = 133 ∧ (upto 4).length = 180 := by refine ⟨?_, ?_, ?_, ?_, ?_⟩ <;> kernel_rfl
theorem upto_le (p : Nat) (h : p ≤ 4) : (upto p).length ≤ 180 := by
  obtain ⟨h0, h1, h2, h3, h4⟩ := upto_len
  match p, h with
  | 0, _ => omega
  | 1, _ => omega
  | 2, _ => omega
  | 3, _ => omega
  | 4, _ => omega
  | p + 5, h => omega

theorem nowB_1 (s : ByteArray) : nowB 1 s = false := rfl
theorem onlyB_1 (s : ByteArray) : onlyB 1 s = false := rfl
theorem nowB_3 (s : ByteArray) : nowB 3 s = true := rfl
theorem onlyB_3 (s : ByteArray) : onlyB 3 s = true := rfl
theorem nowB_x {k : Nat} (h3 : k ≠ 3) (h1 : k ≠ 1) (s : ByteArray) : nowB k s = Lib.containsS nowsL s := by
  have e3 : (k == 3) = false := by simp [h3]
  have e1 : (k != 1) = true := by simp [h1]
  rw [nowB, e3, e1]; rfl
theorem onlyB_x {k : Nat} (h3 : k ≠ 3) (h1 : k ≠ 1) (s : ByteArray) : onlyB k s = Lib.containsS onlysL s := by
  have e3 : (k == 3) = false := by simp [h3]
  have e1 : (k != 1) = true := by simp [h1]
  rw [onlyB, e3, e1]; rfl

/-- The numbers of the kinds. -/
theorem kinds_at {w : World} {o : Owner} {i b : Nat} (h : Blk w o i b 3 #[.int .i64 1, .int .i64 2, .int .i64 3, .int .i64 4]) (p : Nat) (hp : p < 4) : w.cell? ⟨b, p, none⟩ = some (.int .i64 ((p + 1 : Nat) : Int)) := by
  rw [h.cell]
  match p, hp with
  | 0, _ => rfl
  | 1, _ => rfl
  | 2, _ => rfl
  | 3, _ => rfl
  | p + 4, h => omega

/-- What the row of a result is, seen by another owner. -/
theorem Row.calm {S : List Nat} {w w' : World} {o1 : Owner} {j E size n : Nat} {v : Value} {xs : List Value} (h : Row w' o1 j E size v n xs) (st : Step S w (fun _ => 0) w' o1) (hS : 0 ∉ S) (hj : j ≠ 0) (o : Owner) (i : Nat) :
    ∃ o', Row w' o' i E size v n xs ∧ Step [] w o w' o' :=
  ⟨fun b => if b < w.heap.size then o b else i, h.owner fun g hg ho => if_neg fun hlt => hj (ho.symm.trans (st.own g hlt)),
   ⟨st.os, st.tape, st.output, st.size, fun b hb => if_pos hb, fun b hb _ => st.blk b hb hS⟩⟩

set_option maxRecDepth 100000 in
set_option maxHeartbeats 16000000 in
theorem all_ok {w : World} {o : Owner} (hm0 : ML w o) (i : Nat) : Calls Tryd.prog 29 #[] w fun e w' => ∃ v o', e = .returned v ∧ Row w' o' i 49 5 v 180 (bcells built) ∧ Step [] w o w' o' := by
  have hm : ML w (fun _ => 0) := ⟨hm0.cell, rfl⟩
  clear hm0
  go_enter Tryd.func29, Tryd.ntmps29
  go_wp2_with fail
  refine (split_of _ nowsL 17 (by kernel_rfl) (by kernel_rfl) (by decide) hm 60).mono ?_
  rintro e w1 ⟨b1, o1, rfl, hn1, s1⟩
  have hm1 := hm.frame s1 (by simp)
  go_wp2_with fail
  refine (split_of _ onlysL 19 (by kernel_rfl) (by kernel_rfl) (by decide) hm1 61).mono ?_
  rintro e w2 ⟨b2, o2, rfl, hn2, s2⟩
  have hm2 := hm1.frame s2 (by simp)
  have hn1' := hn1.frame s2 (by simp)
  have sA := s1.trans s2
  clear hm hm1 hn1 s1 s2
  obtain ⟨w3, hw3⟩ : ∃ w3, w3 = w2.alloc (.cells #[.int .i64 1, .int .i64 2, .int .i64 3, .int .i64 4] 3) := ⟨_, rfl⟩
  obtain ⟨o3, ho3⟩ : ∃ o3, o3 = o2.set w2.heap.size 62 := ⟨_, rfl⟩
  have s3 : Step [] w2 o2 w3 o3 := by rw [hw3, ho3]; exact ((Step.refl _ _ _).alloc _).give (Nat.le_refl _) _
  have hk : Blk w3 o3 62 w2.heap.size 3 #[.int .i64 1, .int .i64 2, .int .i64 3, .int .i64 4] := by rw [hw3, ho3]; exact Blk.new w2 o2 62 _ _
  obtain ⟨bk, hbk⟩ : ∃ bk, w2.heap.size = bk := ⟨_, rfl⟩
  rw [hbk] at hk
  have hm3 := hm2.frame s3 (by simp)
  have hn1 := hn1'.frame s3 (by simp)
  have hn2' := hn2.frame s3 (by simp)
  have sB := sA.trans s3
  have HW3 := Lib.hid hw3
  have HBK := Lib.hid hbk
  clear hn2 hn1' hm2 sA s3 ho3 hw3 hbk
  go_wp2_with fail
  rw [← HW3.out, HBK.out]
  go_loopg [3, 14] 4 (fun g x v wr => ∃ (p : Nat) (o' : Owner), g = 4 - p ∧ p ≤ 4 ∧ v = .int .i64 p ∧ Row wr o' 80 49 5 x (upto p).length (bcells (upto p)) ∧ Step [63, 80] w3 o3 wr o')
  case atStart => exact ⟨0, o3, rfl, by decide, rfl, Row.nil _ _ _ _ _ none, Step.refl _ _ _⟩
  case round =>
    obtain ⟨p, o4, hg, hp, rfl, hx4, s4⟩ := hrel
    have HG := Lib.hid hg
    have HSB := Lib.hid sB
    clear hg sB
    obtain ⟨ax, cx, rfl⟩ := hx4.slice'
    by_cases hlt : p < 4
    · have hpi : (p : Int) < 4 := by omega
      have y := kinds_at (hk.frame s4 (by decide)) p hlt
      have hm4 := hm3.frame s4 (by decide)
      have hup := upto_succ p
      have hle := upto_le (p + 1) (by omega)
      have hle0 := nm_le ((p + 1 : Nat) : Int)
      obtain ⟨k, hkp⟩ : ∃ k, p + 1 = k := ⟨_, rfl⟩
      rw [hkp] at y hup hle hle0
      obtain ⟨L, hL⟩ : ∃ L, nm (k : Int) = L := ⟨_, rfl⟩
      obtain ⟨M, hM⟩ : ∃ M, upto p = M := ⟨_, rfl⟩
      have hnk := names_ok (k : Int) hm4 63
      rw [hL] at hnk hup hle0
      rw [hM] at hup hx4
      have hlen : (upto k).length = M.length + L.length := by rw [hup, List.length_append, part_length]
      have hMb : M.length + L.length ≤ 180 := by omega
      have HUP := Lib.hid hup
      have HLEN := Lib.hid hlen
      have HKP := Lib.hid hkp
      have HL := Lib.hid hL
      have hM0 : (upto p).length = M.length := by rw [hM]
      rw [hM0]
      clear hup hlen hle hkp hL hm4 hM hM0
      go_wp2_with fail
      refine hnk.mono ?_
      rintro e w5 ⟨a, o5, rfl, hr5, s5⟩
      have hx5 := hx4.frame s5 (by simp)
      have S5 := s4.trans s5.nil
      clear hnk hx4 s5 s4 y
      go_wp2_with fail
      go_loopg [3, 21] L.length (fun g x v wr => ∃ (j : Nat) (o' : Owner), g = L.length - j ∧ j ≤ L.length ∧ v = .int .i64 j ∧ Row wr o' 80 49 5 x (M.length + j) (bcells (M ++ part k j)) ∧ Step [80] w5 o5 wr o')
      case atStart => exact ⟨0, o5, rfl, Nat.zero_le _, rfl, by simpa [part] using hx5, Step.refl _ _ _⟩
      case round =>
        obtain ⟨j, o6, hg2, hj, rfl, hx6, s6⟩ := hrel
        have HG2 := Lib.hid hg2
        clear hg2 hx5
        obtain ⟨ax, cx, rfl⟩ := hx6.slice'
        by_cases hlt2 : j < L.length
        · have hji : (j : Int) < L.length := by omega
          obtain ⟨b, off, rfl, y⟩ := (hr5.frame s6 (by decide)).text j hlt2
          obtain ⟨s, hs⟩ : ∃ s, L.getD j ByteArray.empty = s := ⟨_, rfl⟩
          rw [hs] at y
          have hpart : part k (j + 1) = part k j ++ [mkB k j s] := by rw [part_succ, HL.out, hs]
          have HPART := Lib.hid hpart
          clear hpart hs
          have S6 := S5.trans (s6.weaken (by decide))
          have hn1q := hn1.frame S6 (by decide)
          have hn2q := hn2'.frame S6 (by decide)
          have c1 := cont_ok hn1q (n := 17) rfl (by decide) s
          have c2 := cont_ok hn2q (n := 19) rfl (by decide) s
          obtain ⟨q1, hq1⟩ : ∃ q, Lib.containsS nowsL s = q := ⟨_, rfl⟩
          obtain ⟨q2, hq2⟩ : ∃ q, Lib.containsS onlysL s = q := ⟨_, rfl⟩
          rw [hq1] at c1
          rw [hq2] at c2
          obtain ⟨X, hX⟩ : ∃ X, X = bcells (M ++ part k j) := ⟨_, rfl⟩
          rw [← hX] at hx6
          have hxB : ∀ cs, Row (wr.alloc (.cells cs 49)) o6 80 49 5 (.slice ax (M.length + j) cx) (M.length + j) X := fun cs => hx6.frame ((Step.refl [] wr o6).alloc _) (by simp)
          have HX := Lib.hid hX
          have HQ1 := Lib.hid hq1
          have HQ2 := Lib.hid hq2
          have hwj : wrap64 ((j : Int) + 1) = ((j + 1 : Nat) : Int) := by unfold wrap64; omega
          clear hX hq1 hq2 hn1q hn2q hx6
          by_cases k3 : k = 3
          · have q3 : mkB k j s = ⟨s, k, j + 1, true, true⟩ := by rw [k3]; rfl
            have HM := Lib.hid q3
            have i3 : ((k : Int) == 3) = true := by simp [k3]
            have i1 : ((k : Int) != 1) = true := by simp [k3]
            clear q3 k3
            go_wp2_with (at_builtin; refine wpList_app rfl (.tmp 30) (.tmp 54) 45 rfl Tryd.underlying45 infoB rfl rfl (hxB _) rfl (Rd.fresh wr o6 5 49 _ 1 (by decide) rfl) (by simp [Value.oneCell']) (by omega) (by omega) ?_)
            intro vx w7 o7 hx7 s7
            obtain ⟨ax7, cx7, rfl⟩ := hx7.slice'
            have S7 := (s6.alloc _).trans s7
            go_wp2_with fail
            go_roundg (L.length - (j + 1))
            case measure => rw [HG2.out]; omega
            case rel =>
              refine ⟨j + 1, o7, rfl, by omega, by go_num, hx7.cast ?_, S7⟩
              rw [HPART.out, ← List.append_assoc, bcells_app, bcells_one, HX.out, HM.out]
              rfl
          by_cases k1 : k = 1
          · have q3 : mkB k j s = ⟨s, k, j + 1, false, false⟩ := by rw [k1]; rfl
            have HM := Lib.hid q3
            have i3 : ((k : Int) == 3) = false := by simp [k1]
            have i1 : ((k : Int) != 1) = false := by simp [k1]
            clear q3 k3 k1
            go_wp2_with (at_builtin; refine wpList_app rfl (.tmp 30) (.tmp 54) 45 rfl Tryd.underlying45 infoB rfl rfl (hxB _) rfl (Rd.fresh wr o6 5 49 _ 1 (by decide) rfl) (by simp [Value.oneCell']) (by omega) (by omega) ?_)
            intro vx w7 o7 hx7 s7
            obtain ⟨ax7, cx7, rfl⟩ := hx7.slice'
            have S7 := (s6.alloc _).trans s7
            go_wp2_with fail
            go_roundg (L.length - (j + 1))
            case measure => rw [HG2.out]; omega
            case rel =>
              refine ⟨j + 1, o7, rfl, by omega, by go_num, hx7.cast ?_, S7⟩
              rw [HPART.out, ← List.append_assoc, bcells_app, bcells_one, HX.out, HM.out]
              rfl
          have q3 : mkB k j s = ⟨s, k, j + 1, q1, q2⟩ := by rw [mkB, nowB_x k3 k1, onlyB_x k3 k1, HQ1.out, HQ2.out]
          have HM := Lib.hid q3
          have i3 : ((k : Int) == 3) = false := by simp; omega
          have i1 : ((k : Int) != 1) = true := by simp; omega
          clear q3 k3 k1
          go_wp2_with fail
          refine c1.mono ?_
          rintro e w' ⟨rfl, hw⟩
          obtain rfl := hw.symm
          go_wp2_with fail
          refine c2.mono ?_
          rintro e w' ⟨rfl, hw⟩
          obtain rfl := hw.symm
          go_wp2_with (at_builtin; refine wpList_app rfl (.tmp 30) (.tmp 54) 45 rfl Tryd.underlying45 infoB rfl rfl (hxB _) rfl (Rd.fresh wr o6 5 49 _ 1 (by decide) rfl) (by simp [Value.oneCell']) (by omega) (by omega) ?_)
          intro vx w7 o7 hx7 s7
          obtain ⟨ax7, cx7, rfl⟩ := hx7.slice'
          have S7 := (s6.alloc _).trans s7
          go_wp2_with fail
          go_roundg (L.length - (j + 1))
          case measure => rw [HG2.out]; omega
          case rel =>
            refine ⟨j + 1, o7, rfl, by omega, by go_num, hx7.cast ?_, S7⟩
            rw [HPART.out, ← List.append_assoc, bcells_app, bcells_one, HX.out, HM.out]
            rfl
        · obtain rfl : j = L.length := by omega
          have hji : ¬ (L.length : Int) < L.length := by omega
          have S6 := S5.trans (s6.weaken (by decide))
          clear S5 s6
          go_wp2_with fail
          go_roundg (4 - (p + 1))
          case measure => rw [HG.out]; omega
          case rel =>
            refine ⟨p + 1, o6, rfl, by omega, by go_num, ?_, S6⟩
            rw [HKP.out, HLEN.out, HUP.out]
            exact hx6
    · obtain rfl : p = 4 := by omega
      have hpi : ¬ ((4 : Nat) : Int) < 4 := by omega
      have S4 := (HSB.out.nil (S := [63, 80])).trans s4
      go_wp2_with fail
      go_ret
      obtain ⟨o', hx, st⟩ := hx4.calm S4 (by decide) (by decide) o i
      rw [upto_len.2.2.2.2] at hx
      exact ⟨_, rfl, o', hx, st⟩
end Go.Proofs.YtnfbldkejbgbiaaDoor
