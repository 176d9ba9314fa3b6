/- Contract: the reference's All. -/
import Derived.Test.YtnfbldkejbgbiaaDoorAllP
namespace Go.Proofs.YtnfbldkejbgbiaaDoor
open Go Go.RowKit
set_option linter.unusedSimpArgs false
set_option linter.unusedVariables false

theorem kind2_all : ((List.range 9).all fun j => nowB 2 ((nm 2).getD j ByteArray.empty) == false && onlyB 2 ((nm 2).getD j ByteArray.empty) == decide (j < 6)) = true := by kernel_rfl
theorem kind4_all : ((List.range 47).all fun j => nowB 4 ((nm 4).getD j ByteArray.empty) == decide (((j : Int) + 1) ∈ nowN) && onlyB 4 ((nm 4).getD j ByteArray.empty) == decide (((j : Int) + 1) ∈ onlyN)) = true := by kernel_rfl
theorem kind2 {j : Nat} (h : j < 9) : nowB 2 ((nm 2).getD j ByteArray.empty) = false ∧ onlyB 2 ((nm 2).getD j ByteArray.empty) = decide (j < 6) := by
  have := List.all_eq_true.1 kind2_all j (List.mem_range.2 h)
  rw [Bool.and_eq_true, beq_iff_eq, beq_iff_eq] at this
  exact this
theorem kind4 {j : Nat} (h : j < 47) : nowB 4 ((nm 4).getD j ByteArray.empty) = decide (((j : Int) + 1) ∈ nowN) ∧ onlyB 4 ((nm 4).getD j ByteArray.empty) = decide (((j : Int) + 1) ∈ onlyN) := by
  have := List.all_eq_true.1 kind4_all j (List.mem_range.2 h)
  rw [Bool.and_eq_true, beq_iff_eq, beq_iff_eq] at this
  exact this

theorem Rd.fresh2 (w : World) (o : Owner) (size E : Nat) (ob : Obj) (cs : Array Value) (n : Nat) (hn : n ≤ maxLen) (h : cs.size = n * size) :
    Rd ((w.alloc ob).alloc (.cells cs E)) o (o (w.alloc ob).heap.size) size (.slice (some ⟨w.heap.size + 1, 0, none⟩) n n) n cs.toList := by
  have := Rd.fresh (w.alloc ob) o size E cs n hn h
  rwa [show (w.alloc ob).heap.size = w.heap.size + 1 by simp] at this ⊢

set_option maxRecDepth 100000 in
set_option maxHeartbeats 16000000 in
theorem rall_ok (w : World) (o : Owner) (i : Nat) : Calls Tryd.prog 20 #[] w fun e w' => ∃ v o', e = .returned v ∧ Row w' o' i 49 5 v 180 (bcells built) ∧ Step [] w o w' o' := by
  go_enter Tryd.func20, Tryd.ntmps20
  go_wp2_with fail
  go_loopg [1, 2] 4 (fun g x v wr => ∃ (p : Nat) (o' : Owner), g = 4 - p ∧ p ≤ 4 ∧ v = .int .i64 ((p + 1 : Nat) : Int) ∧ Row wr o' 80 49 5 x (upto p).length (bcells (upto p)) ∧ Step [63, 80] w (fun _ => 0) wr o')
  case atStart => exact ⟨0, _, rfl, by decide, rfl, Row.nil _ _ _ _ _ none, Step.refl _ _ _⟩
  case round =>
    obtain ⟨p, o4, hg, hp, rfl, hx4, s4⟩ := hrel
    have HG := Lib.hid hg
    clear hg
    obtain ⟨ax, cx, rfl⟩ := hx4.slice'
    by_cases hlt : p < 4
    · have hup := upto_succ p
      have hle := upto_le (p + 1) (by omega)
      have hle0 := nm_le ((p + 1 : Nat) : Int)
      obtain ⟨k, hkp⟩ : ∃ k, p + 1 = k := ⟨_, rfl⟩
      have hk14 : 1 ≤ k ∧ k ≤ 4 := by omega
      have hpi : (k : Int) ≤ 4 := by omega
      rw [hkp] at hup hle hle0 ⊢
      obtain ⟨L, hL⟩ : ∃ L, nm (k : Int) = L := ⟨_, rfl⟩
      obtain ⟨M, hM⟩ : ∃ M, upto p = M := ⟨_, rfl⟩
      have hnk := rnames_ok (k : Int) wr o4 63
      rw [hL] at hnk hup hle0
      rw [hM] at hup hx4
      have hlen : (upto k).length = M.length + L.length := by rw [hup, List.length_append, part_length]
      have hMb : M.length + L.length ≤ 180 := by omega
      have HUP := Lib.hid hup
      have HLEN := Lib.hid hlen
      have HKP := Lib.hid hkp
      have HL := Lib.hid hL
      have hM0 : (upto p).length = M.length := by rw [hM]
      rw [hM0]
      clear hup hlen hle hkp hL hM hM0
      go_wp2_with fail
      refine hnk.mono ?_
      rintro e w5 ⟨a, o5, rfl, hr5, s5⟩
      have hx5 := hx4.frame s5 (by simp)
      have S5 := s4.trans s5.nil
      clear hnk hx4 s5 s4
      go_wp2_with fail
      go_loopg [1, 4] L.length (fun g x v wr => ∃ (j : Nat) (o' : Owner), g = L.length - j ∧ j ≤ L.length ∧ v = .int .i64 j ∧ Row wr o' 80 49 5 x (M.length + j) (bcells (M ++ part k j)) ∧ Step [80] w5 o5 wr o')
      case atStart => exact ⟨0, o5, rfl, Nat.zero_le _, rfl, by simpa [part] using hx5, Step.refl _ _ _⟩
      case round =>
        obtain ⟨j, o6, hg2, hj, rfl, hx6, s6⟩ := hrel
        have HG2 := Lib.hid hg2
        clear hg2 hx5
        obtain ⟨ax, cx, rfl⟩ := hx6.slice'
        by_cases hlt2 : j < L.length
        · have hji : (j : Int) < L.length := by omega
          obtain ⟨b, off, rfl, y⟩ := (hr5.frame s6 (by decide)).text j hlt2
          obtain ⟨s, hs⟩ : ∃ s, L.getD j ByteArray.empty = s := ⟨_, rfl⟩
          have HS := Lib.hid hs
          rw [hs] at y
          have hpart : part k (j + 1) = part k j ++ [mkB k j s] := by rw [part_succ, HL.out, hs]
          have HPART := Lib.hid hpart
          clear hpart hs
          have S6 := S5.trans (s6.weaken (by decide))
          have c1 := rnow_ok ((j : Int) + 1)
          have c2 := ronly_ok ((j : Int) + 1)
          obtain ⟨q1, hq1⟩ : ∃ q, decide ((j : Int) + 1 ∈ nowN) = q := ⟨_, rfl⟩
          obtain ⟨q2, hq2⟩ : ∃ q, decide ((j : Int) + 1 ∈ onlyN) = q := ⟨_, rfl⟩
          simp only [hq1] at c1
          simp only [hq2] at c2
          obtain ⟨X, hX⟩ : ∃ X, X = bcells (M ++ part k j) := ⟨_, rfl⟩
          rw [← hX] at hx6
          have hxB : ∀ c1 c2, Row ((wr.alloc (.cells c1 49)).alloc (.cells c2 49)) o6 80 49 5 (.slice ax (M.length + j) cx) (M.length + j) X := fun c1 c2 => hx6.frame (((Step.refl [] wr o6).alloc _).alloc _) (by simp)
          have HX := Lib.hid hX
          have HQ1 := Lib.hid hq1
          have HQ2 := Lib.hid hq2
          have hwj : wrap64 ((j : Int) + 1) = ((j + 1 : Nat) : Int) := by unfold wrap64; omega
          clear hX hq1 hq2 hx6
          by_cases kk : k = 3
          · have q3 : mkB k j s = ⟨s, k, j + 1, true, true⟩ := by rw [kk]; rfl
            have HM := Lib.hid q3
            have i3 : ((k : Int) == 3) = true := by simp [kk]
            have i2 : ((k : Int) == 2) = false := by simp [kk]
            have i4 : ((k : Int) == 4) = false := by simp [kk]
            clear q3 kk
            go_wp2_with (at_builtin; refine wpList_app rfl (.tmp 58) (.tmp 60) 45 rfl Tryd.underlying45 infoB rfl rfl (hxB _ _) rfl (Rd.fresh2 wr o6 5 49 _ _ 1 (by decide) rfl) (by simp [Value.oneCell']) (by omega) (by omega) ?_)
            intro vx w7 o7 hx7 s7
            obtain ⟨ax7, cx7, rfl⟩ := hx7.slice'
            have S7 := ((s6.alloc _).alloc _).trans s7
            go_wp2_with fail
            go_roundg (L.length - (j + 1))
            case measure => rw [HG2.out]; omega
            case rel =>
              refine ⟨j + 1, o7, rfl, by omega, by go_num, hx7.cast ?_, S7⟩
              rw [HPART.out, ← List.append_assoc, bcells_app, bcells_one, HX.out, HM.out]
              rfl
          have n3 := kk
          clear kk
          by_cases kk : k = 1
          · have q3 : mkB k j s = ⟨s, k, j + 1, false, false⟩ := by rw [kk]; rfl
            have HM := Lib.hid q3
            have i3 : ((k : Int) == 3) = false := by simp [kk]
            have i2 : ((k : Int) == 2) = false := by simp [kk]
            have i4 : ((k : Int) == 4) = false := by simp [kk]
            clear q3 kk
            go_wp2_with (at_builtin; refine wpList_app rfl (.tmp 58) (.tmp 60) 45 rfl Tryd.underlying45 infoB rfl rfl (hxB _ _) rfl (Rd.fresh2 wr o6 5 49 _ _ 1 (by decide) rfl) (by simp [Value.oneCell']) (by omega) (by omega) ?_)
            intro vx w7 o7 hx7 s7
            obtain ⟨ax7, cx7, rfl⟩ := hx7.slice'
            have S7 := ((s6.alloc _).alloc _).trans s7
            go_wp2_with fail
            go_roundg (L.length - (j + 1))
            case measure => rw [HG2.out]; omega
            case rel =>
              refine ⟨j + 1, o7, rfl, by omega, by go_num, hx7.cast ?_, S7⟩
              rw [HPART.out, ← List.append_assoc, bcells_app, bcells_one, HX.out, HM.out]
              rfl
          have n1 := kk
          clear kk
          by_cases kk : k = 2
          · have hL2 : L = nm 2 := by rw [← HL.out, kk]; rfl
            have hj9 : j < 9 := by rw [hL2, nm_lengths.2.1] at hlt2; exact hlt2
            obtain ⟨f1, f2⟩ := kind2 hj9
            rw [← hL2, HS.out] at f1 f2
            have q3 : mkB k j s = ⟨s, k, j + 1, false, decide (j < 6)⟩ := by rw [mkB, kk, f1, f2]
            have HM := Lib.hid q3
            have i3 : ((k : Int) == 3) = false := by simp [kk]
            have i2 : ((k : Int) == 2) = true := by simp [kk]
            have i4 : ((k : Int) == 4) = false := by simp [kk]
            clear q3 kk f1 f2 hL2 hj9
            by_cases h6 : j < 6
            · have h6i : (j : Int) < 6 := by omega
              rw [decide_eq_true h6] at HM
              go_wp2_with (at_builtin; refine wpList_app rfl (.tmp 58) (.tmp 60) 45 rfl Tryd.underlying45 infoB rfl rfl (hxB _ _) rfl (Rd.fresh2 wr o6 5 49 _ _ 1 (by decide) rfl) (by simp [Value.oneCell']) (by omega) (by omega) ?_)
              intro vx w7 o7 hx7 s7
              obtain ⟨ax7, cx7, rfl⟩ := hx7.slice'
              have S7 := ((s6.alloc _).alloc _).trans s7
              go_wp2_with fail
              go_roundg (L.length - (j + 1))
              case measure => rw [HG2.out]; omega
              case rel =>
                refine ⟨j + 1, o7, rfl, by omega, by go_num, hx7.cast ?_, S7⟩
                rw [HPART.out, ← List.append_assoc, bcells_app, bcells_one, HX.out, HM.out]
                rfl
            · have h6i : ¬ (j : Int) < 6 := by omega
              rw [decide_eq_false h6] at HM
              go_wp2_with (at_builtin; refine wpList_app rfl (.tmp 58) (.tmp 60) 45 rfl Tryd.underlying45 infoB rfl rfl (hxB _ _) rfl (Rd.fresh2 wr o6 5 49 _ _ 1 (by decide) rfl) (by simp [Value.oneCell']) (by omega) (by omega) ?_)
              intro vx w7 o7 hx7 s7
              obtain ⟨ax7, cx7, rfl⟩ := hx7.slice'
              have S7 := ((s6.alloc _).alloc _).trans s7
              go_wp2_with fail
              go_roundg (L.length - (j + 1))
              case measure => rw [HG2.out]; omega
              case rel =>
                refine ⟨j + 1, o7, rfl, by omega, by go_num, hx7.cast ?_, S7⟩
                rw [HPART.out, ← List.append_assoc, bcells_app, bcells_one, HX.out, HM.out]
                rfl
          have kk4 : k = 4 := by omega
          clear kk
          have kk := kk4
          have hL2 : L = nm 4 := by rw [← HL.out, kk]; rfl
          have hj9 : j < 47 := by rw [hL2, nm_lengths.2.2.2] at hlt2; exact hlt2
          obtain ⟨f1, f2⟩ := kind4 hj9
          rw [← hL2, HS.out] at f1 f2
          have q3 : mkB k j s = ⟨s, k, j + 1, q1, q2⟩ := by rw [mkB, kk, f1, f2, HQ1.out, HQ2.out]
          have HM := Lib.hid q3
          have i3 : ((k : Int) == 3) = false := by simp [kk]
          have i2 : ((k : Int) == 2) = false := by simp [kk]
          have i4 : ((k : Int) == 4) = true := by simp [kk]
          clear q3 kk kk4 f1 f2 hL2 hj9 n1 n3
          go_wp2_with fail
          refine (c1 _).mono ?_
          rintro e w' ⟨rfl, hw⟩
          subst hw
          go_wp2_with fail
          refine (c2 _).mono ?_
          rintro e w' ⟨rfl, hw⟩
          subst hw
          go_wp2_with (at_builtin; refine wpList_app rfl (.tmp 58) (.tmp 60) 45 rfl Tryd.underlying45 infoB rfl rfl (hxB _ _) rfl (Rd.fresh2 wr o6 5 49 _ _ 1 (by decide) rfl) (by simp [Value.oneCell']) (by omega) (by omega) ?_)
          intro vx w7 o7 hx7 s7
          obtain ⟨ax7, cx7, rfl⟩ := hx7.slice'
          have S7 := ((s6.alloc _).alloc _).trans s7
          go_wp2_with fail
          go_roundg (L.length - (j + 1))
          case measure => rw [HG2.out]; omega
          case rel =>
            refine ⟨j + 1, o7, rfl, by omega, by go_num, hx7.cast ?_, S7⟩
            rw [HPART.out, ← List.append_assoc, bcells_app, bcells_one, HX.out, HM.out]
            rfl
        · obtain rfl : j = L.length := by omega
          have hji : ¬ (L.length : Int) < L.length := by omega
          have S6 := S5.trans (s6.weaken (by decide))
          clear S5 s6
          have hwk : wrap64 ((k : Int) + 1) = ((k + 1 : Nat) : Int) := by unfold wrap64; omega
          go_wp2_with fail
          go_roundg (4 - (p + 1))
          case measure => rw [HG.out]; omega
          case rel =>
            refine ⟨p + 1, o6, rfl, by omega, by rw [HKP.out]; go_num, ?_, S6⟩
            rw [HKP.out, HLEN.out, HUP.out]
            exact hx6
    · obtain rfl : p = 4 := by omega
      have hpi : ¬ ((4 + 1 : Nat) : Int) ≤ 4 := by omega
      go_wp2_with fail
      go_ret
      obtain ⟨o', hx, st⟩ := hx4.calm s4 (by decide) (by decide) o i
      rw [upto_len.2.2.2.2] at hx
      exact ⟨_, rfl, o', hx, st⟩
end Go.Proofs.YtnfbldkejbgbiaaDoor
