/- TablePlays: the walk. -/
import Derived.Test.YtjbccoehgggdcaaDoorShown12
namespace Go.Proofs.YtjbccoehgggdcaaDoor
open Go Go.RowKit Go.Shelf
set_option linter.unusedSimpArgs false
set_option linter.unusedVariables false

theorem findV_form (t : ByteArray) : ∃ s0 n1 n2 b3 b4 ok, findV t = .tuple #[.agg #[.string s0, .int .i64 n1, .int .i64 n2, .bool b3, .bool b4], .bool ok] := by
  rcases seek_casesb t with ⟨j, b, _, _, _, _, h⟩ | ⟨_, h, _⟩
  · exact ⟨_, _, _, _, _, _, h⟩
  · exact ⟨_, _, _, _, _, _, h⟩

set_option maxRecDepth 100000 in
set_option maxHeartbeats 8000000 in
theorem plays12_walk (a0 : ByteArray) (a1 a2 : Int) {w : World} (hm0 : ∃ m, w.cell? ⟨0, 0, none⟩ = some (.int .i64 m)) :
    Calls Tryd.prog 3 #[.string a0, .int .i64 a1, .int .i64 a2] w fun e w' => e = .returned (.bool true) ∧ Below w.heap.size w w' := by
  have hm : ML w (fun _ => 0) := ⟨hm0, rfl⟩
  have hsh := shown_ok hm
  clear hm0
  go_enter Tryd.func3, Tryd.ntmps3
  go_wp2_with fail
  refine hsh.mono ?_
  rintro e w1 ⟨rfl, o1, s1⟩
  have hm1 := hm.frame s1 (by simp)
  clear hsh
  go_wp2_with fail
  obtain ⟨t, ht⟩ : ∃ t, a0.extract 0 (min (a0.size : Int) 40).toNat = t := ⟨_, rfl⟩
  have hts : t.size ≤ 1000000 := by rw [← ht, ByteArray.size_extract]; omega
  rw [ht]
  clear ht
  obtain ⟨x0, n1, n2, b3, b4, ok, hfv⟩ := findV_form (low t)
  have hf := find_ok t hts hm1
  rw [hfv] at hf
  refine hf.mono ?_
  rintro e w2 ⟨rfl, o2, s2⟩
  have hm2 := hm1.frame s2 (by simp)
  obtain ⟨w3, hw3⟩ : ∃ w3, w3 = w2.alloc (.cells #[.string x0, .int .i64 n1, .int .i64 n2, .bool b3, .bool b4] 24) := ⟨_, rfl⟩
  have s3 : Step [] w2 o2 w3 (o2.set w2.heap.size 93) := by rw [hw3]; exact ((Step.refl _ _ _).alloc _).give (Nat.le_refl _) _
  have hA3 : Blk w3 (o2.set w2.heap.size 93) 93 w2.heap.size 24 #[.string x0, .int .i64 n1, .int .i64 n2, .bool b3, .bool b4] := by rw [hw3]; exact Blk.new w2 o2 93 _ _
  have hm3 := hm2.frame s3 (by simp)
  have hrf := rfind_ok t hts w3 (o2.set w2.heap.size 93)
  obtain ⟨p1, hp1⟩ : ∃ p1, w2.heap.size = p1 := ⟨_, rfl⟩
  rw [hfv, hw3] at hrf
  rw [hp1] at hA3 s3 hm3 hrf
  have S3 := (s1.trans s2).trans s3
  have HW3 := Lib.hid hw3
  have HP1 := Lib.hid hp1
  clear hf hw3 hp1 hfv hm1 hm2 s1 s2 s3
  go_wp2_with fail
  rw [HP1.out]
  refine hrf.mono ?_
  rintro e w4 ⟨rfl, o4, s4⟩
  rw [← HW3.out] at s4
  have hm4 := hm3.frame s4 (by simp)
  have hA4 := hA3.frame s4 (by simp)
  obtain ⟨w5, hw5⟩ : ∃ w5, w5 = w4.alloc (.cells #[.string x0, .int .i64 n1, .int .i64 n2, .bool b3, .bool b4] 24) := ⟨_, rfl⟩
  have s5 : Step [] w4 o4 w5 (o4.set w4.heap.size 94) := by rw [hw5]; exact ((Step.refl _ _ _).alloc _).give (Nat.le_refl _) _
  have hB5 : Blk w5 (o4.set w4.heap.size 94) 94 w4.heap.size 24 #[.string x0, .int .i64 n1, .int .i64 n2, .bool b3, .bool b4] := by rw [hw5]; exact Blk.new w4 o4 94 _ _
  have hm5 := hm4.frame s5 (by simp)
  have hA5 := hA4.frame s5 (by simp)
  obtain ⟨p2, hp2⟩ : ∃ p2, w4.heap.size = p2 := ⟨_, rfl⟩
  have hal := all_ok hm5 95
  rw [hw5] at hal
  rw [hp2] at hA5 hB5 s5 hm5 hal
  have S5 := (S3.trans s4).trans s5
  have HW5 := Lib.hid hw5
  have HP2 := Lib.hid hp2
  clear hrf hw5 hp2 hm3 hm4 hA3 hA4 s4 s5 S3
  go_wp2_with fail
  rw [HP2.out]
  refine hal.mono ?_
  rintro e w6 ⟨v6, o6, rfl, hx6, s6⟩
  rw [← HW5.out] at s6
  obtain ⟨g1, c1, rfl, hg6⟩ := hx6.rowx (by decide)
  have hm6 := hm5.frame s6 (by simp)
  have hA6 := hA5.frame s6 (by simp)
  have hB6 := hB5.frame s6 (by simp)
  have S6 := S5.trans s6
  clear hal hx6 hm5 hA5 hB5 s6 S5
  go_wp2_with fail
  refine (rall_ok w6 o6 96).mono ?_
  rintro e w7 ⟨v7, o7, rfl, hx7, s7⟩
  obtain ⟨g2, c2, rfl, hh7⟩ := hx7.rowx (by decide)
  have hg7 := hg6.frame s7 (by simp)
  have hm7 := hm6.frame s7 (by simp)
  have hA7 := hA6.frame s7 (by simp)
  have hB7 := hB6.frame s7 (by simp)
  have S7 := S6.trans s7
  have hbl := built_length
  clear hx7 hm6 hA6 hB6 s7 S6 hg6
  go_wp2_with fail
  go_loopg [41] 180 (fun gg v wr => ∃ j : Nat, gg = 180 - j ∧ j ≤ 180 ∧ v = .int .i64 j ∧ Step [] w7 o7 wr o7)
  case atStart => exact ⟨0, rfl, by decide, rfl, Step.refl _ _ _⟩
  case round =>
    obtain ⟨j, hg, hj, rfl, st⟩ := hrel
    have HG := Lib.hid hg
    have HBL := Lib.hid hbl
    clear hg hbl
    by_cases hlt : j < 180
    · have hji : (j : Int) < 180 := by omega
      have hjb : j < built.length := by rw [HBL.out]; exact hlt
      obtain ⟨b, hb⟩ : ∃ b, built[j]? = some b := ⟨_, List.getElem?_eq_getElem hjb⟩
      obtain ⟨y0, y1, y2, y3, y4⟩ := word_atb (hg7.frame st (by simp)) hb
      obtain ⟨z0, z1, z2, z3, z4⟩ := word_atb (hh7.frame st (by simp)) hb
      clear hb hjb
      go_wp2_with fail
      go_quiet (fail)
      go_wp2_with fail
      go_roundg (180 - (j + 1))
      case measure => rw [HG.out]; omega
      case rel => exact ⟨j + 1, rfl, by omega, by go_num, st.drewN nq⟩
    · obtain rfl : j = 180 := by omega
      have hji : ¬ ((180 : Nat) : Int) < 180 := by omega
      have hmr := hm7.frame st (by simp)
      obtain ⟨⟨x1, x2, x3, x4, x5⟩, _⟩ := box_facts (hA7.frame st (by simp))
      obtain ⟨⟨z1, z2, z3, z4, z5⟩, _⟩ := box_facts (hB7.frame st (by simp))
      have hn := name_ok a1 a2 hmr
      have hr := fun (w : World) (o : Owner) => rname_ok a1 a2 w o
      obtain ⟨q, hq⟩ : ∃ q, nameOf a1 a2 = q := ⟨_, rfl⟩
      rw [hq] at hn
      simp only [hq] at hr
      have S8 := S7.trans st
      clear hq hg7 hh7 hA7 hB7 hm7 st S7 hmr
      go_wp2_with fail
      refine hn.mono ?_
      rintro e w8 ⟨rfl, o8, s8⟩
      clear hn
      go_wp2_with fail
      refine (hr w8 o8).mono ?_
      rintro e w9 ⟨rfl, o9, s9⟩
      clear hr
      go_wp2_with fail
      go_ret
      exact ⟨by cases ok <;> rfl, ((Base.start w).step ((S8.trans s8).trans s9) (by decide)).below⟩
end Go.Proofs.YtjbccoehgggdcaaDoor
