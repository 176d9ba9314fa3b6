/- DigitSteps: the walk. -/
import Derived.Test.YtfeeikhcdphcpaaDigP
namespace Go.Proofs.Ytfeeikhcdphcpaa
open Go Go.RowKit
set_option linter.unusedSimpArgs false
set_option linter.unusedVariables false

set_option maxHeartbeats 3000000 in
theorem steps_walk (pl ph x : Int) (hp1 : C64 pl) (hp2 : C64 ph) (hx : 0 ≤ x ∧ x < 256) (w : World) :
    Calls Try.prog 9 #[.agg #[.int .i64 pl, .int .i64 ph], .int .u8 x] w fun e w' => e = .returned (.bool true) ∧ Calm w w' := by
  obtain ⟨p, sp, ep, -⟩ := pv_arg hp1 hp2
  obtain ⟨r, hr⟩ : ∃ r, x.tmod 35 = r := ⟨_, rfl⟩
  have hr2 : x.tmod 35 = x % 35 := Int.tmod_eq_emod_of_nonneg hx.1
  have r0 : 0 ≤ r := by omega
  have r1 : r < 35 := by omega
  obtain ⟨bn, hbv⟩ : ∃ bn : Nat, r + 2 = bn := ⟨(r + 2).toNat, by omega⟩
  have H2 : 2 ≤ bn := by omega
  have H36 : bn ≤ 36 := by omega
  have b0 : (2 : Int) ≤ (bn : Int) := by omega
  have b1 : (bn : Int) ≤ 36 := by omega
  have hR : rightB (bn : Int) = true := by rw [← hbv]; exact right_35 r0 r1
  have hwx : wrap64 x = x := by unfold wrap64; omega
  have h15 := text_ok p bn
  obtain ⟨u0, u1⟩ := U_range p
  obtain ⟨N0, hN0⟩ := Int.eq_ofNat_of_zero_le u0
  have hN : N0 < MAXU := by simp only [MAXU]; omega
  have ep0 : pv (N0 : Int) = .agg #[.int .i64 pl, .int .i64 ph] := by rw [← hN0, pv_U, ep]
  rw [textB_eq, textL_txt hR, hN0, Int.toNat_natCast, Int.toNat_natCast, ep] at h15
  obtain ⟨D, hD⟩ : ∃ D, dgs bn N0 = D := ⟨_, rfl⟩
  have htx : txt bn N0 = (D.map chu).reverse := by rw [← hD]; rfl
  rw [htx] at h15
  have hDl : D.length ≤ 128 := by rw [← hD]; exact dgs_le128 H2 hN
  have hD1 : 1 ≤ D.length := by rw [← hD]; simp [dgs]
  obtain ⟨s, hs⟩ : ∃ s, (ByteArray.mk (D.map chu).reverse.toArray) = s := ⟨_, rfl⟩
  have hsz : s.size = D.length := by rw [← hs]; show ((D.map chu).reverse.toArray).size = _; simp
  have hat : ∀ j (h : j < s.size), s[j]? = some (s[j]'h) → True := fun _ _ _ => trivial
  have hel : ∀ j (h : D.length - 1 - j < s.size) (hj : j < D.length), s[D.length - 1 - j]'h = chu (D[j]'hj) := by
    intro j h hj
    subst hs
    show ((D.map chu).reverse.toArray)[D.length - 1 - j]'h = _
    simp only [List.getElem_toArray, List.getElem_reverse, List.getElem_map, List.length_map]
    congr 2
    omega
  rw [hs] at h15
  have P0 := PBlk.new w ep0
  have EP := Lib.hid ep0
  have ED := Lib.hid hD
  have HE := Lib.hid hel
  have HS := Lib.hid hsz
  have sw := (Calm.refl w).alloc (.cells #[.int .i64 pl, .int .i64 ph] 24)
  have hss : (s.size : Int) ≤ 128 := by omega
  have hs1 : (1 : Int) ≤ (s.size : Int) := by omega
  clear ep ep0 hD hel hat hs htx hN0 u0 u1 hr2 hx sp hR hsz
  go_enter Try.func9, Try.ntmps9
  go_wp2_with (first
    | (go_at_call 10; refine (shown_ok _).mono ?_; rintro e w1 ⟨rfl, s1⟩; replace P0 := P0.calm s1; replace sw := sw.trans s1; obtain ⟨a0, a1, -, -⟩ := P0.cells EP.out)
    | (go_at_call 15; refine (h15 _).mono ?_; rintro e w2 ⟨rfl, s2⟩; replace P0 := P0.calm s2; replace sw := sw.trans s2; obtain ⟨a0, a1, -, -⟩ := P0.cells EP.out))
  have HW2 : w.heap.size ≤ w2.heap.size := sw.size
  have PX := PBlk.new w2 EP.out
  replace sw := sw.alloc (.cells #[.int .i64 pl, .int .i64 ph] 24)
  go_loopg [9, 10, 11, 12, 13] D.length (fun g a a1 a2 a3 a4 wr => ∃ (j N : Nat), g = D.length - j ∧ j ≤ D.length ∧ a = .int .i64 ((s.size : Int) - 1 - j) ∧ N < MAXU ∧ PBlk wr w2.heap.size (N : Int) ∧ Calm w wr ∧ Hid ((j = 0 → D = dgs bn N) ∧ (0 < j → D.drop j = ds bn N)))
  case atStart => exact ⟨0, N0, rfl, Nat.zero_le _, by simp, hN, PX, sw, Lib.hid ⟨fun _ => ED.out.symm, fun h => absurd h (Nat.lt_irrefl _)⟩⟩
  case round =>
    obtain ⟨j, N, hg, hj, rfl, hNm, hP, st, hinv⟩ := hrel
    have HG := Lib.hid hg
    clear hg P0 PX sw
    obtain ⟨lo, hi, -, -, -, eN, -⟩ := pv_split (N : Int)
    obtain ⟨c0, c1, -, -⟩ := hP.cells eN
    by_cases hlt : j < D.length
    · have hcons : D.drop j = dgs bn N := by
        rcases Nat.eq_zero_or_pos j with rfl | h
        · exact hinv.out.1 rfl
        · have h1 := hinv.out.2 h
          have h2 : 0 < N := by
            rcases Nat.eq_zero_or_pos N with rfl | h3
            · rw [ds_zero] at h1
              have := congrArg List.length h1
              simp at this; omega
            · exact h3
          rw [h1, dgs_pos H2 h2]
      have hDj : D.drop j = D[j]'hlt :: D.drop (j + 1) := List.drop_eq_getElem_cons hlt
      have hdj : D[j]'hlt = N % bn ∧ D.drop (j + 1) = ds bn (N / bn) := by
        rw [hDj] at hcons
        unfold dgs at hcons
        exact List.cons.inj hcons
      obtain ⟨i, hi⟩ : ∃ i : Nat, (s.size : Int) - 1 - j = i := ⟨s.size - 1 - j, by have := HS.out; omega⟩
      have hii : i = D.length - 1 - j := by have := HS.out; omega
      have hisz : i < s.size := by have := HS.out; omega
      have hin : (i : Int) < s.size := by omega
      have hmod : N % bn < bn := Nat.mod_lt _ (by omega)
      have hch : s[i]'hisz = chu (N % bn) := by
        have := HE.out j (by rw [← hii]; exact hisz) hlt
        rw [← hdj.1, ← this]
        simp only [hii]
      obtain ⟨d, hd⟩ : ∃ d : Nat, N % bn = d := ⟨_, rfl⟩
      obtain ⟨hv1, hv2⟩ := chu_val (b := bn) H36 (hd ▸ hmod : d < bn)
      have hst := step_nat H2 H36 hNm
      have hchr := chr_ok (d : Int)
      rw [← chu_chr d (by omega)] at hchr
      rw [hd] at hst hch
      obtain ⟨c, hc⟩ : ∃ c : Int, (((chu d).toNat : Nat) : Int) = c := ⟨_, rfl⟩
      have hci : (((s[i]'hisz).toNat : Nat) : Int) = c := by rw [hch, hc]
      have c255 : 0 ≤ c ∧ c < 256 := by have := (chu d).toNat_lt; omega
      have hval := val_ok c bn c255.1 c255.2
      rw [hc] at hst hchr hv1 hv2
      unfold valV at hval
      rw [hv1, if_pos rfl, hv2] at hval
      obtain ⟨lo2, hi2, -, -, -, eN2, -⟩ := pv_split ((N / bn : Nat) : Int)
      rw [eN, eN2] at hst
      have HD := Lib.hid hdj.2
      have EN := Lib.hid eN
      have EN2 := Lib.hid eN2
      have hi0 : (0 : Int) ≤ (i : Int) := by omega
      have hN2 : N / bn < MAXU := Nat.lt_of_le_of_lt (Nat.div_le_self _ _) hNm
      have HI := Lib.hid hi
      rw [hi]
      clear hcons hDj hdj hi hii hch hd hc hv1 hv2 eN eN2 hmod hinv
      go_wp2_with (first
        | (go_at_call 11; refine (hst _).mono ?_; rintro e w3 ⟨rfl, s3⟩; have hP3 := (hP.calm s3).calm ((Calm.refl _).alloc (.cells #[.int .i64 lo2, .int .i64 hi2] 24)); have st3 := (st.trans s3).alloc (.cells #[.int .i64 lo2, .int .i64 hi2] 24); obtain ⟨c0, c1, f0, f1⟩ := hP3.cells EN.out)
        | (go_at_call 13; refine (hval _).mono ?_; rintro e w4 ⟨rfl, rfl⟩)
        | (go_at_call 19; refine (hchr _).mono ?_; rintro e w5 ⟨rfl, rfl⟩))
      go_roundg (D.length - (j + 1))
      case measure => rw [HG.out]; omega
      case rel =>
        refine ⟨j + 1, N / bn, rfl, hlt, ?_, hN2, hP3.set EN2.out, st3.set2 (b := w2.heap.size) HW2 (.int .i64 lo2) (.int .i64 hi2), Lib.hid ⟨fun h => absurd h (by omega), fun _ => HD.out⟩⟩
        have := HI.out
        congr 1
        omega
    · obtain rfl : j = D.length := by omega
      have hm1 : (s.size : Int) - 1 - (D.length : Int) = -1 := by have := HS.out; omega
      have h1 := hinv.out.2 (by omega)
      rw [List.drop_of_length_le (Nat.le_refl _)] at h1
      have hz : N = 0 := by
        rcases Nat.eq_zero_or_pos N with h | h
        · exact h
        · rw [ds_pos H2 h] at h1; cases h1
      subst hz
      clear c0 c1 eN h1
      obtain ⟨c0, c1, -, -⟩ := hP.cells (show pv ((0 : Nat) : Int) = _ from pv_zero)
      rw [hm1]
      clear hm1
      go_wp2_with fail
      go_ret
      have hpos : 0 < s.size := by omega
      exact ⟨by simp [hpos], st⟩
end Go.Proofs.Ytfeeikhcdphcpaa
