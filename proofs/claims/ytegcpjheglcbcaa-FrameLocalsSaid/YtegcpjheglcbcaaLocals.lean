/- FrameLocals: the walk. -/
import Derived.Test.YtegcpjheglcbcaaFrmT
import Derived.Test.YtegcpjheglcbcaaLoops
namespace Go.Proofs.Ytegcpjheglcbcaa
open Go Go.RowKit Go.Shelf
set_option linter.unusedSimpArgs false
set_option linter.unusedVariables false

abbrev bools (l : List Bool) : List Value := l.map Value.bool

theorem Rd.cellL {w : World} {o : Owner} {i n cap : Nat} {ao : Option Addr} {x : List Bool} (h : Rd w o i 1 (.slice ao n cap) n (bools x)) (hn : 0 < n) : ∃ b off, ao = some ⟨b, off, none⟩ ∧ ∀ j (hj : j < x.length), w.cell? ⟨b, off + j, none⟩ = some (.bool x[j]) := by
  obtain ⟨ao1, cap1, hv, h1, h2, h3, h4⟩ := h
  simp only [Value.slice.injEq, true_and] at hv
  obtain ⟨rfl, rfl⟩ := hv
  obtain ⟨b, off, ha, _, _, hc⟩ := h4 hn
  exact ⟨b, off, ha, fun j hj => hc j _ (by simp [bools, hj])⟩

theorem Rd.fewL {w : World} {o : Owner} {i n cap : Nat} {ao : Option Addr} {z : List Bool} (h : Rd w o i 1 (.slice ao n cap) n (bools z)) (m : Nat) {M : Int} (hM : M = m) :
    ∃ x, min (n : Int) M = x.length ∧ x.length ≤ n ∧ x.length ≤ m ∧ (x.length : Int) ≤ cap ∧ Rd w o i 1 (.slice ao x.length cap) x.length (bools x) := by
  subst hM
  have h2 := h.len
  have hn : z.length = n := by simpa [bools] using h2
  obtain ⟨_, _, hv, hle, _⟩ := id h
  simp only [Value.slice.injEq, true_and] at hv
  obtain ⟨rfl, rfl⟩ := hv
  have h1 := h.slice (l := 0) (k := (z.take m).length) (Nat.zero_le _) (by simp; omega)
  refine ⟨z.take m, by simp; omega, by simp; omega, by simp; omega, by simp; omega, ?_⟩
  have e : (bools z).take ((z.take m).length * 1) = bools (z.take m) := by
    rw [bools, bools, List.map_take, Nat.mul_one, List.length_take]
    rcases Nat.le_total m z.length with hm | hm
    · rw [Nat.min_eq_left hm]
    · rw [Nat.min_eq_right hm, List.take_of_length_le (by simp), List.take_of_length_le (by simpa using hm)]
  rw [Nat.sub_zero, Nat.sub_zero, Nat.zero_mul, List.drop_zero, adr_zero, e] at h1
  exact h1

/-- The locals when one has been set. -/
def setL (l : List Int) (K x : Int) : List Int := if 0 ≤ K ∧ K < l.length then l.set K.toNat x else l
theorem setL_len (l : List Int) (K x : Int) : (setL l K x).length = l.length := by unfold setL; split <;> simp
theorem setL_get (l : List Int) (K x : Int) (p : Nat) (hp : p < l.length) (hp' : p < (setL l K x).length) : (setL l K x)[p] = if (p : Int) = K then x else l[p] := by
  by_cases h : 0 ≤ K ∧ K < l.length
  · have e : setL l K x = l.set K.toNat x := if_pos h
    simp only [e, List.getElem_set]
    by_cases hk : (p : Int) = K
    · rw [if_pos (by omega), if_pos hk]
    · rw [if_neg (by omega), if_neg hk]
  · have e : setL l K x = l := if_neg h
    simp only [e]
    rw [if_neg (by omega)]

set_option maxRecDepth 100000 in
set_option maxHeartbeats 16000000 in
theorem locals_walk {w : World} {v0 v1 v2 : Value} {z0 z1 : List Int} {z2 : List Bool} (h0 : Rd w (fun _ => 0) 0 1 v0 z0.length (ints z0)) (h1 : Rd w (fun _ => 0) 0 1 v1 z1.length (ints z1)) (h2 : Rd w (fun _ => 0) 0 1 v2 z2.length (bools z2)) (a3 : Int) (ha3 : 0 ≤ a3 ∧ a3 ≤ 255) (x : Int) :
    Calls Try.prog 7 #[v0, v1, v2, .int .u8 a3, .int .i64 x] w fun e w' => e = .returned (.bool true) ∧ Below w.heap.size w w' := by
  have hB := Base.start w
  obtain ⟨a0, c0, rfl, p1, p2, _, _⟩ := id h0
  obtain ⟨a1, c1, rfl, p3, p4, _, _⟩ := id h1
  obtain ⟨a2, c2, rfl, p5, p6, _, _⟩ := id h2
  unfold maxLen at p2 p4 p6
  obtain ⟨la, e1, hN, hN1, hN2, hN3, h0⟩ := h0.few 20 (M := 20) rfl
  obtain ⟨lb, e2, hM, hM1, hM2, hM3, h1⟩ := h1.few 20 (M := 20) rfl
  obtain ⟨lu, hU, hU1, hU2, hU3, h2⟩ := h2.fewL 20 (M := 20) rfl
  clear e1 e2
  obtain ⟨K, hK⟩ : ∃ K, a3.tmod 24 = K := ⟨_, rfl⟩
  have k0 : 0 ≤ K := by rw [← hK, Int.tmod_eq_emod_of_nonneg ha3.1]; omega
  have k23 : K ≤ 23 := by rw [← hK, Int.tmod_eq_emod_of_nonneg ha3.1]; omega
  clear ha3
  go_enter Try.func7, Try.ntmps7
  go_wp2_with fail
  refine (shown_ok w (fun _ => 0)).mono ?_
  rintro e w1 ⟨rfl, s1⟩
  replace hB := hB.step s1 (by decide)
  replace h0 := h0.frame s1 (by decide)
  replace h1 := h1.frame s1 (by decide)
  replace h2 := h2.frame s1 (by decide)
  clear s1
  go_wp2_with fail
  refine (new_ok w1 (fun _ => 0) 10).mono ?_
  rintro e w2 ⟨b, o2, rfl, hs, s1⟩
  replace hB := hB.step s1 (by decide)
  replace h0 := h0.frame s1 (by decide)
  replace h1 := h1.frame s1 (by decide)
  replace h2 := h2.frame s1 (by decide)
  have hls := LT.nil hs
  clear s1 hs
  go_wp2_with fail
  go_quiet (fail)
  have sq : Step [] w2 o2 (w2.drewN nq) o2 := (Step.refl [] w2 o2).drewN nq
  replace hB := hB.step sq (by decide)
  replace h0 := h0.frame sq (by decide)
  replace h1 := h1.frame sq (by decide)
  replace h2 := h2.frame sq (by decide)
  replace hls := hls.frame sq (by decide) (by decide) (by simp)
  obtain ⟨w3, hw3⟩ : ∃ w3, w3 = w2.drewN nq := ⟨_, rfl⟩
  rw [← hw3] at hB h0 h1 h2 hls ⊢
  clear sq hw3
  have hp := push_t hls 12 (by decide) (by decide) h1 (by omega) 4 0 0 0 0
  clear hls
  go_wp2_with fail
  refine hp.mono ?_
  rintro e w4 ⟨o4, lv4, rfl, hls, s4⟩
  replace hB := hB.step s4 (by decide)
  replace h0 := h0.frame s4 (by decide)
  replace h1 := h1.frame s4 (by decide)
  replace h2 := h2.frame s4 (by decide)
  clear s4 hp
  have hp := push_t hls 14 (by decide) (by simp) (Rd.nil w4 o4 0 1 none 0 (by decide)) (l := []) (by decide) 1 1 0 0 0
  clear hls
  go_wp2_with fail
  refine hp.mono ?_
  rintro e w5 ⟨o5, lv5, rfl, hls, s5⟩
  replace hB := hB.step s5 (by decide)
  replace h0 := h0.frame s5 (by decide)
  replace h1 := h1.frame s5 (by decide)
  replace h2 := h2.frame s5 (by decide)
  clear s5 hp
  have hlo := local_t (lo := [(⟨4, 0, 0, 0, 0, lv4⟩, lb, 12)]) (t := (⟨1, 1, 0, 0, 0, lv5⟩, [], 14)) (hi := []) hls rfl (.inr rfl) (by simp) 0 (by decide)
  go_wp2_with fail
  refine hlo.mono ?_
  rintro e w6 ⟨s6, ⟨⟨hbad, _⟩, _⟩ | ⟨_, rfl⟩⟩
  · exact absurd hbad (by decide)
  replace hB := hB.step s6 (by decide)
  replace h0 := h0.frame s6 (by decide)
  replace h1 := h1.frame s6 (by decide)
  replace h2 := h2.frame s6 (by decide)
  replace hls := hls.frame s6 (by decide) (by decide) (by simp)
  clear s6 hlo
  have hp := push_t hls 13 (by decide) (by simp) h0 (by omega) 4 0 0 0 0
  clear hls
  go_wp2_with fail
  refine hp.mono ?_
  rintro e w7 ⟨o7, lv7, rfl, hls, s7⟩
  replace hB := hB.step s7 (by decide)
  replace h0 := h0.frame s7 (by decide)
  replace h1 := h1.frame s7 (by decide)
  replace h2 := h2.frame s7 (by decide)
  clear s7 hp
  go_wp2_with fail
  go_loopg [80] lu.length (fun g v wr => ∃ (p : Nat) (o' : Owner) (hi : List (Fr × List Int × Nat)), g = lu.length - p ∧ p ≤ lu.length ∧ v = .int .i64 p ∧ hi.length = p ∧ (∀ q ∈ hi, ¬ isL q.1.k ∧ q.2.2 = 14) ∧ LT wr o' 10 b ([(⟨4, 0, 0, 0, 0, lv4⟩, lb, 12), (⟨1, 1, 0, 0, 0, lv5⟩, [], 14), (⟨4, 0, 0, 0, 0, lv7⟩, la, 13)] ++ hi) ∧ Step [10, 11] w7 o7 wr o')
  case atStart => exact ⟨0, o7, [], rfl, Nat.zero_le _, rfl, rfl, by simp, hls, Step.refl _ _ _⟩
  case round =>
    obtain ⟨p, o8, hi, hg, hp1, rfl, hhl, hhi, hls8, s8⟩ := hrel
    have HG := Lib.hid hg
    have HHI := Lib.hid hhi
    have HHL := Lib.hid hhl
    clear hg hls hhi hhl
    by_cases hlt : p < lu.length
    · obtain ⟨bo, off, rfl, hco⟩ := Rd.cellL (h2.frame s8 (by decide)) (by omega)
      have ho := hco p hlt
      have hpi : (p : Int) < lu.length := by omega
      have hl8 : ([((⟨4, 0, 0, 0, 0, lv4⟩ : Fr), lb, 12), (⟨1, 1, 0, 0, 0, lv5⟩, [], 14), (⟨4, 0, 0, 0, 0, lv7⟩, la, 13)] ++ hi).length < 128 := by
        have := HHL.out
        simp only [List.length_append, List.length_cons, List.length_nil]; omega
      generalize lu[p] = u at ho
      clear hco
      cases u with
      | false =>
        have hp := push_t hls8 14 (by decide) hl8 (Rd.nil wr o8 0 1 none 0 (by decide)) (l := []) (by decide) 2 0 0 7 0
        clear hls8 hl8
        go_wp2_with fail
        refine hp.mono ?_
        rintro e w9 ⟨o9, lv9, rfl, hls9, s9⟩
        clear hp
        go_wp2_with fail
        go_roundg (lu.length - (p + 1))
        case measure => rw [HG.out]; omega
        case rel => exact ⟨p + 1, o9, hi ++ [(⟨2, 0, 0, 7, 0, lv9⟩, [], 14)], rfl, by omega, by go_num, by rw [List.length_append, HHL.out]; rfl, fun f hf => (List.mem_append.1 hf).elim (HHI.out f) (fun e => by rw [List.mem_singleton] at e; subst e; exact ⟨fun h => by simp [isL] at h, rfl⟩), by simpa using hls9, s8.trans s9⟩
      | true =>
        have hp := push_t hls8 14 (by decide) hl8 (Rd.nil wr o8 0 1 none 0 (by decide)) (l := []) (by decide) 3 0 0 7 0
        clear hls8 hl8
        go_wp2_with fail
        refine hp.mono ?_
        rintro e w9 ⟨o9, lv9, rfl, hls9, s9⟩
        clear hp
        go_wp2_with fail
        go_roundg (lu.length - (p + 1))
        case measure => rw [HG.out]; omega
        case rel => exact ⟨p + 1, o9, hi ++ [(⟨3, 0, 0, 7, 0, lv9⟩, [], 14)], rfl, by omega, by go_num, by rw [List.length_append, HHL.out]; rfl, fun f hf => (List.mem_append.1 hf).elim (HHI.out f) (fun e => by rw [List.mem_singleton] at e; subst e; exact ⟨fun h => by simp [isL] at h, rfl⟩), by simpa using hls9, s8.trans s9⟩
    · have hpi : ¬ (p : Int) < lu.length := by omega
      replace hB := hB.step s8 (by decide)
      replace h0 := h0.frame s8 (by decide)
      replace h1 := h1.frame s8 (by decide)
      clear s8 h2
      have hse := setlocal_t (lo := [(⟨4, 0, 0, 0, 0, lv4⟩, lb, 12), (⟨1, 1, 0, 0, 0, lv5⟩, [], 14)]) (t := (⟨4, 0, 0, 0, 0, lv7⟩, la, 13)) (hi := hi) hls8 (by simp) (.inl rfl) (fun q hq => (HHI.out q hq).1) (by
        intro q hq
        rcases List.mem_append.1 hq with h | h
        · simp only [List.mem_cons, List.not_mem_nil, or_false] at h
          rcases h with rfl | rfl <;> simp
        · rw [(HHI.out q h).2]; simp) K (by omega) x
      clear hls8 hlt
      go_wp2_with fail
      refine hse.mono ?_
      rintro e w9 ⟨s9, h9⟩
      obtain ⟨E, hE, he, hls⟩ : ∃ E : Int, (E == 0) = decide (K < (la.length : Int)) ∧ e = .returned (.int .i64 E) ∧ LT w9 o8 10 b ([(⟨4, 0, 0, 0, 0, lv4⟩, lb, 12), (⟨1, 1, 0, 0, 0, lv5⟩, [], 14)] ++ (⟨4, 0, 0, 0, 0, lv7⟩, setL la K x, 13) :: hi) := by
        rcases h9 with ⟨c1, c2, c3, rfl, h⟩ | ⟨hno, rfl, h⟩
        · refine ⟨0, ?_, rfl, ?_⟩
          · simpa using c3
          · rw [setL, if_pos ⟨c2, c3⟩]; exact h
        · have hno' : ¬ (0 ≤ K ∧ K < la.length) := fun h => hno ⟨by simp, h.1, h.2⟩
          refine ⟨-6, ?_, rfl, ?_⟩
          · have : ¬ K < la.length := fun h => hno' ⟨k0, h⟩
            simp [this]
          · rw [setL, if_neg hno']; simpa using h
      subst he
      replace hB := hB.step s9 (by decide)
      replace h0 := h0.frame s9 (by decide)
      replace h1 := h1.frame s9 (by decide)
      clear hse h9 s9
      go_wp2_with fail
      obtain ⟨lc, hlc⟩ : ∃ lc, lc = setL la K x := ⟨_, rfl⟩
      have hcl : lc.length = la.length := by rw [hlc, setL_len]
      have HCL := Lib.hid hcl
      clear hcl
      have hcg : ∀ p (hp : p < la.length), lc[p]'(by rw [HCL.out]; exact hp) = if (p : Int) = K then x else la[p] := fun p hp => by
        simp only [hlc]
        exact setL_get la K x p hp _
      rw [← hlc] at hls
      have HCG := Lib.hid hcg
      clear hlc hcg
      go_loopg [106] la.length (fun g v wr => ∃ (p : Nat), g = la.length - p ∧ p ≤ la.length ∧ v = .int .i64 p ∧ Step [] w9 o8 wr o8)
      case atStart => exact ⟨0, rfl, Nat.zero_le _, rfl, Step.refl _ _ _⟩
      case round =>
        obtain ⟨p, hg, hp1, rfl, sA⟩ := hrel
        have HG := Lib.hid hg
        clear hg
        have hlsA := hls.frame sA (by decide) (by decide) (by simp)
        by_cases hlt : p < la.length
        · obtain ⟨bo, off, rfl, hco⟩ := Rd.cellInt (h0.frame sA (by decide)) (by omega)
          have ho := hco p hlt
          have hpi : (p : Int) < la.length := by omega
          have hlo := local_t hlsA rfl (.inl rfl) (fun q hq => (HHI.out q hq).1) p (by omega)
          have hcp := HCG.out p hlt
          generalize la[p] = u at ho hcp
          by_cases hk : (p : Int) = K
          · have hkb : ((p : Int) == K) = true := by simpa using hk
            rw [if_pos hk] at hcp
            have HCP := Lib.hid hcp
            have HK2 := Lib.hid hk
            clear hco hls hlsA hcp hk
            go_wp2_with fail
            refine hlo.mono ?_
            rintro e wB ⟨sB, ⟨⟨_, hq1, hq2⟩, rfl⟩ | ⟨hno, _⟩⟩
            · have hcp := HCP.out
              simp only [Int.toNat_natCast] at *
              rw [hcp]
              clear hlo hcp
              go_wp2_with fail
              go_roundg (la.length - (p + 1))
              case measure => rw [HG.out]; omega
              case rel => exact ⟨p + 1, rfl, by omega, by go_num, sA.trans sB⟩
            · exact absurd ⟨by simp, by omega, by rw [HCL.out]; exact hpi⟩ hno
          · have hkb : ((p : Int) == K) = false := by simpa using hk
            rw [if_neg hk] at hcp
            have HCP := Lib.hid hcp
            have HK2 := Lib.hid hk
            clear hco hls hlsA hcp hk
            go_wp2_with fail
            refine hlo.mono ?_
            rintro e wB ⟨sB, ⟨⟨_, hq1, hq2⟩, rfl⟩ | ⟨hno, _⟩⟩
            · have hcp := HCP.out
              simp only [Int.toNat_natCast] at *
              rw [hcp]
              clear hlo hcp
              go_wp2_with fail
              go_roundg (la.length - (p + 1))
              case measure => rw [HG.out]; omega
              case rel => exact ⟨p + 1, rfl, by omega, by go_num, sA.trans sB⟩
            · exact absurd ⟨by simp, by omega, by rw [HCL.out]; exact hpi⟩ hno
        · have hpi : ¬ (p : Int) < la.length := by omega
          replace hB := hB.step sA (by decide)
          replace h1 := h1.frame sA (by decide)
          have hlo := local_t hlsA rfl (.inl rfl) (fun q hq => (HHI.out q hq).1) la.length (by omega)
          clear hls h0
          go_wp2_with fail
          refine hlo.mono ?_
          rintro e wB ⟨sB, ⟨⟨_, hq1, hq2⟩, _⟩ | ⟨_, rfl⟩⟩
          · exact absurd hq2 (by rw [HCL.out]; omega)
          replace hB := hB.step sB (by decide)
          replace h1 := h1.frame sB (by decide)
          have hlsB := hlsA.frame sB (by decide) (by decide) (by simp)
          have hlo2 := local_t hlsB rfl (.inl rfl) (fun q hq => (HHI.out q hq).1) (-1) (by omega)
          clear hlo hlsA sB sA
          go_wp2_with fail
          refine hlo2.mono ?_
          rintro e wC ⟨sC, ⟨⟨_, hq1, hq2⟩, _⟩ | ⟨_, rfl⟩⟩
          · exact absurd hq1 (by decide)
          replace hB := hB.step sC (by decide)
          replace h1 := h1.frame sC (by decide)
          have hlsC := hlsB.frame sC (by decide) (by decide) (by simp)
          have hcut := cut_t hlsC 1
          clear hlo2 hlsB sC
          go_wp2_with fail
          refine hcut.mono ?_
          rintro e wD ⟨rfl, hlsD, sD⟩
          replace hB := hB.step sD (by decide)
          replace h1 := h1.frame sD (by decide)
          replace hlsD : LT wD o8 10 b [(⟨4, 0, 0, 0, 0, lv4⟩, lb, 12)] := by simpa using hlsD
          clear hcut hlsC sD
          go_wp2_with fail
          go_loopg [146] lb.length (fun g v wr => ∃ (p : Nat), g = lb.length - p ∧ p ≤ lb.length ∧ v = .int .i64 p ∧ Step [] wD o8 wr o8)
          case atStart => exact ⟨0, rfl, Nat.zero_le _, rfl, Step.refl _ _ _⟩
          case round =>
            obtain ⟨p, hg, hp1, rfl, sE⟩ := hrel
            have HG := Lib.hid hg
            clear hg
            by_cases hlt : p < lb.length
            · obtain ⟨bo, off, rfl, hco⟩ := Rd.cellInt (h1.frame sE (by decide)) (by omega)
              have ho := hco p hlt
              have hpi : (p : Int) < lb.length := by omega
              have hlo := local_t (lo := []) (t := (⟨4, 0, 0, 0, 0, lv4⟩, lb, 12)) (hi := []) (hlsD.frame sE (by decide) (by decide) (by simp)) rfl (.inl rfl) (by simp) p (by omega)
              obtain ⟨u, hu⟩ : ∃ u, lb[p] = u := ⟨_, rfl⟩
              rw [hu] at ho
              have HU := Lib.hid hu
              clear hco hlsD hu
              go_wp2_with fail
              refine hlo.mono ?_
              rintro e wF ⟨sF, ⟨⟨_, hq1, hq2⟩, rfl⟩ | ⟨hno, _⟩⟩
              · have hu := HU.out
                simp only [Int.toNat_natCast] at *
                rw [hu]
                clear hlo hu
                go_wp2_with fail
                go_roundg (lb.length - (p + 1))
                case measure => rw [HG.out]; omega
                case rel => exact ⟨p + 1, rfl, by omega, by go_num, sE.trans sF⟩
              · exact absurd ⟨by simp, by omega, hpi⟩ hno
            · have hpi : ¬ (p : Int) < lb.length := by omega
              replace hB := hB.step sE (by decide)
              go_wp2_with fail
              go_ret
              exact ⟨rfl, hB.below⟩
end Go.Proofs.Ytegcpjheglcbcaa
