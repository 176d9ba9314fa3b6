/- FrameNests: the walk. -/
import Derived.Test.YtegcpjheglcbcaaNests
namespace Go.Proofs.Ytegcpjheglcbcaa
open Go Go.RowKit Go.Shelf
set_option linter.unusedSimpArgs false
set_option linter.unusedVariables false

set_option maxRecDepth 100000 in
set_option maxHeartbeats 8000000 in
theorem nests_walk {w : World} {v0 : Value} {z0 : List Int} (h0 : Rd w (fun _ => 0) 0 1 v0 z0.length (ints z0)) (by_ : Int) (hby : I64 by_) :
    Calls Try.prog 4 #[v0, .int .i64 by_] w fun e w' => e = .returned (.bool true) ∧ Below w.heap.size w w' := by
  have hB := Base.start w
  obtain ⟨a0, c0, rfl, p1, p2, _, _⟩ := id h0
  unfold maxLen at p2
  obtain ⟨x, hxz, hN, hN1, hN2, hN3, h0⟩ := h0.few 30 (M := 30) rfl
  clear hxz
  obtain ⟨y1, y2⟩ := id hby
  go_enter Try.func4, Try.ntmps4
  go_wp2_with fail
  refine (shown_ok w (fun _ => 0)).mono ?_
  rintro e w1 ⟨rfl, s1⟩
  replace hB := hB.step s1 (by decide)
  replace h0 := h0.frame s1 (by decide)
  clear s1
  go_wp2_with fail
  refine (new_ok w1 (fun _ => 0) 10).mono ?_
  rintro e w2 ⟨b, o2, rfl, hs, s1⟩
  replace hB := hB.step s1 (by decide)
  replace h0 := h0.frame s1 (by decide)
  clear s1
  go_wp2_with fail
  go_loopg [36] x.length (fun g v wr => ∃ (p : Nat) (o' : Owner), g = x.length - p ∧ p ≤ x.length ∧ v = .int .i64 p ∧ FStk wr o' 10 b (nest (x.take p)) ∧ Step [10, 11] w2 o2 wr o')
  case atStart => exact ⟨0, o2, rfl, Nat.zero_le _, rfl, by simpa [nest] using hs, Step.refl _ _ _⟩
  case round =>
    obtain ⟨p, o3, hg, hp1, rfl, hs3, s3⟩ := hrel
    have HG := Lib.hid hg
    clear hg hs
    by_cases hlt : p < x.length
    · obtain ⟨bo, off, rfl, hco⟩ := Rd.cellInt (h0.frame s3 (by decide)) (by omega)
      have ho := hco p hlt
      have hpi : (p : Int) < x.length := by omega
      have hstep : nest (x.take p) ++ [L1 (x[p]) (x[p])] = nest (x.take (p + 1)) := by
        have : x.take p ++ [x[p]] = x.take (p + 1) := by simp
        rw [← this, nest_snoc]
      generalize x[p] = c at ho hstep
      have hp := push_bare hs3 3 0 0 c c
      have hl3 : (nest (x.take p)).length < 128 := by rw [nest_len]; simp; omega
      rw [pushE, pushF, if_pos hl3, if_pos hl3, hstep] at hp
      clear hstep hco hs3 hl3
      go_wp2_with fail
      refine hp.mono ?_
      rintro e w4 ⟨o4, rfl, hs4, s4⟩
      clear hp
      go_wp2_with fail
      go_roundg (x.length - (p + 1))
      case measure => rw [HG.out]; omega
      case rel => exact ⟨p + 1, o4, rfl, by omega, by go_num, hs4, s3.trans s4⟩
    · have hs : FStk wr o3 10 b (nest x) := by rwa [List.take_of_length_le (by omega)] at hs3
      have hpi : ¬ (p : Int) < x.length := by omega
      clear hs3 HG hlt
      replace hB := hB.step s3 (by decide)
      replace h0 := h0.frame s3 (by decide)
      clear s3
      go_wp2_with fail
      go_loopg [49] x.length (fun g v wr2 => ∃ (q : Nat), g = x.length - q ∧ q ≤ x.length ∧ v = .int .i64 q ∧ Step [] wr o3 wr2 o3)
      case atStart => exact ⟨0, rfl, Nat.zero_le _, rfl, Step.refl _ _ _⟩
      case round =>
        obtain ⟨q, hg, hq1, rfl, s4⟩ := hrel
        have HG := Lib.hid hg
        clear hg
        have hs4 := hs.frame s4 (by decide) (by decide)
        by_cases hlt : q < x.length
        · obtain ⟨bo, off, rfl, hco⟩ := Rd.cellInt (h0.frame s4 (by decide)) (by omega)
          obtain ⟨k, hk⟩ : ∃ k : Nat, k + q + 1 = x.length := ⟨x.length - 1 - q, by omega⟩
          have hkl : k < x.length := by omega
          have hki : (x.length : Int) - 1 - q = k := by omega
          have hk1 : (k : Int) < x.length := by omega
          have ho := hco k hkl
          have hqi : (q : Int) < x.length := by omega
          have hix := nest_index hs4 q k hk
          generalize x[k] = c at ho hix
          have HK := Lib.hid hk
          clear hco hk hs4
          go_wp2_with fail
          refine hix.mono ?_
          rintro e w5 ⟨rfl, s5⟩
          have ho5 := (s5.cell (a := ⟨bo, off + k, none⟩) (cell_block ho) (by simp)).trans ho
          clear hix
          go_wp2_with fail
          go_roundg (x.length - (q + 1))
          case measure => rw [HG.out]; omega
          case rel => exact ⟨q + 1, rfl, by omega, by go_num, s4.trans s5⟩
        · have hqi : ¬ (q : Int) < x.length := by omega
          replace hB := hB.step s4 (by decide)
          replace h0 := h0.frame s4 (by decide)
          clear s4 HG hlt hs
          have hout := index_out hs4 x.length (.inr (by rw [nest_len]))
          go_wp2_with fail
          refine hout.mono ?_
          rintro e w5 ⟨rfl, s5⟩
          replace hB := hB.step s5 (by decide)
          replace h0 := h0.frame s5 (by decide)
          have hs5 := hs4.frame s5 (by decide) (by decide)
          clear s5 hs4 hout
          have hout := index_out hs5 (-1) (.inl rfl)
          go_wp2_with fail
          refine hout.mono ?_
          rintro e w6 ⟨rfl, s6⟩
          replace hB := hB.step s6 (by decide)
          replace h0 := h0.frame s6 (by decide)
          have hs6 := hs5.frame s6 (by decide) (by decide)
          clear s6 hs5 hout
          by_cases hz : x.length = 0
          · have hzi : ((x.length : Int) == 0) = true := by rw [beq_iff_eq]; omega
            clear hz
            go_wp2_with fail
            go_ret
            exact ⟨rfl, hB.below⟩
          · have hzi : ((x.length : Int) == 0) = false := by rw [beq_eq_false_iff_ne]; omega
            obtain ⟨y, c, hxe⟩ : ∃ y c, x = y ++ [c] := by
              rcases List.eq_nil_or_concat x with h | ⟨y, c, h⟩
              · rw [h] at hz; exact absurd rfl hz
              · exact ⟨y, c, by rw [h, List.concat_eq_append]⟩
            have hxl : x.length = y.length + 1 := by rw [hxe]; simp
            have hst := nest_step (y := y) (c := c) (by rw [← hxe]; exact hs6) by_ hby
            have hcl : ∀ (h : y.length < x.length), x[y.length]'h = c := by intro h; simp only [hxe]; simp
            have HXE := Lib.hid hxe
            have HXL := Lib.hid hxl
            clear hz hs6
            by_cases hneg : by_ < 0
            · rw [if_pos hneg, decide_eq_true hneg] at hst
              have d1 : decide (by_ < 0) = true := decide_eq_true hneg
              clear hxe hxl
              go_wp2_with fail
              refine hst.mono ?_
              rintro e w7 ⟨o7, rfl, hs7, s7⟩
              replace hB := hB.step s7 (by decide)
              replace h0 := h0.frame s7 (by decide)
              clear hst s7
              have hxe := HXE.out
              have hxl := HXL.out
              have hb0 : (x.length : Int) - 1 = y.length := by omega
              clear hxe hxl
              go_wp2_with fail
              have hxe := HXE.out
              have hxl := HXL.out
              go_loopg [22] x.length (fun g v wr3 => ∃ (q : Nat), g = x.length - q ∧ 0 ≤ q ∧ q ≤ y.length ∧ v = .int .i64 q ∧ Step [] w7 o7 wr3 o7)
              case atStart => exact ⟨0, by omega, Nat.le_refl _, by omega, rfl, Step.refl _ _ _⟩
              case round =>
                obtain ⟨q, hg, hq0, hq1, rfl, s8⟩ := hrel
                have HG := Lib.hid hg
                clear hg
                have hs8 := hs7.frame s8 (by decide) (by decide)
                by_cases hlt : q < y.length
                · obtain ⟨bo, off, rfl, hco⟩ := Rd.cellInt (h0.frame s8 (by decide)) (by omega)
                  obtain ⟨k, hk⟩ : ∃ k : Nat, k + q + 1 = y.length := ⟨y.length - 1 - q, by omega⟩
                  have hkl : k < x.length := by omega
                  have ho := hco k hkl
                  have hix := nest_index hs8 q k hk
                  have hyx : y[k]'(by omega) = x[k] := by simp only [hxe]; rw [List.getElem_append_left]
                  rw [hyx] at hix
                  generalize x[k] = cc at ho hix
                  have hki : (x.length : Int) - 2 - q = k := by omega
                  have hbd : (x.length : Int) - 1 = y.length := by omega
                  have hk1 : (k : Int) < x.length := by omega
                  have hqi : (q : Int) < (y.length : Int) := by omega
                  have hqz : 0 ≤ (q : Int) := by omega
                  have HK := Lib.hid hk
                  clear hco hk hs8 hq0 hyx hxe hxl
                  go_wp2_with fail
                  refine hix.mono ?_
                  rintro e w9 ⟨rfl, s9⟩
                  have ho9 := (s9.cell (a := ⟨bo, off + k, none⟩) (cell_block ho) (by simp)).trans ho
                  clear hix
                  go_wp2_with fail
                  go_roundg (x.length - (q + 1))
                  case measure => rw [HG.out]; omega
                  case rel => exact ⟨q + 1, rfl, by omega, by omega, by go_num, s8.trans s9⟩
                · have hqi : ¬ (q : Int) < (y.length : Int) := by omega
                  clear hxe hxl
                  go_wp2_with fail
                  go_ret
                  exact ⟨rfl, (hB.step s8 (by decide)).below⟩
            · rw [if_neg hneg, decide_eq_false hneg] at hst
              have d1 : decide (by_ < 0) = false := decide_eq_false hneg
              clear hxe hxl
              go_wp2_with fail
              refine hst.mono ?_
              rintro e w7' ⟨o7, rfl, hs7', s7⟩
              replace hB := hB.step s7 (by decide)
              replace h0 := h0.frame s7 (by decide)
              clear hst s7
              have hxl := HXL.out
              have hfl : (nest y ++ [L1 (wrap64 (c + by_)) c]).length = x.length := by simp [nest]; omega
              have hall : ∀ f ∈ nest y ++ [L1 (wrap64 (c + by_)) c], f.k = 3 := by
                intro f hf
                rcases List.mem_append.1 hf with hf | hf
                · exact nest_all y f hf
                · rw [List.mem_singleton] at hf; subst hf; rfl
              obtain ⟨bo, off, rfl, hco⟩ := Rd.cellInt h0 (by omega)
              have hoy := hco y.length (by omega)
              rw [hcl] at hoy
              have hix := index_in hs7' hall 0 (by rw [hfl]; omega)
              have hf0 : (nest y ++ [L1 (wrap64 (c + by_)) c]).length - 1 - 0 = y.length := by rw [hfl]; omega
              simp only [hf0] at hix
              have hx0 : ((nest y ++ [L1 (wrap64 (c + by_)) c])[y.length]'(by rw [hfl]; omega)).x = wrap64 (c + by_) := by
                simp [nest, List.getElem_append]
              rw [hx0] at hix
              have hb0 : (x.length : Int) - 1 = y.length := by omega
              have hb1 : (y.length : Int) < x.length := by omega
              have HFL := Lib.hid hfl
              clear hxl hfl hf0 hx0 hco hcl
              go_wp2_with fail
              refine hix.mono ?_
              rintro e w7 ⟨rfl, s8⟩
              have ho7 := (s8.cell (a := ⟨bo, off + y.length, none⟩) (cell_block hoy) (by simp)).trans hoy
              have hs7 := hs7'.frame s8 (by decide) (by decide)
              replace hB := hB.step s8 (by decide)
              replace h0 := h0.frame s8 (by decide)
              clear s8 hix hs7' hoy
              go_wp2_with fail
              have hxe := HXE.out
              have hxl := HXL.out
              have hfl := HFL.out
              go_loopg [22] (x.length - 1) (fun g v wr3 => ∃ (q : Nat), g = x.length - q ∧ 1 ≤ q ∧ q ≤ x.length ∧ v = .int .i64 q ∧ Step [] w7 o7 wr3 o7)
              case atStart => exact ⟨1, rfl, Nat.le_refl _, by omega, rfl, Step.refl _ _ _⟩
              case round =>
                obtain ⟨q, hg, hq0, hq1, rfl, s8⟩ := hrel
                have HG := Lib.hid hg
                clear hg
                have hs8 := hs7.frame s8 (by decide) (by decide)
                by_cases hlt : q < x.length
                · obtain ⟨bo2, off2, hbo, hco⟩ := Rd.cellInt (h0.frame s8 (by decide)) (by omega)
                  simp only [Option.some.injEq, Addr.mk.injEq, and_true] at hbo
                  obtain ⟨rfl, rfl⟩ := hbo
                  obtain ⟨k, hk⟩ : ∃ k : Nat, k + q + 1 = x.length := ⟨x.length - 1 - q, by omega⟩
                  have hkl : k < x.length := by omega
                  have ho := hco k hkl
                  have hix := index_in hs8 hall q (by rw [hfl]; omega)
                  have hfk : (nest y ++ [L1 (wrap64 (c + by_)) c]).length - 1 - q = k := by rw [hfl]; omega
                  simp only [hfk] at hix
                  have hyx : ((nest y ++ [L1 (wrap64 (c + by_)) c])[k]'(by rw [hfl]; omega)).x = x[k] := by
                    rw [List.getElem_append_left (by rw [nest_len]; omega)]
                    simp only [hxe]
                    rw [List.getElem_append_left (by omega)]
                    simp [nest]
                  rw [hyx] at hix
                  generalize x[k] = cc at ho hix
                  have hki : (x.length : Int) - 2 - q + 1 = k := by omega
                  have hki2 : (x.length : Int) - 1 - q = k := by omega
                  have hk1 : (k : Int) < x.length := by omega
                  have hqi : (q : Int) < (x.length : Int) := by omega
                  have hqz : 0 ≤ (q : Int) := by omega
                  have HK := Lib.hid hk
                  clear hco hk hs8 hq0 hyx hxe hxl hfl hfk
                  go_wp2_with fail
                  refine hix.mono ?_
                  rintro e w9 ⟨rfl, s9⟩
                  have ho9 := (s9.cell (a := ⟨bo, off + k, none⟩) (cell_block ho) (by simp)).trans ho
                  clear hix
                  go_wp2_with fail
                  go_roundg (x.length - (q + 1))
                  case measure => rw [HG.out]; omega
                  case rel => exact ⟨q + 1, rfl, by omega, by omega, by go_num, s8.trans s9⟩
                · have hqi : ¬ (q : Int) < (x.length : Int) := by omega
                  clear hxe hxl hfl
                  go_wp2_with fail
                  go_ret
                  exact ⟨rfl, (hB.step s8 (by decide)).below⟩
end Go.Proofs.Ytegcpjheglcbcaa
