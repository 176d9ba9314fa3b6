/- FrameCatches: the walk. -/
import Derived.Test.YtegcpjheglcbcaaFrmH
import Derived.Test.YtegcpjheglcbcaaLoops
namespace Go.Proofs.Ytegcpjheglcbcaa
open Go Go.RowKit Go.Shelf
set_option linter.unusedSimpArgs false
set_option linter.unusedVariables false

abbrev bytes (l : List Int) : List Value := l.map (Value.int .u8)

theorem Rd.cellB {w : World} {o : Owner} {i n cap : Nat} {ao : Option Addr} {x : List Int} (h : Rd w o i 1 (.slice ao n cap) n (bytes x)) (hn : 0 < n) : ∃ b off, ao = some ⟨b, off, none⟩ ∧ ∀ j (hj : j < x.length), w.cell? ⟨b, off + j, none⟩ = some (.int .u8 x[j]) := by
  obtain ⟨ao1, cap1, hv, h1, h2, h3, h4⟩ := h
  simp only [Value.slice.injEq, true_and] at hv
  obtain ⟨rfl, rfl⟩ := hv
  obtain ⟨b, off, ha, _, _, hc⟩ := h4 hn
  exact ⟨b, off, ha, fun j hj => hc j _ (by simp [bytes, hj])⟩

theorem Rd.fewB {w : World} {o : Owner} {i n cap : Nat} {ao : Option Addr} {z : List Int} (h : Rd w o i 1 (.slice ao n cap) n (bytes z)) (m : Nat) {M : Int} (hM : M = m) :
    ∃ x, x = z.take m ∧ min (n : Int) M = x.length ∧ x.length ≤ n ∧ x.length ≤ m ∧ (x.length : Int) ≤ cap ∧ Rd w o i 1 (.slice ao x.length cap) x.length (bytes x) := by
  subst hM
  have h2 := h.len
  have hn : z.length = n := by simpa [bytes] using h2
  obtain ⟨_, _, hv, hle, _⟩ := id h
  simp only [Value.slice.injEq, true_and] at hv
  obtain ⟨rfl, rfl⟩ := hv
  have h1 := h.slice (l := 0) (k := (z.take m).length) (Nat.zero_le _) (by simp; omega)
  refine ⟨z.take m, rfl, by simp; omega, by simp; omega, by simp; omega, by simp; omega, ?_⟩
  have e : (bytes z).take ((z.take m).length * 1) = bytes (z.take m) := by
    rw [bytes, bytes, List.map_take, Nat.mul_one, List.length_take]
    rcases Nat.le_total m z.length with hm | hm
    · rw [Nat.min_eq_left hm]
    · rw [Nat.min_eq_right hm, List.take_of_length_le (by simp), List.take_of_length_le (by simpa using hm)]
  rw [Nat.sub_zero, Nat.sub_zero, Nat.zero_mul, List.drop_zero, adr_zero, e] at h1
  exact h1

abbrev BF (k a : Int) : Fr := ⟨k, a, 0, 0, 0, .slice none 0 0⟩
/-- What lies below: frames of the kinds that are told. -/
def los (x : List Int) (p : Nat) : List Fr := (List.range p).map fun j => BF (x.getD j 0 % 7 + 1) j
theorem los_len (x : List Int) (p : Nat) : (los x p).length = p := by simp [los]
theorem los_succ (x : List Int) (p : Nat) : los x (p + 1) = los x p ++ [BF (x.getD p 0 % 7 + 1) p] := by simp [los, List.range_succ]
theorem los_bare (x : List Int) (p : Nat) : ∀ f ∈ los x p, f.lv = .slice none 0 0 := by
  intro f hf
  simp only [los, List.mem_map] at hf
  obtain ⟨j, _, rfl⟩ := hf
  rfl

set_option maxRecDepth 100000 in
set_option maxHeartbeats 8000000 in
theorem catches_walk {w : World} {v0 v1 : Value} {z0 z1 : List Int} (h0 : Rd w (fun _ => 0) 0 1 v0 z0.length (bytes z0)) (hz0 : ∀ x ∈ z0, 0 ≤ x ∧ x ≤ 255) (h1 : Rd w (fun _ => 0) 0 1 v1 z1.length (bytes z1)) (hz1 : ∀ x ∈ z1, 0 ≤ x ∧ x ≤ 255) :
    Calls Try.prog 6 #[v0, v1] w fun e w' => e = .returned (.bool true) ∧ Below w.heap.size w w' := by
  have hB := Base.start w
  obtain ⟨a0, c0, rfl, p1, p2, _, _⟩ := id h0
  obtain ⟨a1, c1, rfl, p3, p4, _, _⟩ := id h1
  unfold maxLen at p2 p4
  obtain ⟨x, hxz, hN, hN1, hN2, hN3, h0x⟩ := h0.fewB 50 (M := 50) rfl
  obtain ⟨y, hyz, hM, hM1, hM2, hM3, h1⟩ := h1.fewB 50 (M := 50) rfl
  have hxw : ∀ u ∈ x, 0 ≤ u ∧ u ≤ 255 := fun u hu => hz0 _ (List.mem_of_mem_take (hxz ▸ hu))
  have hyw : ∀ u ∈ y, 0 ≤ u ∧ u ≤ 255 := fun u hu => hz1 _ (List.mem_of_mem_take (hyz ▸ hu))
  have HXZ := Lib.hid hxz
  have HXW := Lib.hid hxw
  have HYW := Lib.hid hyw
  clear hxz hyz hxw hyw hz0 hz1
  go_enter Try.func6, Try.ntmps6
  go_wp2_with fail
  refine (shown_ok w (fun _ => 0)).mono ?_
  rintro e w1 ⟨rfl, s1⟩
  replace hB := hB.step s1 (by decide)
  replace h0 := h0.frame s1 (by decide)
  replace h0x := h0x.frame s1 (by decide)
  replace h1 := h1.frame s1 (by decide)
  clear s1
  go_wp2_with fail
  refine (new_ok w1 (fun _ => 0) 10).mono ?_
  rintro e w2 ⟨b, o2, rfl, hs, s1⟩
  replace hB := hB.step s1 (by decide)
  replace h0 := h0.frame s1 (by decide)
  replace h0x := h0x.frame s1 (by decide)
  replace h1 := h1.frame s1 (by decide)
  clear s1
  go_wp2_with fail
  go_loopg [36] x.length (fun g v wr => ∃ (p : Nat) (o' : Owner), g = x.length - p ∧ p ≤ x.length ∧ v = .int .i64 p ∧ FStk wr o' 10 b (los x p) ∧ Step [10, 11] w2 o2 wr o')
  case atStart => exact ⟨0, o2, rfl, Nat.zero_le _, rfl, by simpa [los] using hs, Step.refl _ _ _⟩
  case round =>
    obtain ⟨p, o3, hg, hp1, rfl, hs3, s3⟩ := hrel
    have HG := Lib.hid hg
    clear hg hs
    by_cases hlt : p < x.length
    · obtain ⟨bo, off, rfl, hco⟩ := Rd.cellB (h0x.frame s3 (by decide)) (by omega)
      have ho := hco p hlt
      have hpi : (p : Int) < x.length := by omega
      have hmem := HXW.out _ (List.getElem_mem hlt)
      have hstep := los_succ x p
      rw [show x.getD p 0 = x[p] by simp [List.getD, hlt]] at hstep
      generalize x[p] = c at ho hstep hmem
      obtain ⟨q, hq⟩ : ∃ q, c.tmod 7 = q := ⟨_, rfl⟩
      have hq2 : c % 7 = q := by rw [← hq, Int.tmod_eq_emod_of_nonneg hmem.1]
      have q1 : 0 ≤ q := by omega
      have q2 : q ≤ 6 := by omega
      rw [hq2] at hstep
      have hp := push_bare hs3 (q + 1) p 0 0 0
      have hl3 : (los x p).length < 128 := by rw [los_len]; omega
      rw [pushE, pushF, if_pos hl3, if_pos hl3, ← hstep] at hp
      clear hstep hco hs3 hl3 hq2 hmem
      go_wp2_with fail
      refine hp.mono ?_
      rintro e w4 ⟨o4, rfl, hs4, s4⟩
      clear hp
      go_wp2_with fail
      go_roundg (x.length - (p + 1))
      case measure => rw [HG.out]; omega
      case rel => exact ⟨p + 1, o4, rfl, by omega, by go_num, hs4, s3.trans s4⟩
    · obtain rfl : p = x.length := by omega
      have hpi : ¬ (x.length : Int) < x.length := by omega
      clear HG hlt hp1
      replace hB := hB.step s3 (by decide)
      replace h0 := h0.frame s3 (by decide)
      replace h1 := h1.frame s3 (by decide)
      clear s3 h0x
      have hp := push_bare hs3 5 99 3 5 0
      have hl3 : (los x x.length).length < 128 := by rw [los_len]; omega
      rw [pushE, pushF, if_pos hl3, if_pos hl3] at hp
      clear hs3 hl3
      go_wp2_with fail
      refine hp.mono ?_
      rintro e w4 ⟨o4, rfl, hs, s4⟩
      replace hB := hB.step s4 (by decide)
      replace h0 := h0.frame s4 (by decide)
      replace h1 := h1.frame s4 (by decide)
      clear hp s4
      go_wp2_with fail
      go_loopg [61] y.length (fun g v wr2 => ∃ (p : Nat) (o' : Owner) (hi : List Fr), g = y.length - p ∧ p ≤ y.length ∧ v = .int .i64 p ∧ hi.length = p ∧ (∀ f ∈ hi, ¬ f.k = 5 ∧ f.lv = .slice none 0 0) ∧ FStk wr2 o' 10 b (los x x.length ++ ⟨5, 99, 3, 5, 0, .slice none 0 0⟩ :: hi) ∧ Step [10, 11] w4 o4 wr2 o')
      case atStart => exact ⟨0, o4, [], rfl, Nat.zero_le _, rfl, rfl, by simp, hs, Step.refl _ _ _⟩
      case round =>
        obtain ⟨p, o5, hi, hg, hp1, rfl, hhl, hhi, hs5, s5⟩ := hrel
        have HG := Lib.hid hg
        have HHI := Lib.hid hhi
        have HHL := Lib.hid hhl
        clear hg hs hhi hhl
        by_cases hlt : p < y.length
        · obtain ⟨bo, off, rfl, hco⟩ := Rd.cellB (h1.frame s5 (by decide)) (by omega)
          have ho := hco p hlt
          have hpi : (p : Int) < y.length := by omega
          have hmem := HYW.out _ (List.getElem_mem hlt)
          generalize y[p] = c at ho hmem
          obtain ⟨q, hq⟩ : ∃ q, c.tmod 7 = q := ⟨_, rfl⟩
          have hq2 : c % 7 = q := by rw [← hq, Int.tmod_eq_emod_of_nonneg hmem.1]
          have q1 : 0 ≤ q := by omega
          have q2 : q ≤ 6 := by omega
          have hl5 : (los x x.length ++ (⟨5, 99, 3, 5, 0, .slice none 0 0⟩ : Fr) :: hi).length < 128 := by
            have := HHL.out
            rw [List.length_append, los_len, List.length_cons]; omega
          clear hco hq2 hmem
          by_cases h4 : q = 4
          · have hp := push_bare hs5 2 0 0 0 0
            rw [pushE, pushF, if_pos hl5, if_pos hl5] at hp
            subst h4
            clear hs5 hl5
            go_wp2_with fail
            refine hp.mono ?_
            rintro e w6 ⟨o6, rfl, hs6, s6⟩
            clear hp
            go_wp2_with fail
            go_roundg (y.length - (p + 1))
            case measure => rw [HG.out]; omega
            case rel => exact ⟨p + 1, o6, hi ++ [⟨2, 0, 0, 0, 0, .slice none 0 0⟩], rfl, by omega, by go_num, by rw [List.length_append, HHL.out]; rfl, fun f hf => (List.mem_append.1 hf).elim (HHI.out f) (fun e => by rw [List.mem_singleton] at e; subst e; exact ⟨by decide, rfl⟩), by simpa using hs6, s5.trans s6⟩
          · have h4b : (q + 1 == 5) = false := by rw [beq_eq_false_iff_ne]; omega
            have h4c : ¬ q + 1 = 5 := by omega
            have hp := push_bare hs5 (q + 1) 0 0 0 0
            rw [pushE, pushF, if_pos hl5, if_pos hl5] at hp
            have H4 := Lib.hid h4c
            clear hs5 hl5 h4
            go_wp2_with fail
            refine hp.mono ?_
            rintro e w6 ⟨o6, rfl, hs6, s6⟩
            clear hp
            go_wp2_with fail
            go_roundg (y.length - (p + 1))
            case measure => rw [HG.out]; omega
            case rel => exact ⟨p + 1, o6, hi ++ [⟨q + 1, 0, 0, 0, 0, .slice none 0 0⟩], rfl, by omega, by go_num, by rw [List.length_append, HHL.out]; rfl, fun f hf => (List.mem_append.1 hf).elim (HHI.out f) (fun e => by rw [List.mem_singleton] at e; subst e; exact ⟨H4.out, rfl⟩), by simpa using hs6, s5.trans s6⟩
        · have hpi : ¬ (p : Int) < y.length := by omega
          replace hB := hB.step s5 (by decide)
          replace h0 := h0.frame s5 (by decide)
          have hca := catch_ok hs5 (fun f hf => by
            rcases List.mem_append.1 hf with hf | hf
            · exact los_bare _ _ f hf
            · rcases List.mem_cons.1 hf with rfl | hf
              · rfl
              · exact (HHI.out f hf).2) (fun f hf => (HHI.out f hf).1)
          clear s5 hs5 h1
          go_wp2_with fail
          refine hca.mono ?_
          rintro e w6 ⟨o6, rfl, hs6, s6⟩
          replace hB := hB.step s6 (by decide)
          replace h0 := h0.frame s6 (by decide)
          clear hca s6
          obtain ⟨w7, hw7⟩ : ∃ w7, w7 = w6.alloc (.cells #[.int .i64 5, .int .i64 99, .int .i64 3, .int .i64 5, .int .i64 0, .slice none 0 0] 30) := ⟨_, rfl⟩
          have hX : Blk w7 (o6.set w6.heap.size 0) 0 w6.heap.size 30 #[.int .i64 5, .int .i64 99, .int .i64 3, .int .i64 5, .int .i64 0, .slice none 0 0] := by rw [hw7]; exact Blk.new w6 o6 0 30 _
          have s7 : Step [] w6 o6 w7 (o6.set w6.heap.size 0) := by rw [hw7]; exact ((Step.refl _ _ _).alloc _).give (Nat.le_refl _) _
          replace hB := hB.step s7 (by decide)
          replace h0 := h0.frame s7 (by decide)
          have hs7 := hs6.frame s7 (by decide) (by decide)
          obtain ⟨⟨x0, x1, x2, x3, x4, x5⟩, _⟩ := FB.facts (k := 5) (a := 99) (c := 3) (x := 5) (y := 0) (lv := .slice none 0 0) hX.heap
          clear hs6 s7
          have HW7 := Lib.hid hw7
          rw [hw7] at x0 x1 x2 x3 x4 x5
          have hone := one_bare w7 (o6.set w6.heap.size 0) 5 99 3 5 0
          rw [hw7] at hone
          clear hw7
          go_wp2_with (go_at_call 19; refine hone.mono ?_; rintro e w8 ⟨rfl, s8'⟩; have s8 : Step [] w7 (o6.set w6.heap.size 0) w8 (o6.set w6.heap.size 0) := HW7.out ▸ s8'; have hs8 := hs7.frame s8 (by decide) (by decide); have hd := depth_ok hs8; rw [los_len] at hd)
          refine hd.mono ?_
          rintro e w9 ⟨rfl, rfl⟩
          replace hB := hB.step s8 (by decide)
          replace h0 := h0.frame s8 (by decide)
          replace hX := hX.frame s8 (by decide)
          clear s8 s8' hd hone hs7 x0 x1 x2 x3 x4 x5
          go_wp2_with fail
          obtain ⟨O9, hO9⟩ : ∃ O9, O9 = o6.set w6.heap.size 0 := ⟨_, rfl⟩
          rw [← hO9] at hs8 hX hB h0
          clear hO9
          go_loopg [15] x.length (fun g v wr3 => ∃ (p : Nat) (o' : Owner), g = p ∧ p ≤ x.length ∧ v = .int .i64 ((p : Int) - 1) ∧ FStk wr3 o' 10 b (los x p) ∧ Step [10, 11] w9 O9 wr3 o')
          case atStart => exact ⟨x.length, O9, rfl, Nat.le_refl _, rfl, hs8, Step.refl _ _ _⟩
          case round =>
            obtain ⟨p, o10, hg, hp1', rfl, hs10, s10⟩ := hrel
            have HG := Lib.hid hg
            clear hg hs8
            by_cases hz : 0 < p
            · obtain ⟨q, rfl⟩ : ∃ q, p = q + 1 := ⟨p - 1, by omega⟩
              have hqi : ((q + 1 : Nat) : Int) - 1 = q := by omega
              have hqz : q < z0.length := by omega
              obtain ⟨bo, off, rfl, hco⟩ := Rd.cellB (h0.frame s10 (by decide)) (by omega)
              have ho := hco q hqz
              have hqx : q < x.length := by omega
              have hxe : x[q] = z0[q] := by simp only [HXZ.out]; rw [List.getElem_take]
              have hmem := HXW.out _ (List.getElem_mem hqx)
              rw [hxe] at hmem
              have hstep := los_succ x q
              rw [show x.getD q 0 = z0[q] by simp [List.getD, hqx, hxe]] at hstep
              have hq0 : 0 ≤ (q : Int) := by omega
              have hq1 : (q : Int) < z0.length := by omega
              clear hxe
              generalize z0[q] = c at ho hstep hmem
              obtain ⟨k, hk⟩ : ∃ k, c.tmod 7 = k := ⟨_, rfl⟩
              have hk2 : c % 7 = k := by rw [← hk, Int.tmod_eq_emod_of_nonneg hmem.1]
              have k1 : 0 ≤ k := by omega
              have k2 : k ≤ 6 := by omega
              rw [hk2] at hstep
              rw [hstep] at hs10
              have hpop := pop_some hs10
              clear hstep hco hk2 hmem hs10 hz
              rw [hqi]
              clear hqi
              go_wp2_with fail
              refine hpop.mono ?_
              rintro e w11 ⟨o11, rfl, hs11, s11⟩
              have s12 : Step [] w11 o11 (w11.alloc (.cells #[.int .i64 (k + 1), .int .i64 q, .int .i64 0, .int .i64 0, .int .i64 0, .slice none 0 0] 30)) o11 := (Step.refl _ _ _).alloc _
              have hs12 := hs11.frame s12 (by decide) (by decide)
              have st := (s10.trans (s11.weaken (by decide))).trans s12.nil
              clear hpop hs11 s11 s12 s10
              go_wp2_with fail
              go_roundg q
              case measure => rw [HG.out]; omega
              case rel => exact ⟨q, o11, rfl, by omega, by go_num, hs12, st⟩
            · obtain rfl : p = 0 := by omega
              have hs10' : FStk wr o10 10 b [] := by simpa [los] using hs10
              replace hB := hB.step s10 (by decide)
              replace hX := hX.frame s10 (by decide)
              clear hs10 s10 hz h0
              have hpi : ((0 : Nat) : Int) - 1 = -1 := rfl
              rw [hpi]
              clear hpi
              have hca := catch_nil hs10'
              go_wp2_with fail
              refine hca.mono ?_
              rintro e w11 ⟨rfl, s11⟩
              have s12 : Step [] w11 o10 (w11.alloc (.cells #[.int .i64 0, .int .i64 0, .int .i64 0, .int .i64 0, .int .i64 0, .slice none 0 0] 30)) o10 := (Step.refl _ _ _).alloc _
              replace hB := hB.step (s11.trans s12) (by decide)
              replace hX := hX.frame (s11.trans s12) (by decide)
              clear hca s11 s12
              go_wp2_with fail
              refine (pop_nil _ 1).mono ?_
              rintro e w13 ⟨rfl, b13⟩
              have s13 := Step.ofBelow b13 o10
              have s14 : Step [] w13 o10 (w13.alloc (.cells #[.int .i64 0, .int .i64 0, .int .i64 0, .int .i64 0, .int .i64 0, .slice none 0 0] 30)) o10 := (Step.refl _ _ _).alloc _
              replace hB := hB.step (s13.trans s14) (by decide)
              replace hX := hX.frame (s13.trans s14) (by decide)
              clear b13 s13 s14
              go_wp2_with fail
              refine (top_nil _).mono ?_
              rintro e w15 ⟨rfl, b15⟩
              have s15 := Step.ofBelow b15 o10
              have s16 : Step [] w15 o10 (w15.alloc (.cells #[.int .i64 0, .int .i64 0, .int .i64 0, .int .i64 0, .int .i64 0, .slice none 0 0] 30)) o10 := (Step.refl _ _ _).alloc _
              replace hB := hB.step (s15.trans s16) (by decide)
              replace hX := hX.frame (s15.trans s16) (by decide)
              clear b15 s15 s16
              obtain ⟨⟨x0, x1, x2, x3, x4, x5⟩, _⟩ := FB.facts (k := 5) (a := 99) (c := 3) (x := 5) (y := 0) (lv := .slice none 0 0) hX.heap
              go_wp2_with (first
                | (go_at_call 13; refine (push_nil _ 5 99 3 5 0 (.slice none 0 0) rfl).mono ?_; rintro e w17 ⟨rfl, b17⟩; replace hB := hB.step (Step.ofBelow b17 o10) (by decide))
                | (go_at_call 17; refine (depth_nil _).mono ?_; rintro e w18 ⟨rfl, rfl⟩))
              go_ret
              exact ⟨rfl, hB.below⟩
end Go.Proofs.Ytegcpjheglcbcaa
