/- DigitReads: the walk. -/
import Derived.Test.YtfeeikhcdphcpaaDigX
namespace Go.Proofs.Ytfeeikhcdphcpaa
open Go Go.RowKit
set_option linter.unusedSimpArgs false
set_option linter.unusedVariables false

theorem stV_pv (p b : Int) : ∃ n x, stV p b = .tuple #[pv n, .int .u8 x] := by
  unfold stV
  split
  · exact ⟨_, _, rfl⟩
  · exact ⟨_, _, rfl⟩

theorem accV_pv (p b : Int) (l : List UInt8) : ∃ n k, accV p b l = .tuple #[pv n, .int .i64 k] := ⟨_, _, rfl⟩
theorem numV_pv (l : List UInt8) (b : Int) : ∃ n k, numV l b = .tuple #[pv n, .int .i64 k] := ⟨_, _, rfl⟩
theorem few_lst (s : ByteArray) : (lst (fewB s)).length ≤ 200 := few_len s

structure CutP (w : World) (z : Nat) (p m k : Int) (c8 c9 : Value) (wx : World) : Prop where
  blk : ∃ b, c8 = .pointer (some ⟨b, 0, none⟩) ∧ PBlk wx b m
  num : c9 = .int .i64 k
  P0 : PBlk wx z p
  sw : Calm w wx

set_option maxHeartbeats 8000000 in
theorem reads_walk (pl ph b : Int) (s : ByteArray) (hp1 : C64 pl) (hp2 : C64 ph) (hb : C64 b) (w : World) :
    Calls Try.prog 4 #[.agg #[.int .i64 pl, .int .i64 ph], .string s, .int .i64 b] w fun e w' => e = .returned (.bool true) ∧ Calm w w' := by
  obtain ⟨p, sp, ep, -⟩ := pv_arg hp1 hp2
  have hF := few_lst s
  have hfw := few_ok s
  have hac := accept_ok p b hb (fewB s) (by have := few_len s; omega)
  have hrac := raccept_ok p b hb (fewB s) (by have := few_len s; omega)
  have hnu := number_ok (lst (fewB s)) (by omega) b hb
  have hrnu := rnumber_ok (lst (fewB s)) (by omega) b hb
  rw [bl_lst] at hnu hrnu
  obtain ⟨m, k, hV⟩ := accV_pv p b (lst (fewB s))
  obtain ⟨m2, k2, hV2⟩ := numV_pv (lst (fewB s)) b
  obtain ⟨ql, qh, -, -, -, eq, -⟩ := pv_split m
  obtain ⟨nl, nh, -, -, -, en, -⟩ := pv_split m2
  rw [eq] at hV
  rw [en] at hV2
  rw [hV, ep] at hac hrac
  rw [hV2] at hnu hrnu
  generalize fewB s = F at *
  have P0 := PBlk.new w ep
  have EP := Lib.hid ep
  have EQ := Lib.hid eq
  have EN := Lib.hid en
  have sw := (Calm.refl w).alloc (.cells #[.int .i64 pl, .int .i64 ph] 24)
  clear ep eq en hV hV2 hF
  go_enter Try.func4, Try.ntmps4
  go_wp2_with (go_at_call 10; refine (shown_ok _).mono ?_; rintro e w1 ⟨rfl, s1⟩; replace P0 := P0.calm s1; replace sw := sw.trans s1; obtain ⟨a0, a1, -, -⟩ := P0.cells EP.out)
  go_upto_region 2 with fail
  go_cut [8, 9] from 17 to 25 (fun c8 c9 wx => CutP w w.heap.size p m k c8 c9 wx)
  case first =>
    have P0d := P0.calm (Calm.refl _).drew
    have P0a := P0d.calm ((Calm.refl _).alloc (.cells #[.int .i64 0, .int .i64 0] 24))
    have Z0 : PBlk (w1.drew.alloc (.cells #[.int .i64 0, .int .i64 0] 24)) w1.heap.size 0 := PBlk.new w1.drew pv_zero
    have SWd := sw.drew
    have SWa := SWd.alloc (.cells #[.int .i64 0, .int .i64 0] 24)
    obtain ⟨x0, x1, -, -⟩ := P0a.cells EP.out
    obtain ⟨y0, y1, -, -⟩ := (P0.calm ((Calm.refl _).alloc (.cells #[.int .i64 0, .int .i64 0] 24))).cells EP.out
    go_region_with (first
      | (go_at_call 22; refine (hfw _).mono ?_; rintro e w2 ⟨rfl, rfl⟩)
      | (go_at_call 21; refine (hac _).mono ?_; rintro e w3 ⟨rfl, s3⟩; first
          | (have P2 := P0d.calm s3; have SW2 := SWd.trans s3)
          | (have P2 := P0a.calm s3; have Z2 := Z0.calm s3; have SW2 := SWa.trans s3; obtain ⟨z0, z1, z2, z3⟩ := Z2.cells pv_zero)))
    all_goals go_wp2_with fail
    all_goals go_meet
    all_goals first
      | exact ⟨⟨_, rfl, PBlk.new w3 EQ.out⟩, rfl, P2.calm ((Calm.refl _).alloc _), SW2.alloc _⟩
      | exact ⟨⟨_, rfl, Z2.set EQ.out⟩, rfl, P2.other2 (by have := P0.lt; omega) _ _, SW2.set2 (by have := sw.size; omega) _ _⟩
  case rest =>
    clear P0 sw a0 a1 s1
    obtain ⟨⟨b8, rfl, PQ⟩, rfl, P0, sw⟩ := hcut
    obtain ⟨a0, a1, -, -⟩ := P0.cells EP.out
    obtain ⟨d0, d1, -, -⟩ := PQ.cells EQ.out
    go_upto_region 3 with fail
    go_cut [10, 11] from 25 to 33 (fun c8 c9 wx => CutP w w.heap.size p m k c8 c9 wx ∧ PBlk wx b8 m)
    case first =>
      have P0d := P0.calm (Calm.refl _).drew
      have P0a := P0d.calm ((Calm.refl _).alloc (.cells #[.int .i64 0, .int .i64 0] 24))
      have Z0 : PBlk (wc.drew.alloc (.cells #[.int .i64 0, .int .i64 0] 24)) wc.heap.size 0 := PBlk.new wc.drew pv_zero
      have SWd := sw.drew
      have SWa := SWd.alloc (.cells #[.int .i64 0, .int .i64 0] 24)
      obtain ⟨x0, x1, -, -⟩ := P0a.cells EP.out
      obtain ⟨y0, y1, -, -⟩ := (P0.calm ((Calm.refl _).alloc (.cells #[.int .i64 0, .int .i64 0] 24))).cells EP.out
      have PQd := PQ.calm (Calm.refl _).drew
      have PQa := PQd.calm ((Calm.refl _).alloc (.cells #[.int .i64 0, .int .i64 0] 24))
      go_region_with (first
        | (go_at_call 22; refine (hfw _).mono ?_; rintro e w2 ⟨rfl, rfl⟩)
        | (go_at_call 23; refine (hrac _).mono ?_; rintro e w3 ⟨rfl, s3⟩; first
            | (have P2 := P0d.calm s3; have SW2 := SWd.trans s3; have Q2 := PQd.calm s3)
            | (have P2 := P0a.calm s3; have Z2 := Z0.calm s3; have SW2 := SWa.trans s3; have Q2 := PQa.calm s3; obtain ⟨z0, z1, z2, z3⟩ := Z2.cells pv_zero)))
      all_goals go_wp2_with fail
      all_goals go_meet
      all_goals first
        | exact ⟨⟨⟨_, rfl, PBlk.new w3 EQ.out⟩, rfl, P2.calm ((Calm.refl _).alloc _), SW2.alloc _⟩, Q2.calm ((Calm.refl _).alloc _)⟩
        | exact ⟨⟨⟨_, rfl, Z2.set EQ.out⟩, rfl, P2.other2 (by have := P0.lt; omega) _ _, SW2.set2 (by have := sw.size; omega) _ _⟩, Q2.other2 (by have := PQ.lt; omega) _ _⟩
    case rest =>
      clear P0 sw a0 a1 d0 d1 PQ
      obtain ⟨⟨⟨b10, rfl, PR⟩, rfl, P0, sw⟩, PQ⟩ := hcut
      go_wp2_with (first
        | (go_at_call 22; refine (hfw _).mono ?_; rintro e w2 ⟨rfl, rfl⟩)
        | (go_at_call 24; refine (hnu _).mono ?_; rintro e w5 ⟨rfl, s5⟩; have PN := PBlk.new w5 EN.out; replace PQ := (PQ.calm s5).calm ((Calm.refl _).alloc (.cells #[.int .i64 nl, .int .i64 nh] 24)); replace PR := (PR.calm s5).calm ((Calm.refl _).alloc (.cells #[.int .i64 nl, .int .i64 nh] 24)); replace sw := (sw.trans s5).alloc (.cells #[.int .i64 nl, .int .i64 nh] 24))
        | (go_at_call 25; refine (hrnu _).mono ?_; rintro e w6 ⟨rfl, s6⟩; have PM := PBlk.new w6 EN.out; replace PQ := (PQ.calm s6).calm ((Calm.refl _).alloc (.cells #[.int .i64 nl, .int .i64 nh] 24)); replace PR := (PR.calm s6).calm ((Calm.refl _).alloc (.cells #[.int .i64 nl, .int .i64 nh] 24)); replace PN := (PN.calm s6).calm ((Calm.refl _).alloc (.cells #[.int .i64 nl, .int .i64 nh] 24)); replace sw := (sw.trans s6).alloc (.cells #[.int .i64 nl, .int .i64 nh] 24); obtain ⟨d0, d1, -, -⟩ := PQ.cells EQ.out; obtain ⟨e0, e1, -, -⟩ := PR.cells EQ.out; obtain ⟨f0, f1, -, -⟩ := PN.cells EN.out))
      go_ret
      exact ⟨rfl, sw⟩
end Go.Proofs.Ytfeeikhcdphcpaa
