/- DigitNone: the walk. -/
import Derived.Test.YtfeeikhcdphcpaaDigP
import Derived.Deep.CutRange
namespace Go.Proofs.Ytfeeikhcdphcpaa
open Go Go.RowKit
set_option linter.unusedSimpArgs false
set_option linter.unusedVariables false

theorem sadd_bl (a b : List UInt8) (h : a.length + b.length ≤ 9223372036854775807) : Op.stringOp .add (bl a) (bl b) = pure (.string (bl (a ++ b))) := sadd a b h

/-- 'string([]byte{c})', the byte's block being g, in a world where it lies so. -/
theorem one_conv {w : World} {g : Nat} {c : UInt8} (h : w.heap[g]? = some (.cells #[.int .u8 (c.toNat : Nat)] 5 (0, 0))) :
    (convert 43 9 (.slice (some ⟨g, 0, none⟩) 1 1)).run Try.prog w = .ok (.string (bl [c])) w :=
  row_back (o := fun _ => 5) (i := 5) (l := [c]) ⟨rfl, .inr ⟨g, 1, _, rfl, rfl, h, Nat.le_refl _, by decide, rfl, rfl⟩⟩

/-- The three bases, in a block. -/
def RB3 (w : World) (g : Nat) : Prop := w.heap[g]? = some (.cells #[.int .i64 10, .int .i64 16, .int .i64 2] 3 (0, 0))
theorem RB3.calm {w w' : World} {g : Nat} (h : RB3 w g) (s : Calm w w') : RB3 w' g := (s fun _ => 0).obj h (by simp)
theorem RB3.cells {w : World} {g : Nat} (h : RB3 w g) : w.cell? ⟨g, 0, none⟩ = some (.int .i64 10) ∧ w.cell? ⟨g, 1, none⟩ = some (.int .i64 16) ∧ w.cell? ⟨g, 2, none⟩ = some (.int .i64 2) := by
  unfold RB3 at h
  simp [World.cell?, h]
structure CutM (w : World) (g : Nat) (q : Int) (c22 c23 : Value) (wx : World) : Prop where
  blk : ∃ bq, c22 = .pointer (some ⟨bq, 0, none⟩) ∧ PBlk wx bq q
  num : c23 = .int .i64 1
  sw : Calm w wx
  rb : RB3 wx g
theorem RB3.set2 {w : World} {g b : Nat} (h : RB3 w g) (hb : g ≠ b) (u v : Value) : RB3 ((w.setCell ⟨b, 0, none⟩ u).setCell ⟨b, 1, none⟩ v) g := by
  unfold RB3 at *
  rw [Below.heap_setCell _ _ _ _ hb, Below.heap_setCell _ _ _ _ hb]; exact h

structure CutN (w : World) (kind : Int) (c14 : Value) (wx : World) : Prop where
  num : c14 = .int .i64 kind
  sw : Calm w wx

set_option maxRecDepth 100000 in
set_option maxHeartbeats 8000000 in
theorem none_walk (n c t x : Int) (hn : C64 n) (hc : 0 ≤ c ∧ c < 256) (ht : 0 ≤ t ∧ t < 256) (hx : 0 ≤ x ∧ x < 256) (w : World) :
    Calls Try.prog 8 #[.int .i64 n, .int .u8 c, .int .u8 t, .int .u8 x] w fun e w' => e = .returned (.bool true) ∧ Calm w w' := by
  obtain ⟨r, hr⟩ : ∃ r, x.tmod 35 = r := ⟨_, rfl⟩
  have hr2 : x.tmod 35 = x % 35 := Int.tmod_eq_emod_of_nonneg hx.1
  have r0 : 0 ≤ r := by omega
  have r1 : r < 35 := by omega
  obtain ⟨b, hbv⟩ : ∃ b, r + 2 = b := ⟨_, rfl⟩
  have hR : rightB b = true := by rw [← hbv]; exact right_35 r0 r1
  have b0 : 2 ≤ b := by omega
  have b1 : b ≤ 36 := by omega
  have hb : C64 b := ⟨by omega, by omega⟩
  have hwx : wrap64 x = x := by unfold wrap64; omega
  have hwt : wrap64 t = t := by unfold wrap64; omega
  obtain ⟨q, hq⟩ : ∃ q, n % 18446744073709551616 = q := ⟨_, rfl⟩
  have hqq := hq
  have eq : pv q = .agg #[.int .i64 n, .int .i64 0] := by rw [← hq]; exact pv_lo n hn
  have hUq : U q = q := by unfold U; omega
  have hqm : q % 18446744073709551616 = q := by omega
  have h15 := text_ok q b
  rw [textB_eq, eq, show (ByteArray.mk (textL q b).toArray) = bl (textL q b) from rfl] at h15
  have hDl := textL_len q b
  have hD1 := textL_len1 hR q
  obtain ⟨k, hk⟩ : ∃ k : Nat, t.tmod ((textL q b).length + 1) = k := ⟨(t.tmod ((textL q b).length + 1)).toNat, by
    rw [Int.toNat_of_nonneg (Int.tmod_nonneg _ ht.1)]⟩
  have hkl : k ≤ (textL q b).length := by
    have := Int.tmod_lt_of_pos t (show (0 : Int) < ((textL q b).length : Int) + 1 by omega)
    omega
  obtain ⟨cu, hcu⟩ : ∃ cu : UInt8, c = ((cu.toNat : Nat) : Int) := ⟨UInt8.ofNat c.toNat, by rw [UInt8.toNat_ofNat']; omega⟩
  have hbad := num_bad hR q (c := cu) (k := k)
  rw [← hcu] at hbad
  obtain ⟨L, hL⟩ : ∃ L, (textL q b).take k ++ cu :: (textL q b).drop k = L := ⟨_, rfl⟩
  have hLl : L.length ≤ 1000 := by rw [← hL]; simp; omega
  have h24 := number_ok L hLl b hb
  obtain ⟨v, kind, hnv⟩ : ∃ v kind, num L b = (v, kind) := ⟨_, _, rfl⟩
  obtain ⟨vl, vh, -, -, -, ev, -⟩ := pv_split v
  rw [numV, hnv, ev] at h24
  have hsz : (bl (textL q b)).size = (textL q b).length := bl_size _
  have hx1 : (bl (textL q b)).extract 0 k = bl ((textL q b).take k) := by rw [bl_ext]; simp
  have hx2 : (bl (textL q b)).extract k (bl (textL q b)).size = bl ((textL q b).drop k) := by rw [bl_ext, hsz, List.take_of_length_le (by simp)]
  have ka1 := sadd_bl ((textL q b).take k) [cu] (by simp; omega)
  have ka2 := sadd_bl ((textL q b).take k ++ [cu]) ((textL q b).drop k) (by simp; omega)
  rw [List.append_assoc, List.singleton_append, hL] at ka2
  have hkind : valB c b = false → (k = 0 → c ≠ 45 ∧ c ≠ 35 ∧ c ≠ 36 ∧ c ≠ 37) → (k = (textL q b).length → c ≠ 46) → kind = 0 := by
    intro g1 g2 g3
    have e : ∀ j : Nat, j < 256 → (cu = UInt8.ofNat j → c = (j : Int)) := fun j hj h => by rw [hcu, h, UInt8.toNat_ofNat']; omega
    have := hbad g1 hkl (fun h => ⟨fun h2 => (g2 h).1 (e 45 (by decide) h2), fun h2 => (g2 h).2.1 (e 35 (by decide) h2), fun h2 => (g2 h).2.2.1 (e 36 (by decide) h2), fun h2 => (g2 h).2.2.2 (e 37 (by decide) h2)⟩) (fun h h2 => g3 h (e 46 (by decide) h2))
    rw [hL, hnv] at this
    exact (Prod.mk.inj this).2
  have h13 := val_ok c b hc.1 hc.2
  have h24e := number_ok [] (by simp) b hb
  have hne : num [] b = (0, 0) := by unfold num; rw [hR, if_pos rfl]
  rw [numV, hne, pv_zero, show bl [] = ⟨#[]⟩ from rfl] at h24e
  rw [← hsz] at hk hkl hkind
  generalize bl ((textL q b).take k ++ [cu]) = S3 at *
  generalize bl ((textL q b).take k) = S1 at *
  generalize bl ((textL q b).drop k) = S2 at *
  generalize bl L = S4 at *
  have hsl : ((bl (textL q b)).size : Int) ≤ 128 := by omega
  have hs1 : (1 : Int) ≤ ((bl (textL q b)).size : Int) := by omega
  generalize bl (textL q b) = s at *
  have hki : (k : Int) ≤ (s.size : Int) := by omega
  have hdiv : ¬ ((s.size : Int) + 1) = 0 := by omega
  clear hbad hL hnv hq hr2 hqm hDl hD1 hsz
  obtain ⟨ok, hok⟩ : ∃ ok, valB c b = ok := ⟨_, rfl⟩
  rw [hok] at h13 hkind
  have HK := Lib.hid hkind
  have EQ := Lib.hid eq
  have EV := Lib.hid ev
  have HUQ := Lib.hid hUq
  have HCU := Lib.hid hcu
  have HR := Lib.hid hR
  have key : ∀ (ch : UInt8) (xx : Int), base1 ch = xx → rightB xx = true → ∃ T V : ByteArray, (∀ w, Calls Try.prog 15 #[.agg #[.int .i64 n, .int .i64 0], .int .i64 xx] w fun e w' => e = .returned (.string T) ∧ Calm w w') ∧ Op.stringOp .add (bl [ch]) T = pure (.string V) ∧
      ∀ w, Calls Try.prog 24 #[.string V, .int .i64 b] w fun e w' => e = .returned (.tuple #[.agg #[.int .i64 n, .int .i64 0], .int .i64 1]) ∧ Calm w w' := by
    intro ch xx hch hxx
    have g1 := text_ok q xx
    rw [textB_eq, eq] at g1
    have g2 := textL_len q xx
    have g3 := number_ok (ch :: textL q xx) (by simp; omega) b hb
    rw [numV, num_base HR.out hch hxx q, HUQ.out, show q % 18446744073709551616 = q by rw [← hqq]; omega, eq] at g3
    exact ⟨bl (textL q xx), bl (ch :: textL q xx), g1, sadd_bl [ch] (textL q xx) (by simp; omega), g3⟩
  have KEY := Lib.hid key
  clear hkind eq ev hok hUq hR hcu key hqq
  generalize valV c b = vc at *
  go_enter Try.func8, Try.ntmps8
  go_upto_region 5 with (first
    | (go_at_call 10; refine (shown_ok _).mono ?_; rintro e w1 ⟨rfl, s1⟩)
    | (go_at_call 15; refine (h15 _).mono ?_; rintro e w2 ⟨rfl, s2⟩))
  go_cut [13, 14] from 39 to 55 (fun _c13 c14 wx => CutN w kind c14 wx)
  case first =>
    have SW := s1.trans s2
    have hA : (w2.alloc (.cells #[.int .u8 c] 5)).heap[w2.heap.size]? = some (.cells #[.int .u8 c] 5 (0, 0)) := heap_alloc_new _ _
    have hA2 : ((w2.alloc (.cells #[.int .u8 c] 5)).alloc (.cells #[.int .i64 0, .int .i64 0] 24)).heap[w2.heap.size]? = some (.cells #[.int .u8 c] 5 (0, 0)) := by
      rw [Below.heap_alloc _ _ _ (by simp)]; exact hA
    have hB : ((w2.alloc (.cells #[.int .i64 0, .int .i64 0] 24)).alloc (.cells #[.int .u8 c] 5)).heap[w2.heap.size + 1]? = some (.cells #[.int .u8 c] 5 (0, 0)) := by
      have := heap_alloc_new (w2.alloc (.cells #[.int .i64 0, .int .i64 0] 24)) (.cells #[.int .u8 c] 5)
      rwa [World.size_alloc] at this
    rw [HCU.out] at hA hA2 hB
    have kA := one_conv (w := (w2.alloc (.cells #[.int .u8 ((cu.toNat : Nat) : Int)] 5)).drew) hA
    have kA2 := one_conv (w := ((w2.alloc (.cells #[.int .u8 ((cu.toNat : Nat) : Int)] 5)).alloc (.cells #[.int .i64 0, .int .i64 0] 24)).drew) hA2
    have kB := one_conv (w := ((w2.alloc (.cells #[.int .i64 0, .int .i64 0] 24)).alloc (.cells #[.int .u8 ((cu.toNat : Nat) : Int)] 5)).drew) hB
    rw [← HCU.out] at kA kA2 kB
    have CA := (SW.alloc (.cells #[.int .u8 c] 5)).drew
    have CA2 := ((SW.alloc (.cells #[.int .u8 c] 5)).alloc (.cells #[.int .i64 0, .int .i64 0] 24)).drew
    have CB := ((SW.alloc (.cells #[.int .i64 0, .int .i64 0] 24)).alloc (.cells #[.int .u8 c] 5)).drew
    have ZA2 : PBlk ((w2.alloc (.cells #[.int .u8 c] 5)).alloc (.cells #[.int .i64 0, .int .i64 0] 24)).drew (w2.heap.size + 1) 0 := by
      have := PBlk.new (w2.alloc (.cells #[.int .u8 c] 5)) pv_zero
      rw [World.size_alloc] at this
      exact this.calm (Calm.refl _).drew
    have ZB : PBlk ((w2.alloc (.cells #[.int .i64 0, .int .i64 0] 24)).alloc (.cells #[.int .u8 c] 5)).drew w2.heap.size 0 := (PBlk.new w2 pv_zero).calm (((Calm.refl _).alloc (.cells #[.int .u8 c] 5)).drew)
    have hws : w.heap.size ≤ w2.heap.size := SW.size
    clear hA hA2 hB
    go_region_with (first
      | (go_at_call 24; refine (h24 _).mono ?_; rintro e w3 ⟨rfl, s3⟩; first
          | (have C3 := CA.trans s3)
          | (have C3 := CA2.trans s3; have Z3 := ZA2.calm s3; obtain ⟨z0, z1, z2, z3⟩ := Z3.cells pv_zero)
          | (have C3 := CB.trans s3; have Z3 := ZB.calm s3; obtain ⟨z0, z1, z2, z3⟩ := Z3.cells pv_zero)))
    all_goals go_wp2_with fail
    all_goals go_meet
    all_goals first
      | exact ⟨rfl, C3.alloc _⟩
      | exact ⟨rfl, C3.set2 (by omega) _ _⟩
  case rest =>
    obtain ⟨rfl, sw⟩ := hcut
    clear s1 s2
    go_upto_region 7 with (go_at_call 13; refine (h13 _).mono ?_; rintro e w4 ⟨rfl, rfl⟩)
    obtain ⟨M, hM⟩ : ∃ M, M = (ok || ((k == 0) && (c == 45 || c == 35 || c == 36 || c == 37)) || ((k == s.size) && (c == 46))) := ⟨_, rfl⟩
    have HM := Lib.hid hM
    clear hM
    go_cut [17] from 61 to 92 (fun c17 wx => c17 = .bool M ∧ wx = w4)
    case first =>
      have HM2 := HM.out
      cases ok
      · by_cases k0 : k = 0
        · subst k0
          have k1 : ((0 : Int) == (s.size : Int)) = false := by rw [beq_eq_false_iff_ne]; omega
          have k2 : ((0 : Nat) == s.size) = false := by rw [beq_eq_false_iff_ne]; omega
          rw [k2] at HM2
          by_cases c1 : c = 45
          · subst c1
            have HM3 : M = true := by rw [HM2]; rfl
            clear HM2
            subst HM3
            go_wp2_with fail
            go_meet
            exact ⟨rfl, rfl⟩
          · by_cases c2 : c = 35
            · subst c2
              have HM3 : M = true := by rw [HM2]; rfl
              clear HM2
              subst HM3
              go_wp2_with fail
              go_meet
              exact ⟨rfl, rfl⟩
            · by_cases c3 : c = 36
              · subst c3
                have HM3 : M = true := by rw [HM2]; rfl
                clear HM2
                subst HM3
                go_wp2_with fail
                go_meet
                exact ⟨rfl, rfl⟩
              · by_cases c4 : c = 37
                · subst c4
                  have HM3 : M = true := by rw [HM2]; rfl
                  clear HM2
                  subst HM3
                  go_wp2_with fail
                  go_meet
                  exact ⟨rfl, rfl⟩
                · have e1 : (c == 45) = false := by rw [beq_eq_false_iff_ne]; exact c1
                  have e2 : (c == 35) = false := by rw [beq_eq_false_iff_ne]; exact c2
                  have e3 : (c == 36) = false := by rw [beq_eq_false_iff_ne]; exact c3
                  have e4 : (c == 37) = false := by rw [beq_eq_false_iff_ne]; exact c4
                  have HM3 : M = false := by rw [HM2, e1, e2, e3, e4]; rfl
                  clear HM2
                  subst HM3
                  go_wp2_with fail
                  go_meet
                  exact ⟨rfl, rfl⟩
        · have k1 : ((k : Int) == 0) = false := by rw [beq_eq_false_iff_ne]; omega
          have k2 : (k == 0) = false := by rw [beq_eq_false_iff_ne]; exact k0
          rw [k2] at HM2
          by_cases ks : k = s.size
          · have k3 : ((k : Int) == (s.size : Int)) = true := by rw [beq_iff_eq]; omega
            have k4 : (k == s.size) = true := by rw [beq_iff_eq]; exact ks
            rw [k4] at HM2
            by_cases c1 : c = 46
            · subst c1
              have HM3 : M = true := by rw [HM2]; rfl
              clear HM2 ks
              subst HM3
              go_wp2_with fail
              go_meet
              exact ⟨rfl, rfl⟩
            · have e1 : (c == 46) = false := by rw [beq_eq_false_iff_ne]; exact c1
              have HM3 : M = false := by rw [HM2, e1]; rfl
              clear HM2 ks
              subst HM3
              go_wp2_with fail
              go_meet
              exact ⟨rfl, rfl⟩
          · have k3 : ((k : Int) == (s.size : Int)) = false := by rw [beq_eq_false_iff_ne]; omega
            have k4 : (k == s.size) = false := by rw [beq_eq_false_iff_ne]; exact ks
            have HM3 : M = false := by rw [HM2, k4]; rfl
            clear HM2
            subst HM3
            go_wp2_with fail
            go_meet
            exact ⟨rfl, rfl⟩
      · have HM3 : M = true := by rw [HM2]; rfl
        clear HM2
        subst HM3
        go_wp2_with fail
        go_meet
        exact ⟨rfl, rfl⟩
    case rest =>
      obtain ⟨rfl, rfl⟩ := hcut
      have hMk : M = true ∨ (M = false ∧ kind = 0) := by
        cases hM2 : M with
        | true => exact .inl rfl
        | false =>
          right
          refine ⟨rfl, ?_⟩
          have h := HM.out
          rw [hM2] at h
          have h' := h.symm
          simp only [Bool.or_eq_false_iff, Bool.and_eq_false_iff, beq_eq_false_iff_ne, ne_eq] at h'
          obtain ⟨⟨g1, g2⟩, g3⟩ := h'
          refine HK.out g1 (fun h0 => ?_) (fun h0 => ?_)
          · rcases g2 with g2 | g2
            · exact absurd h0 g2
            · exact ⟨g2.1.1.1, g2.1.1.2, g2.1.2, g2.2⟩
          · rcases g3 with g3 | g3
            · exact absurd h0 g3
            · exact g3
      have HMK := Lib.hid hMk
      clear hMk
      go_upto_region 8 with fail
      go_cut [97] from 92 to 98 (fun c97 wx => c97 = .bool false ∧ wx = wc)
      case first =>
        rcases HMK.out with rfl | ⟨rfl, rfl⟩
        · go_wp2_with fail
          go_meet
          exact ⟨rfl, rfl⟩
        · go_wp2_with fail
          go_meet
          exact ⟨rfl, rfl⟩
      case rest =>
        obtain ⟨rfl, rfl⟩ := hcut
        go_wp2_with (go_at_call 24; refine (h24e _).mono ?_; rintro e w5 ⟨rfl, s5⟩)
        have SW5 := ((sw.trans s5).alloc (.cells #[.int .i64 0, .int .i64 0] 24)).alloc (.cells #[.int .i64 10, .int .i64 16, .int .i64 2] 3)
        have RB5 : RB3 ((w5.alloc (.cells #[.int .i64 0, .int .i64 0] 24)).alloc (.cells #[.int .i64 10, .int .i64 16, .int .i64 2] 3)) (w5.heap.size + 1) := by
          have := heap_alloc_new (w5.alloc (.cells #[.int .i64 0, .int .i64 0] 24)) (.cells #[.int .i64 10, .int .i64 16, .int .i64 2] 3)
          rwa [World.size_alloc] at this
        generalize w5.heap.size + 1 = g at *
        go_loopg [20, 21, 22, 23, 105] 3 (fun z a1 a2 a3 a4 a wr => ∃ (j : Nat) (i : Int), z = 3 - j ∧ j ≤ 3 ∧ a = .int .i64 i ∧ Calm w wr ∧ RB3 wr g ∧ Hid (i = (j : Int)))
        case atStart => exact ⟨0, 0, rfl, by omega, rfl, SW5, RB5, Lib.hid rfl⟩
        case round =>
          obtain ⟨j, i, hz, hj, rfl, st, hRB, HI⟩ := hrel
          have HG := Lib.hid hz
          clear hz SW5 RB5 sw
          obtain ⟨c0, c1, c2⟩ := hRB.cells
          rcases (show j = 0 ∨ j = 1 ∨ j = 2 ∨ j = 3 by omega) with rfl | rfl | rfl | rfl
          · obtain rfl : i = 0 := HI.out
            obtain ⟨T, V, g1, g2, g3⟩ := KEY.out 35 10 (by decide) (by decide)
            have hxj : (ByteArray.mk #[35, 36, 37]).extract 0 1 = bl [35] := by rw [show (ByteArray.mk #[35, 36, 37]) = bl [35, 36, 37] from rfl, bl_ext]; rfl
            go_upto_region 14 with fail
            go_cut [22, 23] from 110 to 124 (fun c22 c23 wx => CutM w g q c22 c23 wx)
            case first =>
              have SWd := st.drew
              have RBd := hRB.calm (Calm.refl wr).drew
              have SWa := (st.alloc (.cells #[.int .i64 0, .int .i64 0] 24)).drew
              have RBa := hRB.calm ((Calm.refl wr).alloc (.cells #[.int .i64 0, .int .i64 0] 24)).drew
              have ZA : PBlk ((wr.alloc (.cells #[.int .i64 0, .int .i64 0] 24)).drew) wr.heap.size 0 := (PBlk.new wr pv_zero).calm (Calm.refl _).drew
              have hwr : w.heap.size ≤ wr.heap.size := st.size
              have hgl : g < wr.heap.size := (Array.getElem?_eq_some_iff.1 hRB).1
              clear c0 c1 c2
              go_region_with (first
                | (go_at_call 15; refine (g1 _).mono ?_; rintro e w6 ⟨rfl, s6⟩; first
                    | (have C6 := SWd.trans s6; have R6 := RBd.calm s6)
                    | (have C6 := SWa.trans s6; have R6 := RBa.calm s6; have Z6 := ZA.calm s6))
                | (go_at_call 24; refine (g3 _).mono ?_; rintro e w7 ⟨rfl, s7⟩; first
                    | (have Z7 := Z6.calm s7; have C7 := C6.trans s7; have R7 := R6.calm s7; obtain ⟨z0, z1, z2, z3⟩ := Z7.cells pv_zero)
                    | (have C7 := C6.trans s7; have R7 := R6.calm s7)
                    | (have Z7 := (PBlk.new w6 pv_zero).calm s7; have C7 := (C6.alloc (.cells #[.int .i64 0, .int .i64 0] 24)).trans s7; have R7 := (R6.calm ((Calm.refl _).alloc (.cells #[.int .i64 0, .int .i64 0] 24))).calm s7; have hg6 : g < w6.heap.size := (Array.getElem?_eq_some_iff.1 R6).1; have hw6 : w.heap.size ≤ w6.heap.size := C6.size; obtain ⟨z0, z1, z2, z3⟩ := Z7.cells pv_zero)))
              all_goals go_wp2_with fail
              all_goals go_meet
              all_goals first
                | exact ⟨⟨_, rfl, PBlk.new _ EQ.out⟩, rfl, C7.alloc _, R7.calm ((Calm.refl _).alloc _)⟩
                | exact ⟨⟨_, rfl, Z7.set EQ.out⟩, rfl, C7.set2 (by omega) _ _, R7.set2 (by omega) _ _⟩
            case rest =>
              obtain ⟨⟨bq, rfl, PQ⟩, rfl, st2, hRB2⟩ := hcut
              obtain ⟨d0, d1, -, -⟩ := PQ.cells EQ.out
              go_wp2_with fail
              go_roundg (3 - 1)
              case measure => rw [HG.out]; decide
              case rel => exact ⟨1, 1, rfl, by omega, by go_num, st2, hRB2, Lib.hid rfl⟩
          · obtain rfl : i = 1 := HI.out
            obtain ⟨T, V, g1, g2, g3⟩ := KEY.out 36 16 (by decide) (by decide)
            have hxj : (ByteArray.mk #[35, 36, 37]).extract 1 2 = bl [36] := by rw [show (ByteArray.mk #[35, 36, 37]) = bl [35, 36, 37] from rfl, bl_ext]; rfl
            go_upto_region 14 with fail
            go_cut [22, 23] from 110 to 124 (fun c22 c23 wx => CutM w g q c22 c23 wx)
            case first =>
              have SWd := st.drew
              have RBd := hRB.calm (Calm.refl wr).drew
              have SWa := (st.alloc (.cells #[.int .i64 0, .int .i64 0] 24)).drew
              have RBa := hRB.calm ((Calm.refl wr).alloc (.cells #[.int .i64 0, .int .i64 0] 24)).drew
              have ZA : PBlk ((wr.alloc (.cells #[.int .i64 0, .int .i64 0] 24)).drew) wr.heap.size 0 := (PBlk.new wr pv_zero).calm (Calm.refl _).drew
              have hwr : w.heap.size ≤ wr.heap.size := st.size
              have hgl : g < wr.heap.size := (Array.getElem?_eq_some_iff.1 hRB).1
              clear c0 c1 c2
              go_region_with (first
                | (go_at_call 15; refine (g1 _).mono ?_; rintro e w6 ⟨rfl, s6⟩; first
                    | (have C6 := SWd.trans s6; have R6 := RBd.calm s6)
                    | (have C6 := SWa.trans s6; have R6 := RBa.calm s6; have Z6 := ZA.calm s6))
                | (go_at_call 24; refine (g3 _).mono ?_; rintro e w7 ⟨rfl, s7⟩; first
                    | (have Z7 := Z6.calm s7; have C7 := C6.trans s7; have R7 := R6.calm s7; obtain ⟨z0, z1, z2, z3⟩ := Z7.cells pv_zero)
                    | (have C7 := C6.trans s7; have R7 := R6.calm s7)
                    | (have Z7 := (PBlk.new w6 pv_zero).calm s7; have C7 := (C6.alloc (.cells #[.int .i64 0, .int .i64 0] 24)).trans s7; have R7 := (R6.calm ((Calm.refl _).alloc (.cells #[.int .i64 0, .int .i64 0] 24))).calm s7; have hg6 : g < w6.heap.size := (Array.getElem?_eq_some_iff.1 R6).1; have hw6 : w.heap.size ≤ w6.heap.size := C6.size; obtain ⟨z0, z1, z2, z3⟩ := Z7.cells pv_zero)))
              all_goals go_wp2_with fail
              all_goals go_meet
              all_goals first
                | exact ⟨⟨_, rfl, PBlk.new _ EQ.out⟩, rfl, C7.alloc _, R7.calm ((Calm.refl _).alloc _)⟩
                | exact ⟨⟨_, rfl, Z7.set EQ.out⟩, rfl, C7.set2 (by omega) _ _, R7.set2 (by omega) _ _⟩
            case rest =>
              obtain ⟨⟨bq, rfl, PQ⟩, rfl, st2, hRB2⟩ := hcut
              obtain ⟨d0, d1, -, -⟩ := PQ.cells EQ.out
              go_wp2_with fail
              go_roundg (3 - 2)
              case measure => rw [HG.out]; decide
              case rel => exact ⟨2, 2, rfl, by omega, by go_num, st2, hRB2, Lib.hid rfl⟩
          · obtain rfl : i = 2 := HI.out
            obtain ⟨T, V, g1, g2, g3⟩ := KEY.out 37 2 (by decide) (by decide)
            have hxj : (ByteArray.mk #[35, 36, 37]).extract 2 3 = bl [37] := by rw [show (ByteArray.mk #[35, 36, 37]) = bl [35, 36, 37] from rfl, bl_ext]; rfl
            go_upto_region 14 with fail
            go_cut [22, 23] from 110 to 124 (fun c22 c23 wx => CutM w g q c22 c23 wx)
            case first =>
              have SWd := st.drew
              have RBd := hRB.calm (Calm.refl wr).drew
              have SWa := (st.alloc (.cells #[.int .i64 0, .int .i64 0] 24)).drew
              have RBa := hRB.calm ((Calm.refl wr).alloc (.cells #[.int .i64 0, .int .i64 0] 24)).drew
              have ZA : PBlk ((wr.alloc (.cells #[.int .i64 0, .int .i64 0] 24)).drew) wr.heap.size 0 := (PBlk.new wr pv_zero).calm (Calm.refl _).drew
              have hwr : w.heap.size ≤ wr.heap.size := st.size
              have hgl : g < wr.heap.size := (Array.getElem?_eq_some_iff.1 hRB).1
              clear c0 c1 c2
              go_region_with (first
                | (go_at_call 15; refine (g1 _).mono ?_; rintro e w6 ⟨rfl, s6⟩; first
                    | (have C6 := SWd.trans s6; have R6 := RBd.calm s6)
                    | (have C6 := SWa.trans s6; have R6 := RBa.calm s6; have Z6 := ZA.calm s6))
                | (go_at_call 24; refine (g3 _).mono ?_; rintro e w7 ⟨rfl, s7⟩; first
                    | (have Z7 := Z6.calm s7; have C7 := C6.trans s7; have R7 := R6.calm s7; obtain ⟨z0, z1, z2, z3⟩ := Z7.cells pv_zero)
                    | (have C7 := C6.trans s7; have R7 := R6.calm s7)
                    | (have Z7 := (PBlk.new w6 pv_zero).calm s7; have C7 := (C6.alloc (.cells #[.int .i64 0, .int .i64 0] 24)).trans s7; have R7 := (R6.calm ((Calm.refl _).alloc (.cells #[.int .i64 0, .int .i64 0] 24))).calm s7; have hg6 : g < w6.heap.size := (Array.getElem?_eq_some_iff.1 R6).1; have hw6 : w.heap.size ≤ w6.heap.size := C6.size; obtain ⟨z0, z1, z2, z3⟩ := Z7.cells pv_zero)))
              all_goals go_wp2_with fail
              all_goals go_meet
              all_goals first
                | exact ⟨⟨_, rfl, PBlk.new _ EQ.out⟩, rfl, C7.alloc _, R7.calm ((Calm.refl _).alloc _)⟩
                | exact ⟨⟨_, rfl, Z7.set EQ.out⟩, rfl, C7.set2 (by omega) _ _, R7.set2 (by omega) _ _⟩
            case rest =>
              obtain ⟨⟨bq, rfl, PQ⟩, rfl, st2, hRB2⟩ := hcut
              obtain ⟨d0, d1, -, -⟩ := PQ.cells EQ.out
              go_wp2_with fail
              go_roundg (3 - 3)
              case measure => rw [HG.out]; decide
              case rel => exact ⟨3, 3, rfl, by omega, by go_num, st2, hRB2, Lib.hid rfl⟩
          · obtain rfl : i = 3 := HI.out
            go_wp2_with fail
            go_ret
            exact ⟨rfl, st⟩
end Go.Proofs.Ytfeeikhcdphcpaa
