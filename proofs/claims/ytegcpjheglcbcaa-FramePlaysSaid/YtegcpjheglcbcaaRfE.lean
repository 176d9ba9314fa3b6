/- The document's frames: Pop, Index. -/
import Derived.Test.YtegcpjheglcbcaaRfB
import Derived.Test.YtegcpjheglcbcaaRfD
namespace Go.Proofs.Ytegcpjheglcbcaa
open Go Go.RowKit Go.Shelf
set_option linter.unusedSimpArgs false
set_option linter.unusedVariables false

theorem frame0_eq {w : World} {o : Owner} {i b : Nat} {fl : List (Fr × List Int × Nat)} (h : RT w o i b fl) {W : World} {O : Owner} (hi : i ≠ 77 ∧ i + 1 ≠ 77) (s : Step [77] w o W O) : RT W O i b fl :=
  h.frame s (by simpa using hi.1) (by simpa using hi.2) (fun p hp => by have := (h.2.2 p hp).2.2.2.1; simpa using this)

set_option maxHeartbeats 4000000 in
theorem rpop_none {w : World} {o : Owner} {i b : Nat} (hs : RT w o i b []) (kk : Int) :
    Calls Try.prog 33 #[.pointer (some ⟨b, 0, none⟩), .int .i64 kk] w fun e w' => e = .returned (.tuple #[Z6, .int .i64 (-6)]) ∧ Step [] w o w' o := by
  have sA : Step [] w o (ZB w) o := (Step.refl _ _ _).alloc _
  have hB : Below w.heap.size w (ZB w) := (Below.refl _ _).alloc (Nat.le_refl _) _
  have htop := rtop_nil (hs.frame0 sA)
  have fz := FB.new w 0 0 0 0 0 (.slice none 0 0)
  clear hs
  go_enter Try.func33, Try.ntmps33
  go_wp2_with (go_at_call 26; refine htop.mono ?_; rintro e w1 ⟨rfl, s1⟩; have fz1 : FB (w1.alloc (.cells #[.int .i64 0, .int .i64 0, .int .i64 0, .int .i64 0, .int .i64 0, .slice none 0 0] 30)) w.heap.size 0 0 0 0 0 (.slice none 0 0) := (fz.step s1 (by simp)).step ((Step.refl [] w1 o).alloc _) (by simp); obtain ⟨⟨z0, z1, z2, z3, z4, z5⟩, y0, y1, y2, y3, y4, y5⟩ := fz1.facts)
  obtain ⟨⟨x0, x1, x2, x3, x4, x5⟩, _⟩ := (fz1.set6 0 0 0 0 0 (.slice none 0 0)).facts
  refine bodyPost_ret (v := .tuple #[Z6, .int .i64 (-6)]) (by simp [results, Try.results33, go_sem, x0, x1, x2, x3, x4, x5]) rfl ?_
  exact ⟨rfl, step_set6 ((sA.trans s1).alloc _) (fun h => absurd h (Nat.lt_irrefl _)) 0 0 0 0 0 _⟩

set_option maxHeartbeats 4000000 in
theorem rpop_miss {w : World} {o : Owner} {i b : Nat} {fl : List (Fr × List Int × Nat)} {k a c x y : Int} {lv : Value} {l : List Int} {t : Nat} (hs : RT w o i b (fl ++ [(⟨k, a, c, x, y, lv⟩, l, t)])) (hi : i ≠ 77 ∧ i + 1 ≠ 77) (kk : Int) (hk : k ≠ kk) :
    Calls Try.prog 33 #[.pointer (some ⟨b, 0, none⟩), .int .i64 kk] w fun e w' => ∃ o', e = .returned (.tuple #[Z6, .int .i64 (-6)]) ∧ Step [] w o w' o' := by
  have sA : Step [] w o (ZB w) o := (Step.refl _ _ _).alloc _
  have htop := rtop_some (hs.frame0 sA) hi 40 (by decide)
  have fz := FB.new w 0 0 0 0 0 (.slice none 0 0)
  have hkb : (k != kk) = true := by simpa using hk
  clear hs hk
  go_enter Try.func33, Try.ntmps33
  go_wp2_with (go_at_call 26; refine htop.mono ?_; rintro e w1 ⟨lv', o1, rfl, hrow, s1⟩; obtain ⟨al, cl, rfl, _, _⟩ := hrow.slice; have fz1 : FB (w1.alloc (.cells #[.int .i64 k, .int .i64 a, .int .i64 c, .int .i64 x, .int .i64 y, .slice al l.length cl] 30)) w.heap.size 0 0 0 0 0 (.slice none 0 0) := (fz.step s1 (by simp)).step ((Step.refl [] w1 o1).alloc _) (by simp); have fT := FB.new w1 k a c x y (.slice al l.length cl); obtain ⟨⟨z0, z1, z2, z3, z4, z5⟩, y0, y1, y2, y3, y4, y5⟩ := fz1.facts; obtain ⟨⟨t0, t1, t2, t3, t4, t5⟩, _⟩ := fT.facts)
  obtain ⟨⟨x0, x1, x2, x3, x4, x5⟩, _⟩ := (fz1.set6 0 0 0 0 0 (.slice none 0 0)).facts
  refine bodyPost_ret (v := .tuple #[Z6, .int .i64 (-6)]) (by simp [results, Try.results33, go_sem, x0, x1, x2, x3, x4, x5]) rfl ?_
  exact ⟨o1, rfl, step_set6 ((sA.trans s1).alloc _) (fun h => absurd h (Nat.lt_irrefl _)) 0 0 0 0 0 _⟩

set_option maxHeartbeats 4000000 in
theorem rpop_hit {w : World} {o : Owner} {i b : Nat} {fl : List (Fr × List Int × Nat)} {k a c x y : Int} {lv : Value} {l : List Int} {t : Nat} (hs : RT w o i b (fl ++ [(⟨k, a, c, x, y, lv⟩, l, t)])) (hi : i ≠ 77 ∧ i + 1 ≠ 77) (j : Nat) (hj : j ≠ i ∧ j ≠ i + 1 ∧ j ≠ 77) :
    Calls Try.prog 33 #[.pointer (some ⟨b, 0, none⟩), .int .i64 k] w fun e w' => ∃ lv' o', e = .returned (.tuple #[.agg #[.int .i64 k, .int .i64 a, .int .i64 c, .int .i64 x, .int .i64 y, lv'], .int .i64 0]) ∧ Row w' o' j 22 1 lv' l.length (cellsOf l) ∧ RT w' o' i b fl ∧ Step [i] w o w' o' := by
  have sA : Step [] w o (ZB w) (o.set w.heap.size 77) := ((Step.refl _ _ _).alloc _).give (Nat.le_refl _) _
  have hz := Blk.new w o 77 30 #[.int .i64 0, .int .i64 0, .int .i64 0, .int .i64 0, .int .i64 0, .slice none 0 0]
  replace hs := hs.frame0 sA
  have htop := rtop_some hs hi j hj.2.2
  generalize o.set w.heap.size 77 = o1 at sA hz hs htop
  have hkb : (k != k) = false := by simp
  go_enter Try.func33, Try.ntmps33
  go_wp2_with fail
  refine htop.mono ?_
  rintro e w1 ⟨lv', o2, rfl, hrow, s1⟩
  obtain ⟨al, cl, rfl, _, _⟩ := hrow.slice
  have sT : Step [] w1 o2 (w1.alloc (.cells #[.int .i64 k, .int .i64 a, .int .i64 c, .int .i64 x, .int .i64 y, .slice al l.length cl] 30)) (o2.set w1.heap.size 77) := ((Step.refl _ _ _).alloc _).give (Nat.le_refl _) _
  have hT := Blk.new w1 o2 77 30 #[.int .i64 k, .int .i64 a, .int .i64 c, .int .i64 x, .int .i64 y, .slice al l.length cl]
  replace hs := (hs.frame0 s1).frame0 sT
  replace hz := (hz.frame s1 (by simp)).frame sT (by simp)
  replace hrow := hrow.frame sT (by simp)
  have st := (sA.trans s1).trans sT
  have hzl : w.heap.size < w1.heap.size := Nat.lt_of_lt_of_le (by simp) s1.size
  generalize o2.set w1.heap.size 77 = o3 at hs hz hrow st hT
  clear htop sT s1 sA
  obtain ⟨ao, cap, hc, hle, hcap, hf, hset⟩ := hs.cut
  rw [List.length_append, List.length_singleton] at hc hle
  obtain ⟨hN, hS⟩ := hset fl.length (by simp)
  rw [List.take_left] at hN
  obtain ⟨n, hn⟩ : ∃ n, fl.length = n := ⟨_, rfl⟩
  obtain ⟨N, hNn⟩ : ∃ N, n + 1 = N := ⟨_, rfl⟩
  rw [hn] at hc hle hN hS
  rw [hNn] at hc hle
  have q1 : (N : Int) - 1 = n := by omega
  have q2 : (n : Int) ≤ cap := by omega
  replace hz := hz.frame hS (by simpa using hi.1.symm)
  have hT2 := hT.frame hS (by simpa using hi.1.symm)
  replace hrow := hrow.frame hS (by simpa using hj.1)
  obtain ⟨⟨t0, t1, t2, t3, t4, t5⟩, _⟩ := hT.facts6
  obtain ⟨W1, hW1⟩ : ∃ W1, w1.alloc (.cells #[.int .i64 k, .int .i64 a, .int .i64 c, .int .i64 x, .int .i64 y, .slice al l.length cl] 30) = W1 := ⟨_, rfl⟩
  rw [hW1] at hN hS hz hT2 hrow st
  have sd : Step [] (W1.setCell ⟨b, 0, none⟩ (.slice ao n cap)) o3 (W1.setCell ⟨b, 0, none⟩ (.slice ao n cap)).drew o3 := (Step.refl _ _ _).drew
  replace hN := hN.frame0 sd
  replace hz := hz.frame sd (by simp)
  replace hT2 := hT2.frame sd (by simp)
  replace hrow := hrow.frame sd (by simp)
  replace st := (st.nil.trans hS).trans sd.nil
  have HW := Lib.hid hW1
  clear hset hs hn hNn hT hS sd hW1
  go_wp2_with fail
  go_region
  rw [HW.out]
  generalize (W1.setCell ⟨b, 0, none⟩ (.slice ao n cap)).drew = W4 at hN hz hT2 hrow st ⊢
  obtain ⟨⟨u0, u1, u2, u3, u4, u5⟩, _⟩ := hT2.facts6
  obtain ⟨⟨z0, z1, z2, z3, z4, z5⟩, y0, y1, y2, y3, y4, y5⟩ := hz.facts6
  have hoz := hz.own
  clear t0 t1 t2 t3 t4 t5 hc hf HW hT2
  go_wp2_with fail
  obtain ⟨⟨r0, r1, r2, r3, r4, r5⟩, _⟩ := (hz.set6 k a c x y (.slice al l.length cl)).facts6
  have sE : Step [77] W4 o3 (Proofs.Ytegcpjheglcbcaa.set6 W4 w.heap.size k a c x y (.slice al l.length cl)) o3 := step_set6 (Step.refl _ _ _) (fun _ => by rw [hoz]; simp) k a c x y _
  have sF : Step [i] w o (Proofs.Ytegcpjheglcbcaa.set6 W4 w.heap.size k a c x y (.slice al l.length cl)) o3 := step_set6 st (fun h => absurd h (Nat.lt_irrefl _)) k a c x y _
  refine bodyPost_ret (v := .tuple #[.agg #[.int .i64 k, .int .i64 a, .int .i64 c, .int .i64 x, .int .i64 y, .slice al l.length cl], .int .i64 0]) (by simp [results, Try.results33, go_sem, r0, r1, r2, r3, r4, r5]) rfl ?_
  exact ⟨_, o3, rfl, hrow.frame sE (by simpa using hj.2.2), frame0_eq hN hi sE, sF⟩

theorem rindex_ok {w : World} {o : Owner} {i b : Nat} {fl : List (Fr × List Int × Nat)} (hs : RT w o i b fl) (outer : Int) :
    Calls Try.prog 34 #[.pointer (some ⟨b, 0, none⟩), .int .i64 outer] w fun e w' => ((idxOk (kfs (fl.map Prod.fst)) fl.length outer ∧ e = .returned (.tuple #[.int .i64 (xfs (fl.map Prod.fst) (fl.length - 1 - outer.toNat)), .int .i64 0])) ∨ (¬ idxOk (kfs (fl.map Prod.fst)) fl.length outer ∧ e = .returned (.tuple #[.int .i64 0, .int .i64 (-26)]))) ∧ w = w' := by
  have h0 := hs.1
  obtain ⟨ao, cap, g, hc, hg, h1, h2, hcell⟩ := hs.key
  have hk : ∀ x, x < fl.length → w.cell? ⟨g, x * 6, none⟩ = some (.int .i64 (kfs (fl.map Prod.fst) x)) := fun x hx => by
    have := hcell x hx 0 _ (by omega) rfl
    rw [Nat.add_zero] at this
    rw [this]
    simp [kfs, hx]
  have hx : ∀ x, x < fl.length → w.cell? ⟨g, x * 6 + 3, none⟩ = some (.int .i64 (xfs (fl.map Prod.fst) x)) := fun x hx => by
    rw [hcell x hx 3 _ (by omega) rfl]
    simp [xfs, hx]
  generalize kfs (fl.map Prod.fst) = kf at hk ⊢
  generalize xfs (fl.map Prod.fst) = xf at hx ⊢
  obtain ⟨n, hn⟩ : ∃ n, fl.length = n := ⟨_, rfl⟩
  rw [hn] at h0 hc hg h1 hk hx ⊢
  clear hs hcell hn
  by_cases hneg : outer < 0
  · have hno : ¬ idxOk kf n outer := fun h => by have := h.1; omega
    have HNO := Lib.hid hno
    clear hno
    go_enter Try.func34, Try.ntmps34
    go_wp2_with fail
    go_ret2
    exact ⟨.inr ⟨HNO.out, rfl⟩, rfl⟩
  · obtain ⟨u, rfl⟩ := Int.eq_ofNat_of_zero_le (show 0 ≤ outer by omega)
    by_cases hge : n ≤ u
    · have hgi : (n : Int) ≤ u := by omega
      have hno : ¬ idxOk kf n u := fun h => by have := h.2.1; omega
      have HNO := Lib.hid hno
      clear hno
      go_enter Try.func34, Try.ntmps34
      go_wp2_with fail
      go_ret2
      exact ⟨.inr ⟨HNO.out, rfl⟩, rfl⟩
    · obtain ⟨at_, hat⟩ : ∃ at_, n - 1 - u = at_ := ⟨_, rfl⟩
      obtain ⟨n1, hn1⟩ : ∃ n1, n - 1 = n1 := ⟨_, rfl⟩
      have q0 : (n : Int) - 1 = n1 := by omega
      have q1 : (n1 : Int) - u = at_ := by omega
      have hgi : ¬ (n : Int) ≤ u := by omega
      have hatn : at_ < n := by omega
      obtain rfl := hg (by omega)
      have HAT := Lib.hid hat
      rw [Int.toNat_natCast, hat]
      have hxa := hx at_ hatn
      have hati : (at_ : Int) < n := by omega
      have HU : Hid (n = at_ + 1 + u) := Lib.hid (by omega)
      clear hat hn1 hx
      go_enter Try.func34, Try.ntmps34
      go_wp2_with fail
      go_loopg [7] (n - at_) (fun gm a wr => ∃ m : Nat, gm = n - m ∧ at_ ≤ m ∧ m ≤ n ∧ a = .int .i64 m ∧ Hid (∀ q, at_ ≤ q → q < m → kf q = 3) ∧ w = wr)
      case atStart => exact ⟨at_, rfl, Nat.le_refl _, by omega, rfl, Lib.hid (fun q h1 h2 => by omega), rfl⟩
      case round =>
        obtain ⟨m, hgm, hm1, hm2, rfl, HK, rfl⟩ := hrel
        have HGM := Lib.hid hgm
        clear hgm
        by_cases hmn : m < n
        · have hmi : (m : Int) < n := by omega
          have hkm := hk m hmn
          obtain ⟨km, hkme⟩ : ∃ km, kf m = km := ⟨_, rfl⟩
          rw [hkme] at hkm
          have HKM := Lib.hid hkme
          clear hkme
          by_cases h3 : km = 3
          · have h3b : (km != 3) = false := by simpa using h3
            have H3 := Lib.hid h3
            clear h3 hk
            go_wp2_with fail
            go_roundg (n - (m + 1))
            case measure => rw [HGM.out]; omega
            case rel => exact ⟨m + 1, rfl, by omega, by omega, by go_num, Lib.hid (fun q h1 h2 => by
              rcases Nat.lt_or_ge q m with h | h
              · exact HK.out q h1 h
              · rw [show q = m by omega, HKM.out, H3.out]), rfl⟩
          · have h3b : (km != 3) = true := by simpa using h3
            have hno : ¬ idxOk kf n u := fun h => by
              have h4 := h.2.2 (n - 1 - m) (by have := HU.out; omega)
              rw [show n - 1 - (n - 1 - m) = m by omega, HKM.out] at h4
              exact h3 h4
            have HNO := Lib.hid hno
            clear hno h3 hk
            go_wp2_with fail
            go_ret2
            first | exact ⟨.inr ⟨HNO.out, rfl⟩, rfl⟩ | exact ⟨.inr ⟨rfl, HNO.out⟩, rfl⟩
        · have hmi : ¬ (m : Int) < n := by omega
          have hyes : idxOk kf n u := ⟨by omega, by have := HU.out; omega, fun j hj => HK.out _ (by have := HU.out; omega) (by omega)⟩
          have HY := Lib.hid hyes
          clear hyes hk
          go_wp2_with fail
          go_ret2
          exact ⟨.inl ⟨HY.out, rfl⟩, rfl⟩
end Go.Proofs.Ytegcpjheglcbcaa
