/- The document's frames: Catch, SetLocal. -/
import Derived.Test.YtegcpjheglcbcaaRfE
namespace Go.Proofs.Ytegcpjheglcbcaa
open Go Go.RowKit Go.Shelf
set_option linter.unusedSimpArgs false
set_option linter.unusedVariables false

set_option maxHeartbeats 4000000 in
theorem rcatch_ok {w : World} {o : Owner} {i b : Nat} {fl : List (Fr × List Int × Nat)} (hs : RT w o i b fl) (hi : i ≠ 77 ∧ i + 1 ≠ 77) (hio : ∀ p ∈ fl, p.2.2 ≠ i) :
    Calls Try.prog 38 #[.pointer (some ⟨b, 0, none⟩)] w fun e w' => (∃ (p : Nat) (h : p < fl.length), fl[p].1.k = 5 ∧ (∀ q (hq : q < fl.length), p < q → fl[q].1.k ≠ 5) ∧ ∃ o', e = .returned (.tuple #[fl[p].1.val, .bool true]) ∧ RT w' o' i b (fl.take p) ∧ Row w' o' fl[p].2.2 22 1 fl[p].1.lv fl[p].2.1.length (cellsOf fl[p].2.1) ∧ Step [i] w o w' o') ∨ ((∀ q (hq : q < fl.length), fl[q].1.k ≠ 5) ∧ ∃ o', e = .returned (.tuple #[Z6, .bool false]) ∧ Step [] w o w' o') := by
  have sA : Step [] w o (ZB w) (o.set w.heap.size 77) := ((Step.refl _ _ _).alloc _).give (Nat.le_refl _) _
  have hz := Blk.new w o 77 30 #[.int .i64 0, .int .i64 0, .int .i64 0, .int .i64 0, .int .i64 0, .slice none 0 0]
  replace hs := hs.frame0 sA
  generalize o.set w.heap.size 77 = o1 at sA hz hs
  obtain ⟨ao, cap, g, hc, hg, hle, hcap, hcell⟩ := hs.key
  have h0 := hs.1
  obtain ⟨n, hn⟩ : ∃ n, fl.length = n := ⟨_, rfl⟩
  rw [hn] at hc hg hle h0
  have HN := Lib.hid hn
  have HC := Lib.hid hcell
  have hn1 : (0 : Int) ≤ n := by omega
  clear hcell hn
  go_enter Try.func38, Try.ntmps38
  go_wp2_with fail
  have HZ : Hid (ZB w = w.alloc (.cells #[.int .i64 0, .int .i64 0, .int .i64 0, .int .i64 0, .int .i64 0, .slice none 0 0] 30)) := Lib.hid rfl
  rw [← HZ.out]
  go_loopg [4] n (fun gm a wr => ∃ m : Nat, gm = m ∧ m ≤ n ∧ a = .int .i64 ((m : Int) - 1) ∧ Hid (∀ q (hq : q < fl.length), m ≤ q → fl[q].1.k ≠ 5) ∧ wr = ZB w)
  case atStart => exact ⟨n, rfl, Nat.le_refl _, rfl, Lib.hid (fun q h1 h2 => by have := HN.out; omega), rfl⟩
  case round =>
    obtain ⟨m, hgm, hm, rfl, HK, rfl⟩ := hrel
    have HGM := Lib.hid hgm
    clear hgm
    cases m with
    | zero =>
      have e : (((0 : Nat) : Int) - 1) = -1 := rfl
      rw [e]
      obtain ⟨⟨z0, z1, z2, z3, z4, z5⟩, y0, y1, y2, y3, y4, y5⟩ := hz.facts6
      clear e
      go_wp2_with fail
      obtain ⟨⟨x0, x1, x2, x3, x4, x5⟩, _⟩ := (hz.set6 0 0 0 0 0 (.slice none 0 0)).facts6
      simp [bodyPost, results, Try.results38, go_sem, x0, x1, x2, x3, x4, x5]
      exact ⟨fun q hq => HK.out q hq (Nat.zero_le _), o1, sA⟩
    | succ m =>
      have e : (((m + 1 : Nat) : Int) - 1) = m := by omega
      rw [e]
      have hml : m < fl.length := by rw [HN.out]; omega
      have hmi : (m : Int) < n := by omega
      have hm0 : (0 : Int) ≤ m := by omega
      obtain rfl := hg (by omega)
      obtain ⟨F, hF⟩ : ∃ F, fl[m] = F := ⟨_, rfl⟩
      have hmem : F ∈ fl := by rw [← hF]; exact List.getElem_mem hml
      have q0 := HC.out m hml 0
      have q1 := HC.out m hml 1
      have q2 := HC.out m hml 2
      have q3 := HC.out m hml 3
      have q4 := HC.out m hml 4
      have q5 := HC.out m hml 5
      rw [hF] at q0 q1 q2 q3 q4 q5
      obtain ⟨-, -, -, hF77, hrow⟩ := hs.2.2 F hmem
      have hFi := hio F hmem
      have HF := Lib.hid hF
      obtain ⟨⟨k, a, c, x, y, lv⟩, l, t⟩ := F
      dsimp only at hrow hF77 hFi
      obtain ⟨al, cl, rfl, _, _⟩ := hrow.slice
      replace q0 := q0 _ (by omega) rfl
      replace q1 := q1 _ (by omega) rfl
      replace q2 := q2 _ (by omega) rfl
      replace q3 := q3 _ (by omega) rfl
      replace q4 := q4 _ (by omega) rfl
      replace q5 := q5 _ (by omega) rfl
      simp only [Nat.add_zero] at q0
      clear hF e
      by_cases h5 : k = 5
      · subst h5
        have sT : Step [] (ZB w) o1 ((ZB w).alloc (.cells #[.int .i64 5, .int .i64 a, .int .i64 c, .int .i64 x, .int .i64 y, .slice al l.length cl] 30)) (o1.set (ZB w).heap.size 77) := ((Step.refl _ _ _).alloc _).give (Nat.le_refl _) _
        have hT := Blk.new (ZB w) o1 77 30 #[.int .i64 5, .int .i64 a, .int .i64 c, .int .i64 x, .int .i64 y, .slice al l.length cl]
        have hs2 := hs.frame0 sT
        have hz2 := hz.frame sT (by simp)
        have hrow2 := hrow.frame sT (by simp)
        have st := sA.trans sT
        generalize o1.set (ZB w).heap.size 77 = o2 at hs2 hz2 hrow2 st hT
        rw [World.size_alloc] at hT
        obtain ⟨ao, cap', hc2, hle2, hcap2, hf2, hset⟩ := hs2.cut
        obtain ⟨hN, hS⟩ := hset m (by omega)
        rw [HN.out] at hc2 hle2
        have hcc := (hs.frame0 sT).key
        clear hcc
        have hcx := hc
        have hmc : (m : Int) ≤ cap' := by omega
        have hT2 := hT.frame hS (by simpa using hi.1.symm)
        replace hz2 := hz2.frame hS (by simpa using hi.1.symm)
        replace hrow2 := hrow2.frame hS (by simpa using hFi)
        replace st := st.nil.trans hS
        clear hset hcx sT
        have HW : Hid ((ZB w).alloc (.cells #[.int .i64 5, .int .i64 a, .int .i64 c, .int .i64 x, .int .i64 y, .slice al l.length cl] 30) = (ZB w).alloc (.cells #[.int .i64 5, .int .i64 a, .int .i64 c, .int .i64 x, .int .i64 y, .slice al l.length cl] 30)) := Lib.hid rfl
        obtain ⟨⟨u0, u1, u2, u3, u4, u5⟩, _⟩ := hT2.facts6
        obtain ⟨⟨z0, z1, z2, z3, z4, z5⟩, y0, y1, y2, y3, y4, y5⟩ := hz2.facts6
        have hoz := hz2.own
        go_wp2_with fail
        obtain ⟨⟨r0, r1, r2, r3, r4, r5⟩, _⟩ := (hz2.set6 5 a c x y (.slice al l.length cl)).facts6
        have sE : Step [77] ((((ZB w).alloc (.cells #[.int .i64 5, .int .i64 a, .int .i64 c, .int .i64 x, .int .i64 y, .slice al l.length cl] 30))).setCell ⟨b, 0, none⟩ (.slice ao m cap')) o2 (Proofs.Ytegcpjheglcbcaa.set6 ((((ZB w).alloc (.cells #[.int .i64 5, .int .i64 a, .int .i64 c, .int .i64 x, .int .i64 y, .slice al l.length cl] 30))).setCell ⟨b, 0, none⟩ (.slice ao m cap')) w.heap.size 5 a c x y (.slice al l.length cl)) o2 := step_set6 (Step.refl _ _ _) (fun _ => by rw [hoz]; simp) 5 a c x y _
        have sF : Step [i] w o (Proofs.Ytegcpjheglcbcaa.set6 ((((ZB w).alloc (.cells #[.int .i64 5, .int .i64 a, .int .i64 c, .int .i64 x, .int .i64 y, .slice al l.length cl] 30))).setCell ⟨b, 0, none⟩ (.slice ao m cap')) w.heap.size 5 a c x y (.slice al l.length cl)) o2 := step_set6 st (fun h => absurd h (Nat.lt_irrefl _)) 5 a c x y _
        refine bodyPost_ret (v := .tuple #[.agg #[.int .i64 5, .int .i64 a, .int .i64 c, .int .i64 x, .int .i64 y, .slice al l.length cl], .bool true]) (by simp [results, Try.results38, go_sem, r0, r1, r2, r3, r4, r5]) rfl ?_
        refine .inl ⟨m, hml, by rw [HF.out], fun q hq h => HK.out q hq h, by rw [HF.out]; rfl, o2, frame0_eq hN hi sE, ?_, sF⟩
        rw [HF.out]
        exact hrow2.frame sE (by simpa using hF77)
      · have h5b : (k == 5) = false := by simpa using h5
        have H5 := Lib.hid h5
        clear h5 hrow hmem
        go_wp2_with fail
        go_roundg m
        case measure => rw [HGM.out]; omega
        case rel => exact ⟨m, rfl, by omega, by go_num, Lib.hid (fun q hq h => by
          rcases Nat.lt_or_ge m q with h1 | h1
          · exact HK.out q hq h1
          · obtain rfl : q = m := by omega
            rw [HF.out]; exact H5.out), rfl⟩
theorem frs_sets (xs hi : List Fr) (t t' : Fr) (A : Nat) (hA : xs.length = A) :
    (((((((frs (xs ++ t :: hi)).set (A * 6) (.int .i64 t'.k)).set (A * 6 + 1) (.int .i64 t'.a)).set (A * 6 + 2) (.int .i64 t'.b)).set (A * 6 + 3) (.int .i64 t'.x)).set (A * 6 + 4) (.int .i64 t'.y)).set (A * 6 + 5) t'.lv) = frs (xs ++ t' :: hi) := by
  have hl : (frs xs).length = A * 6 := by rw [frs_len, hA]
  have e : ∀ u : Fr, frs (xs ++ u :: hi) = frs xs ++ (u.cells ++ frs hi) := fun u => by simp [frs]
  rw [e, e]
  rw [← hl]
  simp [List.set_append, Fr.cells]

theorem rsetlocal_miss {w : World} {b : Nat} {n : Int} (h : Calls Try.prog 36 #[.pointer (some ⟨b, 0, none⟩), .int .i64 n] w fun e w' => e = .returned (.tuple #[.int .i64 0, .int .i64 (-6)]) ∧ w = w') (x : Int) :
    Calls Try.prog 37 #[.pointer (some ⟨b, 0, none⟩), .int .i64 n, .int .i64 x] w fun e w' => e = .returned (.int .i64 (-6)) ∧ w = w' := by
  go_enter Try.func37, Try.ntmps37
  go_wp2_with (go_at_call 36; refine h.mono ?_; rintro e w' ⟨rfl, rfl⟩)
  go_ret
  exact ⟨rfl, rfl⟩

set_option maxHeartbeats 8000000 in
theorem rsetlocal_hit {w : World} {o : Owner} {i b : Nat} {fl lo hi : List (Fr × List Int × Nat)} {a c x y : Int} {lv : Value} {l : List Int} {t : Nat} (hs : RT w o i b fl) (hfl : fl = lo ++ (⟨4, a, c, x, y, lv⟩, l, t) :: hi) (hh : ∀ p ∈ hi, ¬ isL p.1.k) (hi77 : i ≠ 77 ∧ i + 1 ≠ 77) (j : Nat) (hj : j ≠ i ∧ j ≠ i + 1 ∧ j ≠ 77) (hjf : ∀ p ∈ fl, p.2.2 ≠ j) (n : Nat) (hn : n < l.length) (u : Int) :
    Calls Try.prog 37 #[.pointer (some ⟨b, 0, none⟩), .int .i64 n, .int .i64 u] w fun e w' => ∃ lv' o', e = .returned (.int .i64 0) ∧ RT w' o' i b (lo ++ (⟨4, a, c, x, y, lv'⟩, l.set n u, j) :: hi) ∧ Step [i, i + 1, j] w o w' o' := by
  have hloc := rlocal_t hs hfl rfl hh n
  have hlcs := rlocals_ok hs
  rw [rloc_some hfl (.inl rfl) hh, if_pos rfl] at hlcs
  have hlen := hs.1
  have hA : lo.length < fl.length := by rw [hfl]; simp
  have hget : fl[lo.length] = (⟨4, a, c, x, y, lv⟩, l, t) := by simp [hfl]
  obtain ⟨ao, cap, g, hc, hg, hle, hcap, hcell⟩ := hs.key
  obtain rfl := hg (by omega)
  have qr := hcell lo.length hA
  rw [hget] at qr
  obtain ⟨hlen2, ⟨v, hb, hr⟩, hL⟩ := id hs
  have hv := hb.cell0
  rw [hc] at hv
  obtain rfl := Option.some.inj hv
  obtain ⟨hll, -, -, ht77, hrow⟩ := hL (⟨4, a, c, x, y, lv⟩, l, t) (by rw [hfl]; simp)
  dsimp only at hll hrow
  obtain ⟨al, cl, rfl, _, _⟩ := hrow.slice
  have q0 : w.cell? ⟨g, lo.length * 6, none⟩ = some (.int .i64 4) := qr 0 _ (by omega) rfl
  have q1 : w.cell? ⟨g, lo.length * 6 + 1, none⟩ = some (.int .i64 a) := qr 1 _ (by omega) rfl
  have q2 : w.cell? ⟨g, lo.length * 6 + 2, none⟩ = some (.int .i64 c) := qr 2 _ (by omega) rfl
  have q3 : w.cell? ⟨g, lo.length * 6 + 3, none⟩ = some (.int .i64 x) := qr 3 _ (by omega) rfl
  have q4 : w.cell? ⟨g, lo.length * 6 + 4, none⟩ = some (.int .i64 y) := qr 4 _ (by omega) rfl
  have q5 : w.cell? ⟨g, lo.length * 6 + 5, none⟩ = some (.slice al l.length cl) := qr 5 _ (by omega) rfl
  obtain ⟨A, hAe⟩ : ∃ A, lo.length = A := ⟨_, rfl⟩
  obtain ⟨N, hN⟩ : ∃ N, fl.length = N := ⟨_, rfl⟩
  rw [hAe] at hlcs q0 q1 q2 q3 q4 q5 hA
  rw [hN] at hc hle hA hlen hb hr
  have hAi : (A : Int) < N := by omega
  have hA0 : (0 : Int) ≤ A := by omega
  have hcopy := copied_ok hrow.rd hll j hj.2.2 4 a c x y
  have HAE := Lib.hid hAe
  have HN := Lib.hid hN
  have HFL := Lib.hid hfl
  have HL := Lib.hid hL
  have HJF := Lib.hid hjf
  have HN2 := Lib.hid hn
  have hni : (n : Int) < l.length := by omega
  have hn0 : (0 : Int) ≤ n := by omega
  clear qr hcell hget hs hg hAe hN hfl hL hjf hrow hn
  go_enter Try.func37, Try.ntmps37
  go_wp2_with fail
  refine hloc.mono ?_
  rintro e w' ⟨rfl, ⟨⟨_, _⟩, rfl⟩ | ⟨hno, _⟩⟩
  rotate_left
  · exact absurd ⟨hn0, hni⟩ hno
  go_wp2_with fail
  refine hlcs.mono ?_
  rintro e w' ⟨rfl, rfl⟩
  go_wp2_with fail
  refine hcopy.mono ?_
  rintro e w1 ⟨lv1, o1, rfl, hrow, s1⟩
  obtain ⟨g2, cap2, rfl, cN, fN, og2, hset⟩ := Row.elem' (p := n) hrow HN2.out
  have sT : Step [] w1 o1 (w1.alloc (.cells #[.int .i64 4, .int .i64 a, .int .i64 c, .int .i64 x, .int .i64 y, .slice (some ⟨g2, 0, none⟩) l.length cap2] 30)) (o1.set w1.heap.size 77) := ((Step.refl _ _ _).alloc _).give (Nat.le_refl _) _
  have hT := Blk.new w1 o1 77 30 #[.int .i64 4, .int .i64 a, .int .i64 c, .int .i64 x, .int .i64 y, .slice (some ⟨g2, 0, none⟩) l.length cap2]
  replace hrow := hrow.frame sT (by simp)
  replace hb := (hb.frame s1 (by simp)).frame sT (by simp)
  replace hr := (hr.frame s1 (by simp)).frame sT (by simp)
  have st := s1.trans sT
  generalize o1.set w1.heap.size 77 = o2 at hT hrow hb hr st
  obtain ⟨g2', cap2', hv2, cN2, fN2, og2', hset2⟩ := Row.elem' (p := n) hrow HN2.out
  simp only [Value.slice.injEq, true_and, Option.some.injEq, Addr.mk.injEq, and_true] at hv2
  obtain ⟨rfl, rfl⟩ := hv2
  replace hset2 := hset2 u
  obtain ⟨W2, hW2⟩ : ∃ W2, w1.alloc (.cells #[.int .i64 4, .int .i64 a, .int .i64 c, .int .i64 x, .int .i64 y, .slice (some ⟨g2, 0, none⟩) l.length cap2] 30) = W2 := ⟨_, rfl⟩
  obtain ⟨zb, hzb⟩ : ∃ zb, w1.heap.size = zb := ⟨_, rfl⟩
  rw [hzb] at hT
  obtain ⟨⟨t0, t1, t2, t3, t4, t5⟩, _⟩ := hT.facts6
  rw [hW2] at hb hr hT hrow st hset2
  have sS : Step [j] W2 o2 (W2.setCell ⟨g2, n, none⟩ (.int .i64 u)) o2 := (Step.refl _ _ _).setCell (fun _ => by simp [og2']) _
  replace hb := hb.frame sS (by simpa using hj.1.symm)
  replace hr := hr.frame sS (by simpa using hj.2.1.symm)
  replace hT := hT.frame sS (by simpa using hj.2.2.symm)
  have stJ := st.nil.trans sS
  have HW2 := Lib.hid hW2
  clear hset sT s1 cN fN og2 q0 q1 q2 q3 q4 q5 hc hcopy hlcs hloc hW2 sS hrow
  go_upto_region 7 with fail
  rw [HW2.out]
  clear t0 t1 t2 t3 t4 t5 hzb cN2 fN2
  generalize W2.setCell ⟨g2, n, none⟩ (.int .i64 u) = W3 at hb hr hT hset2 stJ ⊢
  have sE : Step [] W3 o2 (W3.alloc (.cells #[] 30)) o2 := (Step.refl _ _ _).alloc _
  replace hb := hb.frame sE (by simp)
  replace hr := hr.frame sE (by simp)
  replace hT := hT.frame sE (by simp)
  replace hset2 := hset2.frame sE (by simp)
  replace stJ := stJ.trans sE.nil
  clear sE
  have hc := hb.cell0
  go_wp2_with (at_builtin; refine wpList_app0 rfl (.tmp 36) (.tmp 40) 38 rfl o2 (i + 1) Try.underlying38 info30 rfl rfl rfl hr.rd (by omega) (by omega) ?_)
  intro v3 w3 o3 hrow3 s3
  obtain ⟨g3, cap3, rfl, hx⟩ := hrow3.rowx (by omega)
  replace hb := hb.frame s3 (by simp)
  replace hT := hT.frame s3 (by simp)
  replace hset2 := hset2.frame s3 (by simp)
  replace stJ := stJ.trans s3.nil
  have hxs := hx.len
  have hle3 := hx.le
  have hne : g3 ≠ b := (hx.ne hb (by decide)).symm
  have hin : ∀ r, r < 6 → (w3.cell? ⟨g3, A * 6 + r, none⟩).isSome = true ∧ w3.frozen? ⟨g3, A * 6 + r, none⟩ = false := fun r hr => hx.spare (by omega)
  obtain ⟨i0, f0⟩ := hin 0 (by omega)
  obtain ⟨i1, f1⟩ := hin 1 (by omega)
  obtain ⟨i2, f2⟩ := hin 2 (by omega)
  obtain ⟨i3, f3⟩ := hin 3 (by omega)
  obtain ⟨i4, f4⟩ := hin 4 (by omega)
  obtain ⟨i5, f5⟩ := hin 5 (by omega)
  simp only [Nat.add_zero] at i0 f0
  obtain ⟨e0, i0⟩ := Option.isSome_iff_exists.1 i0
  obtain ⟨e1, i1⟩ := Option.isSome_iff_exists.1 i1
  obtain ⟨e2, i2⟩ := Option.isSome_iff_exists.1 i2
  obtain ⟨e3, i3⟩ := Option.isSome_iff_exists.1 i3
  obtain ⟨e4, i4⟩ := Option.isSome_iff_exists.1 i4
  obtain ⟨e5, i5⟩ := Option.isSome_iff_exists.1 i5
  obtain ⟨⟨t0, t1, t2, t3, t4, t5⟩, _⟩ := hT.facts6
  have hx6 := (((((hx.setElem (A * 6) (.int .i64 4)).setElem (A * 6 + 1) (.int .i64 a)).setElem (A * 6 + 2) (.int .i64 c)).setElem (A * 6 + 3) (.int .i64 x)).setElem (A * 6 + 4) (.int .i64 y)).setElem (A * 6 + 5) (.slice (some ⟨g2, 0, none⟩) l.length cap2)
  have hfs := frs_sets (lo.map Prod.fst) (hi.map Prod.fst) ⟨4, a, c, x, y, .slice al l.length cl⟩ ⟨4, a, c, x, y, .slice (some ⟨g2, 0, none⟩) l.length cap2⟩ A (by rw [List.length_map]; exact HAE.out)
  have hmap : fl.map Prod.fst = lo.map Prod.fst ++ (⟨4, a, c, x, y, .slice al l.length cl⟩ : Fr) :: hi.map Prod.fst := by rw [HFL.out]; simp
  rw [hmap, hfs] at hx6
  have hb6 := (((((hb.setOther hne.symm (A * 6) (.int .i64 4)).setOther hne.symm (A * 6 + 1) (.int .i64 a)).setOther hne.symm (A * 6 + 2) (.int .i64 c)).setOther hne.symm (A * 6 + 3) (.int .i64 x)).setOther hne.symm (A * 6 + 4) (.int .i64 y)).setOther hne.symm (A * 6 + 5) (.slice (some ⟨g2, 0, none⟩) l.length cap2)
  have s6 : Step [i + 1] w3 o3 ((((((w3.setCell ⟨g3, A * 6, none⟩ (.int .i64 4)).setCell ⟨g3, A * 6 + 1, none⟩ (.int .i64 a)).setCell ⟨g3, A * 6 + 2, none⟩ (.int .i64 c)).setCell ⟨g3, A * 6 + 3, none⟩ (.int .i64 x)).setCell ⟨g3, A * 6 + 4, none⟩ (.int .i64 y)).setCell ⟨g3, A * 6 + 5, none⟩ (.slice (some ⟨g2, 0, none⟩) l.length cap2)) o3 :=
    ((((((Step.refl _ _ _).setCell (fun _ => by simp [hx.own]) _).setCell (fun _ => by simp [hx.own]) _).setCell (fun _ => by simp [hx.own]) _).setCell (fun _ => by simp [hx.own]) _).setCell (fun _ => by simp [hx.own]) _).setCell (fun _ => by simp [hx.own]) _
  have hc6 := hb6.cell0
  have hf6 := hb6.frozen 0
  clear hc hin hxs hb hx hr
  go_wp2_with fail
  go_ret
  replace hset2 := hset2.frame s6 (by simpa using hj.2.1)
  have hlen6 : (lo ++ ((⟨4, a, c, x, y, .slice (some ⟨g2, 0, none⟩) l.length cap2⟩ : Fr), l.set n u, j) :: hi).length = N := by
    rw [← HN.out, HFL.out]; simp
  have hrN : Row ((((((w3.setCell ⟨g3, A * 6, none⟩ (.int .i64 4)).setCell ⟨g3, A * 6 + 1, none⟩ (.int .i64 a)).setCell ⟨g3, A * 6 + 2, none⟩ (.int .i64 c)).setCell ⟨g3, A * 6 + 3, none⟩ (.int .i64 x)).setCell ⟨g3, A * 6 + 4, none⟩ (.int .i64 y)).setCell ⟨g3, A * 6 + 5, none⟩ (.slice (some ⟨g2, 0, none⟩) l.length cap2)) o3 (i + 1) 30 6 (.slice (some ⟨g3, 0, none⟩) N cap3) (lo ++ ((⟨4, a, c, x, y, .slice (some ⟨g2, 0, none⟩) l.length cap2⟩ : Fr), l.set n u, j) :: hi).length (frs ((lo ++ ((⟨4, a, c, x, y, .slice (some ⟨g2, 0, none⟩) l.length cap2⟩ : Fr), l.set n u, j) :: hi).map Prod.fst)) := by
    rw [hlen6, List.map_append, List.map_cons]
    exact hx6.row
  have hSJ := stJ.weaken (S' := [i + 1, j]) (by simp)
  have hSA := hSJ.trans (s6.weaken (S' := [i + 1, j]) (by simp))
  obtain ⟨g1, g2'⟩ := RT.put hb6 hrN (by rw [hlen6]; exact hlen) (fun p hp => by
    have hcase : p = ((⟨4, a, c, x, y, .slice (some ⟨g2, 0, none⟩) l.length cap2⟩ : Fr), l.set n u, j) ∨ p ∈ fl := by
      rw [HFL.out]
      simp only [List.mem_append, List.mem_cons] at hp ⊢
      rcases hp with h | h | h
      · exact .inr (.inl h)
      · exact .inl h
      · exact .inr (.inr (.inr h))
    rcases hcase with rfl | hp
    · exact ⟨by simpa using hll, hj.1, hj.2.1, hj.2.2, by simpa using hset2⟩
    · obtain ⟨p1, p2, p3, p4, p5⟩ := HL.out p hp
      exact ⟨p1, p2, p3, p4, p5.frame hSA (by simp only [List.mem_cons, List.not_mem_nil, or_false, not_or]; exact ⟨p3, HJF.out p hp⟩)⟩)
  have sF := (hSA.weaken (S' := [i, i + 1, j]) (by simp)).trans (g2'.weaken (by simp))
  first | exact ⟨_, o3, rfl, g1, sF⟩ | exact ⟨rfl, _, o3, g1, sF⟩ | exact ⟨rfl, ⟨_, o3, g1, sF⟩⟩ | exact ⟨_, rfl, o3, g1, sF⟩

end Go.Proofs.Ytegcpjheglcbcaa
