/- InsMoves: the walk. -/
import Derived.Test.YtglchagfclafgaaDoorMovesL
import Derived.Test.YtglchagfclafgaaDoorCalmA
namespace Go.Proofs.YtglchagfclafgaaDoor
open Go Go.RowKit
set_option linter.unusedSimpArgs false
set_option linter.unusedVariables false

theorem infoIns : (Tryd.prog.info? 36).map (fun i => (i.zero, i.size, i.bytes)) = some (some (.agg #[.int .u8 0, .int .i64 0, .int .i64 0]), 3, 24) := by kernel_rfl
theorem icells_one (l : List In) : ∀ u ∈ icells l, u.oneCell' = true := by
  intro u hu
  obtain ⟨p, _, hp⟩ := List.mem_flatMap.1 hu
  simp [In.cells] at hp
  rcases hp with rfl | rfl | rfl <;> rfl
theorem Rd.ofZ {w : World} {o : Owner} {i size : Nat} {v : Value} {n : Nat} {xs : List Value} (h : Rd w Z0 0 size v n xs) (ho : ∀ b, b < w.heap.size → o b = i) : Rd w o i size v n xs := by
  obtain ⟨ao, cap, hv, h1, h2, h3, h4⟩ := h
  refine ⟨ao, cap, hv, h1, h2, h3, fun hn => ?_⟩
  obtain ⟨b, off, ha, hb, _, hc⟩ := h4 hn
  exact ⟨b, off, ha, hb, ho b hb, hc⟩

set_option maxRecDepth 100000 in
set_option maxHeartbeats 16000000 in
theorem moves_walk {w : World} {v : Value} {l : List In} (hl : Rd w Z0 0 3 v l.length (icells l)) (hok : ∀ x ∈ l, x.ok) (hwl : WL w Z0) {y : Int} (hy : 0 ≤ y ∧ y ≤ 255) :
    Calls Tryd.prog 5 #[.agg #[v], .int .u8 y] w fun e w' => e = .returned (.bool true) ∧ Below w.heap.size w w' := by
  have s1 : Calm w (w.alloc (.cells #[v] 24)) := (Calm.refl w).alloc _
  have hb := Blk.new w Z0 0 24 #[v]
  have hl1 := hl.calm s1
  have hwl1 := hwl.calm s1
  have hsh := shown_calm hwl1
  obtain ⟨ao, cap, rfl, g1, g2⟩ := hl.form
  obtain ⟨n, hn⟩ : ∃ n, l.length = n := ⟨_, rfl⟩
  obtain ⟨m, hm⟩ : ∃ m, min n 30 = m := ⟨_, rfl⟩
  have hmi : min (n : Int) 30 = (m : Int) := by omega
  have hmn : m ≤ n := by omega
  have hm30 : m ≤ 30 := by omega
  obtain ⟨z, hz⟩ : ∃ z, l.take m = z := ⟨_, rfl⟩
  have hzl : z.length = m := by rw [← hz, List.length_take]; omega
  have hzok : ∀ x ∈ z, x.ok := by rw [← hz]; exact ok_take hok m
  rw [hn] at hl1 g1 hb s1 hsh
  have hz1 := hl1.take m hmn
  rw [hz] at hz1
  obtain ⟨nn, hnn⟩ : ∃ nn : Nat, y % 9 = nn := ⟨(y % 9).toNat, by omega⟩
  have e9 : y.tmod 9 = (nn : Int) := by rw [Int.tmod_eq_emod_of_nonneg hy.1]; exact hnn
  have n8 : nn ≤ 8 := by omega
  have w9 : IntKind.i64.wrap (nn : Int) = nn := by simp [IntKind.wrap, IntKind.signed, IntKind.bits]; omega
  have hcap : (m : Int) ≤ cap := by omega
  have HZOK := Lib.hid hzok
  have HZL := Lib.hid hzl
  have hlz : (z.take z.length) = z := List.take_length
  rw [hn]
  clear hl hwl hok hn hm hz hzl hzok hnn hl1 hlz
  go_enter Tryd.func5, Tryd.ntmps5
  go_wp2_with fail
  refine hsh.mono ?_
  rintro e w2 ⟨rfl, s2⟩
  replace hb := hb.frame (s2 _) (by simp)
  have cb := hb.cell0
  have hz2 := hz1.calm s2
  have st := s1.trans s2
  clear hsh hz1 hwl1 hb s1 s2
  go_wp2_with fail
  have s3 : Calm w2 (w2.alloc (.cells #[.slice ao m cap] 24)) := (Calm.refl _).alloc _
  have hb3 := Blk.new w2 Z0 0 24 #[.slice ao m cap]
  have hb3 : Blk (w2.alloc (.cells #[.slice ao m cap] 24)) Z0 0 w2.heap.size 24 #[.slice ao m cap] := ⟨hb3.heap, rfl⟩
  have hz3 := hz2.calm s3
  have st3 : Step [50] w Z0 (w2.alloc (.cells #[.slice ao m cap] 24)) Z0 := ((st.trans s3) Z0).nil
  generalize w2.alloc (.cells #[.slice ao m cap] 24) = W3 at *
  generalize w2.heap.size = zx at *
  clear cb hz2 st s3
  go_loopg [8, 27] (nn + 1) (fun gm a8 a27 wr => ∃ (q : Nat) (O : Owner), Hid (gm = nn + 1 - q) ∧ q ≤ nn ∧ a27 = .int .i64 (q : Int) ∧ Row wr O 50 36 3 a8 q (icells (jumps q)) ∧ Rd wr O 0 3 (.slice ao m cap) m (icells z) ∧ Blk wr O 0 zx 24 #[.slice ao m cap] ∧ Step [50] w Z0 wr O)
  case atStart => exact ⟨0, Z0, Lib.hid (by omega), by omega, rfl, Row.nil _ _ _ _ _ _, hz3, hb3, st3⟩
  case round =>
    clear hz3 hb3 st3
    obtain ⟨q, O, HGM, hq, rfl, hT, hz, hb, st⟩ := hrel
    obtain ⟨aT, cT, rfl, -, -⟩ := hT.slice
    rcases Nat.lt_or_ge q nn with hqn | hqn
    · have hqi : (q : Int) < nn := by omega
      have hn1 := fun (cs : Array Value) (hc : cs.size = 1 * 3) => Rd.fresh wr O 3 36 cs 1 (by decide) hc
      have hT1 := fun (cs : Array Value) => hT.frame ((Step.refl [] wr O).alloc (.cells cs 36)) (by simp)
      have h63 : q + 1 ≤ 9223372036854775807 := by omega
      have hby : (q + 1) * 24 ≤ 140737488355328 := by omega
      go_wp2_with (at_builtin; refine wpList_app rfl (.tmp 30) (.tmp 34) 22 rfl Tryd.underlying22 infoIns rfl rfl (hT1 _) rfl (hn1 _ rfl) (by simp [Value.oneCell']) h63 hby ?_)
      intro vx w6 o6 hx6 s6
      have s56 : Step [50] wr O w6 o6 := ((Step.refl [50] wr O).alloc _).trans s6
      have hx7 : Row w6 o6 50 36 3 vx (q + 1) (icells (jumps (q + 1))) := by
        rw [jumps_succ, icells_app]
        exact hx6
      replace hz := hz.frame s56 (by simp)
      replace hb := hb.frame s56 (by simp)
      replace st := st.trans s56
      clear hT hT1 hn1 hx6 s6 s56
      go_wp2_with fail
      go_roundg (nn + 1 - (q + 1))
      case measure => rw [HGM.out]; omega
      case rel => exact ⟨q + 1, o6, Lib.hid rfl, hqn, by go_num, hx7, hz, hb, st⟩
    obtain rfl : q = nn := by omega
    have cb := hb.cell0
    go_wp2_with fail
    clear HGM hq hqn hb3
    go_loopg [8, 40] (m + 1) (fun gm a8 a40 wr => ∃ (j : Nat) (O : Owner), Hid (gm = m + 1 - j) ∧ j ≤ m ∧ a40 = .int .i64 (j : Int) ∧ Row wr O 50 36 3 a8 (q + j) (icells (moved q (z.take j))) ∧ Rd wr O 0 3 (.slice ao m cap) m (icells z) ∧ Blk wr O 0 zx 24 #[.slice ao m cap] ∧ Hid (∀ x ∈ z.take j, x.op ≠ 12) ∧ Step [50] w Z0 wr O)
    case atStart => exact ⟨0, O, Lib.hid (by omega), by omega, rfl, by simpa [moved] using hT, hz, hb, Lib.hid (by simp), st⟩
    case round =>
      clear hT hz hb st cb
      obtain ⟨j, O, HGM2, hj, rfl, hT, hz, hb, H12, st⟩ := hrel
      obtain ⟨aT2, cT2, rfl, -, -⟩ := hT.slice
      have cb := hb.cell0
      rcases Nat.lt_or_ge j m with hjm | hjm
      rotate_left
      · obtain rfl : j = m := by omega
        have ez : z.take j = z := by rw [← HZL.out, List.take_length]
        rw [ez] at hT H12
        have hTl : (moved q z).length = q + j := by rw [moved_len, HZL.out]
        have hTz : Rd wr Z0 0 3 (.slice aT2 (q + j) cT2) (moved q z).length (icells (moved q z)) := by rw [hTl]; exact hT.rd.zero
        have hmok : ∀ x ∈ moved q z, x.ok := fun x hx => by
          rcases List.mem_append.1 hx with hx | hx
          · obtain ⟨i, hi, rfl⟩ := List.mem_map.1 hx
            have := List.mem_range.1 hi
            exact ⟨⟨by show (0 : Int) ≤ 3; decide, by show (3 : Int) ≤ 255; decide⟩, ⟨by dsimp only; omega, by dsimp only; omega⟩, ⟨by show (_ : Int) ≤ 0; decide, by show (0 : Int) ≤ _; decide⟩⟩
          · obtain ⟨x', hx', rfl⟩ := List.mem_map.1 hx
            exact shI_ok (HZOK.out x' hx')
        have HMOK := Lib.hid hmok
        have HTL := Lib.hid hTl
        clear ez hTl hmok hj hjm HGM2
        by_cases hq0 : 0 < q ∧ j = 0
        · obtain ⟨hq1, hj0⟩ := hq0
          have hq2 : 0 < (q : Int) := by omega
          have hz0 : z = [] := List.eq_nil_of_length_eq_zero (by rw [HZL.out]; exact hj0)
          have hno : mayB (moved q z) 5 = false := by
            rw [hz0]
            have e : moved q [] = jumps q := by simp [moved]
            rw [e]
            exact mayB_false.2 (jumps_not hq1)
          have hj1 : (j : Int) = 0 := by omega
          have hmc := may_calm (words := 5) hTz HMOK.out (by rw [HTL.out]; omega) ⟨by decide, by decide⟩
          rw [hno] at hmc
          have je : ((j : Int) == 0) = true := by rw [hj1]; rfl
          clear hno hz0 hj0 hj1
          go_wp2_with fail
          refine hmc.mono ?_
          rintro e w7 ⟨rfl, s7⟩
          go_wp2_with fail
          go_ret
          exact ⟨by simp, ((Base.start w).step (st.trans (s7 O).nil) (by decide)).below⟩
        go_upto_region 26 with (fail)
        go_cut [74] from 67 to 74 (fun c wx => c = .bool false ∧ wx = wr)
        case first =>
          by_cases hq1 : 0 < q
          · have hq2 : 0 < (q : Int) := by omega
            have hj0 : ((j : Int) == 0) = false := by
              rw [beq_eq_false_iff_ne]
              intro h
              exact hq0 ⟨hq1, by omega⟩
            clear hq0
            go_wp2_with fail
            go_meet
            case rel => exact ⟨rfl, rfl⟩
          · have hq2 : ¬ 0 < (q : Int) := by omega
            clear hq0
            go_wp2_with fail
            go_meet
            case rel => exact ⟨rfl, rfl⟩
        case rest =>
          obtain ⟨rfl, rfl⟩ := hcut
          have HQ0 := Lib.hid hq0
          clear hq0
          go_wp2_with fail
          go_loopg [85] (j + 1) (fun gm a85 wr => ∃ (i : Nat), Hid (gm = j + 1 - i) ∧ i ≤ j ∧ a85 = .int .i64 (i : Int) ∧ Hid (∀ x ∈ z.take i, 0 ≤ x.a ∧ x.a ≤ 1000) ∧ Calm wc wr)
          case atStart => exact ⟨0, Lib.hid (by omega), by omega, rfl, Lib.hid (by simp), Calm.refl _⟩
          case round =>
            obtain ⟨i, HGM3, hi, rfl, HA, sr⟩ := hrel
            have hz2 := hz.frame (sr O) (by simp)
            rcases Nat.lt_or_ge i j with hij | hij
            · obtain ⟨x, hx⟩ : ∃ x, z[i]? = some x := ⟨_, List.getElem?_eq_getElem (by have := HZL.out; omega)⟩
              obtain ⟨b, off, rfl, hbl, hbo, hcell⟩ := hz2.ins (by omega)
              obtain ⟨k0, k1, k2⟩ := hcell i x hx
              have hiji : (i : Int) < j := by omega
              have etk : z.take (i + 1) = z.take i ++ [x] := by rw [List.take_add_one, hx]; rfl
              have ETK := Lib.hid etk
              have hxa : (0 ≤ x.a ∧ x.a ≤ 1000) → ∀ y ∈ z.take (i + 1), 0 ≤ y.a ∧ y.a ≤ 1000 := fun hx y hy => by
                rw [ETK.out] at hy
                rcases List.mem_append.1 hy with hy | hy
                · exact HA.out y hy
                · rw [List.mem_singleton] at hy; subst hy; exact hx
              have HXA := Lib.hid hxa
              have s8 : Calm wc (wr.alloc (.cells #[.int .u8 x.op, .int .i64 x.a, .int .i64 x.w] 36)) := sr.alloc _
              clear hcell hx etk hxa HA
              by_cases h1 : 1000 < x.a
              · go_wp2_with fail
                go_ret
                exact ⟨by simp, ((Base.start w).step (st.trans (s8 O).nil) (by decide)).below⟩
              by_cases h2 : x.a < 0
              · go_wp2_with fail
                go_ret
                exact ⟨by simp, ((Base.start w).step (st.trans (s8 O).nil) (by decide)).below⟩
              have hn := HXA.out ⟨by omega, by omega⟩
              have HN := Lib.hid hn
              clear hn HXA
              go_wp2_with fail
              go_roundg (j + 1 - (i + 1))
              case measure => rw [HGM3.out]; omega
              case rel => exact ⟨i + 1, Lib.hid rfl, hij, by go_num, HN, s8⟩
            obtain rfl : i = j := by omega
            have ez : z.take i = z := by rw [← HZL.out, List.take_length]
            have hAz : ∀ x ∈ z, 0 ≤ x.a ∧ x.a ≤ 1000 := by have := HA.out; rwa [ez] at this
            have hsame : mayB (moved q z) 5 = mayB z 5 := by
              rcases Nat.eq_zero_or_pos q with h0 | h0
              · subst h0
                rw [moved_zero HZOK.out]
              · have hne : z ≠ [] := by
                  intro h
                  have h1 := HZL.out
                  rw [h] at h1
                  exact HQ0.out ⟨h0, h1.symm⟩
                have h2 := moved_may (n := q) (l := z) (by omega) hAz (words := 5) H12.out (by rw [HZL.out]; omega) hne
                rcases hb1 : mayB z 5 with _ | _
                · exact mayB_false.2 (fun h => mayB_false.1 hb1 (h2.1 h))
                · exact mayB_true.2 (h2.2 (mayB_true.1 hb1))
            have hzz : Rd wr Z0 0 3 (.slice ao i cap) z.length (icells z) := by rw [HZL.out]; exact hz2.zero
            have hTT := hTz.calm sr
            have hM1 := fun W (h : Calm wr W) => may_calm (words := 5) (hTT.calm h) HMOK.out (by rw [HTL.out]; omega) ⟨by decide, by decide⟩
            have hM2 := fun W (h : Calm wr W) => may_calm (words := 5) (hzz.calm h) HZOK.out (by rw [HZL.out]; omega) ⟨by decide, by decide⟩
            rw [hsame] at hM1
            generalize mayB z 5 = B at hM1 hM2
            have hbx := hb.frame (sr O) (by simp)
            have hC := fun W (h : Calm wr W) => (hbx.frame (h O) (by simp)).cell0
            have stx := st.trans (sr O).nil
            clear ez hAz hsame hzz hTT hbx hz2
            go_wp2_with fail
            refine q_start (fun W => Calm wr W) (by kernel_rfl) (Calm.refl _).drew ?_
            repeat (first
              | (refine q_off (by rfl) ?_; simp only [Act.put, List.setIfInBounds_toArray, List.set_cons_zero, List.set_cons_succ])
              | (refine q_on (by rfl) ?_; apply Exists.intro; refine ⟨fun W hW => ?_, ?_⟩; (have c0 := hC W hW; go_simp; first | done | with_reducible rfl | (go_at_call_of 13 (#[Value.agg #[.slice aT2 (q + i) cT2], .int .i64 5]); exact (hM1 W hW).mono fun e w' k => ⟨k.1, hW.trans k.2⟩) | (go_at_call 13; exact (hM2 W hW).mono fun e w' k => ⟨k.1, hW.trans k.2⟩)); simp only [Act.put, List.setIfInBounds_toArray, List.set_cons_zero, List.set_cons_succ])
              | fail)
            refine q_end ?_
            intro w9 s9
            go_wp2
            go_ret
            exact ⟨by simp, ((Base.start w).step (stx.trans (s9 O).nil) (by decide)).below⟩
      obtain ⟨x, hx⟩ : ∃ x, z[j]? = some x := ⟨_, List.getElem?_eq_getElem (by have := HZL.out; omega)⟩
      have hxo := HZOK.out x (List.mem_of_getElem? hx)
      obtain ⟨b, off, rfl, hbl, hbo, hcell⟩ := hz.ins (by omega)
      obtain ⟨k0, k1, k2⟩ := hcell j x hx
      have hji : (j : Int) < m := by omega
      have etk : z.take (j + 1) = z.take j ++ [x] := by rw [List.take_add_one, hx]; rfl
      rcases x with ⟨op, xa, xw⟩
      dsimp only at k0 k1 k2
      have HX := Lib.hid hx
      have ETK := Lib.hid etk
      clear hcell hx etk
      have tn : Step [] wr O (wr.alloc (.cells #[.int .u8 op, .int .i64 xa, .int .i64 xw] 36)) (O.set wr.heap.size 78) := ((Step.refl _ _ _).alloc _).give (Nat.le_refl _) _
      have hbx := Blk.new wr O 78 36 #[.int .u8 op, .int .i64 xa, .int .i64 xw]
      go_upto_region 13 with (fail)
      replace hz := hz.frame tn (by simp)
      replace hT := hT.frame tn (by simp)
      replace hb := hb.frame tn (by simp)
      have hzy : w.heap.size ≤ wr.heap.size := st.size
      replace st := st.trans tn.nil
      clear k0 k1 k2 hbl hbo tn cb
      generalize wr.alloc (.cells #[.int .u8 op, .int .i64 xa, .int .i64 xw] 36) = Wn at *
      generalize O.set wr.heap.size 78 = O at *
      generalize wr.heap.size = zy at *
      have y0 := hbx.cell 0
      have y1 := hbx.cell 1
      have y2 := hbx.cell 2
      have y3 := hbx.frozen 1
      simp only [List.getElem?_toArray, List.getElem?_cons_succ, List.getElem?_cons_zero] at y0 y1 y2
      by_cases h12 : op = 12
      · subst h12
        go_wp2_with fail
        go_ret
        exact ⟨by simp, ((Base.start w).step st (by decide)).below⟩
      have h63 : (q + j) + 1 ≤ 9223372036854775807 := by omega
      have hby : ((q + j) + 1) * 24 ≤ 140737488355328 := by omega
      have hH : ∀ y ∈ z.take (j + 1), y.op ≠ 12 := by
        rw [ETK.out]
        intro y hy
        rcases List.mem_append.1 hy with hy | hy
        · exact H12.out y hy
        · rw [List.mem_singleton] at hy; subst hy; exact h12
      have HA2 := Lib.hid hH
      clear hH
      by_cases hg : goesA op
      · have hsh : shI q ⟨op, xa, xw⟩ = ⟨op, wrap64 (xa + q), xw⟩ := by unfold shI; rw [if_pos hg]
        have hmv : icells (moved q (z.take (j + 1))) = icells (moved q (z.take j)) ++ [.int .u8 op, .int .i64 (wrap64 (xa + q)), .int .i64 xw] := by
          rw [ETK.out]
          unfold moved
          rw [List.map_append, ← List.append_assoc, icells_app, List.map_cons, List.map_nil, hsh]
          rfl
        have sA : Step [78] Wn O (Wn.setCell ⟨zy, 1, none⟩ (.int .i64 (wrap64 (xa + q)))) O := (Step.refl _ _ _).setCell (a := ⟨zy, 1, none⟩) (fun _ => by simp [hbx.own]) _
        have sB : Step [50] w Z0 (Wn.setCell ⟨zy, 1, none⟩ (.int .i64 (wrap64 (xa + q)))) O := st.setCell (a := ⟨zy, 1, none⟩) (fun h => absurd h (by show ¬ zy < w.heap.size; omega)) _
        have hbx2 := hbx.set 1 (.int .i64 (wrap64 (xa + q)))
        replace hz := hz.frame sA (by simp)
        replace hT := hT.frame sA (by simp)
        replace hb := hb.frame sA (by simp)
        have z0 := hbx2.cell 0
        have z1 := hbx2.cell 1
        have z2 := hbx2.cell 2
        simp only [List.setIfInBounds_toArray, List.set_cons_zero, List.set_cons_succ, List.getElem?_toArray, List.getElem?_cons_succ, List.getElem?_cons_zero] at z0 z1 z2
        have hn1 : ∀ cs : Array Value, cs.size = 1 * 3 → Rd ((Wn.setCell ⟨zy, 1, none⟩ (.int .i64 (wrap64 (xa + q)))).alloc (.cells cs 36)) O (O Wn.heap.size) 3 (.slice (some ⟨Wn.heap.size, 0, none⟩) 1 1) 1 cs.toList := fun cs hc => by
          have := Rd.fresh (Wn.setCell ⟨zy, 1, none⟩ (.int .i64 (wrap64 (xa + q)))) O 3 36 cs 1 (by decide) hc
          rw [World.size_setCell] at this
          exact this
        have hT1 := fun (cs : Array Value) => hT.frame ((Step.refl [] (Wn.setCell ⟨zy, 1, none⟩ (.int .i64 (wrap64 (xa + q)))) O).alloc (.cells cs 36)) (by simp)
        have HMV := Lib.hid hmv
        have HB2 := Lib.hid (And.intro hz (And.intro hb sB))
        clear hmv hsh st hz hT hb sA sB hbx2
        rcases hg with rfl | rfl | rfl | rfl | rfl | rfl | rfl
        · skip
          go_wp2_with (at_builtin; refine wpList_app rfl (.tmp 62) (.tmp 64) 22 rfl Tryd.underlying22 infoIns rfl rfl (hT1 _) rfl (hn1 _ rfl) (by simp [Value.oneCell']) h63 hby ?_)
          intro vx w6 o6 hx6 s6
          have s67 := ((Step.refl [50] (Wn.setCell ⟨zy, 1, none⟩ (.int .i64 (wrap64 (xa + q)))) O).alloc _).trans s6
          obtain ⟨hz, hb, sB⟩ := HB2.out
          replace hz := hz.frame s67 (by simp)
          replace hb := hb.frame s67 (by simp)
          have S6 := sB.trans s67
          have hx7 : Row w6 o6 50 36 3 vx (q + (j + 1)) (icells (moved q (z.take (j + 1)))) := by rw [HMV.out]; exact hx6
          clear hx6 s6 s67 hn1 hT1
          go_wp2_with fail
          go_roundg (m + 1 - (j + 1))
          case measure => rw [HGM2.out]; omega
          case rel => exact ⟨j + 1, o6, Lib.hid rfl, hjm, by go_num, hx7, hz, hb, HA2, S6⟩
        · skip
          go_wp2_with (at_builtin; refine wpList_app rfl (.tmp 62) (.tmp 64) 22 rfl Tryd.underlying22 infoIns rfl rfl (hT1 _) rfl (hn1 _ rfl) (by simp [Value.oneCell']) h63 hby ?_)
          intro vx w6 o6 hx6 s6
          have s67 := ((Step.refl [50] (Wn.setCell ⟨zy, 1, none⟩ (.int .i64 (wrap64 (xa + q)))) O).alloc _).trans s6
          obtain ⟨hz, hb, sB⟩ := HB2.out
          replace hz := hz.frame s67 (by simp)
          replace hb := hb.frame s67 (by simp)
          have S6 := sB.trans s67
          have hx7 : Row w6 o6 50 36 3 vx (q + (j + 1)) (icells (moved q (z.take (j + 1)))) := by rw [HMV.out]; exact hx6
          clear hx6 s6 s67 hn1 hT1
          go_wp2_with fail
          go_roundg (m + 1 - (j + 1))
          case measure => rw [HGM2.out]; omega
          case rel => exact ⟨j + 1, o6, Lib.hid rfl, hjm, by go_num, hx7, hz, hb, HA2, S6⟩
        · skip
          go_wp2_with (at_builtin; refine wpList_app rfl (.tmp 62) (.tmp 64) 22 rfl Tryd.underlying22 infoIns rfl rfl (hT1 _) rfl (hn1 _ rfl) (by simp [Value.oneCell']) h63 hby ?_)
          intro vx w6 o6 hx6 s6
          have s67 := ((Step.refl [50] (Wn.setCell ⟨zy, 1, none⟩ (.int .i64 (wrap64 (xa + q)))) O).alloc _).trans s6
          obtain ⟨hz, hb, sB⟩ := HB2.out
          replace hz := hz.frame s67 (by simp)
          replace hb := hb.frame s67 (by simp)
          have S6 := sB.trans s67
          have hx7 : Row w6 o6 50 36 3 vx (q + (j + 1)) (icells (moved q (z.take (j + 1)))) := by rw [HMV.out]; exact hx6
          clear hx6 s6 s67 hn1 hT1
          go_wp2_with fail
          go_roundg (m + 1 - (j + 1))
          case measure => rw [HGM2.out]; omega
          case rel => exact ⟨j + 1, o6, Lib.hid rfl, hjm, by go_num, hx7, hz, hb, HA2, S6⟩
        · skip
          go_wp2_with (at_builtin; refine wpList_app rfl (.tmp 62) (.tmp 64) 22 rfl Tryd.underlying22 infoIns rfl rfl (hT1 _) rfl (hn1 _ rfl) (by simp [Value.oneCell']) h63 hby ?_)
          intro vx w6 o6 hx6 s6
          have s67 := ((Step.refl [50] (Wn.setCell ⟨zy, 1, none⟩ (.int .i64 (wrap64 (xa + q)))) O).alloc _).trans s6
          obtain ⟨hz, hb, sB⟩ := HB2.out
          replace hz := hz.frame s67 (by simp)
          replace hb := hb.frame s67 (by simp)
          have S6 := sB.trans s67
          have hx7 : Row w6 o6 50 36 3 vx (q + (j + 1)) (icells (moved q (z.take (j + 1)))) := by rw [HMV.out]; exact hx6
          clear hx6 s6 s67 hn1 hT1
          go_wp2_with fail
          go_roundg (m + 1 - (j + 1))
          case measure => rw [HGM2.out]; omega
          case rel => exact ⟨j + 1, o6, Lib.hid rfl, hjm, by go_num, hx7, hz, hb, HA2, S6⟩
        · skip
          go_wp2_with (at_builtin; refine wpList_app rfl (.tmp 62) (.tmp 64) 22 rfl Tryd.underlying22 infoIns rfl rfl (hT1 _) rfl (hn1 _ rfl) (by simp [Value.oneCell']) h63 hby ?_)
          intro vx w6 o6 hx6 s6
          have s67 := ((Step.refl [50] (Wn.setCell ⟨zy, 1, none⟩ (.int .i64 (wrap64 (xa + q)))) O).alloc _).trans s6
          obtain ⟨hz, hb, sB⟩ := HB2.out
          replace hz := hz.frame s67 (by simp)
          replace hb := hb.frame s67 (by simp)
          have S6 := sB.trans s67
          have hx7 : Row w6 o6 50 36 3 vx (q + (j + 1)) (icells (moved q (z.take (j + 1)))) := by rw [HMV.out]; exact hx6
          clear hx6 s6 s67 hn1 hT1
          go_wp2_with fail
          go_roundg (m + 1 - (j + 1))
          case measure => rw [HGM2.out]; omega
          case rel => exact ⟨j + 1, o6, Lib.hid rfl, hjm, by go_num, hx7, hz, hb, HA2, S6⟩
        · skip
          go_wp2_with (at_builtin; refine wpList_app rfl (.tmp 62) (.tmp 64) 22 rfl Tryd.underlying22 infoIns rfl rfl (hT1 _) rfl (hn1 _ rfl) (by simp [Value.oneCell']) h63 hby ?_)
          intro vx w6 o6 hx6 s6
          have s67 := ((Step.refl [50] (Wn.setCell ⟨zy, 1, none⟩ (.int .i64 (wrap64 (xa + q)))) O).alloc _).trans s6
          obtain ⟨hz, hb, sB⟩ := HB2.out
          replace hz := hz.frame s67 (by simp)
          replace hb := hb.frame s67 (by simp)
          have S6 := sB.trans s67
          have hx7 : Row w6 o6 50 36 3 vx (q + (j + 1)) (icells (moved q (z.take (j + 1)))) := by rw [HMV.out]; exact hx6
          clear hx6 s6 s67 hn1 hT1
          go_wp2_with fail
          go_roundg (m + 1 - (j + 1))
          case measure => rw [HGM2.out]; omega
          case rel => exact ⟨j + 1, o6, Lib.hid rfl, hjm, by go_num, hx7, hz, hb, HA2, S6⟩
        · skip
          go_wp2_with (at_builtin; refine wpList_app rfl (.tmp 62) (.tmp 64) 22 rfl Tryd.underlying22 infoIns rfl rfl (hT1 _) rfl (hn1 _ rfl) (by simp [Value.oneCell']) h63 hby ?_)
          intro vx w6 o6 hx6 s6
          have s67 := ((Step.refl [50] (Wn.setCell ⟨zy, 1, none⟩ (.int .i64 (wrap64 (xa + q)))) O).alloc _).trans s6
          obtain ⟨hz, hb, sB⟩ := HB2.out
          replace hz := hz.frame s67 (by simp)
          replace hb := hb.frame s67 (by simp)
          have S6 := sB.trans s67
          have hx7 : Row w6 o6 50 36 3 vx (q + (j + 1)) (icells (moved q (z.take (j + 1)))) := by rw [HMV.out]; exact hx6
          clear hx6 s6 s67 hn1 hT1
          go_wp2_with fail
          go_roundg (m + 1 - (j + 1))
          case measure => rw [HGM2.out]; omega
          case rel => exact ⟨j + 1, o6, Lib.hid rfl, hjm, by go_num, hx7, hz, hb, HA2, S6⟩
      · have hsh : shI q ⟨op, xa, xw⟩ = ⟨op, xa, xw⟩ := by unfold shI; rw [if_neg hg]
        have hmv : icells (moved q (z.take (j + 1))) = icells (moved q (z.take j)) ++ [.int .u8 op, .int .i64 xa, .int .i64 xw] := by
          rw [ETK.out]
          unfold moved
          rw [List.map_append, ← List.append_assoc, icells_app, List.map_cons, List.map_nil, hsh]
          rfl
        unfold goesA at hg
        simp only [not_or] at hg
        obtain ⟨n3, n4, n6, n7, n8', n9, n10⟩ := hg
        have b3 : (op == 3) = false := by simpa using n3
        have b4 : (op == 4) = false := by simpa using n4
        have b6 : (op == 6) = false := by simpa using n6
        have b7 : (op == 7) = false := by simpa using n7
        have b8 : (op == 8) = false := by simpa using n8'
        have b9 : (op == 9) = false := by simpa using n9
        have b10 : (op == 10) = false := by simpa using n10
        have b12 : (op == 12) = false := by simpa using h12
        have hn1 := fun (cs : Array Value) (hc : cs.size = 1 * 3) => Rd.fresh Wn O 3 36 cs 1 (by decide) hc
        have hT1 := fun (cs : Array Value) => hT.frame ((Step.refl [] Wn O).alloc (.cells cs 36)) (by simp)
        have HMV := Lib.hid hmv
        have HB2 := Lib.hid (And.intro hz (And.intro hb st))
        clear hmv hsh st hz hT hb n3 n4 n6 n7 n8' n9 n10 h12 hbx
        go_wp2_with (at_builtin; refine wpList_app rfl (.tmp 62) (.tmp 64) 22 rfl Tryd.underlying22 infoIns rfl rfl (hT1 _) rfl (hn1 _ rfl) (by simp [Value.oneCell']) h63 hby ?_)
        intro vx w6 o6 hx6 s6
        have s67 := ((Step.refl [50] Wn O).alloc _).trans s6
        obtain ⟨hz, hb, sB⟩ := HB2.out
        replace hz := hz.frame s67 (by simp)
        replace hb := hb.frame s67 (by simp)
        have S6 := sB.trans s67
        have hx7 : Row w6 o6 50 36 3 vx (q + (j + 1)) (icells (moved q (z.take (j + 1)))) := by rw [HMV.out]; exact hx6
        clear hx6 s6 s67 hn1 hT1
        go_wp2_with fail
        go_roundg (m + 1 - (j + 1))
        case measure => rw [HGM2.out]; omega
        case rel => exact ⟨j + 1, o6, Lib.hid rfl, hjm, by go_num, hx7, hz, hb, HA2, S6⟩
end Go.Proofs.YtglchagfclafgaaDoor
