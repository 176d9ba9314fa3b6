/- DictHides: the walk. -/
import Derived.Test.YtaledmoakhlmgaaDicX
import Derived.Test.YtaledmoakhlmgaaDicD
import Derived.Test.YtaledmoakhlmgaaShown09
import Derived.Test.YtaledmoakhlmgaaHidesL
import Derived.Test.YtaledmoakhlmgaaQuietC
namespace Go.Proofs.Ytaledmoakhlmgaa
open Go Go.RowKit
set_option linter.unusedSimpArgs false
set_option linter.unusedVariables false

/-- A row of bytes, owned. -/
def BO (w : World) (o : Owner) (b : Nat) (l : List UInt8) : Prop := BR w b l ∧ o b = 25
theorem BO.frame {S : List Nat} {w w' : World} {o o' : Owner} {b : Nat} {l : List UInt8} (h : BO w o b l) (st : Step S w o w' o') (hS : 25 ∉ S) : BO w' o' b l :=
  ⟨h.1.frame st (by rw [h.2]; exact hS), (st.own b h.1.lt).trans h.2⟩

set_option maxRecDepth 100000 in
set_option maxHeartbeats 16000000 in
theorem hides_walk {w : World} {v0 : Value} {z0 : List ByteArray} {nm : ByteArray} {x y : Int} (h0 : Rd w (fun _ => 0) 0 1 v0 z0.length (strs z0)) (hnm : nm.size ≤ maxLen) :
    Calls Try.prog 6 #[v0, .string nm, .int .i64 x, .int .i64 y] w fun e w' => e = .returned (.bool true) ∧ Below w.heap.size w w' := by
  obtain ⟨ao, ca, rfl, g1, g2, g3, g4⟩ := h0
  obtain ⟨n, hn⟩ : ∃ n, z0.length = n := ⟨_, rfl⟩
  rw [hn] at g1 g4
  rw [hn]
  have HN := Lib.hid hn
  have HG := Lib.hid g4
  unfold maxLen at g2 hnm
  clear g3 g4 hn
  go_enter Try.func6, Try.ntmps6
  go_wp2_with fail
  refine (shown_ok w (fun _ => 0)).mono ?_
  rintro e w1 ⟨rfl, s1⟩
  go_wp2_with fail
  refine (new_ok w1 (fun _ => 0) 10).mono ?_
  rintro e w2 ⟨b, o2, rfl, h2, s2⟩
  have hB := ((Base.start w).step s1 (by decide)).step s2 (by decide)
  clear s1 s2
  obtain ⟨L, hL⟩ : ∃ L : Nat, min (n : Int) 20 = (L : Int) := ⟨min n 20, by omega⟩
  have hLn : L ≤ n := by omega
  have hL20 : L ≤ 20 := by omega
  have hLc : (L : Int) ≤ ca := by omega
  have hL0 : (0 : Int) ≤ L := by omega
  go_wp2_with fail
  go_loopg [11, 12, 37] L (fun g a11 a12 a wy => ∃ (q : Nat) (ws : List Wd) (o' : Owner), g = L - q ∧ q ≤ L ∧ a = .int .i64 q ∧ Hid (ws.length ≤ q) ∧ DB wy o' 10 b (sH ws) (2 + q) ∧ Base w wy o')
  case atStart => exact ⟨0, [], o2, rfl, Nat.zero_le _, rfl, Lib.hid (Nat.le_refl _), h2, hB⟩
  case round =>
    obtain ⟨q, ws, o3, hg, hq, rfl, HWL, hdb, hB3⟩ := hrel
    have HQ := Lib.hid hg
    clear hg h2 hB
    by_cases hlt : q < L
    · have hqi : (q : Int) < L := by omega
      obtain ⟨s, hs⟩ : ∃ s, z0[q]? = some s := ⟨_, List.getElem?_eq_getElem (by rw [HN.out]; omega)⟩
      obtain ⟨b1, off1, rfl, hb1, ho1, hc1⟩ := HG.out (by omega)
      have e1 := (World.cell?_of_block (a := ⟨b1, off1 + q, none⟩) (hB3.below.block b1 hb1)).trans (hc1 q (.string s) (by rw [List.getElem?_map, hs]; rfl))
      obtain ⟨t, ht⟩ : ∃ t, s.extract 0 (min (s.size : Int) 40).toNat = t := ⟨_, rfl⟩
      have ht40 : t.size ≤ 40 := by rw [← ht, ByteArray.size_extract]; omega
      have hm1 : (0 : Int) ≤ min (s.size : Int) 40 := by omega
      have hm2 : min (s.size : Int) 40 ≤ s.size := by omega
      have hadd := add_ok hdb (by omega) t (by omega) q
      obtain ⟨ws', hws, hwl⟩ := sH_add ws t q
      rw [hws] at hadd
      generalize addE (sH ws) t = E at hadd
      clear hc1 hs hdb hws
      go_wp2_with fail
      refine hadd.mono ?_
      rintro e w4 ⟨rfl, o4, hdb, s4⟩
      go_wp2_with fail
      go_roundg (L - (q + 1))
      case measure => rw [HQ.out]; omega
      case rel => exact ⟨q + 1, ws', o4, rfl, by omega, by go_num, Lib.hid (by have := HWL.out; omega), hdb.mono (by omega), hB3.step s4 (by decide)⟩
    · obtain rfl : q = L := by omega
      clear hlt
      have hwl := HWL.out
      obtain ⟨N0, hN0⟩ : ∃ N0, ws.length = N0 := ⟨_, rfl⟩
      rw [hN0] at hwl
      obtain ⟨t, ht⟩ : ∃ t, nm.extract 0 (min (nm.size : Int) 40).toNat = t := ⟨_, rfl⟩
      have ht40 : t.size ≤ 40 := by rw [← ht, ByteArray.size_extract]; omega
      have hm1 : (0 : Int) ≤ min (nm.size : Int) 40 := by omega
      have hm2 : min (nm.size : Int) 40 ≤ nm.size := by omega
      have hfi := find_ok hdb t (by omega)
      obtain ⟨E, hE⟩ : ∃ E, findD (sH ws) t = E := ⟨_, rfl⟩
      rw [hE, entV_eq] at hfi
      obtain ⟨en, hen⟩ : ∃ en, nmO E = en := ⟨_, rfl⟩
      obtain ⟨ex, hex⟩ : ∃ ex, xtO E = ex := ⟨_, rfl⟩
      obtain ⟨ew, hew⟩ : ∃ ew, nwO E = ew := ⟨_, rfl⟩
      obtain ⟨ei, hei⟩ : ∃ ei, E.isSome = ei := ⟨_, rfl⟩
      have hEV : entV (findD (sH ws) t) = .tuple #[.agg #[.string en, .int .i64 ex, .bool ew], .bool ei] := by rw [hE, entV_eq, hen, hex, hew, hei]
      rw [hen, hex, hew, hei] at hfi
      have HEV := Lib.hid hEV
      have HN0 := Lib.hid hN0
      clear hE hen hex hew hei hEV hN0
      go_wp2_with fail
      refine hfi.mono ?_
      rintro e w5 ⟨rfl, o5, s5⟩
      -- the entry as it was
      have sA : Step [] w5 o5 (w5.alloc (.cells #[.string en, .int .i64 ex, .bool ew] 34)) (o5.set w5.heap.size 23) := ((Step.refl _ _ _).alloc _).give (Nat.le_refl _) _
      have hA := Blk.new w5 o5 23 34 #[.string en, .int .i64 ex, .bool ew]
      replace hdb := (hdb.nil s5).nil sA
      replace hB3 := (hB3.step s5 (by simp)).step sA (by simp)
      obtain ⟨zA, hzA⟩ : ∃ z, w5.heap.size = z := ⟨_, rfl⟩
      rw [hzA] at hA hdb hB3
      have hmk := mark_ok hdb
      rw [show (sH ws).ws.length = ws.length from rfl, show (sH ws).lists = 1 from rfl, HN0.out] at hmk
      clear hfi s5 sA
      go_wp2_with fail
      refine hmk.mono ?_
      rintro e w6 ⟨rfl, s6⟩
      -- MARKED
      have sM : Step [] w6 (o5.set zA 23) (w6.alloc (.cells #[.int .i64 N0, .int .i64 1] 31)) ((o5.set zA 23).set w6.heap.size 24) := ((Step.refl _ _ _).alloc _).give (Nat.le_refl _) _
      have hM := Blk.new w6 (o5.set zA 23) 24 31 #[.int .i64 N0, .int .i64 1]
      replace hdb := (hdb.nil s6).nil sM
      replace hA := (hA.frame s6 (by simp)).frame sM (by simp)
      replace hB3 := (hB3.step s6 (by simp)).step sM (by simp)
      obtain ⟨w7, cap, kc, hb, st7⟩ := br_new (w6.alloc (.cells #[.int .i64 N0, .int .i64 1] 31)) t
      rw [World.size_alloc] at kc hb
      have s7 := (st7 ((o5.set zA 23).set w6.heap.size 24)).give (b := w6.heap.size + 1) (by simp) 25
      replace hdb := hdb.nil s7
      replace hA := hA.frame s7 (by simp)
      replace hM := hM.frame s7 (by simp)
      replace hB3 := hB3.step s7 (by simp)
      have hbo : BO w7 (((o5.set zA 23).set w6.heap.size 24).set (w6.heap.size + 1) 25) (w6.heap.size + 1) (lst t) := ⟨hb, Owner.set_self _ _ _⟩
      generalize ((o5.set zA 23).set w6.heap.size 24).set (w6.heap.size + 1) 25 = o7 at hdb hA hM hB3 hbo
      obtain ⟨zB, hzB⟩ : ∃ z, w6.heap.size + 1 = z := ⟨_, rfl⟩
      obtain ⟨zM, hzM⟩ : ∃ z, w6.heap.size = z := ⟨_, rfl⟩
      rw [hzB] at kc hbo
      rw [hzM] at hM
      obtain ⟨U, hU⟩ : ∃ U, up t = U := ⟨_, rfl⟩
      have hUs : U.size = t.size := by rw [← hU, up_size]
      have hUl : low U = low t := by rw [← hU, low_up]
      have hUr : (⟨((lst t).map upc).toArray⟩ : ByteArray) = U := hU
      obtain ⟨l, hl⟩ : ∃ l, lst t = l := ⟨_, rfl⟩
      obtain ⟨M, hMs⟩ : ∃ M, t.size = M := ⟨_, rfl⟩
      have hlM : l.length = M := by rw [← hl, ← hMs]; rfl
      rw [hl] at hbo hUr
      have hem := em_nm t
      rw [hMs] at kc ht40 hUs hem
      have HLM := Lib.hid hlM
      have HMS := Lib.hid hMs
      have HUL := Lib.hid hUl
      have HUR := Lib.hid hUr
      have HUS := Lib.hid hUs
      have hzB2 := hzB
      rw [hzM] at hzB2
      clear hb st7 s7 sM s6 hmk hU hl hlM hMs hUl hUr hUs hzB2
      go_wp2_with fail
      clear kc hzB hzM hzA
      have hbo7 := hbo.2
      go_loopg [18, 19, 68] M (fun g a18 a19 a wy => ∃ k : Nat, g = M - k ∧ k ≤ M ∧ a = .int .i64 k ∧ BO wy o7 zB (mixU k l) ∧ Step [25] w7 o7 wy o7)
      case atStart => exact ⟨0, rfl, Nat.zero_le _, rfl, hbo, Step.refl _ _ _⟩
      case round =>
        obtain ⟨k, hg, hk, rfl, hr, sr⟩ := hrel
        have HQ2 := Lib.hid hg
        clear hg hbo
        by_cases hlt : k < M
        · have hki : (k : Int) < M := by omega
          have hkl : k < l.length := by rw [HLM.out]; exact hlt
          have hsame := mixU_same (l := l) hkl
          have hsucc := mixU_succ hkl
          have hat : (mixU k l)[k]'(by rw [mixU_length]; exact hkl) = l[k] := by
            have := mixU_at hkl
            rw [List.getElem?_eq_getElem (by rw [mixU_length]; exact hkl)] at this
            exact Option.some.inj this
          obtain ⟨y1, f1⟩ := hr.1.at (j := k) (by rw [mixU_length]; exact hkl)
          rw [hat] at y1
          generalize l[k] = c at y1 hsame hsucc
          obtain ⟨d, hd⟩ : ∃ d, c.toNat = d := ⟨_, rfl⟩
          have hup := upc_down (c := c)
          have hno := upc_no (c := c)
          rw [hd] at y1 hup hno
          have HSA := Lib.hid hsame
          have HSU := Lib.hid hsucc
          have HUP := Lib.hid hup
          have HNO := Lib.hid hno
          clear hat hsame hsucc hd hup hno
          by_cases h1 : 97 ≤ d
          · have h1i : (97 : Int) ≤ d := by omega
            by_cases h2 : d ≤ 122
            · have h2i : (d : Int) ≤ 122 := by omega
              go_wp2_with fail
              go_roundg (M - (k + 1))
              case measure => rw [HQ2.out]; omega
              case rel =>
                refine ⟨k + 1, rfl, by omega, by go_num, ⟨?_, hr.2⟩, sr.setCell (fun _ => by simp [hbo7]) _⟩
                rw [HSU.out]
                exact hr.1.set k (upc c) _ (by rw [HUP.out ⟨h1, h2⟩]; first | omega | (go_num; omega))
            · have h2i : ¬ (d : Int) ≤ 122 := by omega
              go_wp2_with fail
              go_roundg (M - (k + 1))
              case measure => rw [HQ2.out]; omega
              case rel => exact ⟨k + 1, rfl, by omega, by go_num, by rw [HSA.out (HNO.out (by omega))]; exact hr, sr⟩
          · have h1i : ¬ (97 : Int) ≤ d := by omega
            go_wp2_with fail
            go_roundg (M - (k + 1))
            case measure => rw [HQ2.out]; omega
            case rel => exact ⟨k + 1, rfl, by omega, by go_num, by rw [HSA.out (HNO.out (by omega))]; exact hr, sr⟩
        · obtain rfl : k = M := by omega
          have hki : ¬ (k : Int) < k := by omega
          have hall : mixU k l = l.map upc := by rw [← HLM.out]; exact mixU_all l
          rw [hall] at hr
          have kb := br_back hr.1 k cap (by rw [List.length_map]; exact HLM.out.symm)
          rw [HUR.out] at kb
          replace hdb := hdb.frame sr (by simp) (by simp) (by simp) (by simp)
          replace hA := hA.frame sr (by simp)
          replace hM := hM.frame sr (by simp)
          replace hB3 := hB3.step sr (by simp)
          have hus : U.size = k := HUS.out
          have hadd := add_ok hdb (by omega) U (by omega) x
          clear hall sr hlt
          by_cases hbad : k = 0 ∨ 31 < k
          · have hcase : ∀ (E2 : Int), E2 = -16 ∨ E2 = -19 → True := fun _ _ => trivial
            clear hcase
            rcases hbad with hk0 | hk31
            · rw [decide_eq_true hk0] at hem
              obtain ⟨hE, hS⟩ := sH_bad0 (ws := ws) (nm := U) (by rw [hus]; exact hk0) x
              rw [hE, hS] at hadd
              subst hk0
              clear hdb hE hS
              go_wp2_with fail
              refine hadd.mono ?_
              rintro e wQ ⟨rfl, oQ, hdbQ, sQ⟩
              replace hM := hM.frame sQ (by simp)
              replace hB3 := hB3.step sQ (by simp)
              have hmm : ∀ W o', Step [] wQ oQ W o' → W.cell? ⟨zM, 0, none⟩ = some (.int .i64 N0) ∧ W.cell? ⟨zM, 1, none⟩ = some (.int .i64 1) := fun W o' st => ⟨(hM.frame st (by simp)).cell 0, (hM.frame st (by simp)).cell 1⟩
              have hmkQ : ∀ W oW, Step [] wQ oQ W oW → Calls Try.prog 14 #[.pointer (some ⟨b, 0, none⟩)] W fun e w' => e = .returned (.agg #[.int .i64 N0, .int .i64 1]) ∧ Step [] W oW w' oW := fun W oW st => by
                have := mark_ok (hdbQ.nil st)
                rw [show (sH ws).ws.length = ws.length from rfl, HN0.out] at this
                exact this
              clear hadd kb
              go_wp2_with fail
              refine q_start (fun W => ∃ o', Step [] wQ oQ W o') (by kernel_rfl) ⟨_, (Step.refl _ _ _).drew⟩ ?_
              repeat (first
                | (refine q_off (by rfl) ?_; simp only [Act.put, List.setIfInBounds_toArray, List.set_cons_zero, List.set_cons_succ])
                | (refine q_on (by rfl) ?_; apply Exists.intro; refine ⟨fun W hW => ?_, ?_⟩; (obtain ⟨oW, sW⟩ := hW; obtain ⟨m0, m1⟩ := hmm W oW sW; go_simp; first | done | with_reducible rfl | (go_at_call 14; exact (hmkQ _ _ sW).mono fun e w' k => ⟨k.1, oW, sW.trans k.2⟩)); simp only [Act.put, List.setIfInBounds_toArray, List.set_cons_zero, List.set_cons_succ])
                | fail)
              refine q_end ?_
              rintro wz ⟨oz, sz⟩
              go_wp2_with fail
              go_ret
              exact ⟨rfl, (hB3.step sz (by simp)).below⟩
            · rw [decide_eq_false (by omega)] at hem
              have hk31i : (31 : Int) < t.size := by rw [HMS.out]; omega
              obtain ⟨hE, hS⟩ := sH_bad1 (ws := ws) (nm := U) (by rw [hus]; exact hk31) x
              rw [hE, hS] at hadd
              clear hdb hE hS
              go_wp2_with fail
              refine hadd.mono ?_
              rintro e wQ ⟨rfl, oQ, hdbQ, sQ⟩
              replace hM := hM.frame sQ (by simp)
              replace hB3 := hB3.step sQ (by simp)
              have hmm : ∀ W o', Step [] wQ oQ W o' → W.cell? ⟨zM, 0, none⟩ = some (.int .i64 N0) ∧ W.cell? ⟨zM, 1, none⟩ = some (.int .i64 1) := fun W o' st => ⟨(hM.frame st (by simp)).cell 0, (hM.frame st (by simp)).cell 1⟩
              have hmkQ : ∀ W oW, Step [] wQ oQ W oW → Calls Try.prog 14 #[.pointer (some ⟨b, 0, none⟩)] W fun e w' => e = .returned (.agg #[.int .i64 N0, .int .i64 1]) ∧ Step [] W oW w' oW := fun W oW st => by
                have := mark_ok (hdbQ.nil st)
                rw [show (sH ws).ws.length = ws.length from rfl, HN0.out] at this
                exact this
              clear hadd kb
              go_wp2_with fail
              refine q_start (fun W => ∃ o', Step [] wQ oQ W o') (by kernel_rfl) ⟨_, (Step.refl _ _ _).drew⟩ ?_
              repeat (first
                | (refine q_off (by rfl) ?_; simp only [Act.put, List.setIfInBounds_toArray, List.set_cons_zero, List.set_cons_succ])
                | (refine q_on (by rfl) ?_; apply Exists.intro; refine ⟨fun W hW => ?_, ?_⟩; (obtain ⟨oW, sW⟩ := hW; obtain ⟨m0, m1⟩ := hmm W oW sW; go_simp; first | done | with_reducible rfl | (go_at_call 14; exact (hmkQ _ _ sW).mono fun e w' k => ⟨k.1, oW, sW.trans k.2⟩)); simp only [Act.put, List.setIfInBounds_toArray, List.set_cons_zero, List.set_cons_succ])
                | fail)
              refine q_end ?_
              rintro wz ⟨oz, sz⟩
              go_wp2_with fail
              go_ret
              exact ⟨rfl, (hB3.step sz (by simp)).below⟩
          · rw [decide_eq_false (by omega)] at hem
            have hk31i : ¬ (31 : Int) < t.size := by rw [HMS.out]; omega
            have hwl2 : ws.length < 1000 := by rw [HN0.out]; omega
            obtain ⟨hE, hS⟩ := sH_good (ws := ws) (nm := U) (by omega) (by omega) (by omega) x
            rw [hE, hS] at hadd
            have hli : ∀ x ∈ ws, x.li ≤ 1 := fun x hx => (hdb.ok.w x hx).2.1
            have HLI := Lib.hid hli
            clear hdb hE hS hli
            go_wp2_with fail
            refine hadd.mono ?_
            rintro e w8 ⟨rfl, o8, hdb, s8⟩
            replace hr := hr.frame s8 (by simp)
            replace hA := hA.frame s8 (by simp)
            replace hM := hM.frame s8 (by simp)
            replace hB3 := hB3.step s8 (by simp)
            have hf1 := find_ok hdb t (by rw [HMS.out]; omega)
            rw [sH_top HUL.out, show entV (some ⟨U, x, false, 1⟩) = .tuple #[.agg #[.string U, .int .i64 x, .bool false], .bool true] from rfl] at hf1
            have hxy := teq U U
            rw [decide_eq_true rfl] at hxy
            clear hadd kb s8
            go_wp2_with fail
            refine hf1.mono ?_
            rintro e w9 ⟨rfl, o9, s9⟩
            have sC := s9.alloc (.cells #[.string U, .int .i64 x, .bool false] 34)
            obtain ⟨c0, c1, c2, -⟩ := (E3.new w9 (.string U) (.int .i64 x) (.bool false)).cells
            replace hdb := hdb.nil sC
            replace hr := hr.frame sC (by simp)
            replace hA := hA.frame sC (by simp)
            replace hM := hM.frame sC (by simp)
            replace hB3 := hB3.step sC (by simp)
            have kb := br_back hr.1 k cap (by rw [List.length_map]; exact HLM.out.symm)
            rw [HUR.out] at kb
            have hnow := now_ok hdb
            rw [(sH_now _ _).1, (sH_now _ _).2] at hnow
            clear hf1 s9 sC
            go_wp2_with fail
            refine hnow.mono ?_
            rintro e w10 ⟨rfl, hdb2, s10⟩
            replace hr := hr.frame s10 (by simp)
            replace hA := hA.frame s10 (by simp)
            replace hM := hM.frame s10 (by simp)
            replace hB3 := hB3.step s10 (by simp)
            replace hdb2 : DB w10 o9 10 b (sH (⟨U, x, true, 1⟩ :: ws)) _ := hdb2
            have hf2 := find_ok hdb2 t (by rw [HMS.out]; omega)
            rw [sH_top HUL.out, show entV (some ⟨U, x, true, 1⟩) = .tuple #[.agg #[.string U, .int .i64 x, .bool true], .bool true] from rfl] at hf2
            clear hnow hdb kb c0 c1 c2
            go_wp2_with fail
            refine hf2.mono ?_
            rintro e w11 ⟨rfl, o11, s11⟩
            have sD := s11.alloc (.cells #[.string U, .int .i64 x, .bool true] 34)
            obtain ⟨c0, c1, c2, -⟩ := (E3.new w11 (.string U) (.int .i64 x) (.bool true)).cells
            replace hdb2 := hdb2.nil sD
            replace hr := hr.frame sD (by simp)
            replace hA := hA.frame sD (by simp)
            replace hM := hM.frame sD (by simp)
            replace hB3 := hB3.step sD (by simp)
            have kb := br_back hr.1 k cap (by rw [List.length_map]; exact HLM.out.symm)
            rw [HUR.out] at kb
            obtain ⟨hE, hS⟩ := sH_good (ws := ⟨U, x, true, 1⟩ :: ws) (nm := t) (by rw [HMS.out]; omega) (by rw [HMS.out]; omega) (by rw [List.length_cons]; omega) y
            have hadd2 := add_ok hdb2 (by omega) t (by rw [HMS.out]; omega) y
            rw [hE, hS] at hadd2
            clear hf2 s11 sD hE hS
            go_wp2_with fail
            refine hadd2.mono ?_
            rintro e w12 ⟨rfl, o12, hdb3, s12⟩
            replace hA := hA.frame s12 (by simp)
            replace hM := hM.frame s12 (by simp)
            replace hB3 := hB3.step s12 (by simp)
            have m0 := hM.cell 0
            have m1 := hM.cell 1
            have hbk := back_ok hdb3 (by omega) ws.length 1
            rw [(sH_back HLI.out _ _).1, (sH_back HLI.out _ _).2, HN0.out] at hbk
            clear hadd2 hdb2 c0 c1 c2 kb hr
            go_wp2_with fail
            refine hbk.mono ?_
            rintro e w13 ⟨rfl, o13, hdb4, s13⟩
            replace hA := hA.frame s13 (by simp)
            replace hM := hM.frame s13 (by simp)
            replace hB3 := hB3.step s13 (by simp)
            have hf3 := find_ok hdb4 t (by rw [HMS.out]; omega)
            rw [HEV.out] at hf3
            clear hbk hdb3 m0 m1
            go_wp2_with fail
            refine hf3.mono ?_
            rintro e w14 ⟨rfl, o14, s14⟩
            have sQ := s14.alloc (.cells #[.string en, .int .i64 ex, .bool ew] 34)
            have c3 := E3.new w14 (.string en) (.int .i64 ex) (.bool ew)
            replace hA := hA.frame sQ (by simp)
            replace hM := hM.frame sQ (by simp)
            replace hB3 := hB3.step sQ (by simp)
            have hdbQ := hdb4.nil sQ
            have hq1 : (en.toList == en.toList) = true := by simp
            have hq2 : (ew == ew) = true := by simp
            have hq3 : (ei == ei) = true := by simp
            clear hf3 hdb4 s14 sQ
            go_wp2_with fail
            generalize w14.alloc (.cells #[.string en, .int .i64 ex, .bool ew] 34) = wQ at hA hM hB3 hdbQ c3 ⊢
            generalize w14.heap.size = zQ at c3 ⊢
            have hmm : ∀ W o', Step [] wQ o14 W o' → (W.cell? ⟨zM, 0, none⟩ = some (.int .i64 N0) ∧ W.cell? ⟨zM, 1, none⟩ = some (.int .i64 1)) ∧ (W.cell? ⟨zA, 0, none⟩ = some (.string en) ∧ W.cell? ⟨zA, 1, none⟩ = some (.int .i64 ex) ∧ W.cell? ⟨zA, 2, none⟩ = some (.bool ew)) ∧ (W.cell? ⟨zQ, 0, none⟩ = some (.string en) ∧ W.cell? ⟨zQ, 1, none⟩ = some (.int .i64 ex) ∧ W.cell? ⟨zQ, 2, none⟩ = some (.bool ew)) := fun W o' st =>
              ⟨⟨(hM.frame st (by simp)).cell 0, (hM.frame st (by simp)).cell 1⟩, ⟨(hA.frame st (by simp)).cell 0, (hA.frame st (by simp)).cell 1, (hA.frame st (by simp)).cell 2⟩, ⟨(c3.nil st).cells.1, (c3.nil st).cells.2.1, (c3.nil st).cells.2.2.1⟩⟩
            have hmkQ : ∀ W oW, Step [] wQ o14 W oW → Calls Try.prog 14 #[.pointer (some ⟨b, 0, none⟩)] W fun e w' => e = .returned (.agg #[.int .i64 N0, .int .i64 1]) ∧ Step [] W oW w' oW := fun W oW st => by
              have := mark_ok (hdbQ.nil st)
              rw [show (sH ws).ws.length = ws.length from rfl, HN0.out] at this
              exact this
            refine q_start (fun W => ∃ o', Step [] wQ o14 W o') (by kernel_rfl) ⟨_, (Step.refl _ _ _).drew⟩ ?_
            repeat (first
              | (refine q_off (by rfl) ?_; simp only [Act.put, List.setIfInBounds_toArray, List.set_cons_zero, List.set_cons_succ])
              | (refine q_on (by rfl) ?_; apply Exists.intro; refine ⟨fun W hW => ?_, ?_⟩; (obtain ⟨oW, sW⟩ := hW; obtain ⟨⟨m0, m1⟩, ⟨a0, a1, a2⟩, ⟨x0, x1, x2⟩⟩ := hmm W oW sW; go_simp; first | done | with_reducible rfl | (go_at_call 14; exact (hmkQ _ _ sW).mono fun e w' k => ⟨k.1, oW, sW.trans k.2⟩)); simp only [Act.put, List.setIfInBounds_toArray, List.set_cons_zero, List.set_cons_succ])
              | fail)
            refine q_end ?_
            rintro wz ⟨oz, sz⟩
            go_wp2_with fail
            go_ret
            exact ⟨rfl, (hB3.step sz (by simp)).below⟩
end Go.Proofs.Ytaledmoakhlmgaa
