/- DictLists: the walk. -/
import Derived.Test.YtaledmoakhlmgaaDicX
import Derived.Test.YtaledmoakhlmgaaDicD
import Derived.Test.YtaledmoakhlmgaaShown09
import Derived.Test.YtaledmoakhlmgaaListsL
import Derived.Test.YtaledmoakhlmgaaNamesL
import Derived.Deep.CutRange
import Derived.Deep.RegionHeld3
namespace Go.Proofs.Ytaledmoakhlmgaa
open Go Go.RowKit
set_option linter.unusedSimpArgs false
set_option linter.unusedVariables false

theorem names_len (k : Int) : ∀ l : List Wd, (names k l).length ≤ l.length
  | [] => Nat.le_refl _
  | x :: r => by
    have := names_len k r
    rw [names_cons]
    split <;> simp <;> omega
theorem namesD_len (s : Dst) (k : Int) : (namesD s k).length ≤ s.ws.length := by
  unfold namesD
  split
  · exact names_len _ _
  · simp
theorem run_min_three {P : Program} (w : World) (ts : Array TypeId) (t : TypeId) (k k' k'' : IntKind) (x y z : Int) : (Builtin.min_ ts t #[.int k x, .int k' y, .int k'' z]).run P w = .ok (.int k (min (min x y) z)) w := by
  rw [run_min_int3]
  congr 2
  simp only [Int.min_def]
  split <;> split <;> split <;> omega
attribute [simp] run_min_three

theorem mk9 (w : World) : (Instr.makeSlice 41 (.int .i64 9) (.int .i64 9)).run Try.prog w = .ok (.slice (some ⟨w.heap.size, 0, none⟩) 9 9) (w.alloc (.cells #[.pointer none, .pointer none, .pointer none, .pointer none, .pointer none, .pointer none, .pointer none, .pointer none, .pointer none] 24)) := by
  obtain ⟨inf, hi, hz, hsz, hby⟩ := info_parts (show (Try.prog.info? 24).map (fun i => (i.zero, i.size, i.bytes)) = some (some (.pointer none), 1, 8) by kernel_rfl)
  have := run_makeSlice (P := Try.prog) w 41 24 inf (.pointer none) Try.underlying41 hi hz .i64 .i64 9 9 (by decide) (by decide) (by rw [hsz]; decide) (by rw [hby]; decide) (by decide)
  have hmc : madeCells (Value.pointer none).cells (Int.toNat 9 * 1) = #[.pointer none, .pointer none, .pointer none, .pointer none, .pointer none, .pointer none, .pointer none, .pointer none, .pointer none] := by kernel_rfl
  rw [this, hsz, hmc]
  rfl

abbrev pts (bs : List Nat) : List Value := bs.map fun b => .pointer (some ⟨b, 0, none⟩)
/-- The row of pointers, as far as it is filled. -/
def ptc (bs : List Nat) : List Value := pts bs ++ List.replicate (9 - bs.length) (.pointer none)
theorem ptc_len {bs : List Nat} (h : bs.length ≤ 9) : (ptc bs).length = 9 := by simp [ptc]; omega
theorem ptc_set {bs : List Nat} (h : bs.length < 9) (b : Nat) : (ptc bs).set bs.length (.pointer (some ⟨b, 0, none⟩)) = ptc (bs ++ [b]) := by
  unfold ptc
  rw [List.set_append_right _ _ (by simp)]
  obtain ⟨k, hk⟩ : ∃ k, 9 - bs.length = k + 1 := ⟨9 - bs.length - 1, by omega⟩
  have hk2 : 9 - (bs ++ [b]).length = k := by rw [List.length_append]; simp; omega
  rw [hk, hk2]
  simp [List.replicate_succ]
theorem ptc_at {bs : List Nat} {k b : Nat} (h : bs[k]? = some b) : (ptc bs)[k]? = some (.pointer (some ⟨b, 0, none⟩)) := by
  unfold ptc
  have hk : k < bs.length := (List.getElem?_eq_some_iff.1 h).1
  rw [List.getElem?_append_left (by simpa using hk), List.getElem?_map, h]
  rfl

/-- The dictionaries of their own, each of its own owners. -/
def OwnAll (w : World) (o : Owner) (bs : List Nat) (f : Nat → Dst) (N : Nat) : Prop := ∀ k b, bs[k]? = some b → DB w o (100 + 10 * k) b (f k) N
theorem OwnAll.frame {S : List Nat} {w w' : World} {o o' : Owner} {bs : List Nat} {f : Nat → Dst} {N : Nat} (h : OwnAll w o bs f N) (st : Step S w o w' o') (hS : ∀ x ∈ S, x < 100) : OwnAll w' o' bs f N := fun k b hb =>
  (h k b hb).frame st (fun hx => by have := hS _ hx; omega) (fun hx => by have := hS _ hx; omega) (fun hx => by have := hS _ hx; omega) (fun hx => by have := hS _ hx; omega)
theorem OwnAll.nil {w w' : World} {o o' : Owner} {bs : List Nat} {f : Nat → Dst} {N : Nat} (h : OwnAll w o bs f N) (st : Step [] w o w' o') : OwnAll w' o' bs f N := h.frame st (by simp)
theorem OwnAll.push {w : World} {o : Owner} {bs : List Nat} {f : Nat → Dst} {N b : Nat} (h : OwnAll w o bs f N) (hb : DB w o (100 + 10 * bs.length) b (f bs.length) N) : OwnAll w o (bs ++ [b]) f N := fun k c hc => by
  rcases Nat.lt_or_ge k bs.length with hk | hk
  · rw [List.getElem?_append_left hk] at hc
    exact h k c hc
  · rw [List.getElem?_append_right hk] at hc
    have : k = bs.length := by
      rcases Nat.lt_or_ge (k - bs.length) 1 with h0 | h0
      · omega
      · rw [List.getElem?_eq_none (by simpa using h0)] at hc; cases hc
    subst this
    simp at hc
    subst hc
    exact hb
theorem OwnAll.one {w w' : World} {o o' : Owner} {bs : List Nat} {f g : Nat → Dst} {N N' j b : Nat} (h : OwnAll w o bs f N) (hN : N ≤ N') (hj : bs[j]? = some b) {S : List Nat} (st : Step S w o w' o') (hS : ∀ x ∈ S, 100 + 10 * j ≤ x ∧ x < 110 + 10 * j)
    (hg : ∀ k, k ≠ j → g k = f k) (hb : DB w' o' (100 + 10 * j) b (g j) N') : OwnAll w' o' bs g N' := fun k c hc => by
  by_cases hk : k = j
  · subst hk
    rw [hj] at hc
    obtain rfl := Option.some.inj hc
    exact hb
  · rw [hg k hk]
    exact ((h k c hc).frame st (fun hx => by have := hS _ hx; omega) (fun hx => by have := hS _ hx; omega) (fun hx => by have := hS _ hx; omega) (fun hx => by have := hS _ hx; omega)).mono hN

set_option maxRecDepth 100000 in
set_option maxHeartbeats 8000000 in
theorem lists_walk {w : World} {v0 v1 : Value} {z0 : List ByteArray} {z1 : List Int} (h0 : Rd w (fun _ => 0) 0 1 v0 z0.length (strs z0)) (hs0 : ∀ s ∈ z0, s.size ≤ maxLen)
    (h1 : Rd w (fun _ => 0) 0 1 v1 z1.length (z1.map (Value.int .u8))) (hz1 : ∀ n ∈ z1, 0 ≤ n ∧ n ≤ 255) :
    Calls Try.prog 4 #[v0, v1] w fun e w' => e = .returned (.bool true) ∧ Below w.heap.size w w' := by
  obtain ⟨ao, ca, rfl, g1, g2, g3, g4⟩ := h0
  obtain ⟨bo, cb, rfl, k1, k2, k3, k4⟩ := h1
  obtain ⟨n, hn⟩ : ∃ n, z0.length = n := ⟨_, rfl⟩
  obtain ⟨m, hm⟩ : ∃ m, z1.length = m := ⟨_, rfl⟩
  rw [hn] at g1 g4
  rw [hm] at k1 k4
  rw [hn, hm]
  have HN := Lib.hid hn
  have HM := Lib.hid hm
  have HG := Lib.hid g4
  have HK := Lib.hid k4
  unfold maxLen at g2 k2 hs0
  clear g3 g4 k3 k4 hn hm
  have hmk := mk9
  go_enter Try.func4, Try.ntmps4
  go_wp2_with fail
  refine (shown_ok w (fun _ => 0)).mono ?_
  rintro e w1 ⟨rfl, s1⟩
  go_wp2_with fail
  refine (new_ok w1 (fun _ => 0) 10).mono ?_
  rintro e w2 ⟨b, o2, rfl, h2, s2⟩
  have hB := ((Base.start w).step s1 (by decide)).step s2 (by decide)
  clear s1 s2
  go_wp2_with fail
  go_loopg [24] 7 (fun g a wr => ∃ (j : Nat) (o' : Owner), g = 7 - j ∧ j ≤ 7 ∧ a = .int .i64 j ∧ DB wr o' 10 b (dL j) (2 + j) ∧ Base w wr o')
  case atStart => exact ⟨0, o2, rfl, Nat.zero_le _, rfl, h2, hB⟩
  case round =>
    obtain ⟨j, o3, hg, hj, rfl, hdb, hB3⟩ := hrel
    have HQ := Lib.hid hg
    clear hg h2 hB
    by_cases hlt : j < 7
    · have hji : (j : Int) < 7 := by omega
      have hls := list_ok hdb (by omega)
      rw [dL_list hlt] at hls
      clear hdb
      go_wp2_with fail
      refine hls.mono ?_
      rintro e w4 ⟨rfl, hdb, s4⟩
      go_wp2_with fail
      go_roundg (7 - (j + 1))
      case measure => rw [HQ.out]; omega
      case rel => exact ⟨j + 1, o3, rfl, by omega, by go_num, hdb.mono (by omega), hB3.step s4 (by decide)⟩
    · obtain rfl : j = 7 := by omega
      rw [dL_end] at hdb
      have s4 : Step [] wr o3 (wr.alloc (.cells #[.pointer none, .pointer none, .pointer none, .pointer none, .pointer none, .pointer none, .pointer none, .pointer none, .pointer none] 24)) (o3.set wr.heap.size 20) := ((Step.refl _ _ _).alloc _).give (Nat.le_refl _) _
      have hrow : Rowx (wr.alloc (.cells #[.pointer none, .pointer none, .pointer none, .pointer none, .pointer none, .pointer none, .pointer none, .pointer none, .pointer none] 24)) (o3.set wr.heap.size 20) 20 24 1 wr.heap.size 9 9 (ptc []) :=
        ⟨rfl, Owner.set_self _ _ _, Nat.le_refl _, by decide, _, heap_alloc_new _ _, rfl, rfl⟩
      replace hdb := hdb.nil s4
      replace hB3 := hB3.step s4 (by decide)
      obtain ⟨z, hz⟩ : ∃ z, wr.heap.size = z := ⟨_, rfl⟩
      have hz2 := hz
      rw [hz] at hrow hdb hB3
      have HZ := Lib.hid hz
      clear hlt s4 hz2
      go_wp2_with fail
      clear hz
      go_loopg [8, 32] 9 (fun g a8 a wy => ∃ (j : Nat) (bs : List Nat) (o' : Owner), g = 9 - j ∧ j ≤ 9 ∧ a = .int .i64 j ∧ Hid (bs.length = j) ∧ Rowx wy o' 20 24 1 z 9 9 (ptc bs) ∧ DB wy o' 10 b (dA [] 1) 9 ∧ OwnAll wy o' bs (fun _ => new0) 2 ∧ Base w wy o')
      case atStart => exact ⟨0, [], _, rfl, Nat.zero_le _, rfl, Lib.hid rfl, hrow, hdb, (fun k b hb => by cases hb), hB3⟩
      case round =>
        obtain ⟨j, bs, o5, hg, hj, rfl, HBS, hrow, hdb, hown, hB5⟩ := hrel
        have HQ := Lib.hid hg
        clear hg hB3
        by_cases hlt : j < 9
        · have hji : (j : Int) < 9 := by omega
          have hnew := new_ok wr o5 (100 + 10 * bs.length)
          go_wp2_with fail
          refine hnew.mono ?_
          rintro e w6 ⟨b6, o6, rfl, h6, s6⟩
          replace hrow := hrow.frame s6 (by simp)
          obtain ⟨e1, e2⟩ := hrow.spare (j := j) (by omega)
          obtain ⟨ev, e1⟩ := Option.isSome_iff_exists.1 e1
          go_wp2_with fail
          go_roundg (9 - (j + 1))
          case measure => rw [HQ.out]; omega
          case rel =>
            have s7 : Step [20] w6 o6 (w6.setCell ⟨z, j, none⟩ (.pointer (some ⟨b6, 0, none⟩))) o6 := (Step.refl _ _ _).setCell (fun _ => by simp [hrow.own]) _
            refine ⟨j + 1, bs ++ [b6], o6, rfl, by omega, by go_num, Lib.hid (by rw [List.length_append, HBS.out]; rfl), ?_, (hdb.nil s6).frame s7 (by simp) (by simp) (by simp) (by simp), ((hown.nil s6).push h6).frame s7 (by simp), (hB5.step s6 (by simp)).step s7 (by simp)⟩
            have := hrow.setElem j (.pointer (some ⟨b6, 0, none⟩))
            rw [← ptc_set (by rw [HBS.out]; exact hlt), HBS.out]
            exact this
        · obtain rfl : j = 9 := by omega
          clear hlt
          obtain ⟨L, hL⟩ : ∃ L : Nat, min (min (n : Int) (m : Int)) 20 = (L : Int) := ⟨min (min n m) 20, by omega⟩
          have hLn : L ≤ n := by omega
          have hLm : L ≤ m := by omega
          have hL20 : L ≤ 20 := by omega
          have hLc : (L : Int) ≤ ca := by omega
          have hL0 : (0 : Int) ≤ L := by omega
          go_wp2_with fail
          go_loopg [48] L (fun g a wy => ∃ (q : Nat) (ws : List Wd) (c : Int) (o' : Owner), g = L - q ∧ q ≤ L ∧ a = .int .i64 q ∧ Hid (ws.length ≤ q) ∧ Rowx wy o' 20 24 1 z 9 9 (ptc bs) ∧ DB wy o' 10 b (dA ws c) (9 + q) ∧ OwnAll wy o' bs (fun k => ownD k ws) (2 + q) ∧ Base w wy o')
          case atStart => exact ⟨0, [], 1, o5, rfl, Nat.zero_le _, rfl, Lib.hid (Nat.le_refl _), hrow, hdb, hown, hB5⟩
          case round =>
            obtain ⟨q, ws, c, o7, hg, hq, rfl, HWL, hrow7, hdb7, hown7, hB7⟩ := hrel
            have HQ7 := Lib.hid hg
            clear hg hrow hdb hown hB5
            by_cases hlt : q < L
            · have hqi : (q : Int) < L := by omega
              have hqm : (q : Int) < m := by omega
              obtain ⟨x, hx⟩ : ∃ x, z0[q]? = some x := ⟨_, List.getElem?_eq_getElem (by rw [HN.out]; omega)⟩
              obtain ⟨y, hy⟩ : ∃ y, z1[q]? = some y := ⟨_, List.getElem?_eq_getElem (by rw [HM.out]; omega)⟩
              have hy2 := hz1 y (List.mem_of_getElem? hy)
              have hx2 := hs0 x (List.mem_of_getElem? hx)
              obtain ⟨b1, off1, rfl, hb1, ho1, hc1⟩ := HG.out (by omega)
              obtain ⟨b2, off2, rfl, hb2, ho2, hc2⟩ := HK.out (by omega)
              have e1 := (World.cell?_of_block (a := ⟨b1, off1 + q, none⟩) (hB7.below.block b1 hb1)).trans (hc1 q (.string x) (by rw [List.getElem?_map, hx]; rfl))
              have e2 := (World.cell?_of_block (a := ⟨b2, off2 + q, none⟩) (hB7.below.block b2 hb2)).trans (hc2 q (.int .u8 y) (by rw [List.getElem?_map, hy]; rfl))
              obtain ⟨t, ht⟩ : ∃ t, x.extract 0 (min (x.size : Int) 31).toNat = t := ⟨_, rfl⟩
              have ht31 : t.size ≤ 31 := by rw [← ht]; exact cut31_size x
              have hm1 : (0 : Int) ≤ min (x.size : Int) 31 := by omega
              have hm2 : min (x.size : Int) 31 ≤ x.size := by omega
              have hem := em_nm t
              obtain ⟨k, hk⟩ : ∃ k : Nat, y % 8 + 1 = (k : Int) := ⟨(y % 8 + 1).toNat, by omega⟩
              have hk1 : 1 ≤ k := by omega
              have hk8 : k ≤ 8 := by omega
              have sd : Step [] wr o7 wr.drew o7 := (Step.refl _ _ _).drew
              replace hdb7 := hdb7.nil sd
              replace hown7 := hown7.nil sd
              replace hrow7 := hrow7.frame sd (by simp)
              replace hB7 := hB7.step sd (by simp)
              clear hc1 hc2 hx hy sd
              by_cases ht0 : t.size = 0
              · rw [decide_eq_true ht0] at hem
                go_wp2_with fail
                go_region
                go_wp2_with fail
                go_roundg (L - (q + 1))
                case measure => rw [HQ7.out]; omega
                case rel => exact ⟨q + 1, ws, c, o7, rfl, by omega, by go_num, Lib.hid (by have := HWL.out; omega), hrow7, hdb7.mono (by omega), (fun k b hb => (hown7 k b hb).mono (by omega)), hB7⟩
              · rw [decide_eq_false ht0] at hem
                have hwl2 : ws.length < 2000 := by have := HWL.out; omega
                obtain ⟨bk, hbk⟩ : ∃ bk, bs[k]? = some bk := ⟨_, List.getElem?_eq_getElem (by rw [HBS.out]; omega)⟩
                obtain ⟨hcE, hcS⟩ := lists_cur (ws := ws) (c := c) (k := k) (by omega) (by omega)
                obtain ⟨haE, haS⟩ := lists_add (ws := ws) (k := k) ht0 ht31 hwl2 q
                obtain ⟨hoE, hoS⟩ := lists_own (ws := ws) (k := k) ht0 ht31 hwl2 q
                have hcur := cur_ok hdb7 k
                rw [hcE, hcS] at hcur
                have hrk := ptc_at hbk
                have hki : (k : Int) < 9 := by omega
                have hk0 : (0 : Int) ≤ k := by omega
                have HBK := Lib.hid hbk
                have HRK := Lib.hid hrk
                have HA := Lib.hid (And.intro haE haS)
                have HO := Lib.hid (And.intro hoE hoS)
                clear hcE hcS haE haS hoE hoS hbk hrk ht0
                go_wp2_with fail
                go_region
                go_wp2_with fail
                refine hcur.mono ?_
                rintro e w5 ⟨rfl, hdb5, s5⟩
                have hadd := add_ok hdb5 (by omega) t (by omega) q
                rw [HA.out.1, HA.out.2] at hadd
                replace hown7 := hown7.frame s5 (by simp)
                replace hrow7 := hrow7.frame s5 (by simp)
                replace hB7 := hB7.step s5 (by simp)
                clear hcur hdb7 s5
                go_wp2_with fail
                refine hadd.mono ?_
                rintro e w6 ⟨rfl, o6, hdb6, s6⟩
                replace hown7 := hown7.frame s6 (by simp)
                replace hrow7 := hrow7.frame s6 (by simp)
                replace hB7 := hB7.step s6 (by simp)
                have hadd2 := add_ok (hown7 k bk HBK.out) (by omega) t (by omega) q
                rw [HO.out.1, HO.out.2] at hadd2
                have e3 := hrow7.cell HRK.out
                clear hadd hdb5 s6
                go_wp2_with fail
                refine hadd2.mono ?_
                rintro e w8 ⟨rfl, o8, hdb8, s8⟩
                go_wp2_with fail
                go_roundg (L - (q + 1))
                case measure => rw [HQ7.out]; omega
                case rel =>
                  refine ⟨q + 1, ⟨t, q, false, k⟩ :: ws, k, o8, rfl, by omega, by go_num, Lib.hid (by have := HWL.out; rw [List.length_cons]; omega), hrow7.frame s8 (by simp; omega), (hdb6.frame s8 (by simp; omega) (by simp; omega) (by simp; omega) (by simp; omega)).mono (by omega), ?_, hB7.step s8 (by simp; omega)⟩
                  refine hown7.one (N' := 2 + (q + 1)) (by omega) HBK.out s8 (by simp; omega) (fun j hj => lists_other (by omega) _ _ _) (hdb8.mono (by omega))
            · obtain rfl : q = L := by omega
              clear hlt
              have hwl20 : ws.length ≤ 20 := by have := HWL.out; omega
              have hc1 : 1 ≤ c := hdb7.ok.c1
              obtain ⟨L2, hL2⟩ : ∃ L2 : Nat, min (n : Int) 20 = (L2 : Int) := ⟨min n 20, by omega⟩
              have hL2n : L2 ≤ n := by omega
              have hL2c : (L2 : Int) ≤ ca := by omega
              have hL20' : (0 : Int) ≤ L2 := by omega
              go_wp2_with fail
              go_loopg [13] 8 (fun g a wy => ∃ (k : Nat) (o' : Owner), g = 9 - k ∧ 1 ≤ k ∧ k ≤ 9 ∧ a = .int .i64 k ∧ Rowx wy o' 20 24 1 z 9 9 (ptc bs) ∧ DB wy o' 10 b (dA ws c) 29 ∧ OwnAll wy o' bs (fun k => ownD k ws) 22 ∧ Base w wy o')
              case atStart => exact ⟨1, o7, rfl, Nat.le_refl _, by decide, rfl, hrow7, hdb7.mono (by omega), (fun k b hb => (hown7 k b hb).mono (by omega)), hB7⟩
              case round =>
                obtain ⟨k, o8, hg, hk1, hk9, rfl, hrow8, hdb8, hown8, hB8⟩ := hrel
                have HQ8 := Lib.hid hg
                clear hg hrow7 hdb7 hown7 hB7
                by_cases hlt : k ≤ 8
                · have hki : (k : Int) ≤ 8 := by omega
                  have hki9 : (k : Int) < 9 := by omega
                  obtain ⟨bk, hbk⟩ : ∃ bk, bs[k]? = some bk := ⟨_, List.getElem?_eq_getElem (by rw [HBS.out]; omega)⟩
                  have HBK := Lib.hid hbk
                  have HRK := Lib.hid (ptc_at hbk)
                  obtain ⟨R, hR⟩ : ∃ R, namesD (dA ws c) k = R := ⟨_, rfl⟩
                  have hR2 : namesD (ownD k ws) 1 = R := by rw [← hR]; exact lists_names (by omega) (by omega)
                  have hRl : R.length ≤ 1000000 := by
                    have : R.length ≤ ws.length := by rw [← hR]; exact namesD_len _ _
                    omega
                  have sd : Step [] wr o8 wr.drew o8 := (Step.refl _ _ _).drew
                  have hrowD := hrow8.frame sd (by simp)
                  have hdbD := hdb8.nil sd
                  have hownD := hown8.nil sd
                  have hBD := hB8.step sd (by simp)
                  have hN1 : ∀ W oW, Step [22] wr.drew o8 W oW → Calls Try.prog 13 #[.pointer (some ⟨b, 0, none⟩), .int .i64 k] W fun e w' => ∃ v o', e = .returned v ∧ Row w' o' 21 9 1 v R.length (strs R) ∧ Step [21] W oW w' o' := fun W oW st => by
                    have := names_ok (hdbD.frame st (by simp) (by simp) (by simp) (by simp)) k ⟨by omega, by omega⟩ 21 (by simp) (by simp) (by simp) (by simp)
                    rw [hR] at this
                    exact this
                  have hN2 : ∀ W oW, Step [21] wr.drew o8 W oW → Calls Try.prog 13 #[.pointer (some ⟨bk, 0, none⟩), .int .i64 1] W fun e w' => ∃ v o', e = .returned v ∧ Row w' o' 22 9 1 v R.length (strs R) ∧ Step [22] W oW w' o' := fun W oW st => by
                    have := names_ok ((hownD k bk HBK.out).frame st (by simp; omega) (by simp; omega) (by simp; omega) (by simp; omega)) 1 ⟨by decide, by decide⟩ 22 (by omega) (by omega) (by omega) (by omega)
                    rw [hR2] at this
                    exact this
                  clear hrow8 hdb8 hown8 hB8 sd hR hR2 hbk
                  go_wp2_with fail
                  go_region_held3 (fun W => W.cell? ⟨z, k, none⟩ = some (.pointer (some ⟨bk, 0, none⟩)))
                    (exact hrowD.cell HRK.out)
                    (first
                      | (go_at_call_of 13 (#[Value.pointer (some ⟨b, 0, none⟩), Value.int IntKind.i64 (k : Int)]); (first | (refine (hN1 _ _ (Step.refl _ _ _)).mono ?_; rintro e w5 ⟨v5, p5, rfl, hr5, s5⟩) | (refine (hN1 _ _ s6).mono ?_; rintro e w5 ⟨v5, p5, rfl, hr5, s5⟩; replace hr6 := hr6.frame s5 (by simp))); replace hrowD := hrowD.frame s5 (by simp); replace hdbD := hdbD.frame s5 (by simp) (by simp) (by simp) (by simp); replace hownD := hownD.frame s5 (by simp); replace hBD := hBD.step s5 (by simp))
                      | (go_at_call_of 13 (#[Value.pointer (some ⟨bk, 0, none⟩), Value.int IntKind.i64 1]); (first | (refine (hN2 _ _ (Step.refl _ _ _)).mono ?_; rintro e w6 ⟨v6, p6, rfl, hr6, s6⟩) | (refine (hN2 _ _ s5).mono ?_; rintro e w6 ⟨v6, p6, rfl, hr6, s6⟩; replace hr5 := hr5.frame s6 (by simp))); replace hrowD := hrowD.frame s6 (by simp); replace hdbD := hdbD.frame s6 (by simp) (by simp) (by simp) (by simp); replace hownD := hownD.frame s6 (by simp); replace hBD := hBD.step s6 (by simp))
                      | (go_at_call 12; refine (texts_ok hr5.rd hr6.rd hRl hRl).mono ?_; rintro e w9 ⟨rfl, s9⟩; replace hrowD := hrowD.frame s9 (by simp); replace hdbD := hdbD.nil s9; replace hownD := hownD.nil s9; replace hBD := hBD.step s9 (by simp)))
                  all_goals
                    go_wp2_with fail
                    go_loopg [15, 16, 17, 18, 19, 111] L2 (fun g a15 a16 a17 a18 a19 a wy => ∃ (q : Nat) (o' : Owner), g = L2 - q ∧ q ≤ L2 ∧ a = .int .i64 q ∧ Rowx wy o' 20 24 1 z 9 9 (ptc bs) ∧ DB wy o' 10 b (dA ws c) 29 ∧ OwnAll wy o' bs (fun k => ownD k ws) 22 ∧ Base w wy o')
                    case atStart => exact ⟨0, _, rfl, Nat.zero_le _, rfl, hrowD, hdbD, hownD, hBD⟩
                    case round =>
                      obtain ⟨q, o4, hg, hq, rfl, hrow4, hdb4, hown4, hB4⟩ := hrel
                      have HQ4 := Lib.hid hg
                      clear hg hrowD hdbD hownD hBD
                      by_cases hlt2 : q < L2
                      · have hqi : (q : Int) < L2 := by omega
                        obtain ⟨x, hx⟩ : ∃ x, z0[q]? = some x := ⟨_, List.getElem?_eq_getElem (by rw [HN.out]; omega)⟩
                        have hx2 := hs0 x (List.mem_of_getElem? hx)
                        obtain ⟨b1, off1, rfl, hb1, ho1, hc1'⟩ := HG.out (by omega)
                        have e1 := (World.cell?_of_block (a := ⟨b1, off1 + q, none⟩) (hB4.below.block b1 hb1)).trans (hc1' q (.string x) (by rw [List.getElem?_map, hx]; rfl))
                        have hin := in_ok hdb4 k ⟨by omega, by omega⟩ x (by omega)
                        have hfe : entV (findD (ownD k ws) x) = entV (inD (dA ws c) k x) := lists_find (by omega) (by omega) x
                        obtain ⟨E, hE⟩ : ∃ E, inD (dA ws c) k x = E := ⟨_, rfl⟩
                        rw [hE] at hin hfe
                        have HFE := Lib.hid hfe
                        have HDB4 := hdb4
                        clear hx hc1' hdb4 hfe
                        cases E with
                        | none =>
                          rw [show entV none = .tuple #[.agg #[.string ⟨#[]⟩, .int .i64 0, .bool false], .bool false] from rfl] at hin
                          go_wp2_with fail
                          refine hin.mono ?_
                          rintro e w5 ⟨rfl, s5⟩
                          have sA := (s5.alloc (.cells #[.string ⟨#[]⟩, .int .i64 0, .bool false] 34))
                          have E5 := E3.new w5 (.string ⟨#[]⟩) (.int .i64 0) (.bool false)
                          have e3 := (hrow4.frame sA (by simp)).cell HRK.out
                          have e1A := (sA.cell (a := ⟨b1, off1 + q, none⟩) (Nat.lt_of_lt_of_le hb1 hB4.below.size) (by simp)).trans e1
                          have hfi := find_ok ((hown4 k bk HBK.out).nil sA) x (by omega)
                          rw [HFE.out, show entV none = .tuple #[.agg #[.string ⟨#[]⟩, .int .i64 0, .bool false], .bool false] from rfl] at hfi
                          clear hin
                          go_wp2_with fail
                          refine hfi.mono ?_
                          rintro e w6 ⟨rfl, o6, s6⟩
                          have sB := (Step.refl [] w6 o6).alloc (.cells #[.string ⟨#[]⟩, .int .i64 0, .bool false] 34)
                          obtain ⟨x0, x1, x2, -⟩ := ((E5.nil s6).nil sB).cells
                          obtain ⟨y0, y1, y2, -⟩ := (E3.new w6 (.string ⟨#[]⟩) (.int .i64 0) (.bool false)).cells
                          have S6 := (sA.trans s6).trans sB
                          clear hfi
                          go_wp2_with fail
                          go_roundg (L2 - (q + 1))
                          case measure => rw [HQ4.out]; omega
                          case rel => exact ⟨q + 1, _, rfl, by omega, by go_num, hrow4.frame S6 (by simp), HDB4.nil S6, hown4.nil S6, hB4.step S6 (by simp)⟩
                        | some xw =>
                          rw [show entV (some xw) = .tuple #[.agg #[.string xw.nm, .int .i64 xw.xt, .bool xw.now], .bool true] from rfl] at hin
                          go_wp2_with fail
                          refine hin.mono ?_
                          rintro e w5 ⟨rfl, s5⟩
                          have sA := (s5.alloc (.cells #[.string xw.nm, .int .i64 xw.xt, .bool xw.now] 34))
                          have E5 := E3.new w5 (.string xw.nm) (.int .i64 xw.xt) (.bool xw.now)
                          have e3 := (hrow4.frame sA (by simp)).cell HRK.out
                          have hfi := find_ok ((hown4 k bk HBK.out).nil sA) x (by omega)
                          rw [HFE.out, show entV (some xw) = .tuple #[.agg #[.string xw.nm, .int .i64 xw.xt, .bool xw.now], .bool true] from rfl] at hfi
                          clear hin
                          go_wp2_with fail
                          refine hfi.mono ?_
                          rintro e w6 ⟨rfl, o6, s6⟩
                          have sB := (Step.refl [] w6 o6).alloc (.cells #[.string xw.nm, .int .i64 xw.xt, .bool xw.now] 34)
                          obtain ⟨x0, x1, x2, -⟩ := ((E5.nil s6).nil sB).cells
                          obtain ⟨y0, y1, y2, -⟩ := (E3.new w6 (.string xw.nm) (.int .i64 xw.xt) (.bool xw.now)).cells
                          have S6 := (sA.trans s6).trans sB
                          have hxy := teq xw.nm xw.nm
                          rw [decide_eq_true rfl] at hxy
                          clear hfi
                          go_wp2_with fail
                          go_roundg (L2 - (q + 1))
                          case measure => rw [HQ4.out]; omega
                          case rel => exact ⟨q + 1, _, rfl, by omega, by go_num, hrow4.frame S6 (by simp), HDB4.nil S6, hown4.nil S6, hB4.step S6 (by simp)⟩
                      · obtain rfl : q = L2 := by omega
                        clear hlt2
                        go_wp2_with fail
                        go_roundg (9 - (k + 1))
                        case measure => rw [HQ8.out]; omega
                        case rel => exact ⟨k + 1, _, rfl, by omega, by omega, by go_num, hrow4, hdb4, hown4, hB4⟩
                · obtain rfl : k = 9 := by omega
                  have hcu := current_ok hdb8
                  rw [show (dA ws c).cur = c from rfl] at hcu
                  clear hlt
                  go_wp2_with fail
                  refine hcu.mono ?_
                  rintro e w5 ⟨rfl, rfl⟩
                  go_wp2_with fail
                  go_ret
                  exact ⟨rfl, hB8.below⟩
end Go.Proofs.Ytaledmoakhlmgaa
