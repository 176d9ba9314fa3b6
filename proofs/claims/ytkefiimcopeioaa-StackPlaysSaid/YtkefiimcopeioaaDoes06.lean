/- An act, done to the stack and to the document's: the answers are the same. -/
import Derived.Test.YtkefiimcopeioaaRstG
import Derived.Test.YtkefiimcopeioaaDoLaws
import Derived.Test.YtkefiimcopeioaaSame
import Derived.Laws.OwnMore
import Derived.Deep.RegionHeld3
namespace Go.Proofs.Ytkefiimcopeioaa
open Go Go.RowKit
set_option linter.unusedSimpArgs false
set_option linter.unusedVariables false

theorem mask_le (x : Int) (m : Nat) (hm : m < 9223372036854775808) : 0 ≤ bits .and .i64 x m ∧ bits .and .i64 x m ≤ m := by
  have h1 : (BitVec.ofInt 64 x &&& BitVec.ofInt 64 (m : Int)).toNat ≤ m := by
    rw [BitVec.toNat_and]
    refine Nat.le_trans Nat.and_le_right ?_
    rw [BitVec.ofInt_natCast, BitVec.toNat_ofNat]
    exact Nat.mod_le _ _
  have e : bits .and .i64 x m = IntKind.i64.wrap ((BitVec.ofInt 64 x &&& BitVec.ofInt 64 (m : Int)).toNat : Int) := rfl
  rw [e]
  generalize (BitVec.ofInt 64 x &&& BitVec.ofInt 64 (m : Int)).toNat = k at h1
  have : IntKind.i64.wrap (k : Int) = k := by simp [IntKind.wrap, IntKind.signed, IntKind.bits]; omega
  rw [this]
  omega

theorem mask_nat (x : Int) (m : Nat) (hm : m < 9223372036854775808) : ∃ n : Nat, bits .and .i64 x m = (n : Int) ∧ n ≤ m := by
  obtain ⟨h1, h2⟩ := mask_le x m hm
  exact ⟨(bits .and .i64 x m).toNat, by omega, by omega⟩

theorem mkN (n : Nat) (hn : n ≤ 100000) (w : World) : (Instr.makeSlice 22 (.int .i64 n) (.int .i64 n)).run Try.prog w = .ok (.slice (some ⟨w.heap.size, 0, none⟩) n n) (w.alloc (.cells (ints (List.replicate n 0)).toArray 35)) := by
  obtain ⟨inf, hi, hz, hsz, hby⟩ := info_parts info35
  have := run_makeSlice (P := Try.prog) w 22 35 inf (.int .i64 0) Try.underlying22 hi hz .i64 .i64 n n (by omega) (by omega) (by rw [hsz]; omega) (by rw [hby]; omega) (by omega)
  have hmc : madeCells (Value.int .i64 0).cells ((n : Int).toNat * 1) = (ints (List.replicate n 0)).toArray := by
    apply Array.toList_inj.1
    show (madeCells #[Value.int .i64 0] _).toList = _
    rw [toList_madeCells_one]
    simp [ints]
  rw [this, hsz, hmc]
  rfl

/-- What a row is filled with: x, and one more each. -/
def fillL (x : Int) (n q : Nat) : List Int := (List.range n).map fun i => if i < q then IntKind.i64.wrap (x + i) else 0
theorem fillL_len (x : Int) (n q : Nat) : (fillL x n q).length = n := by simp [fillL]
theorem fillL_zero (x : Int) (n : Nat) : fillL x n 0 = List.replicate n 0 := by
  unfold fillL
  apply List.ext_getElem (by simp)
  intro i h1 h2
  simp
theorem fillL_step (x : Int) (n q : Nat) : (ints (fillL x n q)).set q (.int .i64 (IntKind.i64.wrap (x + q))) = ints (fillL x n (q + 1)) := by
  unfold fillL
  apply List.ext_getElem (by simp)
  intro i h1 h2
  rw [List.getElem_set]
  split
  · next h => subst h; simp
  · next h => simp [show (i < q ↔ i < q + 1) by omega]
theorem wrap_i64 (x : Int) : I64 (IntKind.i64.wrap x) := by
  unfold I64
  simp only [IntKind.wrap, IntKind.signed, IntKind.bits]
  have h1 := Int.bmod_lt (x := x) (m := 2 ^ 64) (by decide)
  have h2 := Int.le_bmod (x := x) (m := 2 ^ 64) (by decide)
  simp at *
  omega
theorem fillL_wf (x : Int) (n q : Nat) : ∀ u ∈ fillL x n q, I64 u := by
  intro u hu
  obtain ⟨i, _, rfl⟩ := List.mem_map.1 hu
  show I64 (if i < q then _ else _)
  split
  · exact wrap_i64 _
  · constructor <;> omega

theorem takeL_wf {l : List Int} (h : ∀ u ∈ l, I64 u) (n : Int) : ∀ u ∈ takeL l n, I64 u := by
  intro u hu
  unfold takeL at hu
  split at hu
  · exact h u hu
  · split at hu
    · exact h u hu
    · exact h u (List.mem_of_mem_take hu)
theorem putL_wf {l y : List Int} (h : ∀ u ∈ l, I64 u) (hy : ∀ u ∈ y, I64 u) : ∀ u ∈ putL l y, I64 u := by
  intro u hu
  unfold putL at hu
  split at hu
  · rcases List.mem_append.1 hu with hu | hu
    · exact h u hu
    · exact hy u hu
  · exact h u hu
theorem cutL_wf {l : List Int} (h : ∀ u ∈ l, I64 u) (n : Int) : ∀ u ∈ cutL l n, I64 u := by
  intro u hu
  unfold cutL at hu
  rcases List.mem_append.1 (List.mem_of_mem_take hu) with hu | hu
  · exact h u hu
  · rw [(List.mem_replicate.1 hu).2]; constructor <;> omega

/-- Both stacks, alike. -/
structure Both (w : World) (o : Owner) (b c : Nat) (l : List Int) : Prop where
  p : Stk 55 w o 10 b l
  r : Stk 46 w o 30 c l
  wf : ∀ u ∈ l, I64 u
theorem Both.frame {S : List Nat} {w w' : World} {o o' : Owner} {b c : Nat} {l : List Int} (h : Both w o b c l) (st : Step S w o w' o') (hS : ∀ x ∈ S, 34 ≤ x) : Both w' o' b c l :=
  ⟨h.p.frame st (fun hx => by have := hS _ hx; omega) (fun hx => by have := hS _ hx; omega), h.r.frame st (fun hx => by have := hS _ hx; omega) (fun hx => by have := hS _ hx; omega), h.wf⟩

set_option maxRecDepth 100000 in
set_option maxHeartbeats 40000000 in
theorem does_ok {w : World} {o : Owner} {b c : Nat} {l : List Int} (k op x : Int) (h : Both w o b c l) (hk : 0 ≤ k ∧ k ≤ 255) (hx : I64 x) :
    Calls Try.prog 23 #[.pointer (some ⟨b, 0, none⟩), .pointer (some ⟨c, 0, none⟩), .agg #[.int .u8 k, .int .i64 op, .int .i64 x]] w fun e w' => e = .returned (.bool true) ∧ ∃ o' l', Both w' o' b c l' ∧ Step [10, 11, 30, 31, 40, 41] w o w' o' := by
  have s1 : Step [] w o (w.alloc (.cells #[.int .u8 k, .int .i64 op, .int .i64 x] 49)) (o.set w.heap.size 50) := ((Step.refl _ _ _).alloc _).give (Nat.le_refl _) _
  have hbx := Blk.new w o 50 49 #[.int .u8 k, .int .i64 op, .int .i64 x]
  replace h := h.frame s1 (by simp)
  generalize o.set w.heap.size 50 = o1 at s1 h hbx
  obtain ⟨z, hz⟩ : ∃ z, w.heap.size = z := ⟨_, rfl⟩
  rw [hz] at hbx
  obtain ⟨W1, hW1⟩ : ∃ W1, w.alloc (.cells #[.int .u8 k, .int .i64 op, .int .i64 x] 49) = W1 := ⟨_, rfl⟩
  rw [hW1] at s1 h hbx
  have hcells : ∀ {S : List Nat} {W : World} {o' : Owner}, Step S W1 o1 W o' → 50 ∉ S → W.cell? ⟨z, 0, none⟩ = some (.int .u8 k) ∧ W.cell? ⟨z, 1, none⟩ = some (.int .i64 op) ∧ W.cell? ⟨z, 2, none⟩ = some (.int .i64 x) := fun st hS =>
    ⟨(hbx.frame st hS).cell 0, (hbx.frame st hS).cell 1, (hbx.frame st hS).cell 2⟩
  obtain ⟨c0, c1, c2⟩ := hcells (Step.refl [] W1 o1) (by simp)
  rw [← hW1] at c0 c1 c2
  have HW1 := Lib.hid hW1
  obtain ⟨kk, hkk⟩ : ∃ kk, k % 8 = kk := ⟨_, rfl⟩
  have hk8 : kk = 0 ∨ kk = 1 ∨ kk = 2 ∨ kk = 3 ∨ kk = 4 ∨ kk = 5 ∨ kk = 6 ∨ kk = 7 := by omega
  have hwf := h.wf
  have hlen := h.p.1
  clear hW1
  rcases hk8 with rfl | rfl | rfl | rfl | rfl | hk5
  · -- Push
    go_enter Try.func23, Try.ntmps23
    go_wp2_with fail
    have sd : Step [] W1 o1 W1.drew o1 := (Step.refl _ _ _).drew
    have hd := h.frame sd (by simp)
    have hbd := hbx.frame sd (by simp)
    have S0 := s1.trans sd
    obtain ⟨d0, d1, d2⟩ := hcells sd (by simp)
    rw [HW1.out]
    clear c0 c1 c2
    obtain ⟨E, hE⟩ : ∃ E, putE l [x] = E := ⟨_, rfl⟩
    have hA1 : ∀ W oW, Step [30, 31] W1.drew o1 W oW → Calls Try.prog 17 #[.pointer (some ⟨b, 0, none⟩), .int .i64 x] W fun e w' => ∃ o', e = .returned (.int .i64 E) ∧ Stk 55 w' o' 10 b (putL l [x]) ∧ Step [10, 11] W oW w' o' := fun W oW st => by have := push_ok (hd.p.frame st (by decide) (by decide)) x; rw [hE] at this; exact this
    have hA2 : ∀ W oW, Step [10, 11] W1.drew o1 W oW → Calls Try.prog 28 #[.pointer (some ⟨c, 0, none⟩), .int .i64 x] W fun e w' => ∃ o', e = .returned (.int .i64 E) ∧ Stk 46 w' o' 30 c (putL l [x]) ∧ Step [30, 31] W oW w' o' := fun W oW st => by have := rpush_ok (hd.r.frame st (by decide) (by decide)) x; rw [hE] at this; exact this
    go_region_held3 (fun W => W.cell? ⟨z, 2, none⟩ = some (.int .i64 x))
      (exact hbd.cell 2)
      (first
        | (go_at_call 17; (first | (refine (hA1 _ _ (Step.refl _ _ _)).mono ?_; rintro e w5 ⟨o5, rfl, h5, s5⟩) | (refine (hA1 _ _ s6).mono ?_; rintro e w5 ⟨o5, rfl, h5, s5⟩; replace h6 := h6.frame s5 (by decide) (by decide))); replace hbd := hbd.frame s5 (by decide); replace S0 : Step [10, 11, 30, 31, 40, 41] _ _ _ _ := (S0.weaken (by simp)).trans (s5.weaken (by simp)))
        | (go_at_call 28; (first | (refine (hA2 _ _ (Step.refl _ _ _)).mono ?_; rintro e w6 ⟨o6, rfl, h6, s6⟩) | (refine (hA2 _ _ s5).mono ?_; rintro e w6 ⟨o6, rfl, h6, s6⟩; replace h5 := h5.frame s6 (by decide) (by decide))); replace hbd := hbd.frame s6 (by decide); replace S0 : Step [10, 11, 30, 31, 40, 41] _ _ _ _ := (S0.weaken (by simp)).trans (s6.weaken (by simp))))
    all_goals go_wp2_with fail
    all_goals go_ret
    all_goals exact ⟨rfl, _, putL l [x], ⟨h5, h6, putL_wf hwf (by simpa using hx)⟩, S0⟩
  · -- Pop
    obtain ⟨V, hV⟩ : ∃ V, popV l = V := ⟨_, rfl⟩
    obtain ⟨E, hE⟩ : ∃ E, popE l = E := ⟨_, rfl⟩
    have hA := pop_ok h.p
    have hB := fun (W : World) (oW : Owner) (st : Step [10, 11] W1 o1 W oW) => rpop_ok (h.r.frame st (by decide) (by decide))
    simp only [hV, hE] at hA hB
    have q1 : (V == V) = true := by simp
    have q2 : (E == E) = true := by simp
    clear hV hE
    go_enter Try.func23, Try.ntmps23
    go_wp2_with fail
    rw [HW1.out]
    refine hA.mono ?_
    rintro e w5 ⟨o5, rfl, h5, s5⟩
    go_wp2_with fail
    refine (hB _ _ s5).mono ?_
    rintro e w6 ⟨o6, rfl, h6, s6⟩
    go_wp2_with fail
    go_ret
    exact ⟨rfl, o6, l.dropLast, ⟨h5.frame s6 (by decide) (by decide), h6, fun u hu => hwf u (List.dropLast_subset l hu)⟩, ((s1.weaken (by simp)).trans (s5.weaken (by simp))).trans (s6.weaken (by simp))⟩
  · -- Take
    obtain ⟨n, hn, hn7⟩ := mask_nat op 7 (by decide)
    replace hn : bits .and .i64 op 7 = (n : Int) := hn
    obtain ⟨E, hE⟩ : ∃ E, takeE l n = E := ⟨_, rfl⟩
    have hA := take_ok h.p n (by omega) 40
    have hB := fun (W : World) (oW : Owner) (st : Step [10, 11] W1 o1 W oW) => rtake_ok (h.r.frame st (by decide) (by decide)) n (by omega) 41
    simp only [hE] at hA hB
    have q2 : (E == E) = true := by simp
    clear hE
    go_enter Try.func23, Try.ntmps23
    go_wp2_with fail
    rw [HW1.out]
    refine hA.mono ?_
    rintro e w5 ⟨v5, o5, rfl, hr5, h5, s5⟩
    obtain ⟨d0, d1, d2⟩ := hcells s5 (by decide)
    go_wp2_with fail
    refine (hB _ _ s5).mono ?_
    rintro e w6 ⟨v6, o6, rfl, hr6, h6, s6⟩
    replace hr5 := hr5.frame s6 (by decide)
    have hsame := same_ok hr5.rd hr6.rd
    rw [show sameB (takeR l n) (takeR l n) = true by simp [sameB]] at hsame
    go_wp2_with fail
    refine hsame.mono ?_
    rintro e w7 ⟨rfl, k7, rfl⟩
    have s7 : Step [] w6 o6 (w6.drewN k7) o6 := (Step.refl _ _ _).drewN k7
    go_wp2_with fail
    go_ret
    exact ⟨rfl, o6, takeL l n, ⟨(h5.frame s6 (by decide) (by decide)).frame s7 (by decide) (by decide), h6.frame s7 (by decide) (by decide), takeL_wf hwf n⟩, (((s1.weaken (by simp)).trans (s5.weaken (by simp))).trans (s6.weaken (by simp))).trans s7.nil⟩
  · -- Put
    obtain ⟨N, hN, hN31⟩ := mask_nat op 31 (by decide)
    replace hN : bits .and .i64 op 31 = (N : Int) := hN
    have hmk := mkN N (by omega)
    obtain ⟨Z, hZ⟩ : ∃ Z, (ints (List.replicate N 0)).toArray = Z := ⟨_, rfl⟩
    rw [hZ] at hmk
    have hsz : W1.heap.size = z + 1 := by rw [← HW1.out, World.size_alloc, hz]
    obtain ⟨zb, hzb⟩ : ∃ zb, z + 1 = zb := ⟨_, rfl⟩
    rw [hzb] at hsz
    obtain ⟨W2, hW2⟩ : ∃ W2, W1.alloc (.cells Z 35) = W2 := ⟨_, rfl⟩
    have s2 : Step [] W1 o1 W2 (o1.set zb 40) := by rw [← hW2]; exact ((Step.refl _ _ _).alloc _).give (by rw [hsz]; exact Nat.le_refl _) _
    have hr2 : Rowx W2 (o1.set zb 40) 40 35 1 zb N N (ints (fillL x N 0)) := by
      rw [fillL_zero]
      refine ⟨by simp, Owner.set_self _ _ _, Nat.le_refl _, by simp [maxLen]; omega, Z, ?_, by rw [← hZ]; simp, ?_⟩
      · rw [← hW2, ← hsz]; exact heap_alloc_new _ _
      · rw [← hZ]; exact List.take_of_length_le (by simp)
    generalize o1.set zb 40 = o2 at s2 hr2
    have h2 := h.frame s2 (by simp)
    have HW2 := Lib.hid hW2
    have HN := Lib.hid hN31
    clear hW2 hsz hZ
    go_enter Try.func23, Try.ntmps23
    go_wp2_with fail
    rw [HW1.out, HW2.out]
    clear c0 c1 c2 hmk hzb
    go_loopg [16, 85] N (fun g a16 a wr => ∃ q : Nat, g = N - q ∧ q ≤ N ∧ a = .int .i64 q ∧ Rowx wr o2 40 35 1 zb N N (ints (fillL x N q)) ∧ Step [40] W2 o2 wr o2)
    case atStart => exact ⟨0, rfl, Nat.zero_le _, rfl, hr2, Step.refl _ _ _⟩
    case round =>
      obtain ⟨q, hg, hq, rfl, hrx, st⟩ := hrel
      have HG := Lib.hid hg
      clear hg hr2
      obtain ⟨d0, d1, d2⟩ := hcells (s2.nil.trans st) (by decide)
      by_cases hlt : q < N
      · have hqi : (q : Int) < N := by omega
        obtain ⟨u, hu⟩ : ∃ u, (ints (fillL x N q))[q]? = some u := ⟨_, List.getElem?_eq_getElem (by simp [fillL_len]; exact hlt)⟩
        have e1 := hrx.cell hu
        have e2 := (hrx.spare (j := q) (by omega)).2
        obtain ⟨y, hy⟩ : ∃ y, IntKind.i64.wrap (x + (q : Int)) = y := ⟨_, rfl⟩
        have hset := hrx.setElem q (.int .i64 y)
        rw [← hy, fillL_step, hy] at hset
        have hst := st.setCell (a := ⟨zb, q, none⟩) (fun _ => by show o2 zb ∈ [40]; rw [hrx.own]; simp) (.int .i64 y)
        clear hu hrx st
        go_wp2_with fail
        go_roundg (N - (q + 1))
        case measure => rw [HG.out]; omega
        case rel => exact ⟨q + 1, rfl, by omega, by go_num, hset, hst⟩
      · obtain rfl : q = N := by omega
        have hrd : Rd wr o2 40 1 (.slice (some ⟨zb, 0, none⟩) q q) (fillL x q q).length (ints (fillL x q q)) := by rw [fillL_len]; exact hrx.rd
        have h3 := h2.frame st (by simp)
        obtain ⟨E, hE⟩ : ∃ E, putE l (fillL x q q) = E := ⟨_, rfl⟩
        have hA := put_ok h3.p hrd
        have hB := fun (W : World) (oW : Owner) (st : Step [10, 11] wr o2 W oW) => rput_ok (h3.r.frame st (by decide) (by decide)) (hrd.frame st (by decide))
        simp only [hE] at hA hB
        have q2 : (E == E) = true := by simp
        have hqi : ¬ (q : Int) < q := by omega
        clear hE hrx hrd hlt
        go_wp2_with fail
        refine hA.mono ?_
        rintro e w5 ⟨o5, rfl, h5, s5⟩
        go_wp2_with fail
        refine (hB _ _ s5).mono ?_
        rintro e w6 ⟨o6, rfl, h6, s6⟩
        go_wp2_with fail
        go_ret
        exact ⟨rfl, o6, putL l (fillL x q q), ⟨h5.frame s6 (by decide) (by decide), h6, putL_wf hwf (fillL_wf x q q)⟩, ((((s1.trans s2).weaken (by simp)).trans (st.weaken (by simp))).trans (s5.weaken (by simp))).trans (s6.weaken (by simp))⟩
  · -- Cut
    obtain ⟨n, hn, hn7⟩ := mask_nat op 255 (by decide)
    replace hn : bits .and .i64 op 255 = (n : Int) := hn
    have hA := cut_ok h.p n
    have hB := fun (W : World) (oW : Owner) (st : Step [10, 11] W1 o1 W oW) => rcut_ok (h.r.frame st (by decide) (by decide)) n
    go_enter Try.func23, Try.ntmps23
    go_wp2_with fail
    rw [HW1.out]
    refine hA.mono ?_
    rintro e w5 ⟨o5, rfl, h5, s5⟩
    obtain ⟨d0, d1, d2⟩ := hcells s5 (by decide)
    go_wp2_with fail
    refine (hB _ _ s5).mono ?_
    rintro e w6 ⟨o6, rfl, h6, s6⟩
    go_wp2_with fail
    go_ret
    exact ⟨rfl, o6, cutL l n, ⟨h5.frame s6 (by decide) (by decide), h6, cutL_wf hwf n⟩, ((s1.weaken (by simp)).trans (s5.weaken (by simp))).trans (s6.weaken (by simp))⟩
  · -- Do
    rcases hk5 with rfl | rfl | rfl
    all_goals
      go_enter Try.func23, Try.ntmps23
      go_wp2_with fail
      have sd : Step [] W1 o1 W1.drew o1 := (Step.refl _ _ _).drew
      have hd := h.frame sd (by simp)
      have hbd := hbx.frame sd (by simp)
      have S0 := s1.trans sd
      obtain ⟨d0, d1, d2⟩ := hcells sd (by simp)
      rw [HW1.out]
      clear c0 c1 c2
      obtain ⟨E, hE⟩ : ∃ E, (doS l op).1 = E := ⟨_, rfl⟩
      have hA1 : ∀ W oW, Step [30, 31] W1.drew o1 W oW → Calls Try.prog 13 #[.pointer (some ⟨b, 0, none⟩), .int .i64 op] W fun e w' => ∃ o', e = .returned (.int .i64 E) ∧ Stk 55 w' o' 10 b (doS l op).2 ∧ Step [10, 11] W oW w' o' := fun W oW st => by have := do_ok (hd.p.frame st (by decide) (by decide)) (by decide) hwf op; rw [hE] at this; exact this
      have hA2 : ∀ W oW, Step [10, 11] W1.drew o1 W oW → Calls Try.prog 33 #[.pointer (some ⟨c, 0, none⟩), .int .i64 op] W fun e w' => ∃ o', e = .returned (.int .i64 E) ∧ Stk 46 w' o' 30 c (doS l op).2 ∧ Step [30, 31] W oW w' o' := fun W oW st => by have := rdo_ok (hd.r.frame st (by decide) (by decide)) op; rw [hE] at this; exact this
      go_region_held3 (fun W => W.cell? ⟨z, 1, none⟩ = some (.int .i64 op))
        (exact hbd.cell 1)
        (first
          | (go_at_call 13; (first | (refine (hA1 _ _ (Step.refl _ _ _)).mono ?_; rintro e w5 ⟨o5, rfl, h5, s5⟩) | (refine (hA1 _ _ s6).mono ?_; rintro e w5 ⟨o5, rfl, h5, s5⟩; replace h6 := h6.frame s5 (by decide) (by decide))); replace hbd := hbd.frame s5 (by decide); replace S0 : Step [10, 11, 30, 31, 40, 41] _ _ _ _ := (S0.weaken (by simp)).trans (s5.weaken (by simp)))
          | (go_at_call 33; (first | (refine (hA2 _ _ (Step.refl _ _ _)).mono ?_; rintro e w6 ⟨o6, rfl, h6, s6⟩) | (refine (hA2 _ _ s5).mono ?_; rintro e w6 ⟨o6, rfl, h6, s6⟩; replace h5 := h5.frame s6 (by decide) (by decide))); replace hbd := hbd.frame s6 (by decide); replace S0 : Step [10, 11, 30, 31, 40, 41] _ _ _ _ := (S0.weaken (by simp)).trans (s6.weaken (by simp))))
      all_goals go_wp2_with fail
      all_goals go_ret
      all_goals exact ⟨rfl, _, (doS l op).2, ⟨h5, h6, doS_wf l hlen hwf op⟩, S0⟩
end Go.Proofs.Ytkefiimcopeioaa
