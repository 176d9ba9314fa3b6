/- slices.Repeat of one number. -/
import Derived.Test.YtglchagfclafgaaDoorInsA
import Derived.Laws.CopyOwn
import Derived.Laws.OwnMore
import Derived.Deep.RegionLaw
namespace Go.Proofs.YtglchagfclafgaaDoor
open Go Go.RowKit
set_option linter.unusedSimpArgs false
set_option linter.unusedVariables false

/-- The first m of n are -1, the others 0. -/
def fillR (n m : Nat) : List Value := ints (List.replicate m (-1) ++ List.replicate (n - m) 0)
theorem fillR_len (n m : Nat) (h : m ≤ n) : (fillR n m).length = n := by simp [fillR]; omega
theorem fillR_splice (n m c : Nat) (h : m + c ≤ n) : splice (fillR n m) m (ints (List.replicate c (-1))) = fillR n (m + c) := by
  unfold splice fillR
  simp only [ints, List.map_append, List.map_replicate, List.length_replicate, List.take_left', List.drop_append, List.drop_replicate]
  rw [← List.append_assoc, List.replicate_append_replicate, show m - (m + c) = 0 by omega, show n - m - (m + c - m) = n - (m + c) by omega]
  simp
theorem fillR_full (n : Nat) : fillR n n = ints (List.replicate n (-1)) := by simp [fillR]

theorem mkZ (n : Nat) (hn : n ≤ 100000) (w : World) : (Instr.makeSlice 27 (.int .i64 n) (.int .i64 n)).run Tryd.prog w = .ok (.slice (some ⟨w.heap.size, 0, none⟩) n n) (w.alloc (.cells (fillR n 0).toArray 3)) := by
  obtain ⟨inf, hi, hz, hsz, hby⟩ := info_parts infoInt
  have := run_makeSlice (P := Tryd.prog) w 27 3 inf (.int .i64 0) Tryd.underlying27 hi hz .i64 .i64 n n (by omega) (by omega) (by rw [hsz]; omega) (by rw [hby]; omega) (by omega)
  have hmc : madeCells (Value.int .i64 0).cells ((n : Int).toNat * 1) = (fillR n 0).toArray := by
    apply Array.toList_inj.1
    show (madeCells #[Value.int .i64 0] _).toList = _
    rw [toList_madeCells_one]
    simp [fillR]
  rw [this, hsz, hmc]
  rfl
theorem Step.ofBelow {w w' : World} (h : Below w.heap.size w w') (o : Owner) : Step [] w o w' o := ⟨h.os, h.tape, h.output, h.size, fun _ _ => rfl, fun b hb _ => h.block b hb⟩

set_option maxRecDepth 100000 in
set_option maxHeartbeats 8000000 in
theorem repeat_ok {w : World} {o : Owner} {k : Nat} {v : Value} (hr : Rd w o k 1 v 1 (ints [-1])) (n : Nat) (hn : 1 ≤ n) (hn2 : n ≤ 1000) (j : Nat) :
    Calls Tryd.prog 17 #[v, .int .i64 n] w fun e w' => ∃ v' o', e = .returned v' ∧ Row w' o' j 3 1 v' n (ints (List.replicate n (-1))) ∧ Step [] w o w' o' := by
  obtain ⟨ao, cap, rfl, h1, h2, -, h4⟩ := id hr
  obtain ⟨b, off, rfl, hb, -, hc⟩ := h4 (by omega)
  have c0 : w.cell? ⟨b, off, none⟩ = some (.int .i64 (-1)) := by have := hc 0 (.int .i64 (-1)) rfl; simpa using this
  have hmul := Tryd.bits_Mul 1 n (by omega) (by omega) w
  have e1 : 1 * n / 18446744073709551616 = 0 := by omega
  have e2 : 1 * n % 18446744073709551616 = n := by omega
  rw [e1, e2] at hmul
  have hmk := mkZ n (by omega)
  have hni : ¬ (n : Int) < 0 := by omega
  have hnu : IntKind.u64.wrap (n : Int) = n := by simp [IntKind.wrap, IntKind.signed, IntKind.bits]; omega
  have hnb : ¬ (9223372036854775807 : Int) < n := by omega
  obtain ⟨Z, hZ⟩ : ∃ Z, (fillR n 0).toArray = Z := ⟨_, rfl⟩
  rw [hZ] at hmk
  have HZ := Lib.hid hZ
  clear hr hc h4 e1 e2 hZ
  go_enter Tryd.func17, Tryd.ntmps17
  have hg0 : (w.alloc (.cells Z 3)).heap[w.heap.size]? = some (.cells (fillR n 0).toArray 3 (0, 0)) := by rw [HZ.out]; exact heap_alloc_new _ _
  have hbl : Below w.heap.size w (w.alloc (.cells Z 3)) := (Below.refl _ _).alloc (Nat.le_refl _) _
  have c1 : ∀ (jj : Nat) (u : Value), (ints (List.replicate 1 (-1)))[jj]? = some u → (w.alloc (.cells Z 3)).cell? ((⟨b, off, none⟩ : Addr).add jj) = some u := fun jj u hu => by
    have hjj : jj = 0 := by
      have := (List.getElem?_eq_some_iff.1 hu).1
      simp at this
      exact this
    subst hjj
    have hu' : u = .int .i64 (-1) := by simpa using hu.symm
    rw [hu', Addr.add_lit, Nat.add_zero]
    exact (hbl.cell (p := ⟨b, off, none⟩) hb).trans c0
  have hsz3 : (Tryd.prog.info? 3).map (·.size) = some 1 := by kernel_rfl
  have hfit0 : 0 + (ints (List.replicate 1 (-1))).length ≤ (fillR n 0).length := by rw [fillR_len _ _ (Nat.zero_le _)]; simpa using hn
  have hmin : (ints (List.replicate 1 (-1))).length = Nat.min 1 n := by show _ = min 1 n; simp; omega
  go_wp2_with (first
    | (go_at_call 28; refine hmul.mono ?_; rintro e w1 ⟨rfl, rfl⟩)
    | (refine wpList_copy_splice rfl (.tmp 31) (.tmp 32) 27 27 rfl 3 Tryd.underlying27 hsz3 (some ⟨w1.heap.size, 0, none⟩) (some ⟨b, off, none⟩) n n 1 cap rfl rfl w1.heap.size 0 (fillR n 0) 3 hg0 (ints (List.replicate 1 (-1))) hmin (fun _ => ⟨rfl, _, rfl, c1⟩) hfit0 (ints_one _ _) w1.heap.size w1 hbl (Nat.le_refl _) ?_))
  intro w2 hg2 hb2
  have esp : splice (fillR n 0) 0 [Value.int .i64 (-1)] = fillR n 1 := fillR_splice n 0 1 (by omega)
  rw [esp] at hg2
  clear esp hg0 hbl c1 hmul hmk hsz3 hfit0 hmin c0
  have hszl : w1.heap.size < w2.heap.size := (Array.getElem?_eq_some_iff.1 hg2.out).1
  go_wp2_with fail
  go_loopg [8] (n - 1) (fun gm a wr => ∃ m : Nat, gm = n - m ∧ 1 ≤ m ∧ m ≤ n ∧ a = .int .i64 m ∧ Hid (wr.heap[w1.heap.size]? = some (.cells (fillR n m).toArray 3 (0, 0))) ∧ Below w1.heap.size w1 wr)
  case atStart => exact ⟨1, rfl, Nat.le_refl _, hn, rfl, hg2, hb2⟩
  case round =>
    obtain ⟨m, hgm, hm1, hmn, rfl, hgr, hbr⟩ := hrel
    have HGM := Lib.hid hgm
    clear hgm hg2 hb2
    by_cases hlt : m < n
    · have hmi : (m : Int) < n := by omega
      have hm0 : (0 : Int) ≤ m := by omega
      have hmle : (m : Int) ≤ n := by omega
      obtain ⟨c, hc⟩ : ∃ c, min m (n - m) = c := ⟨_, rfl⟩
      have hc1 : 1 ≤ c := by omega
      have hcm : c ≤ m := by omega
      have hcn : m + c ≤ n := by omega
      obtain ⟨m2, hm2⟩ : ∃ m2, m + c = m2 := ⟨_, rfl⟩
      have hm2i : (m : Int) + c = m2 := by omega
      have w1' : IntKind.i64.wrap (m : Int) = m := by simp [IntKind.wrap, IntKind.signed, IntKind.bits]; omega
      have w2' : IntKind.i64.wrap (m2 : Int) = m2 := by simp [IntKind.wrap, IntKind.signed, IntKind.bits]; omega
      have hbd : Below w1.heap.size w1 wr.drew := hbr.drew
      have hgd : wr.drew.heap[w1.heap.size]? = some (.cells (fillR n m).toArray 3 (0, 0)) := hgr.out
      have hadr : adr (some ⟨w1.heap.size, 0, none⟩) m n 1 = some ⟨w1.heap.size, m, none⟩ := by
        rw [adr, if_neg (by omega)]; simp [Addr.add_lit]
      have hsz3 : (Tryd.prog.info? 3).map (·.size) = some 1 := by kernel_rfl
      have hminc : (ints (List.replicate c (-1))).length = Nat.min m (n - m) := by show _ = min m (n - m); simp; omega
      have hsrc : ∀ (jj : Nat) (u : Value), (ints (List.replicate c (-1)))[jj]? = some u → wr.drew.cell? ((⟨w1.heap.size, 0, none⟩ : Addr).add jj) = some u := fun jj u hu => by
        have hjj := (List.getElem?_eq_some_iff.1 hu).1
        simp at hjj
        have hu' : u = .int .i64 (-1) := by
          have := List.mem_of_getElem? hu
          simp at this
          exact this.2
        rw [hu', Addr.add_lit, Nat.zero_add]
        simp only [World.cell?, hgd]
        simp [fillR, List.getElem?_append_left, show jj < m by omega]
      have hfit : m + (ints (List.replicate c (-1))).length ≤ (fillR n m).length := by rw [fillR_len _ _ hmn]; simpa using hcn
      have hsl : (ints (List.replicate c (-1))).length = c := by simp
      go_wp2_with fail
      go_region_law (refine step_copy_splice rfl (.tmp 41) (.tmp 44) 27 27 rfl 3 Tryd.underlying27 hsz3 (some ⟨w1.heap.size, m, none⟩) (some ⟨w1.heap.size, 0, none⟩) (n - m) (n - m) m n (by simp [Act.eval, Act.put]) (by simp [Act.eval, Act.put]) w1.heap.size m (fillR n m) 3 hgd (ints (List.replicate c (-1))) hminc (fun _ => ⟨rfl, _, rfl, hsrc⟩) hfit (ints_one _ _) w1.heap.size w1 hbd (Nat.le_refl _) ?_; intro w4 hg4 hb4)
      rw [fillR_splice n m c hcn, hm2] at hg4
      have HM2 := Lib.hid hm2
      have HCN := Lib.hid hcn
      clear hsrc hfit hgd hbd hminc hsz3 hadr
      go_wp2_with fail
      go_roundg (n - m2)
      case measure => rw [HGM.out]; have := HM2.out; omega
      case rel => exact ⟨m2, rfl, by have := HM2.out; omega, by rw [← HM2.out]; exact HCN.out, by go_num, hg4, hb4⟩
    · have hmn2 : m = n := by omega
      subst hmn2
      have hmi : ¬ (m : Int) < m := by omega
      clear hlt
      go_wp2_with fail
      go_ret
      have hlt0 : w1.heap.size < wr.heap.size := (Array.getElem?_eq_some_iff.1 hgr.out).1
      have hst : Step [] w1 o wr (o.set w1.heap.size j) := (Step.ofBelow hbr o).give (Nat.le_refl _) _
      refine ⟨_, rfl, o.set w1.heap.size j, ⟨by simp, .inr ⟨w1.heap.size, m, (fillR m m).toArray, rfl, Owner.set_self _ _ _, hgr.out, Nat.le_refl _, by unfold maxLen; omega, by simp [fillR_len], ?_⟩⟩, hst⟩
      show ((fillR m m).toArray.toList).take (m * 1) = _
      rw [fillR_full]
      simp
end Go.Proofs.YtglchagfclafgaaDoor
