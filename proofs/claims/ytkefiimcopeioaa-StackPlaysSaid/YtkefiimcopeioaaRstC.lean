/- The document's stack: Cut. -/
import Derived.Test.YtkefiimcopeioaaRstB
namespace Go.Proofs.Ytkefiimcopeioaa
open Go Go.RowKit
set_option linter.unusedSimpArgs false
set_option linter.unusedVariables false

set_option maxHeartbeats 4000000 in
theorem rcut_ok {w : World} {o : Owner} {i b : Nat} {l : List Int} (hs : Stk 46 w o i b l) (n : Int) :
    Calls Try.prog 32 #[.pointer (some ⟨b, 0, none⟩), .int .i64 n] w fun e w' => ∃ o', e = .returned (.tuple #[]) ∧ Stk 46 w' o' i b (cutL l n) ∧ Step [i, i + 1] w o w' o' := by
  have hN : min (max n 0) 128 = (cutN n : Int) := by unfold cutN; omega
  have hm : cutN n ≤ 128 := by unfold cutN; omega
  rw [cutL]
  generalize cutN n = m at hN hm ⊢
  have HN := Lib.hid hN
  clear hN
  go_enter Try.func32, Try.ntmps32
  go_wp2_with fail
  rw [HN.out]
  clear HN
  go_loopg [] l.length (fun k wr => ∃ L, k = L.length ∧ Hid (L = l.take L.length ∧ (m ≤ L.length ∨ L = l)) ∧ Stk 46 wr o i b L ∧ Step [i, i + 1] w o wr o)
  case atStart => exact ⟨l, rfl, Lib.hid ⟨by rw [List.take_length], .inr rfl⟩, hs, Step.refl _ _ _⟩
  case round =>
    obtain ⟨L, hk, HL, hs1, st1⟩ := hrel
    have HK := Lib.hid hk
    clear hk hs
    have hs2 := hs1
    obtain ⟨h0, v, hb, hr⟩ := hs1
    obtain ⟨ao, cap, rfl, h1, h2⟩ := hr.slice
    have hc := hb.cell0
    have hf := hb.frozen 0
    by_cases hlt : m < L.length
    · have hcut : Row wr o (i + 1) 35 1 (.slice ao (L.length - 1) cap) (L.length - 1) (ints (L.take (L.length - 1))) := by
        have := hr.cut (k := L.length - 1) (by omega)
        simpa [ints, List.map_take] using this
      obtain ⟨q, hq⟩ : ∃ q, L.length = q := ⟨_, rfl⟩
      rw [hq] at hb hc hcut hlt h1
      have hqi : (m : Int) < q := by omega
      have hqe : (q : Int) - 1 = ((q - 1 : Nat) : Int) := by omega
      have hqc : ((q - 1 : Nat) : Int) ≤ cap := by omega
      have HQ := Lib.hid hq
      clear hr hq
      go_wp2_with fail
      go_region
      have hsx := Row.setOther hcut hb (by decide) 0 (.slice ao (q - 1) cap)
      have hbs := hb.set 0 (.slice ao (q - 1) cap)
      have sd : Step [] (wr.setCell ⟨b, 0, none⟩ (.slice ao (q - 1) cap)) o (wr.setCell ⟨b, 0, none⟩ (.slice ao (q - 1) cap)).drew o := (Step.refl _ _ _).drew
      have hS : Step [i, i + 1] w o (wr.setCell ⟨b, 0, none⟩ (.slice ao (q - 1) cap)).drew o := (st1.trans (Step.setCell (Step.refl _ _ _) (fun _ => by simp [hb.own]) _)).drew
      have hl1 : (L.take (q - 1)).length = q - 1 := by rw [List.length_take, HQ.out]; omega
      have hnew : Stk 46 (wr.setCell ⟨b, 0, none⟩ (.slice ao (q - 1) cap)).drew o i b (L.take (q - 1)) := by
        refine ⟨by rw [hl1]; have := HQ.out; omega, .slice ao (q - 1) cap, Blk.frame (cs := #[.slice ao (q - 1) cap]) hbs sd (by simp), ?_⟩
        rw [hl1]
        exact hsx.frame sd (by simp)
      have HL1 := Lib.hid hl1
      clear hl1 hsx hbs hcut hb
      go_wp2_with fail
      go_roundg (q - 1)
      case measure => rw [HK.out, HQ.out]; omega
      case rel =>
        refine ⟨L.take (q - 1), HL1.out.symm, Lib.hid ⟨?_, .inl (by rw [HL1.out]; omega)⟩, hnew, hS⟩
        rw [HL1.out]
        have := HL.out.1
        rw [HQ.out] at this
        rw [this, List.take_take]
        congr 1
        omega
    · have hlti : ¬ (m : Int) < L.length := by omega
      go_wp2_with fail
      have hstart : (L ++ List.replicate (m - L.length) 0).take m = (l ++ List.replicate (m - l.length) 0).take m ∧ L.length ≤ m := by
        refine ⟨?_, by omega⟩
        rcases HL.out.2 with h | h
        · have hLm : L.length = m := by omega
          have h3 := HL.out.1
          rw [hLm] at h3
          have h4 : m ≤ l.length := by have := congrArg List.length h3; rw [List.length_take, hLm] at this; omega
          rw [List.take_append_of_le_length (by omega), List.take_append_of_le_length h4, List.take_of_length_le (by omega), h3]
        · rw [h]
      have HST := Lib.hid hstart
      clear hc hf hr hb hlt hlti hstart
      go_loopg [] (m - L.length) (fun k wx => ∃ o' L, k = m - L.length ∧ Hid ((L ++ List.replicate (m - L.length) 0).take m = (l ++ List.replicate (m - l.length) 0).take m ∧ L.length ≤ m) ∧ Stk 46 wx o' i b L ∧ Step [i, i + 1] w o wx o')
      case atStart => exact ⟨o, L, rfl, HST, hs2, st1⟩
      case round =>
        obtain ⟨o', L, hk, HL, hs1, st1⟩ := hrel
        have HK := Lib.hid hk
        clear hk hs2
        obtain ⟨h0, v, hb, hr⟩ := hs1
        obtain ⟨ao, cap, rfl, h1, h2⟩ := hr.slice
        have hc := hb.cell0
        by_cases hlt : L.length < m
        · have hli : (L.length : Int) < m := by omega
          have s1 := (Step.refl [] wr o').alloc (.cells #[] 35)
          have hrd1 := hr.rd.frame s1 (by simp)
          have hc1 := (hb.frame s1 (by simp)).cell0
          go_wp2_with (at_builtin; refine wpList_app0 rfl (.tmp 36) (.tmp 40) 22 rfl o' (i + 1) Try.underlying22 info35 rfl rfl rfl hrd1 (by omega) (by omega) ?_)
          intro v' w' o2 hrow hst
          obtain ⟨a7, c7, rfl, -, -⟩ := hrow.slice
          have hb2 := (hb.frame s1 (by simp)).frame hst (by simp)
          have hxB := fun cs => hrow.frame ((Step.refl [] w' o2).alloc (.cells cs 35)) (by simp)
          go_wp2_with (at_builtin; refine wpList_app rfl (.tmp 41) (.tmp 42) 22 rfl Try.underlying22 info35 rfl rfl (hxB _) rfl (Rd.fresh w' o2 1 35 #[.int .i64 0] 1 (by decide) rfl) (by simp [Value.oneCell']) (by omega) (by omega) ?_)
          intro v3 w3 o3 hrow3 hst3
          have s3 := ((Step.refl [] w' o2).alloc (.cells #[.int .i64 0] 35))
          have hb3 := (hb2.frame s3 (by simp)).frame hst3 (by simp)
          have hc3 := hb3.cell0
          have hf3 := hb3.frozen 0
          have hrow' : Row w3 o3 (i + 1) 35 1 v3 (L ++ [0]).length (ints (L ++ [0])) := by simpa [ints] using hrow3
          obtain ⟨ao', cap', rfl, _, _⟩ := hrow3.slice
          have hS := ((s1.trans hst).trans s3).nil.trans hst3
          obtain ⟨g1, g2⟩ := Stk.put (by decide) hb hrow' hS (by simp; omega)
          have g3 := cut_step L m hlt
          have G3 := Lib.hid g3
          clear hrow hrow3 hrow' hst hst3 hb hr hb2 hb3 hxB g3
          go_wp2_with fail
          go_roundg (m - (L.length + 1))
          case measure => rw [HK.out]; omega
          case rel => exact ⟨o3, L ++ [0], by rw [List.length_append]; rfl, Lib.hid ⟨by rw [G3.out]; exact HL.out.1, by rw [List.length_append]; simp; omega⟩, g1, st1.trans g2⟩
        · have hli : ¬ ((L.length : Int) < m) := by omega
          have hlm : L.length = m := by have := HL.out.2; omega
          have hfin : (l ++ List.replicate (m - l.length) 0).take m = L := by
            rw [← HL.out.1, List.take_append_of_le_length (by omega), List.take_of_length_le (by omega)]
          have HF := Lib.hid hfin
          have hst0 : Stk 46 wr o' i b L := ⟨h0, _, hb, hr⟩
          clear hfin hlm hb hr
          go_wp2_with fail
          simp [bodyPost, results, Try.results32, go_sem]
          exact ⟨o', by rw [HF.out]; exact hst0, st1⟩
end Go.Proofs.Ytkefiimcopeioaa
