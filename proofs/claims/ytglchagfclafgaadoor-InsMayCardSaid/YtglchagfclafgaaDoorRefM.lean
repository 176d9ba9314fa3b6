/- The document's Loops. -/
import Derived.Test.YtglchagfclafgaaDoorRefL
import Derived.Deep.CutRange
import Derived.Test.YtglchagfclafgaaDoorInsE
namespace Go.Proofs.YtglchagfclafgaaDoor
open Go Go.RowKit
set_option linter.unusedSimpArgs false
set_option linter.unusedVariables false

theorem fillR_set (n m : Nat) (h : m < n) : (fillR n m).set m (.int .i64 (-1)) = fillR n (m + 1) := by
  unfold fillR ints
  rw [← List.map_set]
  congr 1
  apply List.ext_getElem?
  intro j
  rw [List.getElem?_set]
  simp only [List.length_append, List.length_replicate, List.getElem?_append, List.getElem?_replicate]
  split
  · next e => subst e; simp; omega
  · next e =>
    by_cases h1 : j < m
    · simp [h1, show j < m + 1 by omega]
    · have h2 : ¬ j < m + 1 := by omega
      simp only [h1, h2, if_false]
      by_cases h3 : j < n
      · rw [if_pos (by omega), if_pos (by omega)]
      · rw [if_neg (by omega), if_neg (by omega)]
theorem ints_set (L : List Int) (t : Nat) (p : Int) : (ints L).set t (.int .i64 p) = ints (L.set t p) := by simp [ints, List.map_set]

theorem Rd.cellAt {w : World} {o : Owner} {i n cap g : Nat} {v : Value} {xs : List Value} (h : Rd w o i 1 v n xs) (hv : v = .slice (some ⟨g, 0, none⟩) n cap) {j : Nat} {u : Value} (hj : xs[j]? = some u) : w.cell? ⟨g, j, none⟩ = some u := by
  obtain ⟨ao, c, rfl, h1, h2, h3, h4⟩ := h
  have hlt := (List.getElem?_eq_some_iff.1 hj).1
  obtain ⟨b, off, ha, _, _, hc⟩ := h4 (by omega)
  simp only [Value.slice.injEq, true_and] at hv
  obtain ⟨rfl, rfl⟩ := hv
  simp only [Option.some.injEq, Addr.mk.injEq, and_true] at ha
  obtain ⟨rfl, rfl⟩ := ha
  have := hc j u hj
  rwa [Nat.zero_add] at this

/-- What the document's Loops tells. -/
def RLoopsR (l : List In) (w : World) (o : Owner) (e : Ending) (w' : World) : Prop :=
  (Good l ∧ ∃ v' o', e = .returned (.tuple #[v', .bool true]) ∧ Row w' o' 90 3 1 v' l.length (ints (labs l)) ∧ Step [90, 98, 99] w o w' o') ∨ (¬ Good l ∧ ∃ o', e = .returned (.tuple #[.slice none 0 0, .bool false]) ∧ Step [90, 98, 99] w o w' o')

set_option maxRecDepth 100000 in
set_option maxHeartbeats 16000000 in
theorem rloops_ok {w : World} {o : Owner} {k : Nat} {v : Value} {l : List In} (hl : Rd w o k 3 v l.length (icells l)) (hok : ∀ x ∈ l, x.ok) (hn : l.length ≤ 1000) (hk : k ≠ 77 ∧ k ≠ 78 ∧ k ≠ 90 ∧ k ≠ 98 ∧ k ≠ 99) :
    Calls Tryd.prog 12 #[.agg #[v]] w (RLoopsR l w o) := by
  have s1 : Step [] w o (w.alloc (.cells #[v] 24)) (o.set w.heap.size 77) := ((Step.refl _ _ _).alloc _).give (Nat.le_refl _) _
  have hb := Blk.new w o 77 24 #[v]
  replace hl := hl.frame s1 (by simp)
  generalize o.set w.heap.size 77 = o1 at s1 hb hl
  obtain ⟨ao, cap, rfl, g1, g2, -, -⟩ := id hl
  have c0 := hb.cell0
  unfold maxLen at g2
  by_cases hz : l = []
  · subst hz
    clear hl hb
    simp only [List.length_nil] at c0 s1 g1 ⊢
    go_enter Tryd.func12, Tryd.ntmps12
    go_wp2_with fail
    refine bodyPost_ret (v := .tuple #[.slice none 0 0, .bool false]) (by simp [results, Tryd.results12, go_sem]) rfl ?_
    exact .inr ⟨notGood_nil, o1, rfl, s1.nil⟩
  have hpos : 0 < l.length := by cases l with | nil => exact absurd rfl hz | cons a b => simp
  have hri := RI.begin hpos
  obtain ⟨n, hnl⟩ : ∃ n, l.length = n := ⟨_, rfl⟩
  rw [hnl] at hl hpos hn g1 hb c0 s1 hri ⊢
  have hnz : ((n : Int) == 0) = false := by rw [beq_eq_false_iff_ne]; omega
  have hmk := mkZ n (by omega)
  obtain ⟨Z, hZ⟩ : ∃ Z, (fillR n 0).toArray = Z := ⟨_, rfl⟩
  rw [hZ] at hmk
  have s2 : Step [] (w.alloc (.cells #[.slice ao n cap] 24)) o1 ((w.alloc (.cells #[.slice ao n cap] 24)).alloc (.cells Z 3)) (o1.set (w.alloc (.cells #[.slice ao n cap] 24)).heap.size 90) := ((Step.refl _ _ _).alloc _).give (Nat.le_refl _) _
  have hL : Rowx ((w.alloc (.cells #[.slice ao n cap] 24)).alloc (.cells Z 3)) (o1.set (w.alloc (.cells #[.slice ao n cap] 24)).heap.size 90) 90 3 1 (w.alloc (.cells #[.slice ao n cap] 24)).heap.size n n (fillR n 0) :=
    ⟨by rw [fillR_len _ _ (Nat.zero_le _)]; omega, Owner.set_self _ _ _, Nat.le_refl _, by unfold maxLen; omega, Z, heap_alloc_new _ _, by rw [← hZ]; simp [fillR_len], by rw [← hZ]; simp [fillR]⟩
  replace hb := hb.frame s2 (by simp)
  replace hl := hl.frame s2 (by simp)
  have st : Step [90, 98, 99] w o ((w.alloc (.cells #[.slice ao n cap] 24)).alloc (.cells Z 3)) (o1.set (w.alloc (.cells #[.slice ao n cap] 24)).heap.size 90) := (s1.trans s2).nil
  generalize o1.set (w.alloc (.cells #[.slice ao n cap] 24)).heap.size 90 = o2 at s2 hL hb hl st
  rw [World.size_alloc] at hL
  have HZ := Lib.hid hZ
  have HOK := Lib.hid hok
  have HNL := Lib.hid hnl
  have HRI := Lib.hid hri
  clear s1 s2 hZ hok hnl hri hz
  go_enter Tryd.func12, Tryd.ntmps12
  go_wp2_with fail
  obtain ⟨zb, hzb⟩ : ∃ zb, w.heap.size = zb := ⟨_, rfl⟩
  rw [hzb] at hb hL
  rw [hzb]
  obtain ⟨gL, hgL⟩ : ∃ gL, zb + 1 = gL := ⟨_, rfl⟩
  rw [hgL] at hL
  rw [hgL]
  clear hzb hgL c0 hmk
  go_loopg [6] (n + 1) (fun gm a6 wr => ∃ (q : Nat), Hid (gm = n + 1 - q) ∧ q ≤ n ∧ a6 = .int .i64 (q : Int) ∧ Rowx wr o2 90 3 1 gL n n (fillR n q) ∧ Rd wr o2 k 3 (.slice ao n cap) n (icells l) ∧ Blk wr o2 77 zb 24 #[.slice ao n cap] ∧ Step [90, 98, 99] w o wr o2)
  case atStart => exact ⟨0, Lib.hid (by omega), by omega, rfl, hL, hl, hb, st⟩
  case round =>
    clear hL hl hb st
    obtain ⟨q, HGM, hq, rfl, hL, hl, hb, st⟩ := hrel
    rcases Nat.lt_or_ge q n with hqn | hqn
    · have hqi : (q : Int) < n := by omega
      obtain ⟨f1', f2⟩ := hL.spare (j := q) (by omega)
      obtain ⟨uq, f1⟩ := Option.isSome_iff_exists.1 f1'
      clear f1'
      have s3 : Step [90] wr o2 (wr.setCell ⟨gL, q, none⟩ (.int .i64 (-1))) o2 := (Step.refl _ _ _).setCell (a := ⟨gL, q, none⟩) (fun _ => by simp [hL.own]) _
      have hL3 := hL.setElem q (.int .i64 (-1))
      rw [fillR_set n q hqn] at hL3
      replace hl := hl.frame s3 (by simpa using hk.2.2.1)
      replace hb := hb.frame s3 (by simp)
      replace st := st.trans (s3.weaken (by simp))
      clear hL
      go_wp2_with fail
      go_roundg (n + 1 - (q + 1))
      case measure => rw [HGM.out]; omega
      case rel => exact ⟨q + 1, Lib.hid rfl, hqn, by go_num, hL3, hl, hb, st⟩
    obtain rfl : q = n := by omega
    rw [fillR_full] at hL
    obtain ⟨f1', f2⟩ := hL.spare (j := 0) (by omega)
    obtain ⟨uq, f1⟩ := Option.isSome_iff_exists.1 f1'
    clear f1'
    have s3 : Step [90] wr o2 (wr.setCell ⟨gL, 0, none⟩ (.int .i64 0)) o2 := (Step.refl _ _ _).setCell (a := ⟨gL, 0, none⟩) (fun _ => by simp [hL.own]) _
    have hL3 := hL.setElem 0 (.int .i64 0)
    rw [ints_set] at hL3
    replace hl := hl.frame s3 (by simpa using hk.2.2.1)
    replace hb := hb.frame s3 (by simp)
    replace st := st.trans (s3.weaken (by simp))
    clear hL
    go_wp2_with fail
    generalize hWs : wr.setCell ⟨gL, 0, none⟩ (.int .i64 0) = Ws at *
    clear hWs HGM f1 f2 s3
    obtain ⟨L1, hL1⟩ : ∃ L1, (List.replicate q (-1 : Int)).set 0 0 = L1 := ⟨_, rfl⟩
    rw [hL1] at hL3
    have HR1 : Hid (RI l L1) := by rw [← hL1]; exact HRI
    clear hL1 HRI hqn hq
    go_loopg [7] (2 * (q - cnt L1) + 1) (fun gm a7 wr => ∃ (L : List Int) (c : Bool) (O : Owner), Hid (gm = 2 * (q - cnt L) + (if c then 1 else 0)) ∧ a7 = .bool c ∧ Hid (RI l L) ∧ Hid (c = false → ∀ j, j < q → ClosedAt l L j) ∧ Rowx wr O 90 3 1 gL q q (ints L) ∧ Rd wr O k 3 (.slice ao q cap) q (icells l) ∧ Blk wr O 77 zb 24 #[.slice ao q cap] ∧ Step [90, 98, 99] w o wr O)
    case atStart => exact ⟨L1, true, o2, Lib.hid rfl, rfl, HR1, Lib.hid (fun h => by cases h), hL3, hl, hb, st⟩
    case round =>
      clear hL3 hl hb st HR1
      obtain ⟨L0, c, O, HGM, rfl, HRI, HCL, hL, hl, hb, st⟩ := hrel
      cases c
      · have hfin := HRI.out.fin (fun j hj => HCL.out rfl j (by have := HNL.out; omega))
        have HF := Lib.hid hfin
        clear hfin
        go_wp2_with fail
        refine bodyPost_ret (v := .tuple #[.slice (some ⟨gL, 0, none⟩) q q, .bool true]) (by simp [results, Tryd.results12, go_sem]) rfl ?_
        refine .inl ⟨HF.out.1, _, O, rfl, ?_, st⟩
        have h1 := hL.row
        rw [HF.out.2] at h1
        rw [HNL.out]
        exact h1
      have HPS := Lib.hid (PS.begin HRI.out)
      obtain ⟨gk0, hgk0⟩ : ∃ g, g = gk := ⟨_, rfl⟩
      have HGK := Lib.hid hgk0
      have HGM0 : Hid (gk0 = 2 * (q - cnt L0) + 1) := Lib.hid (hgk0.trans HGM.out)
      clear hgk0
      clear HCL HRI HGM
      go_wp2_with fail
      go_loopg [7, 8] (q + 1) (fun gm a7 a8 wr => ∃ (i : Nat) (L : List Int) (c : Bool) (O : Owner), Hid (gm = q + 1 - i) ∧ i ≤ q ∧ a7 = .bool c ∧ a8 = .int .i64 (i : Int) ∧ Hid (PS l L0 L c i) ∧ Rowx wr O 90 3 1 gL q q (ints L) ∧ Rd wr O k 3 (.slice ao q cap) q (icells l) ∧ Blk wr O 77 zb 24 #[.slice ao q cap] ∧ Step [90, 98, 99] w o wr O)
      case atStart => exact ⟨0, L0, false, O, Lib.hid (by omega), by omega, rfl, rfl, HPS, hL, hl, hb, st⟩
      case round =>
        clear hL hl hb st HPS
        obtain ⟨i, L, c, O, HGI, hi, rfl, rfl, HPS, hL, hl, hb, st⟩ := hrel
        rcases Nat.lt_or_ge i q with hiq | hiq
        rotate_left
        · obtain rfl : i = q := by omega
          have hle := HPS.out.le
          have hup := HPS.out.up
          have hcn : cnt L ≤ i := by have := cnt_le L; have := HPS.out.ri.len; have := HNL.out; omega
          have HRL := Lib.hid HPS.out.ri
          have HCL2 := Lib.hid HPS.out.cl
          have hms : 2 * (i - cnt L) + (if c then 1 else 0) < gk0 := by
            rw [HGM0.out]
            cases c
            · simp; omega
            · have := hup rfl
              simp
              omega
          have HMS := Lib.hid hms
          clear hms
          clear hle hup hcn HPS
          go_wp2_with fail
          go_roundg (2 * (i - cnt L) + (if c then 1 else 0))
          case measure => have h1 := HMS.out; have h2 := HGK.out; omega
          case rel => exact ⟨L, c, O, Lib.hid rfl, rfl, HRL, HCL2, hL, hl, hb, st⟩
        have hiqi : (i : Int) < q := by omega
        obtain ⟨m, hm⟩ : ∃ m, L[i]? = some m := ⟨_, List.getElem?_eq_getElem (by have := HPS.out.ri.len; have := HNL.out; omega)⟩
        have cm : wr.cell? ⟨gL, i, none⟩ = some (.int .i64 m) := hL.cell (by simp [hm])
        have HM := Lib.hid hm
        clear hm
        rcases Int.lt_or_le m 0 with hneg | hmp
        · have hsk := HPS.out.skip HM.out hneg
          have HSK := Lib.hid hsk
          clear hsk
          go_wp2_with fail
          go_roundg (q + 1 - (i + 1))
          case measure => rw [HGI.out]; omega
          case rel => exact ⟨i + 1, L, c, O, Lib.hid rfl, hiq, rfl, by go_num, HSK, hL, hl, hb, st⟩
        have hmneg : ¬ m < 0 := by omega
        obtain ⟨x, hx⟩ : ∃ x, l[i]? = some x := ⟨_, List.getElem?_eq_getElem (by have := HNL.out; omega)⟩
        have hks := KS.begin HPS.out HM.out hmp hx
        have hxo := HOK.out x (List.mem_of_getElem? hx)
        have hmb : m ≤ 1000 := by
          have h1 := HPS.out.ri.bd i m HM.out
          have h2 := cnt_le L
          have h3 := HPS.out.ri.len
          have := HNL.out
          omega
        rw [stepsR_eq] at hks
        rcases x with ⟨op, xa, xw⟩
        obtain ⟨b, off, rfl, hbl, hbo, hcell⟩ := hl.ins hpos
        obtain ⟨k0, k1, k2⟩ := hcell i _ hx
        have cb := hb.cell0
        dsimp only at k0 k1 k2
        have HX := Lib.hid hx
        have HKS := Lib.hid hks
        have tn : Step [] wr O (wr.alloc (.cells #[.int .u8 op, .int .i64 xa, .int .i64 xw] 36)) (O.set wr.heap.size 78) := ((Step.refl _ _ _).alloc _).give (Nat.le_refl _) _
        have hbx := Blk.new wr O 78 36 #[.int .u8 op, .int .i64 xa, .int .i64 xw]
        clear hcell hx hks HPS
        go_upto_region 18 with (fail)
        replace hl := hl.frame tn (by simp)
        replace hL := hL.frame tn (by simp)
        replace hb := hb.frame tn (by simp)
        have stn := st.trans tn.nil
        clear k0 k1 k2 hbl hbo st tn cb cm
        generalize wr.alloc (.cells #[.int .u8 op, .int .i64 xa, .int .i64 xw] 36) = Wn at *
        generalize O.set wr.heap.size 78 = O at *
        generalize wr.heap.size = zx at *
        have y0 := hbx.cell 0
        have y1 := hbx.cell 1
        simp only [List.getElem?_toArray, List.getElem?_cons_succ, List.getElem?_cons_zero] at y0 y1
        have cm : Wn.cell? ⟨gL, i, none⟩ = some (.int .i64 m) := hL.cell (by simp [HM.out])
        have hmo := more_ok Wn op
        have hon := on_ok Wn op
        obtain ⟨ma, hma⟩ : ∃ ma, moreA op = ma := ⟨_, rfl⟩
        obtain ⟨mc, hmc⟩ : ∃ mc, moreC op = mc := ⟨_, rfl⟩
        obtain ⟨bo, hbo⟩ : ∃ bo, onB op = bo := ⟨_, rfl⟩
        obtain ⟨bg, hbg⟩ : ∃ bg, goesB op = bg := ⟨_, rfl⟩
        have ma1 := moreA_bd op
        have mc1 := moreC_bd op
        have hgo := fun W => goes_ok W op
        rw [hma, hmc] at hmo
        rw [hbo] at hon
        rw [hma] at ma1
        rw [hmc] at mc1
        simp only [hbg] at hgo
        have hS : stepsR ⟨op, xa, xw⟩ i m = (if bo then [((i : Int) + 1, m + ma)] else []) ++ (if bg then [(xa, m + mc)] else []) := by
          unfold stepsR
          rw [hma, hmc, hbo, hbg]
        rw [hS] at HKS
        obtain ⟨ma1, ma2⟩ := ma1
        obtain ⟨mc1, mc2⟩ := mc1
        clear hma hmc hbo hbg hS
        have two0 : Two Wn O (.slice none 0 0) (.slice none 0 0) [] := ⟨Row.nil _ _ _ _ _ _, Row.nil _ _ _ _ _ _⟩
        go_upto_if 56 with (first
          | (go_at_call 19; refine hmo.mono ?_; rintro e w6 ⟨rfl, hw6⟩; obtain rfl : Wn = w6 := hw6.symm)
          | (go_at_call 20; refine hon.mono ?_; rintro e w7 ⟨rfl, hw7⟩; obtain rfl : Wn = w7 := hw7.symm))
        clear hmo hon
        go_cut [12, 13] from 56 to 70 (fun u v wx => TwoC Wn O (if bo then [((i : Int) + 1, m + ma)] else []) u v wx)
        case first =>
          cases bo
          · go_wp2_with fail
            go_meet
            case rel => exact ⟨⟨O, two0, Step.refl _ _ _⟩⟩
          · have hn1 := fun (x : Int) => Rd.fresh Wn O 1 3 #[.int .i64 x] 1 (by decide) rfl
            go_wp2_with (first
              | (at_builtin; refine wpList_app0 rfl (.tmp 57) (.tmp 60) 27 rfl O 98 Tryd.underlying27 infoInt rfl rfl rfl (hn1 _) (by decide) (by decide) ?_; intro va wa oa ra sa; have S1 := ((Step.refl [] Wn O).alloc _).trans sa; have cm1 := (hL.frame S1 (by simp)).cell (j := i) (u := .int .i64 m) (by simp [HM.out]); have hn2 := fun (x : Int) => Rd.fresh wa oa 1 3 #[.int .i64 x] 1 (by decide) rfl)
              | (at_builtin; refine wpList_app0 rfl (.tmp 62) (.tmp 69) 27 rfl oa 99 Tryd.underlying27 infoInt rfl rfl rfl (hn2 _) (by decide) (by decide) ?_; intro vb wb ob rb sb; have S2 := ((Step.refl [] wa oa).alloc _).trans sb; have ra2 := ra.frame S2 (by simp)))
            go_meet
            case rel => exact ⟨⟨ob, ⟨ra2, rb⟩, (S1.trans S2).nil⟩⟩
        case rest =>
          obtain ⟨O2, hT, sW⟩ := hcut.ex
          obtain ⟨A, hA⟩ : ∃ A, (if bo then [((i : Int) + 1, m + ma)] else []) = A := ⟨_, rfl⟩
          have hAl : A.length ≤ 1 := by rw [← hA]; cases bo <;> simp
          rw [hA] at HKS hT
          obtain ⟨a12, c12, rfl, j1, j2⟩ := hT.ra.slice
          obtain ⟨a13, c13, rfl, j3, j4⟩ := hT.rb.slice
          replace hl := hl.frame sW (by simp; exact ⟨hk.2.2.2.1, hk.2.2.2.2⟩)
          replace hL := hL.frame sW (by simp)
          replace hb := hb.frame sW (by simp)
          replace hbx := hbx.frame sW (by simp)
          replace stn := stn.trans (sW.weaken (by simp))
          clear y0 y1 cm hcut two0 hA sW
          have y0 := hbx.cell 0
          have y1 := hbx.cell 1
          simp only [List.getElem?_toArray, List.getElem?_cons_succ, List.getElem?_cons_zero] at y0 y1
          have cm : wc.cell? ⟨gL, i, none⟩ = some (.int .i64 m) := hL.cell (by simp [HM.out])
          obtain ⟨nA, hnA⟩ : ∃ nA, A.length = nA := ⟨_, rfl⟩
          have h63 : nA + 1 ≤ 9223372036854775807 := by omega
          have hby : (nA + 1) * 8 ≤ 140737488355328 := by omega
          have hra := hT.ra
          have hrb := hT.rb
          rw [hnA] at hra hrb
          have HNA := Lib.hid hnA
          rw [hnA]
          have HAL := Lib.hid hAl
          clear hnA hT hAl
          have hg1 := hgo wc
          go_upto_if 73 with (go_at_call 21; refine hg1.mono ?_; rintro e w8 ⟨rfl, hw8⟩; obtain rfl : wc = w8 := hw8.symm)
          clear hg1 hgo
          go_cut [12, 13] from 73 to 87 (fun u v wx => TwoC wc O2 (A ++ if bg then [(xa, m + mc)] else []) u v wx)
          case first =>
            cases bg
            · have HT0 : Two wc O2 (.slice a12 nA c12) (.slice a13 nA c13) (A ++ if false = true then [(xa, m + mc)] else []) := by
                simp only [Bool.false_eq_true, if_false, List.append_nil]
                exact ⟨by rw [HNA.out]; exact hra, by rw [HNA.out]; exact hrb⟩
              go_wp2_with fail
              go_meet
              case rel => exact ⟨⟨O2, HT0, Step.refl _ _ _⟩⟩
            · have hn1 := fun (x : Int) => Rd.fresh wc O2 1 3 #[.int .i64 x] 1 (by decide) rfl
              have hr1 := fun (x : Int) => hra.frame ((Step.refl [] wc O2).alloc (.cells #[.int .i64 x] 3)) (by simp)
              go_wp2_with (first
                | (at_builtin; refine wpList_app rfl (.tmp 74) (.tmp 77) 27 rfl Tryd.underlying27 infoInt rfl rfl (hr1 _) rfl (hn1 _) (by simp [Value.oneCell']) h63 hby ?_; intro va wa oa ra sa; have S1 := ((Step.refl [98] wc O2).alloc _).trans sa; have cm1 := (hL.frame S1 (by simp)).cell (j := i) (u := .int .i64 m) (by simp [HM.out]); have hn2 := fun (x : Int) => Rd.fresh wa oa 1 3 #[.int .i64 x] 1 (by decide) rfl; have hr2 := fun (x : Int) => (hrb.frame S1 (by simp)).frame ((Step.refl [] wa oa).alloc (.cells #[.int .i64 x] 3)) (by simp))
                | (at_builtin; refine wpList_app rfl (.tmp 79) (.tmp 86) 27 rfl Tryd.underlying27 infoInt rfl rfl (hr2 _) rfl (hn2 _) (by simp [Value.oneCell']) h63 hby ?_; intro vb wb ob rb sb; have S2 := ((Step.refl [99] wa oa).alloc _).trans sb; have ra2 := ra.frame S2 (by simp)))
              have HT1 : Two wb ob va vb (A ++ if true = true then [(xa, m + mc)] else []) := by
                simp only [if_true]
                exact ⟨by rw [List.length_append, HNA.out, List.map_append, ints, List.map_append]; exact ra2, by rw [List.length_append, HNA.out, List.map_append, ints, List.map_append]; exact rb⟩
              go_meet
              case rel => exact ⟨⟨ob, HT1, (S1.weaken (by simp)).trans (S2.weaken (by simp))⟩⟩
          case rest =>
            obtain ⟨O3, hT, sW⟩ := hcut.ex
            obtain ⟨S, hS⟩ : ∃ S, (A ++ if bg then [(xa, m + mc)] else []) = S := ⟨_, rfl⟩
            have hSl : S.length ≤ 2 := by
              have h1 := HAL.out
              rw [← hS, List.length_append]
              have : (if bg then [(xa, m + mc)] else []).length ≤ 1 := by cases bg <;> simp
              omega
            rw [hS] at HKS hT
            obtain ⟨a14, c14, rfl, j5, j6⟩ := hT.ra.slice
            obtain ⟨a15, c15, rfl, j7, j8⟩ := hT.rb.slice
            replace hl := hl.frame sW (by simp; exact ⟨hk.2.2.2.1, hk.2.2.2.2⟩)
            replace hL := hL.frame sW (by simp)
            replace hb := hb.frame sW (by simp)
            replace stn := stn.trans (sW.weaken (by simp))
            obtain ⟨nS, hnS⟩ : ∃ nS, S.length = nS := ⟨_, rfl⟩
            have HNS := Lib.hid hnS
            rw [hnS] at hSl j5 j7 ⊢
            clear y0 y1 cm hcut hS sW hra hrb hbx h63 hby hnS
            go_wp2_with fail
            go_loopg [7, 14] (nS + 1) (fun gm a7 a14' wr => ∃ (kk : Nat) (L : List Int) (c : Bool) (O : Owner), Hid (gm = nS + 1 - kk) ∧ kk ≤ nS ∧ a7 = .bool c ∧ a14' = .int .i64 (kk : Int) ∧ Hid (KS l L0 L c i m S kk) ∧ Two wr O (.slice a14 nS c14) (.slice a15 nS c15) S ∧ Rowx wr O 90 3 1 gL q q (ints L) ∧ Rd wr O k 3 (.slice (some ⟨b, off, none⟩) q cap) q (icells l) ∧ Blk wr O 77 zb 24 #[.slice (some ⟨b, off, none⟩) q cap] ∧ Step [90, 98, 99] w o wr O)
            case atStart => exact ⟨0, L, c, O3, Lib.hid (by omega), by omega, rfl, rfl, HKS, (by rw [HNS.out] at hT; exact hT), hL, hl, hb, stn⟩
            case round =>
              clear hT hL hl hb stn HKS HM
              obtain ⟨kk, L, c, O, HGK2, hkk, rfl, rfl, HKS, hT, hL, hl, hb, st⟩ := hrel
              rcases Nat.lt_or_ge kk nS with hks | hks
              rotate_left
              · obtain rfl : kk = nS := by omega
                have hfin := KS.fin (S := S) (by rw [HNS.out]; exact HKS.out)
                have HF := Lib.hid hfin
                clear hfin HKS
                go_wp2_with fail
                go_roundg (q + 1 - (i + 1))
                case measure => rw [HGI.out]; omega
                case rel => exact ⟨i + 1, L, c, O, Lib.hid rfl, hiq, rfl, by go_num, HF, hL, hl, hb, st⟩
              have hksi : (kk : Int) < nS := by omega
              obtain ⟨⟨t, p⟩, hq⟩ : ∃ q, S[kk]? = some q := ⟨_, List.getElem?_eq_getElem (by rw [HNS.out]; exact hks)⟩
              obtain ⟨g12, cc12, hv12, hx12⟩ := hT.ra.rowx (by rw [HNS.out]; omega)
              obtain ⟨g13, cc13, hv13, hx13⟩ := hT.rb.rowx (by rw [HNS.out]; omega)
              simp only [Value.slice.injEq, HNS.out, true_and] at hv12 hv13
              obtain ⟨rfl, rfl⟩ := hv12
              obtain ⟨rfl, rfl⟩ := hv13
              have ct : wr.cell? ⟨g12, kk, none⟩ = some (.int .i64 t) := hx12.cell (by simp [hq])
              have cp : wr.cell? ⟨g13, kk, none⟩ = some (.int .i64 p) := hx13.cell (by simp [hq])
              have HQ := Lib.hid hq
              have hlab : ∀ t' : Nat, t' < q → ∃ u, L[t']? = some u := fun t' ht' => ⟨_, List.getElem?_eq_getElem (by have := HKS.out.ps.ri.len; have := HNL.out; omega)⟩
              have clab : ∀ (t' : Nat) (u : Int), L[t']? = some u → wr.cell? ⟨gL, t', none⟩ = some (.int .i64 u) := fun t' u hu => hL.cell (by simp [hu])
              clear hx12 hx13 hq
              go_upto_region 29 with (fail)
              go_cut [137] from 94 to 137 (fun cc wx => ∃ bb, cc = .bool bb ∧ BIs bb (t < 0 ∨ (q : Int) ≤ t ∨ p < 0 ∨ ∃ u, L[t.toNat]? = some u ∧ 0 ≤ u ∧ u ≠ p) ∧ wx = wr.drew)
              case first =>
                by_cases h1 : t < 0
                · have HV : BIs true (t < 0 ∨ (q : Int) ≤ t ∨ p < 0 ∨ ∃ u, L[t.toNat]? = some u ∧ 0 ≤ u ∧ u ≠ p) := by simp [BIs, h1]
                  clear hlab clab
                  go_region
                  go_wp2_with fail
                  go_meet
                  case rel => exact ⟨true, rfl, HV, rfl⟩
                by_cases h2 : (q : Int) ≤ t
                · have HV : BIs true (t < 0 ∨ (q : Int) ≤ t ∨ p < 0 ∨ ∃ u, L[t.toNat]? = some u ∧ 0 ≤ u ∧ u ≠ p) := by simp [BIs, h2]
                  clear hlab clab
                  go_region
                  go_wp2_with fail
                  go_meet
                  case rel => exact ⟨true, rfl, HV, rfl⟩
                by_cases h3 : p < 0
                · have HV : BIs true (t < 0 ∨ (q : Int) ≤ t ∨ p < 0 ∨ ∃ u, L[t.toNat]? = some u ∧ 0 ≤ u ∧ u ≠ p) := by simp [BIs, h3]
                  clear hlab clab
                  go_region
                  go_wp2_with fail
                  go_meet
                  case rel => exact ⟨true, rfl, HV, rfl⟩
                obtain ⟨t', rfl⟩ : ∃ t' : Nat, t = t' := ⟨t.toNat, by omega⟩
                obtain ⟨u, hu⟩ := hlab t' (by omega)
                have cu := clab t' u hu
                have h1' : ¬ ((t' : Int) < 0) := by omega
                have h2' : ¬ ((q : Int) ≤ t') := h2
                have tq : t' < q := by omega
                by_cases h4 : 0 ≤ u
                · by_cases h5 : u = p
                  · have HV : BIs false (((t' : Int) < 0) ∨ (q : Int) ≤ t' ∨ p < 0 ∨ ∃ u, L[(t' : Int).toNat]? = some u ∧ 0 ≤ u ∧ u ≠ p) := by
                      have hno : ¬ (((t' : Int) < 0) ∨ (q : Int) ≤ t' ∨ p < 0 ∨ ∃ u, L[(t' : Int).toNat]? = some u ∧ 0 ≤ u ∧ u ≠ p) := by
                        rintro (h | h | h | ⟨v, h, h6, h7⟩)
                        · exact h1' h
                        · exact h2' h
                        · exact h3 h
                        · rw [Int.toNat_natCast, hu] at h
                          exact h7 ((Option.some.inj h).symm.trans h5)
                      exact ⟨fun h => (by cases h), fun h => absurd h hno⟩
                    have e5 : (u != p) = false := by simpa using h5
                    have e6 : (u == p) = true := by simpa using h5
                    clear hlab clab hu h5 h1 h2
                    go_region
                    go_wp2_with fail
                    go_meet
                    case rel => exact ⟨false, rfl, HV, rfl⟩
                  · have HV : BIs true (((t' : Int) < 0) ∨ (q : Int) ≤ t' ∨ p < 0 ∨ ∃ u, L[(t' : Int).toNat]? = some u ∧ 0 ≤ u ∧ u ≠ p) := ⟨fun _ => .inr (.inr (.inr ⟨u, by rw [Int.toNat_natCast]; exact hu, h4, h5⟩)), fun _ => rfl⟩
                    have e5 : (u != p) = true := by simpa using h5
                    have e6 : (u == p) = false := by simpa using h5
                    clear hlab clab hu h5 h1 h2
                    go_region
                    go_wp2_with fail
                    go_meet
                    case rel => exact ⟨true, rfl, HV, rfl⟩
                · have HV : BIs false (((t' : Int) < 0) ∨ (q : Int) ≤ t' ∨ p < 0 ∨ ∃ u, L[(t' : Int).toNat]? = some u ∧ 0 ≤ u ∧ u ≠ p) := by
                    have hno : ¬ (((t' : Int) < 0) ∨ (q : Int) ≤ t' ∨ p < 0 ∨ ∃ u, L[(t' : Int).toNat]? = some u ∧ 0 ≤ u ∧ u ≠ p) := by
                      rintro (h | h | h | ⟨v, h, h6, h7⟩)
                      · exact h1' h
                      · exact h2' h
                      · exact h3 h
                      · rw [Int.toNat_natCast, hu] at h
                        obtain rfl := Option.some.inj h
                        exact h4 h6
                    exact ⟨fun h => (by cases h), fun h => absurd h hno⟩
                  clear hlab clab hu h1 h2
                  go_region
                  go_wp2_with fail
                  go_meet
                  case rel => exact ⟨false, rfl, HV, rfl⟩
              case rest =>
                obtain ⟨bb, rfl, HB, rfl⟩ := hcut
                have sd : Step [] wr O wr.drew O := (Step.refl _ _ _).drew
                replace hl := hl.frame sd (by simp)
                replace hL := hL.frame sd (by simp)
                replace hb := hb.frame sd (by simp)
                replace hT : Two wr.drew O (.slice (some ⟨g12, 0, none⟩) nS c14) (.slice (some ⟨g13, 0, none⟩) nS c15) S := ⟨hT.ra.frame sd (by simp), hT.rb.frame sd (by simp)⟩
                replace st := st.trans sd.nil
                clear sd ct cp clab
                generalize wr.drew = Wd at *
                cases bb
                rotate_left
                · have hng : ¬ Good l := by
                    rcases HB.1 rfl with h | h | h | ⟨u, hu, h0, hne⟩
                    · exact HKS.out.bad HQ.out (.inl h)
                    · exact HKS.out.bad HQ.out (.inr (.inl (by rw [HNL.out]; exact h)))
                    · exact HKS.out.bad HQ.out (.inr (.inr h))
                    · rcases Int.lt_or_le t 0 with ht | ht
                      · exact HKS.out.bad HQ.out (.inl ht)
                      · obtain ⟨t', rfl⟩ : ∃ t' : Nat, t = t' := ⟨t.toNat, by omega⟩
                        exact HKS.out.clash HQ.out (by rwa [Int.toNat_natCast] at hu) h0 hne
                  have HNG := Lib.hid hng
                  clear hng hlab
                  go_wp2_with fail
                  refine bodyPost_ret (v := .tuple #[.slice none 0 0, .bool false]) (by simp [results, Tryd.results12, go_sem]) rfl ?_
                  exact .inr ⟨HNG.out, O, rfl, st⟩
                have hnb : ¬ (t < 0 ∨ (q : Int) ≤ t ∨ p < 0 ∨ ∃ u, L[t.toNat]? = some u ∧ 0 ≤ u ∧ u ≠ p) := fun h => by have := HB.2 h; cases this
                obtain ⟨t', rfl⟩ : ∃ t' : Nat, t = t' := ⟨t.toNat, by have : ¬ t < 0 := fun h => hnb (.inl h); omega⟩
                have tq : t' < q := by
                  have : ¬ (q : Int) ≤ t' := fun h => hnb (.inr (.inl h))
                  omega
                have p0 : 0 ≤ p := by
                  have : ¬ p < 0 := fun h => hnb (.inr (.inr (.inl h)))
                  omega
                obtain ⟨u, hu⟩ := hlab t' tq
                have hup : 0 ≤ u → u = p := fun h => by
                  by_cases he : u = p
                  · exact he
                  · exact absurd (.inr (.inr (.inr ⟨u, by rw [Int.toNat_natCast]; exact hu, h, he⟩))) hnb
                have cu : Wd.cell? ⟨gL, t', none⟩ = some (.int .i64 u) := hL.cell (by simp [hu])
                have ct : Wd.cell? ⟨g12, kk, none⟩ = some (.int .i64 (t' : Int)) := hT.ra.rd.cellAt (cap := c14) (by rw [HNS.out]) (by simp [HQ.out])
                have cp : Wd.cell? ⟨g13, kk, none⟩ = some (.int .i64 p) := hT.rb.rd.cellAt (cap := c15) (by rw [HNS.out]) (by simp [HQ.out])
                have tqi : (t' : Int) < q := by omega
                have HU := Lib.hid hu
                clear HB hnb hlab hu
                by_cases h4 : 0 ≤ u
                · obtain rfl := hup h4
                  have hks2 := HKS.out.same HQ.out HU.out h4
                  have HK2 := Lib.hid hks2
                  have h5 : ¬ u < 0 := by omega
                  clear hks2 hup HKS
                  go_wp2_with fail
                  go_roundg (nS + 1 - (kk + 1))
                  case measure => rw [HGK2.out]; omega
                  case rel => exact ⟨kk + 1, L, c, O, Lib.hid rfl, hks, rfl, by go_num, HK2, hT, hL, hl, hb, st⟩
                · have h5 : u < 0 := by omega
                  obtain ⟨hks2, -⟩ := HKS.out.new HQ.out HU.out h5 p0
                  have HK2 := Lib.hid hks2
                  have fu := (hL.spare (j := t') (by omega)).2
                  clear hks2 hup HKS
                  have s9 : ∀ W : World, Step [90] W O (W.setCell ⟨gL, t', none⟩ (.int .i64 p)) O := fun W => (Step.refl _ _ _).setCell (a := ⟨gL, t', none⟩) (fun _ => by simp [hL.own]) _
                  have hL9 := hL.setElem t' (.int .i64 p)
                  rw [ints_set] at hL9
                  replace hl := hl.frame (s9 Wd) (by simpa using hk.2.2.1)
                  replace hb := hb.frame (s9 Wd) (by simp)
                  replace hT : Two (Wd.setCell ⟨gL, t', none⟩ (.int .i64 p)) O (.slice (some ⟨g12, 0, none⟩) nS c14) (.slice (some ⟨g13, 0, none⟩) nS c15) S := ⟨hT.ra.frame (s9 Wd) (by simp), hT.rb.frame (s9 Wd) (by simp)⟩
                  replace st := st.trans ((s9 Wd).weaken (by simp))
                  clear hL
                  go_wp2_with fail
                  go_region
                  generalize Wd.setCell ⟨gL, t', none⟩ (.int .i64 p) = We at *
                  have sd : Step [] We O We.drew O := (Step.refl _ _ _).drew
                  replace hl := hl.frame sd (by simp)
                  have hL10 := hL9.frame sd (by simp)
                  replace hb := hb.frame sd (by simp)
                  have hT10 : Two We.drew O (.slice (some ⟨g12, 0, none⟩) nS c14) (.slice (some ⟨g13, 0, none⟩) nS c15) S := ⟨hT.ra.frame sd (by simp), hT.rb.frame sd (by simp)⟩
                  replace st := st.trans sd.nil
                  clear cu ct cp hL9 hT sd s9
                  generalize We.drew = Wf at *
                  go_wp2_with fail
                  go_roundg (nS + 1 - (kk + 1))
                  case measure => rw [HGK2.out]; omega
                  case rel => exact ⟨kk + 1, L.set t' p, true, O, Lib.hid rfl, hks, rfl, by go_num, HK2, hT10, hL10, hl, hb, st⟩
end Go.Proofs.YtglchagfclafgaaDoor
