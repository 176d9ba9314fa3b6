/- A dictionary is made to stand as it did: Back, whole. -/
import Derived.Test.YtaledmoakhlmgaaDicW
import Derived.Deep.CutRange
import Derived.Deep.RegionHeld3
namespace Go.Proofs.Ytaledmoakhlmgaa
open Go Go.RowKit
set_option linter.unusedSimpArgs false
set_option linter.unusedVariables false

theorem Row.kept {w : World} {o : Owner} {i : Nat} {ao : Option Addr} {cap : Nat} {pre r : List Wd} (h : Row w o i 72 6 (.slice ao (pre ++ r).length cap) (pre ++ r).length (hcells (pre ++ r))) : Row w o i 72 6 (.slice ao r.length cap) r.length (hcells r) := by
  have := h.cut (k := r.length) (by simp)
  rw [hcells_take] at this
  exact this

theorem BK.three {w : World} {o : Owner} {i z0 z1 b mb : Nat} {hv ov : Value} {L cur mw ml : Int} (h : BK w o i z0 z1 b hv mb L ov cur mw ml) :
    w.cell? ⟨z0, 0, none⟩ = some (.pointer (some ⟨b, 0, none⟩)) ∧ w.cell? ⟨b, 0, none⟩ = some hv ∧ w.cell? ⟨z1, 0, none⟩ = some (.int .i64 mw) := ⟨h.b0.cell 0, h.d.cell 0, h.b1.cell 0⟩

theorem MapL.less {w : World} {o : Owner} {i mb N : Nat} {L L' : Int} {f : Int → Int} (h : MapL w o i mb L f N) (hL : L' ≤ L) : MapL w o i mb L' f N := by
  obtain ⟨ho, D, hown, hm, hf⟩ := h
  exact ⟨ho, D, hown, hm, fun k k1 k2 => hf k k1 (by omega)⟩
theorem BK.db {w : World} {o : Owner} {i z0 z1 b mb n N : Nat} {hv ov : Value} {mw ml : Int} {s : Dst} (ok : s.Ok) (hk : BK w o i z0 z1 b hv mb s.lists ov s.cur mw ml) (hn : s.ws.length = n) (hr : Row w o (i + 1) 72 6 hv n (hcells s.ws))
    (hr2 : Row w o (i + 2) 3 1 ov s.order.length (ints s.order)) (hm : MapL w o (i + 3) mb s.lists (fun k => ix k s.ws) N) : DB w o i b s N := by
  subst hn
  exact ⟨ok, hv, mb, ov, hk.d, hr, hr2, hm⟩

set_option maxRecDepth 100000 in
set_option maxHeartbeats 40000000 in
theorem back_good {w : World} {o : Owner} {i b N : Nat} {s : Dst} (h : DB w o i b s N) (hN : N < 900000000) (m : Nat) (mw ml : Int) (hmw : mw = m) (h2 : m ≤ s.ws.length) (h3 : 1 ≤ ml) (h4 : ml ≤ s.lists) :
    Calls Try.prog 24 #[.pointer (some ⟨b, 0, none⟩), .agg #[.int .i64 mw, .int .i64 ml]] w fun e w' => e = .returned (.int .i64 (backE s mw ml)) ∧ ∃ o', DB w' o' i b (backS s mw ml) (N + 2000) ∧ Step [i, i + 2, i + 3] w o w' o' := by
  have hmt : mw.toNat = m := by omega
  have hm0 : (0 : Int) ≤ mw := by omega
  obtain ⟨o2, hv, mb, ov, s2, hk, hr, hr2, hm⟩ := h.boxes mw ml
  have hokS := backS_ok h.ok mw ml
  have hwl := h.ok.wl
  have hl1 := h.ok.l1
  have hl8 := h.ok.l8
  have hol := h.ok.ol
  have hli := fun x hx => (h.ok.w x hx).1
  have hli2 := fun x hx => (h.ok.w x hx).2.1
  obtain ⟨ao, cap, rfl, g1, g2⟩ := hr.slice
  obtain ⟨n, hn⟩ : ∃ n, s.ws.length = n := ⟨_, rfl⟩
  obtain ⟨r0, hr0⟩ : ∃ r0, kept s mw = r0 := ⟨_, rfl⟩
  obtain ⟨pre0, hpre0⟩ : ∃ pre, s.ws = pre ++ r0 := ⟨s.ws.take (s.ws.length - mw.toNat), by rw [← hr0, kept, List.take_append_drop]⟩
  have hrl : r0.length = m := by rw [← hr0, kept, List.length_drop]; omega
  have hE : backE s mw ml = if r0.any (fun x => decide (ml < x.li)) then 1 else 0 := by
    unfold backE
    rw [if_neg (by omega), if_neg (by omega), if_neg (by omega), if_neg (by omega), hr0]
  have e1 : decide (mw < 0) = false := decide_eq_false (by omega)
  have e2 : decide ((n : Int) < mw) = false := decide_eq_false (by omega)
  have e3 : decide (ml < 1) = false := decide_eq_false (by omega)
  have e4 : decide (s.lists < ml) = false := decide_eq_false (by omega)
  have hmn : m ≤ n := by omega
  obtain ⟨⟨c0, c1, c2, c3, c4⟩, -, ⟨c5, c6, c7⟩⟩ := hk.facts
  rw [hn] at c0 g1 hr hk
  have hmi : mw ≤ cap := by omega
  obtain ⟨W, hW⟩ : ∃ W, W = (w.alloc (.cells #[.pointer (some ⟨b, 0, none⟩)] 24)).alloc (.cells #[.int .i64 mw, .int .i64 ml] 31) := ⟨_, rfl⟩
  obtain ⟨z0, hz0⟩ : ∃ z, w.heap.size = z := ⟨_, rfl⟩
  obtain ⟨z1, hz1⟩ : ∃ z, w.heap.size + 1 = z := ⟨_, rfl⟩
  have HW := Lib.hid hW
  have HN := Lib.hid hn
  have HP := Lib.hid hpre0
  have HRL := Lib.hid hrl
  have HR0 := Lib.hid hr0
  have HZ0 := Lib.hid hz0
  have HZ1 := Lib.hid hz1
  have HMW := Lib.hid hmw
  rw [hE]
  unfold backS at hokS ⊢
  rw [hE] at hokS ⊢
  rw [hr0] at hokS ⊢
  rw [← hW, hz1, hz0] at hk
  rw [← hW] at s2 hr hr2 hm
  -- what is asked of the words that stay
  have hrk : Row W o2 (i + 1) 72 6 (.slice ao r0.length cap) r0.length (hcells r0) := by
    rw [← hn, hpre0] at hr
    exact hr.kept
  rw [hrl] at hrk
  have hch := fun (W2 : World) (st : Step [] W o2 W2 o2) => ch_ok (v := .slice ao m cap) (ws := r0) (c := z1) (mw := mw) (ml := ml) (by rw [hrl]; exact hrk.frame st (by simp)) (by rw [hrl]; omega) ((hk.b1.frame st (by simp)).heap)
  clear hpre0 hr0 hE hW hn hrl hrk h hz0 hz1 hmw
  cases hany : r0.any (fun x => decide (ml < x.li)) with
  | true =>
    rw [hany] at hch hokS
    rw [if_neg (by decide)] at hokS
    rw [if_pos rfl, if_neg (by decide)]
    have HOK := Lib.hid hokS
    have HCH := Lib.hid hch
    clear hch hokS hany
    go_enter Try.func24, Try.ntmps24
    go_wp2_with fail
    go_quiet (fail)
    go_wp2_with fail
    have s5 : Step [] W o2 (W.drewN nq) o2 := (Step.refl _ _ _).drewN _
    rw [← HW.out]
    rw [HZ1.out, HZ0.out]
    generalize W.drewN nq = W5 at s5 ⊢
    have hk5 := hk.frame s5 (by simp) (by simp)
    clear c0 c1 c2 c3 c4 c5 c6 c7
    go_region_held3 (fun W' => W'.cell? ⟨z0, 0, none⟩ = some (.pointer (some ⟨b, 0, none⟩)) ∧ W'.cell? ⟨b, 0, none⟩ = some (.slice ao n cap) ∧ W'.cell? ⟨z1, 0, none⟩ = some (.int .i64 mw))
      (first | exact (hk5.frame ((Step.refl [] W5 o2).drew) (by simp) (by simp)).three | exact (hk5.frame ((Step.refl [] W5 o2).drew.trans s6) (by simp) (by simp)).three)
      ((go_at_call 35; refine (HCH.out _ (s5.trans (Step.refl [] W5 o2).drew)).mono ?_; rintro e w6 ⟨rfl, s6⟩))
    go_wp2_with fail
    go_ret
    have S := s2.trans ((s5.trans (Step.refl [] W5 o2).drew).trans s6)
    have s7 := (s5.trans (Step.refl [] W5 o2).drew).trans s6
    exact ⟨rfl, o2, BK.db HOK.out (hk.frame s7 (by simp) (by simp)) HN.out (hr.frame s7 (by simp)) (hr2.frame s7 (by simp)) ((hm.frame s7 (by simp)).mono (by omega)), S.nil⟩
  | false =>
    rw [hany] at hch hokS
    rw [if_pos (by rfl)] at hokS
    rw [if_neg (by decide), if_pos rfl]
    have HOK := Lib.hid hokS
    have HCH := Lib.hid hch
    clear hch hokS hany
    go_enter Try.func24, Try.ntmps24
    go_wp2_with fail
    go_quiet (fail)
    go_wp2_with fail
    have s5 : Step [] W o2 (W.drewN nq) o2 := (Step.refl _ _ _).drewN _
    rw [← HW.out]
    rw [HZ1.out, HZ0.out]
    generalize W.drewN nq = W5 at s5 ⊢
    have hk5 := hk.frame s5 (by simp) (by simp)
    clear c0 c1 c2 c3 c4 c5 c6 c7
    go_region_held3 (fun W' => W'.cell? ⟨z0, 0, none⟩ = some (.pointer (some ⟨b, 0, none⟩)) ∧ W'.cell? ⟨b, 0, none⟩ = some (.slice ao n cap) ∧ W'.cell? ⟨z1, 0, none⟩ = some (.int .i64 mw))
      (first | exact (hk5.frame ((Step.refl [] W5 o2).drew) (by simp) (by simp)).three | exact (hk5.frame ((Step.refl [] W5 o2).drew.trans s6) (by simp) (by simp)).three)
      ((go_at_call 35; refine (HCH.out _ (s5.trans (Step.refl [] W5 o2).drew)).mono ?_; rintro e w6 ⟨rfl, s6⟩))
    have s7 := (s5.trans (Step.refl [] W5 o2).drew).trans s6
    have S6 := s2.trans s7
    replace hk := hk.frame s7 (by simp) (by simp)
    replace hr := hr.frame s7 (by simp)
    replace hr2 := hr2.frame s7 (by simp)
    replace hm := hm.frame s7 (by simp)
    clear s5 s6 s7 hk5 HCH HW s2
    obtain ⟨⟨c0, c1, c2, c3, c4⟩, -, ⟨c5, c6, c7⟩⟩ := hk.facts
    have hnl : n ≤ 2000 := by have := HN.out; omega
    have hn1 : IntKind.i64.wrap ((n : Int) - 1) = (n : Int) - 1 := by rw [IntWalk.i64_left, IntWalk.wrap64_in _ (by omega)]
    go_wp2_with fail
    go_loopg [5] (n - m) (fun gk a5 wr => ∃ (r : List Wd) (a : Int), gk = r.length - m ∧ m ≤ r.length ∧ (∃ pre, s.ws = pre ++ r) ∧ a5 = .int .i64 a ∧ Hid (a = (r.length : Int) - 1) ∧ Step [i + 3] w6 o2 wr o2 ∧ MapL wr o2 (i + 3) mb s.lists (fun k => ix k r) (N + (n - r.length)))
    case atStart => exact ⟨s.ws, (n : Int) - 1, by rw [HN.out], by rw [HN.out]; exact hmn, ⟨[], rfl⟩, by rfl, Lib.hid (by rw [HN.out]), Step.refl _ _ _, hm.mono (by omega)⟩
    case round =>
      obtain ⟨r, a, hg, hmr, ⟨pre, hpre⟩, rfl, HA, st, hmr6⟩ := hrel
      have HQ := Lib.hid hg
      clear hg c0 c1 c2 c3 c4 c5 c6 c7 hm
      have sd : Step [] wr o2 wr.drew o2 := (Step.refl _ _ _).drew
      have hkr := hk.frame st (by simp) (by simp)
      have hkd := hkr.frame sd (by simp) (by simp)
      obtain ⟨⟨c0, c1, c2, c3, c4⟩, ⟨f0, f2, f3, f4⟩, ⟨c5, c6, c7⟩⟩ := hkr.facts
      obtain ⟨⟨d0, d1, d2, d3, d4⟩, ⟨k0, k2, k3, k4⟩, ⟨d5, d6, d7⟩⟩ := hkd.facts
      have hrr := hr.frame st (by simp)
      by_cases hlt : mw ≤ a
      · cases r with
        | nil => have := HA.out; simp at this; omega
        | cons x r' =>
          obtain ⟨q, hq⟩ : ∃ q, r'.length = q := ⟨_, rfl⟩
          have haq : a = (q : Int) := by have := HA.out; rw [List.length_cons, hq] at this; omega
          subst haq
          have hxm : x ∈ s.ws := by rw [hpre]; simp
          have hx1 := hli x hxm
          have hx2 := hli2 x hxm
          have hln : n = pre.length + (q + 1) := by rw [← HN.out, hpre, List.length_append, List.length_cons, hq]
          have hqn : (q : Int) < n := by omega
          have hrr2 := hrr.frame sd (by simp)
          rw [← HN.out, hpre] at hrr2
          obtain ⟨g, cap', hsl, hgl, hgo, hcap, hncap, y0, y1, y2, y3, y4, y5⟩ := word_at hrr2
          rw [← hpre, HN.out] at hsl
          simp only [Value.slice.injEq, true_and] at hsl
          obtain ⟨rfl, rfl⟩ := hsl
          rw [hq] at y0 y1 y2 y3 y4 y5
          have hixr := ix_range x.li r'
          obtain ⟨lk, hlk⟩ : ∃ lk, ix x.li r' = lk := ⟨_, rfl⟩
          rw [hlk] at y5 hixr
          obtain ⟨lx, hlx⟩ : ∃ lx, x.li = lx := ⟨_, rfl⟩
          rw [hlx] at y4
          rw [hq] at hixr
          rw [hlx] at hx1 hx2
          obtain ⟨w8, hrun, s8, hupd⟩ := (hmr6.frame sd (by simp)).update (by omega) (k := lx) (v := lk) ⟨by omega, by omega⟩ ⟨by omega, by omega⟩
          have hm8 := hupd s.lists (fun k => ix k r') (Or.inl (Int.le_refl _)) (fun j _ _ => by
            show ix j r' = if j = lx then lk else ix j (x :: r')
            rw [ix_cons, hlx]
            by_cases hj : j = lx
            · rw [if_pos hj, hj, ← hlx, hlk]
            · rw [if_neg hj, if_neg (fun e => hj e.symm)])
          have hm9 := hm8.mono (N' := N + (n - r'.length)) (by rw [List.length_cons]; omega)
          have HPRE := Lib.hid hpre
          have HQL := Lib.hid hq
          have hqw : IntKind.i64.wrap ((q : Int) - 1) = (q : Int) - 1 := by rw [IntWalk.i64_left, IntWalk.wrap64_in _ (by omega)]
          have hk8 := hkd.frame s8 (by simp) (by simp)
          have S8 : Step [i + 3] w6 o2 w8 o2 := (st.trans sd.nil).trans s8
          rw [List.length_cons, hq] at hmr
          clear hupd hm8 hlk hlx hq hpre hrr2 hxm hln hkr hkd hmr6
          go_wp2_with fail
          go_region
          all_goals go_wp2_with fail
          all_goals go_roundg (q - m)
          case measure => rw [HQ.out, List.length_cons, HQL.out]; omega
          case rel => exact ⟨r', (q : Int) - 1, by rw [HQL.out], by rw [HQL.out]; omega, ⟨pre ++ [x], by rw [HPRE.out]; simp⟩, rfl, Lib.hid (by rw [HQL.out]), S8, hm9⟩
      · have hrm : r.length = m := by have := HA.out; have := HMW.out; omega
        have hrr0 : r = r0 := by
          have e := HP.out
          rw [hpre] at e
          exact (List.append_inj' e (by rw [hrm, HRL.out])).2
        subst hrr0
        have hrk := hrr
        rw [← HN.out, hpre] at hrk
        replace hrk := hrk.kept
        rw [hrm] at hrk
        have hr21 := (hr2.frame st (by simp))
        -- the words are cut
        have t1 := (hkr.d.sstep 0 (.slice ao m cap)).drew
        have t1' := hkr.d.sstep 0 (.slice ao m cap)
        have tdr : Step [] (wr.setCell ⟨b, 0, none⟩ (.slice ao m cap)) o2 (wr.setCell ⟨b, 0, none⟩ (.slice ao m cap)).drew o2 := (Step.refl _ _ _).drew
        have hkA : BK (wr.setCell ⟨b, 0, none⟩ (.slice ao m cap)).drew o2 i z0 z1 b (.slice ao m cap) mb s.lists ov s.cur mw ml := ⟨Blk.frame (cs := #[.slice ao m cap, .map (some mb), .int .i64 s.lists, ov, .int .i64 s.cur]) (hkr.d.set 0 _) tdr (by simp), hkr.b0.frame t1 (by simp), hkr.b1.frame t1 (by simp)⟩
        replace hrk := hrk.frame t1 (by simp)
        have hm1 := (hmr6.frame t1 (by simp)).mono (N' := N + 2000) (by omega)
        replace hr21 := hr21.frame t1 (by simp)
        obtain ⟨ao2, cap2, rfl, -, -⟩ := hr21.slice
        obtain ⟨n2, hn2⟩ : ∃ n2, s.order.length = n2 := ⟨_, rfl⟩
        rw [hn2] at hr21 c3 d3 hol hkA
        have S7 : Step [i, i + 3] w6 o2 (wr.setCell ⟨b, 0, none⟩ (.slice ao m cap)).drew o2 := (st.weaken (by simp)).trans (t1.weaken (by simp))
        have HRM := Lib.hid hrm
        have HN2 := Lib.hid hn2
        have hlt2 : ¬ mw ≤ a := hlt
        clear hpre hrm hmr6 hkd t1 t1' tdr hrr hn2 hlt hmr
        go_wp2_with fail
        go_region
        clear c0 c1 c2 c3 c4 c5 c6 c7 d0 d1 d2 d3 d4 d5 d6 d7 f0 f2 f3 f4 k0 k2 k3 k4 hkr
        generalize (wr.setCell ⟨b, 0, none⟩ (.slice ao m cap)).drew = V1 at hkA hrk hm1 hr21 S7 ⊢
        obtain ⟨⟨p0, p1, p2, p3, p4⟩, ⟨q0, q2, q3, q4⟩, ⟨p5, p6, p7⟩⟩ := hkA.facts
        have t2 := hkA.d.sstep 2 (.int .i64 ml)
        have hkB : BK (V1.setCell ⟨b, 2, none⟩ (.int .i64 ml)) o2 i z0 z1 b (.slice ao m cap) mb ml (.slice ao2 n2 cap2) s.cur mw ml := ⟨hkA.d.set 2 _, hkA.b0.frame t2 (by simp), hkA.b1.frame t2 (by simp)⟩
        replace hrk := hrk.frame t2 (by simp)
        replace hm1 := hm1.frame t2 (by simp)
        replace hr21 := hr21.frame t2 (by simp)
        replace S7 := S7.trans (t2.weaken (by simp))
        clear hkA t2
        go_wp2_with fail
        clear p0 p1 p2 p3 p4 p5 p6 p7 q0 q2 q3 q4
        generalize V1.setCell ⟨b, 2, none⟩ (.int .i64 ml) = V2 at hkB hrk hm1 hr21 S7 ⊢
        have sd2 : Step [] V2 o2 V2.drew o2 := (Step.refl _ _ _).drew
        have hkC := hkB.frame sd2 (by simp) (by simp)
        have hdel : Calls Try.prog 37 #[.slice ao2 n2 cap2, .func (.func 38) #[] #[.pointer (some ⟨z0, 0, none⟩)]] V2.drew fun e w' => (∃ v', e = .returned v' ∧ Row w' o2 (i + 2) 3 1 v' (s.order.filter (inL ml)).length (ints (s.order.filter (inL ml)))) ∧ Step [i + 2] V2.drew o2 w' o2 := by
          have := del_ok (c := .pointer (some ⟨z0, 0, none⟩)) (hr21.frame sd2 (by simp)) (by omega) (fun k => !decide (1 ≤ k ∧ k ≤ ml)) (fun W' st' k => cl38b (hkC.d.frame st' (by simp)) ((hkC.b0.frame st' (by simp)).cell 0) k)
          simp only [Bool.not_not] at this
          exact this
        obtain ⟨ord, hord⟩ : ∃ ord, s.order.filter (inL ml) = ord := ⟨_, rfl⟩
        rw [hord] at hdel HOK
        have HORD := Lib.hid hord
        obtain ⟨⟨p0, p1, p2, p3, p4⟩, ⟨q0, q2, q3, q4⟩, ⟨p5, p6, p7⟩⟩ := hkC.facts
        obtain ⟨n3, hn3⟩ : ∃ n3, ord.length = n3 := ⟨_, rfl⟩
        have HN3 := Lib.hid hn3
        rw [hn3] at hdel
        replace hrk := hrk.frame sd2 (by simp)
        replace hm1 := hm1.frame sd2 (by simp)
        replace S7 := S7.trans sd2.nil
        clear hord hr21 hkB sd2 hn3
        refine wp_region_held_drew (S := fun W' => W'.cell? ⟨z0, 0, none⟩ = some (.pointer (some ⟨b, 0, none⟩))) (by kernel_rfl) p5 (fun hHeld => ?_)
        refine wpAnyH_take (i := 0) (oi := ?_) (v := ?_) ?_ (by kernel_rfl) (by kernel_rfl) (by kernel_rfl) ?_ (Or.inl ⟨?_, ?_⟩) ?_ ?_; rotate_left 2
        · (simp only [List.getElem?_toArray, List.getElem?_cons_succ, List.getElem?_cons_zero]; rfl)
        · exact fun _ _ _ h => h
        · rfl
        · (intro w hSw; (try dsimp only at hSw); first | (go_simp; done) | (go_simp; with_reducible rfl))
        · assumption
        try simp only [Act.put, List.setIfInBounds_toArray, List.set_cons_zero, List.set_cons_succ]
        refine wpAnyH_take (i := 1) (oi := ?_) (v := ?_) ?_ (by kernel_rfl) (by kernel_rfl) (by kernel_rfl) ?_ (Or.inl ⟨?_, ?_⟩) ?_ ?_; rotate_left 2
        · (simp only [List.getElem?_toArray, List.getElem?_cons_succ, List.getElem?_cons_zero]; rfl)
        · exact fun _ _ _ h => h
        · rfl
        · (intro w hSw; (try dsimp only at hSw); first | (go_simp; done) | (go_simp; with_reducible rfl))
        · assumption
        try simp only [Act.put, List.setIfInBounds_toArray, List.set_cons_zero, List.set_cons_succ]
        refine wpAnyH_take (i := 2) (oi := ?_) (v := ?_) ?_ (by kernel_rfl) (by kernel_rfl) (by kernel_rfl) ?_ (Or.inl ⟨?_, ?_⟩) ?_ ?_; rotate_left 2
        · (simp only [List.getElem?_toArray, List.getElem?_cons_succ, List.getElem?_cons_zero]; rfl)
        · exact fun _ _ _ h => h
        · rfl
        · (intro w hSw; (try dsimp only at hSw); first | (go_simp; done) | (go_simp; with_reducible rfl))
        · assumption
        try simp only [Act.put, List.setIfInBounds_toArray, List.set_cons_zero, List.set_cons_succ]
        refine wpAnyH_take (i := 3) (oi := ?_) (v := ?_) ?_ (by kernel_rfl) (by kernel_rfl) (by kernel_rfl) ?_ (Or.inl ⟨?_, ?_⟩) ?_ ?_; rotate_left 2
        · (simp only [List.getElem?_toArray, List.getElem?_cons_succ, List.getElem?_cons_zero]; rfl)
        · exact fun _ _ _ h => h
        · rfl
        · (intro w hSw; (try dsimp only at hSw); first | (go_simp; done) | (go_simp; with_reducible rfl))
        · assumption
        try simp only [Act.put, List.setIfInBounds_toArray, List.set_cons_zero, List.set_cons_succ]
        refine wpAnyH_take (i := 5) (oi := ?_) (v := ?_) ?_ (by kernel_rfl) (by kernel_rfl) (by kernel_rfl) ?_ (Or.inl ⟨?_, ?_⟩) ?_ ?_; rotate_left 2
        · (simp only [List.getElem?_toArray, List.getElem?_cons_succ, List.getElem?_cons_zero]; rfl)
        · exact fun _ _ _ h => h
        · rfl
        · (intro w hSw; (try dsimp only at hSw); first | (go_simp; done) | (go_simp; with_reducible rfl))
        · assumption
        try simp only [Act.put, List.setIfInBounds_toArray, List.set_cons_zero, List.set_cons_succ]
        refine wpAnyH_ready (rs := [4]) (by kernel_rfl) (by simp) ?_
        refine AllReadyH.cons (o := ?_) ?_ ?_ ?_; rotate_left 1
        · (simp only [List.getElem?_toArray, List.getElem?_cons_succ, List.getElem?_cons_zero]; rfl)
        rotate_left 1
        · exact AllReadyH.nil
        intro K hK
        go_simp
        refine hK.out _ _ ?_ (fun hHeld => ?_)
        · (try dsimp only)
          exact p5
        clear hK K
        try simp only [Act.put, List.setIfInBounds_toArray, List.set_cons_zero, List.set_cons_succ]
        refine wpAnyH_ready (rs := [6]) (by kernel_rfl) (by simp) ?_
        refine AllReadyH.cons (o := ?_) ?_ ?_ ?_; rotate_left 1
        · (simp only [List.getElem?_toArray, List.getElem?_cons_succ, List.getElem?_cons_zero]; rfl)
        rotate_left 1
        · exact AllReadyH.nil
        intro K hK
        go_simp
        go_at_call 37; refine hdel.mono ?_; rintro e w7 ⟨⟨v7, rfl, hr7⟩, s7⟩; obtain ⟨a7, c7, rfl, -, -⟩ := hr7.slice; have hk7 := hkC.frame s7 (by simp) (by simp); obtain ⟨⟨x0, x1, x2, x3, x4⟩, ⟨y0, y2, y3, y4⟩, ⟨x5, x6, x7⟩⟩ := hk7.facts
        (try go_wp2_with fail)
        refine hK.out _ _ ?_ (fun hHeld => ?_)
        · (try dsimp only)
          exact x5
        clear hK K
        try simp only [Act.put, List.setIfInBounds_toArray, List.set_cons_zero, List.set_cons_succ]
        refine wpAnyH_take (i := 7) (oi := ?_) (v := ?_) ?_ (by kernel_rfl) (by kernel_rfl) (by kernel_rfl) ?_ (Or.inl ⟨?_, ?_⟩) ?_ ?_; rotate_left 2
        · (simp only [List.getElem?_toArray, List.getElem?_cons_succ, List.getElem?_cons_zero]; rfl)
        · exact fun _ _ _ h => h
        · rfl
        · (intro w hSw; (try dsimp only at hSw); first | (go_simp; done) | (go_simp; with_reducible rfl))
        · assumption
        try simp only [Act.put, List.setIfInBounds_toArray, List.set_cons_zero, List.set_cons_succ]
        refine wpAnyH_take (i := 8) (oi := ?_) (v := ?_) ?_ (by kernel_rfl) (by kernel_rfl) (by kernel_rfl) ?_ (Or.inl ⟨?_, ?_⟩) ?_ ?_; rotate_left 2
        · (simp only [List.getElem?_toArray, List.getElem?_cons_succ, List.getElem?_cons_zero]; rfl)
        · exact fun _ _ _ h => h
        · rfl
        · (intro w hSw; (try dsimp only at hSw); first | (go_simp; done) | (go_simp; with_reducible rfl))
        · assumption
        try simp only [Act.put, List.setIfInBounds_toArray, List.set_cons_zero, List.set_cons_succ]
        refine wpAnyH_ready (rs := [9]) (by kernel_rfl) (by simp) ?_
        refine AllReadyH.cons (o := ?_) ?_ ?_ ?_; rotate_left 1
        · (simp only [List.getElem?_toArray, List.getElem?_cons_succ, List.getElem?_cons_zero]; rfl)
        rotate_left 1
        · exact AllReadyH.nil
        intro K hK
        go_simp
        refine hK.out _ _ ?_ (fun hHeld => ?_)
        · (try dsimp only)
          exact (hk7.b0.frame (hk7.d.sstep 3 _) (by simp)).cell 0
        clear hK K
        try simp only [Act.put, List.setIfInBounds_toArray, List.set_cons_zero, List.set_cons_succ]
        refine wpAnyH_done (by kernel_rfl) ?_ _
        clear hHeld
        have s8 := hk7.d.sstep 3 (.slice a7 n3 c7)
        have hkD : BK (w7.setCell ⟨b, 3, none⟩ (.slice a7 n3 c7)) o2 i z0 z1 b (.slice ao m cap) mb ml (.slice a7 n3 c7) s.cur mw ml := ⟨hk7.d.set 3 _, hk7.b0.frame s8 (by simp), hk7.b1.frame s8 (by simp)⟩
        replace hrk := (hrk.frame s7 (by simp)).frame s8 (by simp)
        replace hm1 := (hm1.frame s7 (by simp)).frame s8 (by simp)
        replace hr7 := hr7.frame s8 (by simp)
        replace S7 : Step [i, i + 2, i + 3] w6 o2 _ o2 := ((S7.weaken (by simp)).trans (s7.weaken (by simp))).trans (s8.weaken (by simp))
        clear x0 x1 x2 x3 x4 x5 x6 x7 y0 y2 y3 y4 p0 p1 p2 p3 p4 p5 p6 p7 q0 q2 q3 q4 hkC hk7 s8 s7 hdel
        generalize w7.setCell ⟨b, 3, none⟩ (.slice a7 n3 c7) = V3 at hkD hrk hm1 hr7 S7 ⊢
        obtain ⟨⟨p0, p1, p2, p3, p4⟩, ⟨q0, q2, q3, q4⟩, ⟨p5, p6, p7⟩⟩ := hkD.facts
        have hkn := fun (W' : World) (st : Step [] V3 o2 W' o2) => known_blk (hkD.d.frame st (by simp)) s.cur
        have hr8 : Row V3 o2 (i + 2) 3 1 (.slice a7 n3 c7) ord.length (ints ord) := by rw [HN3.out]; exact hr7
        have hrk8 : r.length = m := HRM.out
        by_cases hc : 1 ≤ s.cur ∧ s.cur ≤ ml
        · rw [decide_eq_true hc] at hkn
          have hcb : curB s.cur ml = s.cur := if_pos hc
          rw [hcb] at HOK
          have HC := Lib.hid hcb
          clear hcb
          have HRK := Lib.hid hrk8
          have HR8 := Lib.hid hr8
          clear hc hrk8 hr8 hr7
          go_wp2_with fail
          go_quiet ((go_at_call 31; exact Calls.quiet_of_same (hkn _ ((Step.refl [] V3 o2).drewN _))))
          go_wp2_with fail
          go_ret
          have s9 : Step [] V3 o2 (V3.drewN nq) o2 := (Step.refl _ _ _).drewN _
          refine ⟨rfl, o2, ?_, S6.nil.trans (S7.trans s9.nil)⟩
          rw [HORD.out, HC.out]
          exact BK.db (s := ⟨r, ml, ord, s.cur⟩) HOK.out (hkD.frame s9 (by simp) (by simp)) HRK.out (hrk.frame s9 (by simp)) (HR8.out.frame s9 (by simp)) ((hm1.frame s9 (by simp)).less h4)
        · rw [decide_eq_false hc] at hkn
          have hcb : curB s.cur ml = 1 := if_neg hc
          rw [hcb] at HOK
          have HC := Lib.hid hcb
          clear hcb
          have HRK := Lib.hid hrk8
          have HR8 := Lib.hid hr8
          clear hc hrk8 hr8 hr7
          go_wp2_with fail
          go_quiet ((go_at_call 31; exact Calls.quiet_of_same (hkn _ ((Step.refl [] V3 o2).drewN _))))
          have s9 : Step [] V3 o2 (V3.drewN nq) o2 := (Step.refl _ _ _).drewN _
          have hkE := hkD.frame s9 (by simp) (by simp)
          obtain ⟨⟨x0, x1, x2, x3, x4⟩, ⟨y0, y2, y3, y4⟩, ⟨x5, x6, x7⟩⟩ := hkE.facts
          go_wp2_with fail
          go_ret
          have s10 := hkE.d.sstep 4 (.int .i64 1)
          refine ⟨rfl, o2, ?_, S6.nil.trans ((S7.trans s9.nil).trans (s10.weaken (by simp)))⟩
          rw [HORD.out, HC.out]
          have hkF : BK ((V3.drewN nq).setCell ⟨b, 4, none⟩ (.int .i64 1)) o2 i z0 z1 b (.slice ao m cap) mb ml (.slice a7 n3 c7) 1 mw ml := ⟨hkE.d.set 4 _, hkE.b0.frame s10 (by simp), hkE.b1.frame s10 (by simp)⟩
          exact BK.db (s := ⟨r, ml, ord, 1⟩) HOK.out hkF HRK.out ((hrk.frame s9 (by simp)).frame s10 (by simp)) ((HR8.out.frame s9 (by simp)).frame s10 (by simp)) (((hm1.frame s9 (by simp)).frame s10 (by simp)).less h4)

/-- A dictionary is made to stand as it did. -/
theorem back_ok {w : World} {o : Owner} {i b N : Nat} {s : Dst} (h : DB w o i b s N) (hN : N < 900000000) (mw ml : Int) :
    Calls Try.prog 24 #[.pointer (some ⟨b, 0, none⟩), .agg #[.int .i64 mw, .int .i64 ml]] w fun e w' => e = .returned (.int .i64 (backE s mw ml)) ∧ ∃ o', DB w' o' i b (backS s mw ml) (N + 2000) ∧ Step [i, i + 2, i + 3] w o w' o' := by
  by_cases hbad : mw < 0 ∨ (s.ws.length : Int) < mw ∨ ml < 1 ∨ s.lists < ml
  · have hE : backE s mw ml = 1 := by
      unfold backE
      by_cases h1 : mw < 0
      · rw [if_pos h1]
      by_cases h2 : (s.ws.length : Int) < mw
      · rw [if_neg h1, if_pos h2]
      by_cases h3 : ml < 1
      · rw [if_neg h1, if_neg h2, if_pos h3]
      rw [if_neg h1, if_neg h2, if_neg h3, if_pos (by omega)]
    have hS : backS s mw ml = s := by unfold backS; rw [hE, if_neg (by decide)]
    rw [hE, hS]
    exact (back_bad h mw ml hbad).mono fun e w' ⟨h1, h2⟩ => ⟨h1, o, (h.nil h2).mono (by omega), h2.nil⟩
  · exact back_good h hN mw.toNat mw ml (by omega) (by omega) (by omega) (by omega)
end Go.Proofs.Ytaledmoakhlmgaa
