/- The document's dictionary: names of a list, a word of a list, a word of the lists in order. -/
import Derived.Test.YtaledmoakhlmgaaRefA
namespace Go.Proofs.Ytaledmoakhlmgaa
open Go Go.RowKit
set_option linter.unusedSimpArgs false
set_option linter.unusedVariables false

theorem names_none {k : Int} : ∀ {l : List Wd}, (∀ x ∈ l, x.li ≠ k) → names k l = []
  | [], _ => rfl
  | x :: r, h => by
    rw [names_cons, if_neg (h x (by simp))]
    exact names_none fun y hy => h y (by simp [hy])
theorem find_none' {k : Int} {s : ByteArray} : ∀ {l : List Wd}, (∀ x ∈ l, x.li ≠ k) → find k s l = none
  | [], _ => rfl
  | x :: r, h => by
    rw [find_cons, if_neg (fun e => h x (by simp) e.1)]
    exact find_none' fun y hy => h y (by simp [hy])
/-- A list that is not known has nothing. -/
theorem names_all {s : Dst} (h : s.Ok) (k : Int) : namesD s k = names k s.ws := by
  unfold namesD
  split
  · rfl
  · rename_i hk
    refine (names_none fun x hx e => hk ?_).symm
    have := h.w x hx
    exact decide_eq_true ⟨by omega, by omega⟩
theorem in_all {s : Dst} (h : s.Ok) (k : Int) (nm : ByteArray) : inD s k nm = find k (low nm) s.ws := by
  unfold inD
  split
  · rfl
  · rename_i hk
    refine (find_none' fun x hx e => hk ?_).symm
    have := h.w x hx
    exact decide_eq_true ⟨by omega, by omega⟩

set_option maxHeartbeats 4000000 in
theorem rnames_ok {w : World} {o : Owner} {i b : Nat} {s : Dst} (h : RB w o i b s) (k : Int) (jn : Nat) (n0 : jn ≠ i) (n1 : jn ≠ i + 1) (n2 : jn ≠ i + 2) :
    Calls Try.prog 29 #[.pointer (some ⟨b, 0, none⟩), .int .i64 k] w fun e w' => ∃ v o', e = .returned v ∧ Row w' o' jn 9 1 v (namesD s k).length (strs (namesD s k)) ∧ Step [jn] w o w' o' := by
  obtain ⟨R, hR⟩ : ∃ R, namesD s k = R := ⟨_, rfl⟩
  have hRe : names k s.ws = R := by rw [← hR, names_all h.ok]
  rw [hR]
  obtain ⟨ok, lv, ov, jo, hjo, hb, hr, hr2⟩ := h
  obtain ⟨⟨c0, c1, c2, c3⟩, -⟩ := hb.cells4
  have hwl := ok.wl
  obtain ⟨ao, cap, rfl, g1, g2⟩ := hr.slice
  obtain ⟨W, hW⟩ : ∃ W, s.ws.length = W := ⟨_, rfl⟩
  rw [hW] at c0 g1 hwl
  have HRE := Lib.hid hRe
  have HW := Lib.hid hW
  have hWi : IntKind.i64.wrap ((W : Int) - 1) = (W : Int) - 1 := by rw [IntWalk.i64_left, IntWalk.wrap64_in _ (by omega)]
  clear hR hRe hW ok hr2
  go_enter Try.func29, Try.ntmps29
  go_wp2_with fail
  go_loopg [5, 6] W (fun g v a wr => ∃ (o' : Owner) (r : List Wd) (m : List ByteArray) (q : Int), g = r.length ∧ (∃ pre, s.ws = pre ++ r) ∧ a = .int .i64 q ∧ Hid (q = (r.length : Int) - 1) ∧ Row wr o' jn 9 1 v m.length (strs m) ∧ Step [jn] w o wr o' ∧ Hid (m ++ names k r = R) ∧ m.length + r.length ≤ 2000)
  case atStart => exact ⟨o, s.ws, [], (W : Int) - 1, HW.out.symm, ⟨[], rfl⟩, by rfl, Lib.hid (by rw [HW.out]), Row.nil _ _ _ _ _ none, Step.refl _ _ _, Lib.hid HRE.out, by have := HW.out; simp; omega⟩
  case round =>
    obtain ⟨o3, r, m, q, hg, ⟨pre2, hpre⟩, rfl, HQ, hrow, st, hinv, hml⟩ := hrel
    have HG := Lib.hid hg
    clear hg c0 c1 c2 c3
    have hb3 := hb.frame st (by simp; omega)
    have hr3 := hr.frame st (by simp; omega)
    obtain ⟨⟨d0, d1, d2, d3⟩, -⟩ := hb3.cells4
    rw [HW.out] at d0
    obtain ⟨a5, cp5, rfl⟩ : ∃ ao c, _ = Value.slice ao m.length c := by
      obtain ⟨ao, c, hv, _⟩ := hrow.slice; exact ⟨ao, c, hv⟩
    cases r with
    | nil =>
      have hq : q = -1 := by have := HQ.out; simpa using this
      subst hq
      have hRm : R = m := by rw [← hinv.out]; exact List.append_nil _
      subst hRm
      go_wp2_with fail
      go_ret
      exact ⟨_, o3, rfl, hrow, st⟩
    | cons x r' =>
      obtain ⟨p, hp⟩ : ∃ p, r'.length = p := ⟨_, rfl⟩
      have hq : q = (p : Int) := by have := HQ.out; rw [List.length_cons, hp] at this; omega
      subst hq
      rw [hpre] at hr3
      obtain ⟨g, cap', hsl, hgl, hgo, hcap, hncap, y0, y1, y2, y3⟩ := rword_at hr3
      rw [← hpre, HW.out] at hsl
      simp only [Value.slice.injEq, true_and] at hsl
      obtain ⟨rfl, rfl⟩ := hsl
      rw [hp] at y0 y1 y2 y3
      have hpW : (p : Int) < W := by
        have := HW.out
        rw [hpre, List.length_append, List.length_cons, hp] at this
        omega
      have hpw : IntKind.i64.wrap ((p : Int) - 1) = (p : Int) - 1 := by rw [IntWalk.i64_left, IntWalk.wrap64_in _ (by omega)]
      have hmw : m.length + 1 + p ≤ 2000 := by rw [List.length_cons, hp] at hml; omega
      have HP := Lib.hid hp
      have HPRE := Lib.hid hpre
      obtain ⟨xl, hxl⟩ : ∃ xl, x.li = xl := ⟨_, rfl⟩
      rw [hxl] at y3
      have HXL := Lib.hid hxl
      clear hp hpre hr3 hxl hml
      by_cases hk : xl = k
      · have hkb : (xl == k) = true := by simp [hk]
        have hbig : m.length + 1 ≤ 9223372036854775807 := by omega
        have hbig2 : (m.length + 1) * 16 ≤ 140737488355328 := by omega
        have hxB := fun cs => hrow.frame ((Step.refl [] wr o3).alloc (.cells cs 9)) (by simp)
        have HKK := Lib.hid hk
        clear hk
        go_wp2_with (at_builtin; refine wpList_app rfl (.tmp 27) (.tmp 37) 22 rfl Try.underlying22 infoStr rfl rfl (hxB _) rfl (Rd.fresh wr o3 1 9 _ 1 (by decide) rfl) (by simp [Value.oneCell']) hbig hbig2 ?_)
        intro vx w6 o6 hx6 s6
        have S6 := (st.alloc (.cells #[.string x.nm] 9)).trans s6
        have hx7 : Row w6 o6 jn 9 1 vx (m ++ [x.nm]).length (strs (m ++ [x.nm])) := by rw [List.length_append]; exact hx6.cast (by simp [strs])
        obtain ⟨a6, cp6, rfl⟩ : ∃ ao c, vx = Value.slice ao (m.length + 1) c := by
          obtain ⟨ao, c, hv, _⟩ := hx6.slice; exact ⟨ao, c, hv⟩
        clear hxB hx6 hrow y0 y1 y2 y3
        go_wp2_with fail
        go_roundg p
        case measure => rw [HG.out, List.length_cons, HP.out]; omega
        case rel =>
          refine ⟨o6, r', m ++ [x.nm], (p : Int) - 1, HP.out.symm, ⟨pre2 ++ [x], by rw [HPRE.out]; simp⟩, rfl, Lib.hid (by rw [HP.out]), hx7, S6, Lib.hid ?_, ?_⟩
          · rw [← hinv.out, names_cons, if_pos (HXL.out.trans HKK.out)]; simp
          · rw [List.length_append, HP.out]; simp; omega
      · have hkb : (xl == k) = false := by simp [hk]
        have HKK := Lib.hid hk
        clear hk
        go_wp2_with fail
        go_roundg p
        case measure => rw [HG.out, List.length_cons, HP.out]; omega
        case rel => exact ⟨o3, r', m, (p : Int) - 1, HP.out.symm, ⟨pre2 ++ [x], by rw [HPRE.out]; simp⟩, rfl, Lib.hid (by rw [HP.out]), hrow, st, Lib.hid (by rw [← hinv.out, names_cons, if_neg (by rw [HXL.out]; exact HKK.out)]), by rw [HP.out]; omega⟩

set_option maxHeartbeats 4000000 in
theorem rin_ok {w : World} {o : Owner} {i b : Nat} {s : Dst} (h : RB w o i b s) (k : Int) (nm : ByteArray) (hn : nm.size ≤ 1000000) :
    Calls Try.prog 42 #[.pointer (some ⟨b, 0, none⟩), .int .i64 k, .string nm] w fun e w' => e = .returned (entV (inD s k nm)) ∧ ∃ o', Step [] w o w' o' := by
  have st0 := (Step.refl [] w o).alloc (.cells #[.string ByteArray.empty, .int .i64 0, .bool false] 34)
  have hE := E3.new w (.string ByteArray.empty) (.int .i64 0) (.bool false)
  obtain ⟨V, hV⟩ : ∃ V, entV (inD s k nm) = V := ⟨_, rfl⟩
  have hVe : V = entV (find k (low nm) s.ws) := by rw [← hV, in_all h.ok]
  rw [hV]
  have hbe : (ByteArray.empty : ByteArray) = ⟨#[]⟩ := rfl
  rw [hbe] at hE st0
  clear hbe hV
  obtain ⟨ok, lv, ov, jo, hjo, hb, hr, hr2⟩ := h
  replace hb := hb.frame st0 (by simp)
  replace hr := hr.frame st0 (by simp)
  obtain ⟨⟨c0, c1, c2, c3⟩, -⟩ := hb.cells4
  have hwl := ok.wl
  have hsz := fun x hx => (ok.w x hx).2.2.2
  obtain ⟨ao, cap, rfl, g1, g2⟩ := hr.slice
  obtain ⟨W, hW⟩ : ∃ W, s.ws.length = W := ⟨_, rfl⟩
  rw [hW] at c0 g1 hwl
  have HV := Lib.hid hVe
  have HW := Lib.hid hW
  have hWi : IntKind.i64.wrap ((W : Int) - 1) = (W : Int) - 1 := by rw [IntWalk.i64_left, IntWalk.wrap64_in _ (by omega)]
  have hfo := fun w o => rfold_ok nm hn w o
  clear hVe hW ok hr2
  go_enter Try.func42, Try.ntmps42
  go_wp2_with fail
  go_loopg [8] W (fun g a wr => ∃ (o' : Owner) (r : List Wd) (q : Int), g = r.length ∧ (∃ pre, s.ws = pre ++ r) ∧ a = .int .i64 q ∧ Hid (q = (r.length : Int) - 1) ∧ Step [] (w.alloc (.cells #[.string ⟨#[]⟩, .int .i64 0, .bool false] 34)) o wr o' ∧ Hid (find k (low nm) s.ws = find k (low nm) r))
  case atStart => exact ⟨o, s.ws, (W : Int) - 1, HW.out.symm, ⟨[], rfl⟩, by rfl, Lib.hid (by rw [HW.out]), Step.refl _ _ _, Lib.hid rfl⟩
  case round =>
    obtain ⟨o3, r, q, hg, ⟨pre2, hpre⟩, rfl, HQ, st, hinv⟩ := hrel
    have HG := Lib.hid hg
    clear hg c0 c1 c2 c3
    have hE3 := hE.nil st
    have hb3 := hb.frame st (by simp)
    have hr3 := hr.frame st (by simp)
    have hz : w.heap.size ≤ w.heap.size := Nat.le_refl _
    obtain ⟨⟨d0, d1, d2, d3⟩, -⟩ := hb3.cells4
    rw [HW.out] at d0
    cases r with
    | nil =>
      have hq : q = -1 := by have := HQ.out; simpa using this
      subst hq
      have hv : V = .tuple #[.agg #[.string ⟨#[]⟩, .int .i64 0, .bool false], .bool false] := by rw [HV.out, hinv.out]; rfl
      subst hv
      obtain ⟨x0, x1, x2, f0, f1, f2⟩ := hE3.cells
      obtain ⟨g0, g1, g2, -⟩ := (hE3.set (.string ⟨#[]⟩) (.int .i64 0) (.bool false)).cells
      have stF := (st0.trans st).set3 hz (.string ⟨#[]⟩) (.int .i64 0) (.bool false)
      go_wp2_with fail
      refine bodyPost_ret (v := .tuple #[.agg #[.string ⟨#[]⟩, .int .i64 0, .bool false], .bool false]) (by simp only [results, Try.results42]; simp [go_sem, g0, g1, g2]) rfl ⟨rfl, o3, stF⟩
    | cons x r' =>
      obtain ⟨p, hp⟩ : ∃ p, r'.length = p := ⟨_, rfl⟩
      have hq : q = (p : Int) := by have := HQ.out; rw [List.length_cons, hp] at this; omega
      subst hq
      have hxm : x ∈ s.ws := by rw [hpre]; simp
      have hxs := hsz x hxm
      rw [hpre] at hr3
      obtain ⟨g, cap', hsl, hgl, hgo, hcap, hncap, y0, y1, y2, y3⟩ := rword_at hr3
      rw [← hpre, HW.out] at hsl
      simp only [Value.slice.injEq, true_and] at hsl
      obtain ⟨rfl, rfl⟩ := hsl
      rw [hp] at y0 y1 y2 y3
      have hpW : (p : Int) < W := by
        have := HW.out
        rw [hpre, List.length_append, List.length_cons, hp] at this
        omega
      have hpw : IntKind.i64.wrap ((p : Int) - 1) = (p : Int) - 1 := by rw [IntWalk.i64_left, IntWalk.wrap64_in _ (by omega)]
      have HP := Lib.hid hp
      have HPRE := Lib.hid hpre
      obtain ⟨xl, hxl⟩ : ∃ xl, x.li = xl := ⟨_, rfl⟩
      rw [hxl] at y3
      have HXL := Lib.hid hxl
      clear hp hpre hr3 hxl
      by_cases hk : xl = k
      · have hkb : (xl == k) = true := by simp [hk]
        have HKK := Lib.hid hk
        have htq := teq (low x.nm) (low nm)
        have hfx := fun w o => rfold_ok x.nm (by omega) w o
        clear hk
        by_cases heq : low x.nm = low nm
        · rw [decide_eq_true heq] at htq
          have hv : V = .tuple #[.agg #[.string x.nm, .int .i64 x.xt, .bool x.now], .bool true] := by rw [HV.out, hinv.out, find_cons, if_pos ⟨HXL.out.trans HKK.out, heq⟩]; rfl
          subst hv
          clear heq
          go_wp2_with fail
          refine (hfx wr o3).mono ?_
          rintro e w5 ⟨rfl, o5, s5⟩
          go_wp2_with fail
          refine (hfo w5 o5).mono ?_
          rintro e w6 ⟨rfl, o6, s6⟩
          have S6 := s5.trans s6
          obtain ⟨⟨d0, d1, d2, d3⟩, -⟩ := (hb3.frame S6 (by simp)).cells4
          rw [HW.out] at d0
          replace y0 := (S6.cell (a := ⟨g, p * 4, none⟩) hgl (by simp)).trans y0
          replace y1 := (S6.cell (a := ⟨g, p * 4 + 1, none⟩) hgl (by simp)).trans y1
          replace y2 := (S6.cell (a := ⟨g, p * 4 + 2, none⟩) hgl (by simp)).trans y2
          have hE6 := hE3.nil S6
          obtain ⟨x0, x1, x2, f0, f1, f2⟩ := hE6.cells
          obtain ⟨g0, g1, g2, -⟩ := (hE6.set (.string x.nm) (.int .i64 x.xt) (.bool x.now)).cells
          have stF := ((st0.trans st).trans S6).set3 hz (.string x.nm) (.int .i64 x.xt) (.bool x.now)
          go_wp2_with fail
          refine bodyPost_ret (v := .tuple #[.agg #[.string x.nm, .int .i64 x.xt, .bool x.now], .bool true]) (by simp only [results, Try.results42]; simp [go_sem, g0, g1, g2]) rfl ⟨rfl, o6, stF⟩
        · rw [decide_eq_false heq] at htq
          have HEQ := Lib.hid heq
          clear heq
          go_wp2_with fail
          refine (hfx wr o3).mono ?_
          rintro e w5 ⟨rfl, o5, s5⟩
          go_wp2_with fail
          refine (hfo w5 o5).mono ?_
          rintro e w6 ⟨rfl, o6, s6⟩
          have S6 := s5.trans s6
          go_wp2_with fail
          go_roundg p
          case measure => rw [HG.out, List.length_cons, HP.out]; omega
          case rel => exact ⟨o6, r', (p : Int) - 1, HP.out.symm, ⟨pre2 ++ [x], by rw [HPRE.out]; simp⟩, rfl, Lib.hid (by rw [HP.out]), st.trans S6, Lib.hid (by rw [hinv.out, find_cons, if_neg (fun e => HEQ.out e.2)])⟩
      · have hkb : (xl == k) = false := by simp [hk]
        have HKK := Lib.hid hk
        clear hk
        go_wp2_with fail
        go_roundg p
        case measure => rw [HG.out, List.length_cons, HP.out]; omega
        case rel => exact ⟨o3, r', (p : Int) - 1, HP.out.symm, ⟨pre2 ++ [x], by rw [HPRE.out]; simp⟩, rfl, Lib.hid (by rw [HP.out]), st, Lib.hid (by rw [hinv.out, find_cons, if_neg (fun e => HKK.out (HXL.out.symm.trans e.1))])⟩
end Go.Proofs.Ytaledmoakhlmgaa
