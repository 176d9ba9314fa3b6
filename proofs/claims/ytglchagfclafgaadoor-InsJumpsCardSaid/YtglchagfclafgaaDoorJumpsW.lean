/- InsJumps: the walk. -/
import Derived.Test.YtglchagfclafgaaDoorJumpsL
import Derived.Test.YtglchagfclafgaaDoorCalmA
import Derived.Deep.CutRange
namespace Go.Proofs.YtglchagfclafgaaDoor
open Go Go.RowKit
set_option linter.unusedSimpArgs false
set_option linter.unusedVariables false

theorem infoIns : (Tryd.prog.info? 36).map (fun i => (i.zero, i.size, i.bytes)) = some (some (.agg #[.int .u8 0, .int .i64 0, .int .i64 0]), 3, 24) := by kernel_rfl
theorem Rd.one {w : World} {size n cap : Nat} {a : Option Addr} {xs : List Value} (h : Rd w Z0 0 size (.slice a n cap) n xs) (hn : 0 < n) : ∃ b off, a = some ⟨b, off, none⟩ ∧ ∀ j u, xs[j]? = some u → w.cell? ⟨b, off + j, none⟩ = some u := by
  obtain ⟨a', c', hv, h1, h2, h3, h4⟩ := h
  simp only [Value.slice.injEq, true_and] at hv
  obtain ⟨rfl, rfl⟩ := hv
  obtain ⟨b, off, ha, _, _, hc⟩ := h4 hn
  exact ⟨b, off, ha, hc⟩
theorem Rd.z0 {w w' : World} {o : Owner} {size : Nat} {v : Value} {n : Nat} {xs : List Value} (h : Rd w Z0 0 size v n xs) (s : Step [50] w Z0 w' o) : Rd w' Z0 0 size v n xs := (h.frame s (by simp)).zero

section
variable {P : Program}
/-- append under a guard that is on. -/
theorem wpList_appG {ops : Array Oper} {rest : List Oper} {op : Oper} {a : Act} {Q : Exit → Act → World → Prop} {w : World} (hg : Region.wanted op (yielded ops a.tmps) = true) (s x : Operand) (t : TypeId)
    (ho : op.op = .call { callee := .builtin .append, args := #[s, x], argTypes := #[t, t] })
    {o : Owner} {i E size bytes : Nat} {v : Value} {n : Nat} {xs : List Value} {o2 : Owner} {k : Nat} {xv : Value} {m : Nat} {news : List Value} {z : Value}
    (ht : P.underlying t = some (.slice E)) (hinfo : (P.info? E).map (fun i => (i.zero, i.size, i.bytes)) = some (some z, size, bytes)) (hzs : z.cells.size = size)
    (hs : a.eval s = v) (hrow : Row w o i E size v n xs) (hx : a.eval x = xv) (hrd : Rd w o2 k size xv m news) (h1 : ∀ u ∈ news, u.oneCell' = true)
    (h63 : n + m ≤ 9223372036854775807) (hbytes : (n + m) * bytes ≤ 140737488355328)
    (h : ∀ v' w' o', Row w' o' i E size v' (n + m) (xs ++ news) → Step [i] w o w' o' → wpList P ops Q rest (a.put op.dst v') w') : wpList P ops Q (op :: rest) a w := by
  refine wpList_step fun K hK => ?_
  rw [if_pos hg]
  obtain ⟨v', w', o', hr, h2, h3⟩ := run_app (P := P) hrow hrd h1 t op.type ht hinfo hzs h63 hbytes
  unfold Oper.wp execOp
  simp only [ho, resolve, invoke, builtin, Sem.run_bind, Sem.run_pure, Result.andThen_ok, List.map_toArray, List.map_cons, List.map_nil, hs, hx, hr]
  exact hK _ _ (h v' w' o' h2 h3)
theorem wpList_app0G {ops : Array Oper} {rest : List Oper} {op : Oper} {a : Act} {Q : Exit → Act → World → Prop} {w : World} (hg : Region.wanted op (yielded ops a.tmps) = true) (s x : Operand) (t : TypeId)
    (ho : op.op = .call { callee := .builtin .append, args := #[s, x], argTypes := #[t, t] })
    (o : Owner) (j : Nat) {E size bytes : Nat} {ao : Option Addr} {o2 : Owner} {k : Nat} {xv : Value} {m : Nat} {news : List Value} {z : Value}
    (ht : P.underlying t = some (.slice E)) (hinfo : (P.info? E).map (fun i => (i.zero, i.size, i.bytes)) = some (some z, size, bytes)) (hzs : z.cells.size = size)
    (hs : a.eval s = .slice ao 0 0) (hx : a.eval x = xv) (hrd : Rd w o2 k size xv m news)
    (h63 : m ≤ 9223372036854775807) (hbytes : m * bytes ≤ 140737488355328)
    (h : ∀ v' w' o', Row w' o' j E size v' m news → Step [] w o w' o' → wpList P ops Q rest (a.put op.dst v') w') : wpList P ops Q (op :: rest) a w := by
  refine wpList_step fun K hK => ?_
  rw [if_pos hg]
  obtain ⟨v', w', o', hr, h2, h3⟩ := run_app0 (P := P) (o := o) (ao := ao) hrd j t op.type ht hinfo hzs h63 hbytes
  unfold Oper.wp execOp
  simp only [ho, resolve, invoke, builtin, Sem.run_bind, Sem.run_pure, Result.andThen_ok, List.map_toArray, List.map_cons, List.map_nil, hs, hx, hr]
  exact hK _ _ (h v' w' o' h2 h3)
end

theorem drop_call {w : World} {o : Owner} {vb : Value} {n : Nat} {l : List In} (h : Row w o 51 36 3 vb (n + 1) (icells l ++ [.int .u8 11, .int .i64 0, .int .i64 0])) (hl : l.length = n) (hn : n ≤ 100) (hok : ∀ x ∈ l, x.ok) :
    ∃ ab cb, vb = .slice ab (n + 1) cb ∧ Calls Tryd.prog 13 #[.agg #[.slice ab (n + 1) cb], .int .i64 0] w fun e w' => e = .returned (.bool false) ∧ Calm w w' := by
  have e : icells l ++ [.int .u8 11, .int .i64 0, .int .i64 0] = icells (l ++ [⟨11, 0, 0⟩]) := by rw [icells_app]; rfl
  rw [e] at h
  obtain ⟨ab, cb, rfl, -, -⟩ := h.slice
  refine ⟨ab, cb, rfl, ?_⟩
  have hl2 : (l ++ [(⟨11, 0, 0⟩ : In)]).length = n + 1 := by simp [hl]
  have hr := h.rd.zero
  have := may_calm (words := 0) (v := .slice ab (n + 1) cb) (l := l ++ [⟨11, 0, 0⟩]) (by rw [hl2]; exact hr) (fun x hx => by
    rcases List.mem_append.1 hx with h | h
    · exact hok x h
    · rw [List.mem_singleton] at h
      subst h
      exact ⟨⟨by decide, by decide⟩, ⟨by decide, by decide⟩, ⟨by decide, by decide⟩⟩) (by rw [hl2]; omega) ⟨by decide, by decide⟩
  rw [mayB_false.2 (drop_not _ _)] at this
  exact this

set_option maxRecDepth 100000 in
set_option maxHeartbeats 16000000 in
theorem jumps_walk {w : World} (hwl : WL w Z0) {a1 a2 : Option Addr} {n1 n2 c1 c2 : Nat} {xs : List Int} {bs : List Bool} (hx : n1 = xs.length ∧ Rd w Z0 0 1 (.slice a1 n1 c1) n1 (xs.map (Value.int .i8))) (hxw : ∀ x ∈ xs, -128 ≤ x ∧ x ≤ 127) (hbs : n2 = bs.length ∧ Rd w Z0 0 1 (.slice a2 n2 c2) n2 (bs.map Value.bool)) :
    Calls Tryd.prog 8 #[.slice a1 n1 c1, .slice a2 n2 c2] w fun e w' => e = .returned (.bool true) ∧ Below w.heap.size w w' := by
  have hsh := shown_calm hwl
  obtain ⟨hn1, hx⟩ := hx
  obtain ⟨hn2, hbs⟩ := hbs
  have hx63 : n1 ≤ 9223372036854775807 := by obtain ⟨_, _, hv, h1, h2⟩ := hx.form; simp only [Value.slice.injEq, true_and] at hv; obtain ⟨_, rfl⟩ := hv; omega
  have hb63 : n2 ≤ 9223372036854775807 := by obtain ⟨_, _, hv, h1, h2⟩ := hbs.form; simp only [Value.slice.injEq, true_and] at hv; obtain ⟨_, rfl⟩ := hv; omega
  have HN1 := Lib.hid hn1
  have HN2 := Lib.hid hn2
  have HXW := Lib.hid hxw
  clear hwl hn1 hn2 hxw
  go_enter Tryd.func8, Tryd.ntmps8
  go_wp2_with fail
  refine hsh.mono ?_
  rintro e w2 ⟨rfl, s2⟩
  clear hsh
  have st2 : Step [50] w Z0 w2 Z0 := (s2 Z0).nil
  clear s2
  go_wp2_with fail
  go_loopg [6, 20] (n1 + 1) (fun gm a6 a20 wr => ∃ (i : Nat) (O : Owner), Hid (gm = n1 + 1 - i) ∧ i ≤ n1 ∧ a20 = .int .i64 (i : Int) ∧ Row wr O 50 36 3 a6 (min i 40) (icells ((itemsJ xs bs (min i 40)).map jumI)) ∧ Step [50] w Z0 wr O)
  case atStart => exact ⟨0, Z0, Lib.hid (by omega), by omega, rfl, Row.nil _ _ _ _ _ _, st2⟩
  case round =>
    clear st2
    obtain ⟨i, O, HGM, hi, rfl, hT, st⟩ := hrel
    obtain ⟨aT, cT, rfl, -, -⟩ := hT.slice
    rcases Nat.lt_or_ge i n1 with hin | hin
    · have hii : (i : Int) < n1 := by omega
      obtain ⟨x, hxi⟩ : ∃ x, xs[i]? = some x := ⟨_, List.getElem?_eq_getElem (by have := HN1.out; omega)⟩
      obtain ⟨b1, off1, rfl, h1⟩ := (hx.z0 st).one (by omega)
      have d1 := h1 i (.int .i8 x) (by simp [hxi])
      have hxb := HXW.out x (List.mem_of_getElem? hxi)
      have hxg : xs.getD i 0 = x := by rw [List.getD_eq_getElem?_getD, hxi]; rfl
      have HXG := Lib.hid hxg
      clear h1 hxi hxg
      by_cases h40 : 40 ≤ i
      · have hm1 : min i 40 = 40 := by omega
        have hm2 : min (i + 1) 40 = 40 := by omega
        rw [hm1] at hT
        have hTn : Row wr O 50 36 3 (.slice aT (min i 40) cT) (min (i + 1) 40) (icells ((itemsJ xs bs (min (i + 1) 40)).map jumI)) := by rw [hm1, hm2]; exact hT
        have h40i : ¬ (i : Int) < 40 := by omega
        clear hm1 hm2 hT
        obtain ⟨mi, hmi⟩ : ∃ mi, min i 40 = mi := ⟨_, rfl⟩
        rw [hmi] at hTn ⊢
        clear hmi
        go_wp2_with fail
        go_roundg (n1 + 1 - (i + 1))
        case measure => rw [HGM.out]; omega
        case rel => exact ⟨i + 1, O, Lib.hid rfl, hin, by go_num, hTn, st⟩
      have hm1 : min i 40 = i := by omega
      have hm2 : min (i + 1) 40 = i + 1 := by omega
      rw [hm1] at hT ⊢
      have h40i : (i : Int) < 40 := by omega
      obtain ⟨bi, hbi⟩ : ∃ bi, bs.getD i false = bi := ⟨_, rfl⟩
      have HBI := Lib.hid hbi
      have HM2 := Lib.hid hm2
      clear hm1 hm2 hbi
      go_upto_region 9 with (fail)
      go_cut [36] from 27 to 36 (fun c wx => c = .bool bi ∧ wx = wr)
      case first =>
        by_cases h2 : i < n2
        · have h2i : (i : Int) < n2 := by omega
          obtain ⟨b2, off2, rfl, h3⟩ := (hbs.z0 st).one (by omega)
          have hbv : bs[i]? = some bi := by
            have h4 : i < bs.length := by have := HN2.out; omega
            have h5 := HBI.out
            rw [List.getD_eq_getElem?_getD, List.getElem?_eq_getElem h4] at h5
            rw [List.getElem?_eq_getElem h4]
            exact congrArg some h5
          have d3 := h3 i (.bool bi) (by simp [hbv])
          clear h3 hbv
          go_wp2_with fail
          go_meet
          case rel => exact ⟨rfl, rfl⟩
        · have h2i : ¬ (i : Int) < n2 := by omega
          have hbf : bi = false := by
            rw [← HBI.out, List.getD_eq_getElem?_getD, List.getElem?_eq_none (by have := HN2.out; omega)]
            rfl
          have HBF := Lib.hid hbf
          clear hbf
          go_wp2_with fail
          go_meet
          case rel => exact ⟨by rw [HBF.out], rfl⟩
      case rest =>
        obtain ⟨rfl, rfl⟩ := hcut
        obtain ⟨tm, htm⟩ : ∃ tm, x.tmod 41 = tm := ⟨_, rfl⟩
        have tmb := tmod41 x
        rw [htm] at tmb
        obtain ⟨tm1, tm2⟩ := tmb
        have wtm : IntKind.i64.wrap tm = tm := by simp [IntKind.wrap, IntKind.signed, IntKind.bits]; omega
        have HTM := Lib.hid htm
        have hn1 := fun (cs : Array Value) (hc : cs.size = 1 * 3) => Rd.fresh wc O 3 36 cs 1 (by decide) hc
        have hT1 := fun (cs : Array Value) => hT.frame ((Step.refl [] wc O).alloc (.cells cs 36)) (by simp)
        have h63 : i + 1 ≤ 9223372036854775807 := by omega
        have hby : (i + 1) * 24 ≤ 140737488355328 := by omega
        cases bi
        · skip
          go_wp2_with (at_builtin; refine wpList_app rfl (.tmp 37) (.tmp 43) 22 rfl Tryd.underlying22 infoIns rfl rfl (hT1 _) rfl (hn1 _ rfl) (by simp [Value.oneCell']) h63 hby ?_)
          intro vx w6 o6 hx6 s6
          have hx7 : Row w6 o6 50 36 3 vx (min (i + 1) 40) (icells ((itemsJ xs bs (min (i + 1) 40)).map jumI)) := by
            rw [HM2.out, itemsJ_succ, List.map_append, icells_app, HBI.out, HXG.out, HTM.out]
            exact hx6
          have S6 := st.trans (((Step.refl [50] wc O).alloc _).trans s6)
          obtain ⟨mi, hmi⟩ : ∃ mi, min (i + 1) 40 = mi := ⟨_, rfl⟩
          clear hT hT1 hn1 hx6 s6 hmi
          go_wp2_with fail
          go_roundg (n1 + 1 - (i + 1))
          case measure => rw [HGM.out]; omega
          case rel => exact ⟨i + 1, o6, Lib.hid rfl, hin, by go_num, hx7, S6⟩
        · skip
          go_wp2_with (at_builtin; refine wpList_app rfl (.tmp 37) (.tmp 43) 22 rfl Tryd.underlying22 infoIns rfl rfl (hT1 _) rfl (hn1 _ rfl) (by simp [Value.oneCell']) h63 hby ?_)
          intro vx w6 o6 hx6 s6
          have hx7 : Row w6 o6 50 36 3 vx (min (i + 1) 40) (icells ((itemsJ xs bs (min (i + 1) 40)).map jumI)) := by
            rw [HM2.out, itemsJ_succ, List.map_append, icells_app, HBI.out, HXG.out, HTM.out]
            exact hx6
          have S6 := st.trans (((Step.refl [50] wc O).alloc _).trans s6)
          obtain ⟨mi, hmi⟩ : ∃ mi, min (i + 1) 40 = mi := ⟨_, rfl⟩
          clear hT hT1 hn1 hx6 s6 hmi
          go_wp2_with fail
          go_roundg (n1 + 1 - (i + 1))
          case measure => rw [HGM.out]; omega
          case rel => exact ⟨i + 1, o6, Lib.hid rfl, hin, by go_num, hx7, S6⟩
    · obtain rfl : i = n1 := by omega
      clear hx hbs HXW hi hin HGM
      obtain ⟨m, hm⟩ : ∃ m, min i 40 = m := ⟨_, rfl⟩
      have hm40 : m ≤ 40 := by omega
      rw [hm] at hT ⊢
      obtain ⟨ps, hps⟩ : ∃ ps, itemsJ xs bs m = ps := ⟨_, rfl⟩
      have hpl : ps.length = m := by rw [← hps, itemsJ_len]
      have hjok : ∀ x ∈ jl ps, x.ok := by rw [← hps]; exact jl_ok xs bs m
      rw [hps] at hT
      have HJOK := Lib.hid hjok
      have hjl : (jl ps).length = m + 1 := by rw [jl_len, hpl]
      have HJL := Lib.hid hjl
      have HPL := Lib.hid hpl
      have hn1 := fun (cs : Array Value) (hc : cs.size = 1 * 3) => Rd.fresh wr O 3 36 cs 1 (by decide) hc
      have hT1 := fun (cs : Array Value) => hT.frame ((Step.refl [] wr O).alloc (.cells cs 36)) (by simp)
      have h63 : m + 1 ≤ 9223372036854775807 := by omega
      have hby : (m + 1) * 24 ≤ 140737488355328 := by omega
      clear hm hps hjok hjl hpl
      go_wp2_with (at_builtin; refine wpList_app rfl (.tmp 46) (.tmp 48) 22 rfl Tryd.underlying22 infoIns rfl rfl (hT1 _) rfl (hn1 _ rfl) (by simp [Value.oneCell']) h63 hby ?_; intro vx w6 o6 hx6 s6; have hx7 : Row w6 o6 50 36 3 vx (m + 1) (icells (jl ps)) := (by unfold jl; rw [icells_app]; exact hx6); have S6 := st.trans (((Step.refl [50] wr O).alloc (.cells #[.int .u8 15, .int .i64 0, .int .i64 0] 36)).trans s6); obtain ⟨gT, cT2, rfl, hTx⟩ := hx7.rowx (by omega))
      clear hT hT1 hn1 hx6 s6 st h63 hby hx7
      go_loopg [7, 52] (m + 2) (fun gm a7 a52 wr => ∃ (j : Nat) (B : Bool), Hid (gm = m + 2 - j) ∧ j ≤ m + 1 ∧ a7 = .bool B ∧ a52 = .int .i64 (j : Int) ∧ Hid (BIs B (∀ y ∈ (jl ps).take j, 0 ≤ y.a ∧ y.a < (m : Int) + 1)) ∧ Calm w6 wr)
      case atStart => exact ⟨0, true, Lib.hid (by omega), by omega, rfl, rfl, Lib.hid (by simp [BIs]), Calm.refl _⟩
      case round =>
        obtain ⟨j, B, HGM, hj, rfl, rfl, HB, sr⟩ := hrel
        have hTr := hTx.frame (sr o6) (by simp)
        rcases Nat.lt_or_ge j (m + 1) with hjm | hjm
        · obtain ⟨y, hy⟩ : ∃ y, (jl ps)[j]? = some y := ⟨_, List.getElem?_eq_getElem (by rw [HJL.out]; exact hjm)⟩
          obtain ⟨-, -, hcT⟩ := hTr.rd.at0 (by omega)
          obtain ⟨k0, k1, k2⟩ := hcT j y hy
          simp only [Nat.zero_add] at k0 k1 k2
          have hji : (j : Int) < m + 1 := by omega
          have etk : (jl ps).take (j + 1) = (jl ps).take j ++ [y] := by rw [List.take_add_one, hy]; rfl
          have ETK := Lib.hid etk
          have s8 : Calm w6 (wr.alloc (.cells #[.int .u8 y.op, .int .i64 y.a, .int .i64 y.w] 36)) := sr.alloc _
          have hbx := Blk.new wr o6 78 36 #[.int .u8 y.op, .int .i64 y.a, .int .i64 y.w]
          have y1 := hbx.cell 1
          simp only [List.getElem?_toArray, List.getElem?_cons_succ, List.getElem?_cons_zero] at y1
          clear hcT hy etk hbx
          go_upto_region 17 with (fail)
          clear k0 k1 k2
          generalize wr.alloc (.cells #[.int .u8 y.op, .int .i64 y.a, .int .i64 y.w] 36) = Wn at *
          generalize wr.heap.size = zy at *
          have fin : ∀ b : Bool, BIs b (B = true ∧ 0 ≤ y.a ∧ y.a < (m : Int) + 1) → BIs b (∀ y ∈ (jl ps).take (j + 1), 0 ≤ y.a ∧ y.a < (m : Int) + 1) := fun b HV => by
            refine HV.trans ⟨fun h z hz => ?_, fun h => ⟨HB.out.2 (fun z hz => h z (by rw [ETK.out]; exact List.mem_append_left _ hz)), h y (by rw [ETK.out]; simp)⟩⟩
            rw [ETK.out] at hz
            rcases List.mem_append.1 hz with hz | hz
            · exact HB.out.1 h.1 z hz
            · rw [List.mem_singleton] at hz
              subst hz
              exact h.2
          have FIN := Lib.hid fin
          clear fin
          cases B
          · have HV : BIs false (false = true ∧ 0 ≤ y.a ∧ y.a < (m : Int) + 1) := by simp [BIs]
            have HB3 := Lib.hid (FIN.out _ HV)
            clear HV
            go_wp2_with fail
            go_roundg (m + 2 - (j + 1))
            case measure => rw [HGM.out]; omega
            case rel => exact ⟨j + 1, false, Lib.hid rfl, hjm, rfl, by go_num, HB3, s8⟩
          by_cases h1 : 0 ≤ y.a
          · by_cases h2 : y.a < (m : Int) + 1
            · have HV : BIs true (true = true ∧ 0 ≤ y.a ∧ y.a < (m : Int) + 1) := ⟨fun _ => ⟨rfl, h1, h2⟩, fun _ => rfl⟩
              have HB3 := Lib.hid (FIN.out _ HV)
              clear HV
              go_wp2_with fail
              go_roundg (m + 2 - (j + 1))
              case measure => rw [HGM.out]; omega
              case rel => exact ⟨j + 1, true, Lib.hid rfl, hjm, rfl, by go_num, HB3, s8⟩
            · have HV : BIs false (true = true ∧ 0 ≤ y.a ∧ y.a < (m : Int) + 1) := ⟨fun h => (by cases h), fun h => absurd h.2.2 h2⟩
              have HB3 := Lib.hid (FIN.out _ HV)
              clear HV
              go_wp2_with fail
              go_roundg (m + 2 - (j + 1))
              case measure => rw [HGM.out]; omega
              case rel => exact ⟨j + 1, false, Lib.hid rfl, hjm, rfl, by go_num, HB3, s8⟩
          · have HV : BIs false (true = true ∧ 0 ≤ y.a ∧ y.a < (m : Int) + 1) := ⟨fun h => (by cases h), fun h => absurd h.2.1 h1⟩
            have HB3 := Lib.hid (FIN.out _ HV)
            clear HV
            go_wp2_with fail
            go_roundg (m + 2 - (j + 1))
            case measure => rw [HGM.out]; omega
            case rel => exact ⟨j + 1, false, Lib.hid rfl, hjm, rfl, by go_num, HB3, s8⟩
        · obtain rfl : j = m + 1 := by omega
          have hB : BIs B (okJ ps) := by
            have h1 := HB.out
            rw [← HJL.out, List.take_length] at h1
            refine h1.trans ?_
            rw [okJ_iff, HPL.out]
          have S7 := S6.trans (sr o6).nil
          have hTz : Rd wr Z0 0 3 (.slice (some ⟨gT, 0, none⟩) (m + 1) cT2) (jl ps).length (icells (jl ps)) := by rw [HJL.out]; exact hTr.rd.zero
          have hlo := loops_calm hTz HJOK.out (by rw [HJL.out]; omega)
          have hM := fun W (h : Calm wr W) => may_calm (words := 0) (hTz.calm h) HJOK.out (by rw [HJL.out]; omega) ⟨by decide, by decide⟩
          cases B
          · have hnok : ¬ okJ ps := fun h => by have := hB.2 h; cases this
            rw [mayB_false.2 (jl_not hnok)] at hM
            clear hB HB hnok hTz hTr hTx
            go_wp2_with fail
            refine hlo.mono ?_
            rintro e w7 ⟨⟨hg, v7, rfl, hr7⟩ | ⟨hg, rfl⟩, s7⟩
            · have hM7 := hM w7 s7
              clear hlo hM hr7
              go_wp2_with fail
              refine hM7.mono ?_
              rintro e w8 ⟨rfl, s8⟩
              go_wp2_with fail
              go_ret
              exact ⟨by simp, ((Base.start w).step (S7.trans ((s7 o6).trans (s8 o6)).nil) (by decide)).below⟩
            · have hM7 := hM w7 s7
              clear hlo hM
              go_wp2_with fail
              refine hM7.mono ?_
              rintro e w8 ⟨rfl, s8⟩
              go_wp2_with fail
              go_ret
              exact ⟨by simp, ((Base.start w).step (S7.trans ((s7 o6).trans (s8 o6)).nil) (by decide)).below⟩
          have hokj : okJ ps := hB.1 rfl
          rw [mayB_true.2 (jl_may hokj (by rw [HPL.out]; omega))] at hM
          have HOKJ := Lib.hid hokj
          clear hB HB hokj
          go_wp2_with fail
          refine hlo.mono ?_
          rintro e w7 ⟨⟨hg, v7, rfl, hr7⟩ | ⟨hg, rfl⟩, s7⟩
          rotate_left
          · exact absurd (jl_good HOKJ.out) hg
          rw [HJL.out] at hr7
          obtain ⟨a7, c7, rfl, j7, k7⟩ := hr7.form
          have hTx7 := hTr.frame (s7 o6) (by simp)
          have S8 := S7.trans (s7 o6).nil
          have hM7 := fun W (h : Calm w7 W) => hM W (s7.trans h)
          clear hlo hM hg hTr hTx hTz S7 s7
          go_wp2_with fail
          go_loopg [87] (m + 2) (fun gm a87 wr => ∃ j : Nat, Hid (gm = m + 2 - j) ∧ j ≤ m + 1 ∧ a87 = .int .i64 (j : Int) ∧ Calm w7 wr)
          case atStart => exact ⟨0, Lib.hid (by omega), by omega, rfl, Calm.refl _⟩
          case round =>
            obtain ⟨j, HGM2, hj2, rfl, sr2⟩ := hrel
            obtain ⟨b7, off7, rfl, h7⟩ := (hr7.calm sr2).one (by omega)
            rcases Nat.lt_or_ge j (m + 1) with hjm2 | hjm2
            · have hlen : j < (labs (jl ps)).length := by rw [labs_len, HJL.out]; exact hjm2
              obtain ⟨u, hu⟩ : ∃ u, (labs (jl ps))[j]? = some u := ⟨_, List.getElem?_eq_getElem hlen⟩
              have d7 := h7 j (.int .i64 u) (by simp [hu])
              have hji : (j : Int) < m + 1 := by omega
              have hu2 := jl_labs HOKJ.out hu
              clear h7 hu hlen
              rcases hu2 with rfl | rfl
              · go_wp2_with fail
                go_roundg (m + 2 - (j + 1))
                case measure => rw [HGM2.out]; omega
                case rel => exact ⟨j + 1, Lib.hid rfl, hjm2, by go_num, sr2⟩
              · go_wp2_with fail
                go_roundg (m + 2 - (j + 1))
                case measure => rw [HGM2.out]; omega
                case rel => exact ⟨j + 1, Lib.hid rfl, hjm2, by go_num, sr2⟩
            obtain rfl : j = m + 1 := by omega
            have d7 := h7 0 (.int .i64 0) (by simp [jl_first HOKJ.out])
            rw [Nat.add_zero] at d7
            have hM8 := hM7 _ sr2
            have hTx8 := hTx7.frame (sr2 o6) (by simp)
            have S9 := S8.trans (sr2 o6).nil
            have hcl := hTx8.le
            have hcl2 := hTx8.capl
            unfold maxLen at hcl2
            clear h7 hM7 hr7 hTx7 S8 hjm2 hj2 HGM2
            have hN40 : m + 1 ≤ 41 := by omega
            clear hm40 hj hjm
            go_upto_region 28 with (fail)
            obtain ⟨N, hN⟩ : ∃ N, m + 1 = N := ⟨_, rfl⟩
            rw [hN] at hM8 hTx8 hcl hN40 HJL ⊢
            have hN0 : 0 < N := by omega
            have hN0i : 0 < (N : Int) := by omega
            clear hN
            by_cases hm0 : N < 2
            · have hm1 : decide ((N : Int) < 2) = true := by rw [decide_eq_true_eq]; omega
              clear hm0
              go_wp2_with (go_at_call 13; refine hM8.mono ?_; rintro e w8 ⟨rfl, s8⟩)
              go_ret
              exact ⟨by simp, ((Base.start w).step (S9.trans (s8 o6).nil) (by decide)).below⟩
            have hm1 : decide ((N : Int) < 2) = false := by rw [decide_eq_false_iff_not]; omega
            clear hm0
            have t1 : True := trivial
            have t2 : True := trivial
            have h63 : N + 1 ≤ 9223372036854775807 := by omega
            have hby : (N + 1) * 24 ≤ 140737488355328 := by omega
            have h63a : N ≤ 9223372036854775807 := by omega
            have hbya : N * 24 ≤ 140737488355328 := by omega
            go_wp2_with (first
              | (go_at_call 13; have _t := t1; refine hM8.mono ?_; rintro e w8 ⟨rfl, s8⟩; have hTx9 := hTx8.frame (s8 o6) (by simp); have hTxE := fun (ob : Obj) => (hTx9.frame ((Step.refl [] w8 o6).alloc ob) (by simp)).rd; clear _t t1)
              | (at_builtin; have _t := t2; refine wpList_app0G rfl (.tmp 125) (.tmp 126) 22 rfl o6 51 Tryd.underlying22 infoIns rfl rfl rfl (hTxE _) h63a hbya ?_; intro va wa oa ra sa; have hra := fun (cs : Array Value) => ra.frame ((Step.refl [] wa oa).alloc (.cells cs 36)) (by simp); have hrn := fun (cs : Array Value) (hc : cs.size = 1 * 3) => Rd.fresh wa oa 3 36 cs 1 (by decide) hc; clear _t t2)
              | (at_builtin; refine wpList_appG rfl (.tmp 127) (.tmp 129) 22 rfl Tryd.underlying22 infoIns rfl rfl (hra _) rfl (hrn _ rfl) (by simp [Value.oneCell']) h63 hby ?_; intro vb wb ob rb sb; obtain ⟨ab, cb, rfl, hMb⟩ := drop_call rb HJL.out (by omega) HJOK.out)
              | (go_at_call 13; refine hMb.mono ?_; rintro e w9 ⟨rfl, s9⟩))
            go_ret
            have T1 : Step [50, 51] w Z0 w8 o6 := (S9.trans (s8 o6).nil).weaken (by simp)
            have T2 : Step [50, 51] w8 o6 wa oa := ((Step.refl _ _ _).alloc _).trans sa.nil
            have T3 : Step [50, 51] wa oa wb ob := ((Step.refl _ _ _).alloc _).trans (sb.weaken (by simp))
            exact ⟨by simp, ((Base.start w).step (((T1.trans T2).trans T3).trans (s9 ob).nil) (by decide)).below⟩
end Go.Proofs.YtglchagfclafgaaDoor
