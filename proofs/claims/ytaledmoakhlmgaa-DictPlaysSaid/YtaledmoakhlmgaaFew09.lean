/- Acts that came in: the first 80, with what they hold cut. -/
import Derived.Test.YtaledmoakhlmgaaDicA
import Derived.BigRegion
namespace Go.Proofs.Ytaledmoakhlmgaa
open Go Go.RowKit
set_option linter.unusedSimpArgs false
set_option linter.unusedVariables false

/-- An act as it came in, its row of numbers with its place. -/
structure Av where
  y : Int
  S : ByteArray
  X : Int
  ao : Option Addr
  n : Nat
  cap : Nat
  mw : Int
  ml : Int
  l : List Int
def Av.cells (a : Av) : List Value := [.int .u8 a.y, .string a.S, .int .i64 a.X, .slice a.ao a.n a.cap, .int .i64 a.mw, .int .i64 a.ml]
def acells (zs : List Av) : List Value := zs.flatMap Av.cells
theorem acells_len : ∀ zs : List Av, (acells zs).length = zs.length * 6
  | [] => rfl
  | x :: r => by
    have := acells_len r
    unfold acells at *
    rw [List.flatMap_cons, List.length_append, this, List.length_cons]
    simp [Av.cells]
    omega
theorem acells_at : ∀ {zs : List Av} {q : Nat} {a : Av} (_ : zs[q]? = some a) {j : Nat} (_ : j < 6), (acells zs)[6 * q + j]? = a.cells[j]?
  | [], q, a, h, _, _ => by simp at h
  | x :: r, 0, a, h, j, hj => by
    simp at h
    subst h
    unfold acells
    rw [List.flatMap_cons, List.getElem?_append_left (by simp [Av.cells]; omega)]
    congr 1
    omega
  | x :: r, q + 1, a, h, j, hj => by
    have ih := acells_at (zs := r) (q := q) (a := a) (by simpa using h) hj
    unfold acells at *
    rw [List.flatMap_cons, List.getElem?_append_right (by simp [Av.cells]; omega), ← ih]
    congr 1
    simp [Av.cells]
    omega
theorem acells_push (zs : List Av) (a : Av) : acells (zs ++ [a]) = acells zs ++ a.cells := by simp [acells]
/-- What is left of an act. -/
def cutv (a : Av) : Av := { a with S := a.S.extract 0 (min (a.S.size : Int) 40).toNat, n := min a.n 12, l := a.l.take 12 }
def AvOk (w : World) (a : Av) : Prop := (0 ≤ a.y ∧ a.y ≤ 255) ∧ (a.S.size : Int) ≤ 9223372036854775807 ∧ (-9223372036854775808 ≤ a.X ∧ a.X ≤ 9223372036854775807) ∧ a.n ≤ a.cap ∧ a.cap ≤ 9223372036854775807 ∧ Rd w (fun _ => 0) 0 1 (.slice a.ao a.n a.cap) a.n (ints a.l)
theorem infoAct : (Try.prog.info? 60).map (fun i => (i.zero, i.size, i.bytes)) = some (some (.agg #[.int .u8 0, .string ByteArray.empty, .int .i64 0, .slice none 0 0, .int .i64 0, .int .i64 0]), 6, 72) := by kernel_rfl

set_option maxRecDepth 100000 in
set_option maxHeartbeats 16000000 in
theorem few_ok {w w0 : World} {o : Owner} {n : Nat} {v : Value} {zs : List Av} (hz : Rd w o 0 6 v n (acells zs)) (hln : zs.length = n) (hok : ∀ a ∈ zs, AvOk w0 a) :
    Calls Try.prog 26 #[v] w fun e w' => ∃ v' o', e = .returned v' ∧ Row w' o' 48 60 6 v' (min n 80) (acells ((zs.take 80).map cutv)) ∧ Step [48] w o w' o' := by
  obtain ⟨ao, cap, rfl, g1, g2, -, g4⟩ := hz
  have HG := Lib.hid g4
  have HL := Lib.hid hln
  have HOK := Lib.hid hok
  unfold maxLen at g2
  clear g4 hln hok
  go_enter Try.func26, Try.ntmps26
  go_wp2_with fail
  go_loopg [3, 4, 5, 8] n (fun g a3 a4 a5 a wr => ∃ (q : Nat) (o' : Owner), g = n - q ∧ q ≤ n ∧ a = .int .i64 q ∧ Row wr o' 48 60 6 a3 (min q 80) (acells ((zs.take (min q 80)).map cutv)) ∧ Step [48] w o wr o')
  case atStart => exact ⟨0, o, rfl, Nat.zero_le _, rfl, Row.nil _ _ _ _ _ none, Step.refl _ _ _⟩
  case round =>
    obtain ⟨q, o3, hg, hq, rfl, hrow, st⟩ := hrel
    have HQ := Lib.hid hg
    clear hg
    obtain ⟨P, hP⟩ : ∃ P, min q 80 = P := ⟨_, rfl⟩
    rw [hP] at hrow
    have HP := Lib.hid hP
    clear hP
    obtain ⟨av, cv, rfl, -, -⟩ := hrow.slice
    by_cases hlt : q < n
    · have hqi : (q : Int) < n := by omega
      obtain ⟨a, ha⟩ : ∃ a, zs[q]? = some a := ⟨_, List.getElem?_eq_getElem (by rw [HL.out]; exact hlt)⟩
      obtain ⟨b1, off1, rfl, hb1, ho1, hc1⟩ := HG.out (by omega)
      have hcell := fun j (hj : j < 6) u (hu : a.cells[j]? = some u) => (st.cell (a := ⟨b1, off1 + (6 * q + j), none⟩) hb1 (by show o b1 ∉ [48]; rw [ho1]; decide)).trans (hc1 (6 * q + j) u (by rw [acells_at ha hj]; exact hu))
      have y0 := hcell 0 (by decide) _ rfl
      have y1 := hcell 1 (by decide) _ rfl
      have y2 := hcell 2 (by decide) _ rfl
      have y3 := hcell 3 (by decide) _ rfl
      have y4 := hcell 4 (by decide) _ rfl
      have y5 := hcell 5 (by decide) _ rfl
      rw [show off1 + (6 * q + 0) = off1 + q * 6 by omega] at y0
      rw [show off1 + (6 * q + 1) = off1 + q * 6 + 1 by omega] at y1
      rw [show off1 + (6 * q + 2) = off1 + q * 6 + 2 by omega] at y2
      rw [show off1 + (6 * q + 3) = off1 + q * 6 + 3 by omega] at y3
      rw [show off1 + (6 * q + 4) = off1 + q * 6 + 4 by omega] at y4
      rw [show off1 + (6 * q + 5) = off1 + q * 6 + 5 by omega] at y5
      have hao := HOK.out a (List.mem_of_getElem? ha)
      have HA := Lib.hid ha
      obtain ⟨ay, aS, aX, aao, an, acap, amw, aml, al⟩ := a
      obtain ⟨-, hs1, -, hn1, hn2, -⟩ := hao
      simp only at hs1 hn1 hn2
      clear hcell hc1 ha
      -- BOX
      obtain ⟨t, ht⟩ : ∃ t, aS.extract 0 (min (aS.size : Int) 40).toNat = t := ⟨_, rfl⟩
      have hm1 : (0 : Int) ≤ min (aS.size : Int) 40 := by omega
      have hm2 : min (aS.size : Int) 40 ≤ aS.size := by omega
      obtain ⟨k, hk⟩ : ∃ k : Nat, min (an : Int) 12 = (k : Int) := ⟨min an 12, by omega⟩
      have hkc : (k : Int) ≤ acap := by omega
      have hk0 : (0 : Int) ≤ k := by omega
      have s1 : Step [] wr o3 (wr.alloc (.cells #[.int .u8 ay, .string aS, .int .i64 aX, .slice aao an acap, .int .i64 amw, .int .i64 aml] 60)) (o3.set wr.heap.size 49) := ((Step.refl _ _ _).alloc _).give (Nat.le_refl _) _
      have hbx := Blk.new wr o3 49 60 #[.int .u8 ay, .string aS, .int .i64 aX, .slice aao an acap, .int .i64 amw, .int .i64 aml]
      have f0 := hbx.cell 0
      have x0 : (wr.alloc (.cells #[.int .u8 ay, .string aS, .int .i64 aX, .slice aao an acap, .int .i64 amw, .int .i64 aml] 60)).cell? ⟨wr.heap.size, 0, none⟩ = some (.int .u8 ay) := hbx.cell 0
      have x1 : (wr.alloc (.cells #[.int .u8 ay, .string aS, .int .i64 aX, .slice aao an acap, .int .i64 amw, .int .i64 aml] 60)).cell? ⟨wr.heap.size, 1, none⟩ = some (.string aS) := hbx.cell 1
      have x3 : (wr.alloc (.cells #[.int .u8 ay, .string aS, .int .i64 aX, .slice aao an acap, .int .i64 amw, .int .i64 aml] 60)).cell? ⟨wr.heap.size, 3, none⟩ = some (.slice aao an acap) := hbx.cell 3
      have z1 := hbx.frozen 1
      have z3 := hbx.frozen 3
      clear f0
      by_cases h80 : q < 80
      · have h80i : (q : Int) < 80 := by omega
        go_wp2_with fail
        go_region
        have hPq : P = q := by have := HP.out; omega
        subst hPq
        have hby := Blk.new wr o3 49 60 #[.int .u8 ay, .string t, .int .i64 aX, .slice aao k acap, .int .i64 amw, .int .i64 aml]
        have s2 : Step [] wr o3 (wr.alloc (.cells #[.int .u8 ay, .string t, .int .i64 aX, .slice aao k acap, .int .i64 amw, .int .i64 aml] 60)).drew (o3.set wr.heap.size 49) := (((Step.refl _ _ _).alloc _).give (Nat.le_refl _) _).drew
        have sdr : Step [] (wr.alloc (.cells #[.int .u8 ay, .string t, .int .i64 aX, .slice aao k acap, .int .i64 amw, .int .i64 aml] 60)) (o3.set wr.heap.size 49) (wr.alloc (.cells #[.int .u8 ay, .string t, .int .i64 aX, .slice aao k acap, .int .i64 amw, .int .i64 aml] 60)).drew (o3.set wr.heap.size 49) := (Step.refl _ _ _).drew
        replace hby := hby.frame sdr (by simp)
        replace hrow := hrow.frame s2 (by simp)
        replace st := st.trans s2.nil
        generalize o3.set wr.heap.size 49 = o5 at hby hrow st
        generalize (wr.alloc (.cells #[.int .u8 ay, .string t, .int .i64 aX, .slice aao k acap, .int .i64 amw, .int .i64 aml] 60)).drew = Wd at hby hrow st ⊢
        generalize wr.heap.size = zb at hby ⊢
        have u0 : Wd.cell? ⟨zb, 0, none⟩ = some (.int .u8 ay) := hby.cell 0
        have u1 : Wd.cell? ⟨zb, 1, none⟩ = some (.string t) := hby.cell 1
        have u2 : Wd.cell? ⟨zb, 2, none⟩ = some (.int .i64 aX) := hby.cell 2
        have u3 : Wd.cell? ⟨zb, 3, none⟩ = some (.slice aao k acap) := hby.cell 3
        have u4 : Wd.cell? ⟨zb, 4, none⟩ = some (.int .i64 amw) := hby.cell 4
        have u5 : Wd.cell? ⟨zb, 5, none⟩ = some (.int .i64 aml) := hby.cell 5
        have hxB := fun cs => hrow.frame ((Step.refl [] Wd o5).alloc (.cells cs 60)) (by simp)
        have hbig : P + 1 ≤ 9223372036854775807 := by omega
        have hbig2 : (P + 1) * 72 ≤ 140737488355328 := by omega
        have hcv : (cutv ⟨ay, aS, aX, aao, an, acap, amw, aml, al⟩).cells = [.int .u8 ay, .string t, .int .i64 aX, .slice aao k acap, .int .i64 amw, .int .i64 aml] := by
          unfold cutv Av.cells
          rw [ht, show min an 12 = k by omega]
        have HCV := Lib.hid hcv
        clear x0 x1 x3 z1 z3 y0 y1 y2 y3 y4 y5 hbx s1 s2 sdr hcv
        go_wp2_with (at_builtin; refine wpList_app rfl (.tmp 31) (.tmp 33) 55 rfl Try.underlying55 infoAct rfl rfl (hxB _) rfl (Rd.fresh Wd o5 6 60 _ 1 (by decide) rfl) (by simp [Value.oneCell']) hbig hbig2 ?_)
        intro vx w6 o6 hx6 s6
        have S6 := (st.alloc (.cells #[.int .u8 ay, .string t, .int .i64 aX, .slice aao k acap, .int .i64 amw, .int .i64 aml] 60)).trans s6
        obtain ⟨ax, cx, rfl, -, -⟩ := hx6.slice
        clear hxB u0 u1 u2 u3 u4 u5
        go_wp2_with fail
        go_roundg (n - (P + 1))
        case measure => rw [HQ.out]; omega
        case rel =>
          refine ⟨P + 1, o6, rfl, by omega, by go_num, ?_, S6⟩
          rw [show min (P + 1) 80 = P + 1 by omega]
          have hql : P < zs.length := by rw [HL.out]; exact hlt
          have hae : zs[P] = ⟨ay, aS, aX, aao, an, acap, amw, aml, al⟩ := by
            have := HA.out
            rw [List.getElem?_eq_getElem hql] at this
            exact Option.some.inj this
          have e : acells ((zs.take (P + 1)).map cutv) = acells ((zs.take P).map cutv) ++ [.int .u8 ay, .string t, .int .i64 aX, .slice aao k acap, .int .i64 amw, .int .i64 aml] := by
            rw [List.take_succ_eq_append_getElem hql, hae, List.map_append, List.map_cons, List.map_nil, acells_push, HCV.out]
          rw [e]
          exact hx6.cast (by rw [List.map_take])
      · have h80i : ¬ (q : Int) < 80 := by omega
        have hPq : P = 80 := by have := HP.out; omega
        subst hPq
        clear hm1 hm2 hk hkc hk0 ht
        go_wp2_with fail
        go_roundg (n - (q + 1))
        case measure => rw [HQ.out]; omega
        case rel =>
          refine ⟨q + 1, _, rfl, by omega, by go_num, ?_, st.trans s1.nil⟩
          rw [show min (q + 1) 80 = 80 by omega]
          exact hrow.frame s1 (by simp)
    · obtain rfl : n = q := by omega
      go_wp2_with fail
      go_ret
      refine ⟨_, o3, rfl, ?_, st⟩
      rw [HP.out, show (zs.take 80) = zs.take P from ?_]
      · exact hrow
      · have hl := HL.out
        rw [← HP.out]
        rcases Nat.le_total n 80 with hh | hh
        · rw [Nat.min_eq_left hh, List.take_of_length_le (by omega), List.take_of_length_le (by omega)]
        · rw [Nat.min_eq_right hh]
end Go.Proofs.Ytaledmoakhlmgaa
