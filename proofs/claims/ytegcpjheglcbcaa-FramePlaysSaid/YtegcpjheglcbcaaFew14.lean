/- Acts that came in: the first 200, of up to 20 locals; an act, done to both. -/
import Derived.Test.YtegcpjheglcbcaaDoE14
import Derived.BigRegion
namespace Go.Proofs.Ytegcpjheglcbcaa
open Go Go.RowKit Go.Shelf
set_option linter.unusedSimpArgs false
set_option linter.unusedVariables false

theorem does_ok {w : World} {o : Owner} {b c N : Nat} {fl fr : List (Fr × List Int × Nat)} (y k a d x z n X : Int) {al : Option Addr} {cl : Nat} {l : List Int} (h : Both w o b c N fl fr) (hN : N + 1 ≤ 1000) (hy : 0 ≤ y ∧ y ≤ 255) (hn : -9223372036854775808 ≤ n ∧ n ≤ 9223372036854775807) (hl : Rd w o 0 1 (.slice al l.length cl) l.length (cellsOf l)) (hll : l.length ≤ 20) :
    Calls Try.prog 25 #[.pointer (some ⟨b, 0, none⟩), .pointer (some ⟨c, 0, none⟩), .agg #[.int .u8 y, .int .i64 k, .int .i64 a, .int .i64 d, .int .i64 x, .int .i64 z, .slice al l.length cl, .int .i64 n, .int .i64 X]] w fun e w' => e = .returned (.bool true) ∧ Done w o b c N w' := by
  have h9 : y % 9 = 0 ∨ y % 9 = 1 ∨ y % 9 = 2 ∨ y % 9 = 3 ∨ y % 9 = 4 ∨ y % 9 = 5 ∨ y % 9 = 6 ∨ y % 9 = 7 ∨ y % 9 = 8 := by omega
  rcases h9 with e | e | e | e | e | e | e | e | e
  · exact does_push y k a d x z n X h hN hy e hn hl hll
  · exact does_pop y k a d x z n X h hN hy e hn hl hll
  · exact does_top y k a d x z n X h hN hy e hn hl hll
  · exact does_cut y k a d x z n X h hN hy e hn hl hll
  · exact does_index y k a d x z n X h hN hy e hn hl hll
  · exact does_step y k a d x z n X h hN hy e hn hl hll
  · exact does_local y k a d x z n X h hN hy e hn hl hll
  · exact does_setlocal y k a d x z n X h hN hy e hn hl hll
  · rcases c5_cases (kfa (fl.map ab)) fl.length with ⟨t, h5⟩ | h5
    · exact does_catch_some y k a d x z n X h hN hy e hn hl hll h5
    · exact does_catch_none y k a d x z n X h hN hy e hn hl hll h5

theorem Row.cast {w : World} {o : Owner} {i E size n : Nat} {v : Value} {xs ys : List Value} (h : Row w o i E size v n xs) (e : xs = ys) : Row w o i E size v n ys := e ▸ h

/-- An act as it came in, its locals with their place. -/
structure Av where
  y : Int
  k : Int
  a : Int
  d : Int
  x : Int
  z : Int
  ao : Option Addr
  m : Nat
  cap : Nat
  n : Int
  X : Int
  l : List Int
def Av.cells (a : Av) : List Value := [.int .u8 a.y, .int .i64 a.k, .int .i64 a.a, .int .i64 a.d, .int .i64 a.x, .int .i64 a.z, .slice a.ao a.m a.cap, .int .i64 a.n, .int .i64 a.X]
def acells (zs : List Av) : List Value := zs.flatMap Av.cells
theorem acells_len : ∀ zs : List Av, (acells zs).length = zs.length * 9
  | [] => rfl
  | x :: r => by
    have := acells_len r
    unfold acells at *
    rw [List.flatMap_cons, List.length_append, this, List.length_cons]
    simp [Av.cells]
    omega
theorem acells_at : ∀ {zs : List Av} {q : Nat} {a : Av} (_ : zs[q]? = some a) {j : Nat} (_ : j < 9), (acells zs)[9 * q + j]? = a.cells[j]?
  | [], q, a, h, _, _ => by simp at h
  | x :: r, 0, a, h, j, hj => by
    simp at h
    subst h
    unfold acells
    rw [List.flatMap_cons, List.getElem?_append_left (by simp [Av.cells]; omega)]
    congr 1
    omega
  | x :: r, q + 1, a, h, j, hj => by
    have ih := acells_at (zs := r) (q := q) (a := a) (by simpa using h) hj
    unfold acells at *
    rw [List.flatMap_cons, List.getElem?_append_right (by simp [Av.cells]; omega), ← ih]
    congr 1
    simp [Av.cells]
    omega
theorem acells_push (zs : List Av) (a : Av) : acells (zs ++ [a]) = acells zs ++ a.cells := by simp [acells]
/-- What is left of an act. -/
def cutA (a : Av) : Av := { a with m := min a.m 20, l := a.l.take 20 }
def AvOk (w : World) (a : Av) : Prop := (0 ≤ a.y ∧ a.y ≤ 255) ∧ (-9223372036854775808 ≤ a.n ∧ a.n ≤ 9223372036854775807) ∧ a.m ≤ a.cap ∧ a.cap ≤ 9223372036854775807 ∧ Rd w (fun _ => 0) 0 1 (.slice a.ao a.m a.cap) a.m (cellsOf a.l)
theorem infoAct : (Try.prog.info? 59).map (fun i => (i.zero, i.size, i.bytes)) = some (some (.agg #[.int .u8 0, .int .i64 0, .int .i64 0, .int .i64 0, .int .i64 0, .int .i64 0, .slice none 0 0, .int .i64 0, .int .i64 0]), 9, 88) := by kernel_rfl

set_option maxRecDepth 100000 in
set_option maxHeartbeats 16000000 in
theorem few_ok {w w0 : World} {o : Owner} {n : Nat} {v : Value} {zs : List Av} (hz : Rd w o 0 9 v n (acells zs)) (hln : zs.length = n) (hok : ∀ a ∈ zs, AvOk w0 a) :
    Calls Try.prog 24 #[v] w fun e w' => ∃ v' o', e = .returned v' ∧ Row w' o' 48 59 9 v' (min n 200) (acells ((zs.take 200).map cutA)) ∧ Step [48] w o w' o' := by
  obtain ⟨ao, cap, rfl, g1, g2, -, g4⟩ := hz
  have HG := Lib.hid g4
  have HL := Lib.hid hln
  have HOK := Lib.hid hok
  unfold maxLen at g2
  clear g4 hln hok
  go_enter Try.func24, Try.ntmps24
  go_wp2_with fail
  go_loopg [3, 4, 5, 8] n (fun g a3 a4 a5 a wr => ∃ (q : Nat) (o' : Owner), g = n - q ∧ q ≤ n ∧ a = .int .i64 q ∧ Row wr o' 48 59 9 a3 (min q 200) (acells ((zs.take (min q 200)).map cutA)) ∧ Step [48] w o wr o')
  case atStart => exact ⟨0, o, rfl, Nat.zero_le _, rfl, Row.nil _ _ _ _ _ none, Step.refl _ _ _⟩
  case round =>
    obtain ⟨q, o3, hg, hq, rfl, hrow, st⟩ := hrel
    have HQ := Lib.hid hg
    clear hg
    obtain ⟨P, hP⟩ : ∃ P, min q 200 = P := ⟨_, rfl⟩
    rw [hP] at hrow
    have HP := Lib.hid hP
    clear hP
    obtain ⟨av, cv, rfl, -, -⟩ := hrow.slice
    by_cases hlt : q < n
    · have hqi : (q : Int) < n := by omega
      obtain ⟨a, ha⟩ : ∃ a, zs[q]? = some a := ⟨_, List.getElem?_eq_getElem (by rw [HL.out]; exact hlt)⟩
      obtain ⟨b1, off1, rfl, hb1, ho1, hc1⟩ := HG.out (by omega)
      have hcell := fun j (hj : j < 9) u (hu : a.cells[j]? = some u) => (st.cell (a := ⟨b1, off1 + (9 * q + j), none⟩) hb1 (by show o b1 ∉ [48]; rw [ho1]; decide)).trans (hc1 (9 * q + j) u (by rw [acells_at ha hj]; exact hu))
      have y0 := hcell 0 (by decide) _ rfl
      have y1 := hcell 1 (by decide) _ rfl
      have y2 := hcell 2 (by decide) _ rfl
      have y3 := hcell 3 (by decide) _ rfl
      have y4 := hcell 4 (by decide) _ rfl
      have y5 := hcell 5 (by decide) _ rfl
      have y6 := hcell 6 (by decide) _ rfl
      have y7 := hcell 7 (by decide) _ rfl
      have y8 := hcell 8 (by decide) _ rfl
      rw [show off1 + (9 * q + 0) = off1 + q * 9 by omega] at y0
      rw [show off1 + (9 * q + 1) = off1 + q * 9 + 1 by omega] at y1
      rw [show off1 + (9 * q + 2) = off1 + q * 9 + 2 by omega] at y2
      rw [show off1 + (9 * q + 3) = off1 + q * 9 + 3 by omega] at y3
      rw [show off1 + (9 * q + 4) = off1 + q * 9 + 4 by omega] at y4
      rw [show off1 + (9 * q + 5) = off1 + q * 9 + 5 by omega] at y5
      rw [show off1 + (9 * q + 6) = off1 + q * 9 + 6 by omega] at y6
      rw [show off1 + (9 * q + 7) = off1 + q * 9 + 7 by omega] at y7
      rw [show off1 + (9 * q + 8) = off1 + q * 9 + 8 by omega] at y8
      have hao := HOK.out a (List.mem_of_getElem? ha)
      have HA := Lib.hid ha
      obtain ⟨ay, ak, aa, ad, ax, az, aao, am, acap, an, aX, al⟩ := a
      obtain ⟨-, -, hn1, hn2, -⟩ := hao
      simp only at hn1 hn2
      clear hcell hc1 ha
      obtain ⟨k, hk⟩ : ∃ k : Nat, min (am : Int) 20 = (k : Int) := ⟨min am 20, by omega⟩
      have hkc : (k : Int) ≤ acap := by omega
      have hk0 : (0 : Int) ≤ k := by omega
      have s1 : Step [] wr o3 (wr.alloc (.cells #[.int .u8 ay, .int .i64 ak, .int .i64 aa, .int .i64 ad, .int .i64 ax, .int .i64 az, .slice aao am acap, .int .i64 an, .int .i64 aX] 59)) (o3.set wr.heap.size 49) := ((Step.refl _ _ _).alloc _).give (Nat.le_refl _) _
      have hbx := Blk.new wr o3 49 59 #[.int .u8 ay, .int .i64 ak, .int .i64 aa, .int .i64 ad, .int .i64 ax, .int .i64 az, .slice aao am acap, .int .i64 an, .int .i64 aX]
      by_cases h80 : q < 200
      · have h80i : (q : Int) < 200 := by omega
        have hPq : P = q := by have := HP.out; omega
        subst hPq
        have x6 := hbx.cell 6
        have z6 := hbx.frozen 6
        have s2 : Step [] wr o3 (wr.alloc (.cells #[.int .u8 ay, .int .i64 ak, .int .i64 aa, .int .i64 ad, .int .i64 ax, .int .i64 az, .slice aao k acap, .int .i64 an, .int .i64 aX] 59)) (o3.set wr.heap.size 49) := ((Step.refl _ _ _).alloc _).give (Nat.le_refl _) _
        have hby := Blk.new wr o3 49 59 #[.int .u8 ay, .int .i64 ak, .int .i64 aa, .int .i64 ad, .int .i64 ax, .int .i64 az, .slice aao k acap, .int .i64 an, .int .i64 aX]
        have hrow2 := hrow.frame s2 (by simp)
        have st2 := st.trans s2.nil
        generalize o3.set wr.heap.size 49 = o5 at hby hrow2 st2
        go_upto_region 7 with fail
        generalize (wr.alloc (.cells #[.int .u8 ay, .int .i64 ak, .int .i64 aa, .int .i64 ad, .int .i64 ax, .int .i64 az, .slice aao k acap, .int .i64 an, .int .i64 aX] 59)) = Wd at hby hrow2 st2 ⊢
        generalize wr.heap.size = zb at hby ⊢
        have u0 := hby.cell 0
        have u1 := hby.cell 1
        have u2 := hby.cell 2
        have u3 := hby.cell 3
        have u4 := hby.cell 4
        have u5 := hby.cell 5
        have u6 := hby.cell 6
        have u7 := hby.cell 7
        have u8 := hby.cell 8
        have hxB := fun cs => hrow2.frame ((Step.refl [] Wd o5).alloc (.cells cs 59)) (by simp)
        have hbig : P + 1 ≤ 9223372036854775807 := by omega
        have hbig2 : (P + 1) * 88 ≤ 140737488355328 := by omega
        have hcv : (cutA ⟨ay, ak, aa, ad, ax, az, aao, am, acap, an, aX, al⟩).cells = [.int .u8 ay, .int .i64 ak, .int .i64 aa, .int .i64 ad, .int .i64 ax, .int .i64 az, .slice aao k acap, .int .i64 an, .int .i64 aX] := by
          unfold cutA Av.cells
          rw [show min am 20 = k by omega]
        have HCV := Lib.hid hcv
        clear y0 y1 y2 y3 y4 y5 y6 y7 y8 hcv
        go_wp2_with (at_builtin; refine wpList_app rfl (.tmp 26) (.tmp 28) 53 rfl Try.underlying53 infoAct rfl rfl (hxB _) rfl (Rd.fresh Wd o5 9 59 _ 1 (by decide) rfl) (by simp [Value.oneCell']) hbig hbig2 ?_)
        intro vx w6 o6 hx6 s6
        have S6 := (st2.alloc (.cells #[.int .u8 ay, .int .i64 ak, .int .i64 aa, .int .i64 ad, .int .i64 ax, .int .i64 az, .slice aao k acap, .int .i64 an, .int .i64 aX] 59)).trans s6
        obtain ⟨ax', cx, rfl, -, -⟩ := hx6.slice
        clear hxB u0 u1 u2 u3 u4 u5 u6 u7 u8
        go_wp2_with fail
        go_roundg (n - (P + 1))
        case measure => rw [HQ.out]; omega
        case rel =>
          refine ⟨P + 1, o6, rfl, by omega, by go_num, ?_, S6⟩
          rw [show min (P + 1) 200 = P + 1 by omega]
          have hql : P < zs.length := by rw [HL.out]; exact hlt
          have hae : zs[P] = ⟨ay, ak, aa, ad, ax, az, aao, am, acap, an, aX, al⟩ := by
            have := HA.out
            rw [List.getElem?_eq_getElem hql] at this
            exact Option.some.inj this
          have e : acells ((zs.take (P + 1)).map cutA) = acells ((zs.take P).map cutA) ++ [.int .u8 ay, .int .i64 ak, .int .i64 aa, .int .i64 ad, .int .i64 ax, .int .i64 az, .slice aao k acap, .int .i64 an, .int .i64 aX] := by
            rw [List.take_succ_eq_append_getElem hql, hae, List.map_append, List.map_cons, List.map_nil, acells_push, HCV.out]
          rw [e]
          exact hx6.cast (by rw [List.map_take])
      · have h80i : ¬ (q : Int) < 200 := by omega
        have hPq : P = 200 := by have := HP.out; omega
        subst hPq
        clear hk hkc hk0
        go_wp2_with fail
        go_roundg (n - (q + 1))
        case measure => rw [HQ.out]; omega
        case rel =>
          refine ⟨q + 1, _, rfl, by omega, by go_num, ?_, st.trans s1.nil⟩
          rw [show min (q + 1) 200 = 200 by omega]
          exact hrow.frame s1 (by simp)
    · obtain rfl : n = q := by omega
      go_wp2_with fail
      go_ret
      refine ⟨_, o3, rfl, ?_, st⟩
      rw [HP.out, show (zs.take 200) = zs.take P from ?_]
      · exact hrow
      · have hl := HL.out
        rw [← HP.out]
        rcases Nat.le_total n 200 with hh | hh
        · rw [Nat.min_eq_left hh, List.take_of_length_le (by omega), List.take_of_length_le (by omega)]
        · rw [Nat.min_eq_right hh]
end Go.Proofs.Ytegcpjheglcbcaa
