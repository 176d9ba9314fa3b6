/- What is to do with what is read, as a function; the program's plan of a word, of numbers, of a local. -/
import Derived.Test.YtnfbldkejbgbiaaDoorTdA
import Derived.Test.YtnfbldkejbgbiaaDoorXtP
namespace Go.Proofs.YtnfbldkejbgbiaaDoor
open Go Go.RowKit Go.Shelf
set_option linter.unusedSimpArgs false
set_option linter.unusedVariables false

def tExec (x : Int) : Td := ⟨2, x, 0, 0, 0⟩
def tPush (x : Int) : Td := ⟨1, x, 0, 0, 0⟩
def tCall (x : Int) : Td := ⟨3, 0, 2, x, 0⟩
def tLit (x : Int) : Td := ⟨3, 0, 1, 0, x⟩
def tLocal (x : Int) : Td := ⟨3, 0, 13, x, 0⟩
/-- The numbers of the two words by which it is done. -/
def xtComp : Int := seekI (low ⟨#[99, 111, 109, 112, 105, 108, 101, 44]⟩) + 1
def xtLit : Int := seekI (low ⟨#[108, 105, 116, 101, 114, 97, 108]⟩) + 1

def nameF (xt : Int) (now : Bool) (mode : Int) : List Td × Int :=
  if mode = 1 then (if onlyAt xt then ([], -14) else ([tExec xt], 0))
  else if mode = 2 then (if now then ([tExec xt], 0) else ([tCall xt], 0))
  else if now then ([tCall xt], 0) else ([tLit xt, tCall xtComp], 0)
def cellF (x mode : Int) : List Td := if mode = 1 then [tPush x] else if mode = 2 then [tLit x] else [tLit x, tCall xtLit]
def planF (k xt : Int) (now : Bool) (a b mode : Int) : List Td × Int :=
  if mode < 1 ∨ 3 < mode then ([], 1)
  else if k = 1 then nameF xt now mode
  else if k = 2 then (cellF a mode, 0)
  else if k = 3 then (cellF a mode ++ cellF b mode, 0)
  else if k = 4 then (if mode = 1 then ([], -14) else if mode = 3 then ([], -48) else ([tLocal a], 0))
  else ([], -13)

/-- A plan that can not be. -/
theorem Pl.fail {w : World} {o : Owner} {i b : Nat} {l : List Td} {e : Int} (h : Pl w o i b l e) (e' : Int) : Pl (w.setCell ⟨b, 1, none⟩ (.int .i64 e')) o i b l e' ∧ Step [i, i + 1] w o (w.setCell ⟨b, 1, none⟩ (.int .i64 e')) o := by
  obtain ⟨v, hb, hr⟩ := h.ex
  exact ⟨⟨v, hb.set 1 (.int .i64 e'), hr.setOther hb (by decide) 1 _⟩, (Step.refl _ _ _).setCell (fun _ => by simp [hb.own]) _⟩
theorem Pl.at {w : World} {o : Owner} {i b : Nat} {l : List Td} {e : Int} (h : Pl w o i b l e) : ∃ v, w.cell? ⟨b, 0, none⟩ = some v ∧ w.cell? ⟨b, 1, none⟩ = some (.int .i64 e) ∧ w.frozen? ⟨b, 0, none⟩ = false ∧ w.frozen? ⟨b, 1, none⟩ = false ∧ b < w.heap.size := by
  obtain ⟨v, hb, hr⟩ := h.ex
  obtain ⟨h0, h1, h2, h3⟩ := pl_cells hb
  exact ⟨v, h0, h1, h2, h3, hb.lt⟩

set_option maxHeartbeats 4000000 in
theorem local_ok {w : World} {o : Owner} {i b : Nat} (hp : Pl w o i b [] 0) (a mode : Int) (hm : 1 ≤ mode ∧ mode ≤ 3) :
    Calls Tryd.prog 23 #[.pointer (some ⟨b, 0, none⟩), .int .i64 a, .int .i64 mode] w fun e' w' => e' = .returned (.tuple #[]) ∧ ∃ o', Pl w' o' i b (if mode = 1 then ([], -14) else if mode = 3 then ([], -48) else ([tLocal a], 0) : List Td × Int).1 (if mode = 1 then ([], -14) else if mode = 3 then ([], -48) else ([tLocal a], 0) : List Td × Int).2 ∧ Step [i, i + 1] w o w' o' := by
  obtain ⟨v, c0, c1, f0, f1, hlt⟩ := hp.at
  rcases (show mode = 1 ∨ mode = 2 ∨ mode = 3 by omega) with rfl | rfl | rfl
  · obtain ⟨h1, h2⟩ := hp.fail (-14)
    go_enter Tryd.func23, Tryd.ntmps23
    go_wp2_with fail
    refine Go.Great.bodyPost_end0 (by kernel_rfl) rfl ?_
    exact ⟨rfl, o, h1, h2⟩
  · have h := lay_ok hp (by decide) 13 a 0
    go_enter Tryd.func23, Tryd.ntmps23
    go_wp2_with fail
    refine h.mono ?_
    rintro e' w' ⟨rfl, o', h1, h2⟩
    go_wp2_with fail
    refine Go.Great.bodyPost_end0 (by kernel_rfl) rfl ?_
    exact ⟨rfl, o', h1, h2⟩
  · obtain ⟨h1, h2⟩ := hp.fail (-48)
    go_enter Tryd.func23, Tryd.ntmps23
    go_wp2_with fail
    refine Go.Great.bodyPost_end0 (by kernel_rfl) rfl ?_
    exact ⟨rfl, o, h1, h2⟩

theorem cells5 {w : World} {o : Owner} {i b : Nat} {T : TypeId} {v0 v1 v2 v3 v4 : Value} (h : Blk w o i b T #[v0, v1, v2, v3, v4]) :
    (w.cell? ⟨b, 0, none⟩ = some v0 ∧ w.cell? ⟨b, 1, none⟩ = some v1 ∧ w.cell? ⟨b, 2, none⟩ = some v2 ∧ w.cell? ⟨b, 3, none⟩ = some v3 ∧ w.cell? ⟨b, 4, none⟩ = some v4) ∧
      (w.frozen? ⟨b, 0, none⟩ = false ∧ w.frozen? ⟨b, 1, none⟩ = false ∧ w.frozen? ⟨b, 2, none⟩ = false ∧ w.frozen? ⟨b, 3, none⟩ = false ∧ w.frozen? ⟨b, 4, none⟩ = false) :=
  ⟨⟨h.cell 0, h.cell 1, h.cell 2, h.cell 3, h.cell 4⟩, ⟨h.frozen 0, h.frozen 1, h.frozen 2, h.frozen 3, h.frozen 4⟩⟩

/-- A value of five cells that is boxed. -/
theorem boxed {w : World} (o : Owner) (i : Nat) (T : TypeId) (v0 v1 v2 v3 v4 : Value) :
    ∃ w1 o1, w1 = w.alloc (.cells #[v0, v1, v2, v3, v4] T) ∧ Step [] w o w1 o1 ∧ Blk w1 o1 i w.heap.size T #[v0, v1, v2, v3, v4] :=
  ⟨_, o.set w.heap.size i, rfl, ((Step.refl _ _ _).alloc _).give (Nat.le_refl _) _, Blk.new w o i _ _⟩

set_option maxHeartbeats 8000000 in
theorem pname_ok {w : World} {o : Owner} {i b : Nat} (hp : Pl w o i b [] 0) (hm : ML w o) (hi : i ≠ 0) (k xt : Int) (now : Bool) (x y mode : Int) (hmo : 1 ≤ mode ∧ mode ≤ 3) :
    Calls Tryd.prog 21 #[.pointer (some ⟨b, 0, none⟩), .agg #[.int .i64 k, .int .i64 xt, .bool now, .int .i64 x, .int .i64 y], .int .i64 mode] w fun e' w' => e' = .returned (.tuple #[]) ∧ ∃ o', Pl w' o' i b (nameF xt now mode).1 (nameF xt now mode).2 ∧ Step [i, i + 1] w o w' o' := by
  obtain ⟨w1, o1, hw1, s1, hK⟩ := boxed (w := w) o (i + 2) 24 (.int .i64 k) (.int .i64 xt) (.bool now) (.int .i64 x) (.int .i64 y)
  have hp1 := hp.frame s1 (by simp) (by simp)
  have hm1 := hm.frame s1 (by simp)
  obtain ⟨p, hpp⟩ : ∃ p, w.heap.size = p := ⟨_, rfl⟩
  rw [hpp] at hK
  have HW1 := Lib.hid hw1
  have HPP := Lib.hid hpp
  clear hw1 hpp hp hm
  rcases (show mode = 1 ∨ mode = 2 ∨ mode = 3 by omega) with rfl | rfl | rfl
  · have ho := only_ok xt hm1
    rw [HW1.out] at ho
    cases hon : onlyAt xt with
    | true =>
      have hF : nameF xt now 1 = ([], -14) := by unfold nameF; rw [if_pos rfl, hon]; rfl
      have HF := Lib.hid hF
      rw [hon] at ho
      clear hF hon
      go_enter Tryd.func21, Tryd.ntmps21
      go_wp2_with fail
      refine ho.mono ?_
      rintro e w2 ⟨rfl, o2, s2⟩
      rw [← HW1.out] at s2
      have hp2 := hp1.frame s2 (by simp) (by simp)
      obtain ⟨v, c0, c1, f0, f1, hlt⟩ := hp2.at
      obtain ⟨q1, q2⟩ := hp2.fail (-14)
      go_wp2_with fail
      refine Go.Great.bodyPost_end0 (by kernel_rfl) rfl ?_
      rw [HF.out]
      exact ⟨rfl, o2, q1, (s1.nil.trans s2.nil).trans q2⟩
    | false =>
      have hF : nameF xt now 1 = ([tExec xt], 0) := by unfold nameF; rw [if_pos rfl, hon]; rfl
      have HF := Lib.hid hF
      rw [hon] at ho
      clear hF hon
      go_enter Tryd.func21, Tryd.ntmps21
      go_wp2_with fail
      refine ho.mono ?_
      rintro e w2 ⟨rfl, o2, s2⟩
      rw [← HW1.out] at s2
      have hp2 := hp1.frame s2 (by simp) (by simp)
      obtain ⟨⟨y0, y1, y2, y3, y4⟩, _⟩ := cells5 (hK.frame s2 (by simp))
      have hex := exec_ok hp2 (by decide) xt
      rw [HPP.out]
      go_wp2_with fail
      refine hex.mono ?_
      rintro e w3 ⟨rfl, o3, q1, q2⟩
      go_wp2_with fail
      refine Go.Great.bodyPost_end0 (by kernel_rfl) rfl ?_
      rw [HF.out]
      exact ⟨rfl, o3, q1, (s1.nil.trans s2.nil).trans q2⟩
  · cases now with
    | true =>
      have HF := Lib.hid (show nameF xt true 2 = ([tExec xt], 0) from rfl)
      have hex := exec_ok hp1 (by decide) xt
      rw [HW1.out] at hex
      go_enter Tryd.func21, Tryd.ntmps21
      go_wp2_with fail
      refine hex.mono ?_
      rintro e w3 ⟨rfl, o3, q1, q2⟩
      rw [← HW1.out] at q2
      go_wp2_with fail
      refine Go.Great.bodyPost_end0 (by kernel_rfl) rfl ?_
      rw [HF.out]
      exact ⟨rfl, o3, q1, s1.nil.trans q2⟩
    | false =>
      have HF := Lib.hid (show nameF xt false 2 = ([tCall xt], 0) from rfl)
      have hex := call_ok hp1 (by decide) xt
      rw [HW1.out] at hex
      go_enter Tryd.func21, Tryd.ntmps21
      go_wp2_with fail
      refine hex.mono ?_
      rintro e w3 ⟨rfl, o3, q1, q2⟩
      rw [← HW1.out] at q2
      go_wp2_with fail
      refine Go.Great.bodyPost_end0 (by kernel_rfl) rfl ?_
      rw [HF.out]
      exact ⟨rfl, o3, q1, s1.nil.trans q2⟩
  · cases now with
    | true =>
      have HF := Lib.hid (show nameF xt true 3 = ([tCall xt], 0) from rfl)
      have hex := call_ok hp1 (by decide) xt
      rw [HW1.out] at hex
      go_enter Tryd.func21, Tryd.ntmps21
      go_wp2_with fail
      refine hex.mono ?_
      rintro e w3 ⟨rfl, o3, q1, q2⟩
      rw [← HW1.out] at q2
      go_wp2_with fail
      refine Go.Great.bodyPost_end0 (by kernel_rfl) rfl ?_
      rw [HF.out]
      exact ⟨rfl, o3, q1, s1.nil.trans q2⟩
    | false =>
      have HF := Lib.hid (show nameF xt false 3 = ([tLit xt, tCall xtComp], 0) from rfl)
      have hex := lit_ok hp1 (by decide) xt
      rw [HW1.out] at hex
      go_enter Tryd.func21, Tryd.ntmps21
      go_wp2_with fail
      refine hex.mono ?_
      rintro e w3 ⟨rfl, o3, q1, q2⟩
      rw [← HW1.out] at q2
      have hm3 := hm1.frame q2 (by simp; omega)
      have hx := xt_ok ⟨#[99, 111, 109, 112, 105, 108, 101, 44]⟩ (by decide) hm3
      rw [show seekI (low ⟨#[99, 111, 109, 112, 105, 108, 101, 44]⟩) + 1 = xtComp from rfl] at hx
      go_wp2_with fail
      refine hx.mono ?_
      rintro e w4 ⟨rfl, o4, s4⟩
      have hc := call_ok (q1.frame s4 (by simp) (by simp)) (by simp) xtComp
      go_wp2_with fail
      refine hc.mono ?_
      rintro e w5 ⟨rfl, o5, r1, r2⟩
      go_wp2_with fail
      refine Go.Great.bodyPost_end0 (by kernel_rfl) rfl ?_
      rw [HF.out]
      exact ⟨rfl, o5, r1, ((s1.nil.trans q2).trans s4.nil).trans r2⟩

def cellsF (xs : List Int) (mode : Int) : List Td := xs.flatMap fun x => cellF x mode
theorem cellsF_snoc (xs : List Int) (x mode : Int) : cellsF (xs ++ [x]) mode = cellsF xs mode ++ cellF x mode := by
  simp [cellsF]
theorem cellF_length (x mode : Int) : (cellF x mode).length ≤ 2 := by
  unfold cellF
  split
  · simp
  · split <;> simp
theorem cellsF_length : ∀ (xs : List Int) (mode : Int), (cellsF xs mode).length ≤ 2 * xs.length
  | [], _ => Nat.le_refl _
  | x :: xs, mode => by
    have h1 := cellF_length x mode
    have h2 := cellsF_length xs mode
    have : cellsF (x :: xs) mode = cellF x mode ++ cellsF xs mode := rfl
    rw [this, List.length_append, List.length_cons]
    omega

set_option maxHeartbeats 8000000 in
theorem pcells_ok {w : World} {o : Owner} {i b : Nat} (hp : Pl w o i b [] 0) (hm : ML w o) (hi : i ≠ 0) (mode : Int) (hmo : 1 ≤ mode ∧ mode ≤ 3) {q : Nat} (hq1 : q ≠ i) (hq2 : q ≠ i + 1) {a : Option Addr} {n c : Nat} {xs : List Int} (hx : Rd w o q 1 (.slice a n c) n (xs.map (Value.int .i64))) (hn : n ≤ 100) :
    Calls Tryd.prog 22 #[.pointer (some ⟨b, 0, none⟩), .int .i64 mode, .slice a n c] w fun e' w' => e' = .returned (.tuple #[]) ∧ ∃ o', Pl w' o' i b (cellsF xs mode) 0 ∧ Step [i, i + 1] w o w' o' := by
  have hlen : xs.length = n := by have := hx.len; simpa using this
  have HLEN := Lib.hid hlen
  clear hlen
  go_enter Tryd.func22, Tryd.ntmps22
  go_wp2_with fail
  go_loopg [10] n (fun g v wr => ∃ (j : Nat) (o' : Owner), g = n - j ∧ j ≤ n ∧ v = .int .i64 j ∧ Pl wr o' i b (cellsF (xs.take j) mode) 0 ∧ Step [i, i + 1] w o wr o')
  case atStart => exact ⟨0, o, rfl, Nat.zero_le _, rfl, hp, Step.refl _ _ _⟩
  case round =>
    obtain ⟨j, o3, hg, hj, rfl, hp3, st⟩ := hrel
    have HG := Lib.hid hg
    clear hg hp
    by_cases hlt : j < n
    · have hji : (j : Int) < n := by omega
      have hx3 := hx.frame st (by simp; omega)
      have hm3 := hm.frame st (by simp; omega)
      obtain ⟨x, hxj⟩ : ∃ x, xs[j]? = some x := ⟨_, List.getElem?_eq_getElem (by rw [HLEN.out]; exact hlt)⟩
      obtain ⟨bb, off, rfl, y⟩ : ∃ bb off, a = some ⟨bb, off, none⟩ ∧ wr.cell? ⟨bb, off + j, none⟩ = some (.int .i64 x) := by
        obtain ⟨ao, cap, hv, h1, h2, h3, h4⟩ := hx3
        simp only [Value.slice.injEq, true_and] at hv
        obtain ⟨rfl, rfl⟩ := hv
        obtain ⟨bb, off, rfl, hb, ho, hc⟩ := h4 (by omega)
        exact ⟨bb, off, rfl, hc j _ (by rw [List.getElem?_map, hxj]; rfl)⟩
      have htk : cellsF (xs.take (j + 1)) mode = cellsF (xs.take j) mode ++ cellF x mode := by
        rw [List.take_add_one, hxj, Option.toList_some, cellsF_snoc]
      obtain ⟨M, hM⟩ : ∃ M, cellsF (xs.take j) mode = M := ⟨_, rfl⟩
      have hMl : M.length ≤ 200 := by
        have h1 := cellsF_length (xs.take j) mode
        rw [hM, List.length_take] at h1
        omega
      rw [hM] at htk hp3
      have HTK := Lib.hid htk
      clear hxj htk hM hx3
      rcases (show mode = 1 ∨ mode = 2 ∨ mode = 3 by omega) with rfl | rfl | rfl
      · have h := push_ok hp3 (by omega) x
        go_wp2_with fail
        refine h.mono ?_
        rintro e w4 ⟨rfl, o4, q1, q2⟩
        go_wp2_with fail
        go_roundg (n - (j + 1))
        case measure => rw [HG.out]; omega
        case rel => exact ⟨j + 1, o4, rfl, by omega, by go_num, by rw [HTK.out]; exact q1, st.trans q2⟩
      · have h := lit_ok hp3 (by omega) x
        go_wp2_with fail
        refine h.mono ?_
        rintro e w4 ⟨rfl, o4, q1, q2⟩
        go_wp2_with fail
        go_roundg (n - (j + 1))
        case measure => rw [HG.out]; omega
        case rel => exact ⟨j + 1, o4, rfl, by omega, by go_num, by rw [HTK.out]; exact q1, st.trans q2⟩
      · have h := lit_ok hp3 (by omega) x
        go_wp2_with fail
        refine h.mono ?_
        rintro e w4 ⟨rfl, o4, q1, q2⟩
        have hx := xt_ok ⟨#[108, 105, 116, 101, 114, 97, 108]⟩ (by decide) (hm3.frame q2 (by simp; omega))
        rw [show seekI (low ⟨#[108, 105, 116, 101, 114, 97, 108]⟩) + 1 = xtLit from rfl] at hx
        go_wp2_with fail
        refine hx.mono ?_
        rintro e w5 ⟨rfl, o5, s5⟩
        have hc := call_ok (q1.frame s5 (by simp) (by simp)) (by simp; omega) xtLit
        go_wp2_with fail
        refine hc.mono ?_
        rintro e w6 ⟨rfl, o6, r1, r2⟩
        go_wp2_with fail
        go_roundg (n - (j + 1))
        case measure => rw [HG.out]; omega
        case rel => exact ⟨j + 1, o6, rfl, by omega, by go_num, by rw [HTK.out]; simpa [cellF, tLit, tCall] using r1, ((st.trans q2).trans s5.nil).trans r2⟩
    · obtain rfl : j = n := by omega
      have hji : ¬ (j : Int) < j := by omega
      rw [List.take_of_length_le (by rw [HLEN.out]; exact Nat.le_refl _)] at hp3
      go_wp2_with fail
      refine Go.Great.bodyPost_end0 (by kernel_rfl) rfl ?_
      exact ⟨rfl, o3, hp3, st⟩
end Go.Proofs.YtnfbldkejbgbiaaDoor
