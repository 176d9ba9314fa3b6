/- A dictionary: a list is made; the current list is changed; the last word is done at once. -/
import Derived.Test.YtaledmoakhlmgaaDicC
namespace Go.Proofs.Ytaledmoakhlmgaa
open Go Go.RowKit
set_option linter.unusedSimpArgs false
set_option linter.unusedVariables false

/-- What is told of a new list, and how it stands then. -/
def listK (s : Dst) : Int := if 8 ≤ s.lists then 0 else s.lists + 1
def listE (s : Dst) : Int := if 8 ≤ s.lists then -49 else 0
def listS (s : Dst) : Dst := if 8 ≤ s.lists then s else { s with lists := s.lists + 1 }
def curE (s : Dst) (k : Int) : Int := if knownB s k then 0 else -49
def curS (s : Dst) (k : Int) : Dst := if knownB s k then { s with cur := k } else s
def nowE (s : Dst) : Int := if s.ws = [] then 2 else 0
def nowL : List Wd → List Wd
  | [] => []
  | x :: r => { x with now := true } :: r
def nowS (s : Dst) : Dst := { s with ws := nowL s.ws }

theorem ix_high {k L : Int} (hk : L < k) : ∀ {l : List Wd}, (∀ x ∈ l, x.li ≤ L) → ix k l = -1
  | [], _ => rfl
  | x :: r, h => by
    have := h x (by simp)
    rw [ix_cons, if_neg (by omega)]
    exact ix_high hk fun y hy => h y (by simp [hy])
theorem listS_ok {s : Dst} (h : s.Ok) : (listS s).Ok := by
  unfold listS
  split
  · exact h
  · obtain ⟨h1, h2, h3, h4, h5, h6, h7, h8⟩ := h
    refine ⟨?_, ?_, h3, ?_, ?_, h6, h7, ?_⟩
    · show 1 ≤ s.lists + 1; omega
    · show s.lists + 1 ≤ 8; omega
    · show s.cur ≤ s.lists + 1; omega
    · intro k hk
      have := h5 k hk
      exact ⟨this.1, by show k ≤ s.lists + 1; omega⟩
    · intro x hx
      have := h8 x hx
      exact ⟨this.1, by show x.li ≤ s.lists + 1; omega, this.2.2⟩
theorem curS_ok {s : Dst} (h : s.Ok) (k : Int) : (curS s k).Ok := by
  unfold curS
  split
  · rename_i hk
    have hk : 1 ≤ k ∧ k ≤ s.lists := by simpa [knownB] using hk
    exact ⟨h.l1, h.l8, hk.1, hk.2, h.o, h.ol, h.wl, h.w⟩
  · exact h
theorem nowL_len : ∀ l : List Wd, (nowL l).length = l.length
  | [] => rfl
  | _ :: _ => rfl
theorem nowL_ix (k : Int) : ∀ l : List Wd, ix k (nowL l) = ix k l
  | [] => rfl
  | _ :: _ => rfl
theorem nowS_ok {s : Dst} (h : s.Ok) : (nowS s).Ok := by
  refine ⟨h.l1, h.l8, h.c1, h.c2, h.o, h.ol, by show (nowL s.ws).length ≤ _; rw [nowL_len]; exact h.wl, ?_⟩
  show ∀ x ∈ nowL s.ws, _
  have := h.w
  cases hs : s.ws with
  | nil => intro x hx; cases hx
  | cons y r =>
    rw [hs] at this
    intro x hx
    rcases List.mem_cons.1 hx with rfl | hx
    · exact this y (by simp)
    · exact this x (by simp [hx])

/-- A store into a dictionary's own cells. -/
theorem Blk.sstep {w : World} {o : Owner} {i b : Nat} {T : TypeId} {cs : Array Value} (h : Blk w o i b T cs) (k : Nat) (v : Value) : Step [i] w o (w.setCell ⟨b, k, none⟩ v) o :=
  (Step.refl _ _ _).setCell (fun _ => by simp [h.own]) _

theorem cur_ok {w : World} {o : Owner} {i b N : Nat} {s : Dst} (h : DB w o i b s N) (k : Int) :
    Calls Try.prog 17 #[.pointer (some ⟨b, 0, none⟩), .int .i64 k] w fun e w' => e = .returned (.int .i64 (curE s k)) ∧ DB w' o i b (curS s k) N ∧ Step [i] w o w' o := by
  have hkn := known_ok h k
  have h0 := h
  obtain ⟨ok, hv, mb, ov, hb, hr, hr2, hm⟩ := h
  have hokS := curS_ok ok k
  unfold curE
  unfold curS at hokS ⊢
  cases hB : knownB s k with
  | false =>
    rw [hB] at hkn
    rw [if_neg (by decide), if_neg (by decide)]
    clear hb hr hr2 hm hokS
    go_enter Try.func17, Try.ntmps17
    go_wp2_with (go_at_call 31; refine hkn.mono ?_; rintro e w1 ⟨rfl, rfl⟩)
    go_ret
    exact ⟨rfl, h0, Step.refl _ _ _⟩
  | true =>
    rw [hB] at hkn hokS
    rw [if_pos rfl] at hokS
    rw [if_pos rfl, if_pos rfl]
    obtain ⟨c0, c1, c2, c3, c4, f0, f1, f2, f3, f4⟩ := hb.cells5
    have HOK := Lib.hid hokS
    clear hokS h0
    go_enter Try.func17, Try.ntmps17
    go_wp2_with (go_at_call 31; refine hkn.mono ?_; rintro e w1 ⟨rfl, rfl⟩)
    go_ret
    have s6 := hb.sstep 4 (.int .i64 k)
    exact ⟨rfl, ⟨HOK.out, hv, mb, ov, hb.set 4 (.int .i64 k), hr.frame s6 (by simp), hr2.frame s6 (by simp), hm.frame s6 (by simp)⟩, s6⟩

theorem list_ok {w : World} {o : Owner} {i b N : Nat} {s : Dst} (h : DB w o i b s N) (hN : N < 1000000000) :
    Calls Try.prog 16 #[.pointer (some ⟨b, 0, none⟩)] w fun e w' => e = .returned (.tuple #[.int .i64 (listK s), .int .i64 (listE s)]) ∧ DB w' o i b (listS s) (N + 1) ∧ Step [i, i + 3] w o w' o := by
  have h0 := h
  obtain ⟨ok, hv, mb, ov, hb, hr, hr2, hm⟩ := h
  have hokS := listS_ok ok
  unfold listK listE
  unfold listS at hokS ⊢
  obtain ⟨c0, c1, c2, c3, c4, f0, f1, f2, f3, f4⟩ := hb.cells5
  by_cases hl : 8 ≤ s.lists
  · rw [if_pos hl, if_pos hl, if_pos hl]
    clear hb hr hr2 hm hokS
    go_enter Try.func16, Try.ntmps16
    go_wp2_with fail
    simp [bodyPost, results, Try.results16, go_sem]
    exact ⟨h0.mono (by omega), Step.refl _ _ _⟩
  · rw [if_neg hl] at hokS
    rw [if_neg hl, if_neg hl, if_neg hl]
    have HOK := Lib.hid hokS
    have hl0 := ok.l1
    have hwr : IntKind.i64.wrap (s.lists + 1) = s.lists + 1 := by rw [IntWalk.i64_left, IntWalk.wrap64_in _ (by omega)]
    have s1 := hb.sstep 2 (.int .i64 (s.lists + 1))
    have hb1 : Blk (w.setCell ⟨b, 2, none⟩ (.int .i64 (s.lists + 1))) o i b 69 #[hv, .map (some mb), .int .i64 (s.lists + 1), ov, .int .i64 s.cur] := hb.set 2 _
    have sd : Step [] (w.setCell ⟨b, 2, none⟩ (.int .i64 (s.lists + 1))) o (w.setCell ⟨b, 2, none⟩ (.int .i64 (s.lists + 1))).drew o := (Step.refl _ _ _).drew
    have hm1 := ((hm.frame s1 (by simp)).frame sd (by simp))
    obtain ⟨w3, hrun, s3, hupd⟩ := hm1.update hN (k := s.lists + 1) (v := -1) ⟨by omega, by omega⟩ ⟨by decide, by decide⟩
    have hbd := hb1.frame sd (by simp)
    have hr3 := ((hr.frame s1 (by simp)).frame sd (by simp)).frame s3 (by simp)
    have hr23 := ((hr2.frame s1 (by simp)).frame sd (by simp)).frame s3 (by simp)
    have hm3 := hupd (s.lists + 1) (fun k => ix k s.ws) (.inr ⟨rfl, rfl⟩) (fun j j1 j2 => by
      by_cases hj : j = s.lists + 1
      · rw [if_pos hj]
        exact ix_high (L := s.lists) (by omega) fun x hx => (ok.w x hx).2.1
      · rw [if_neg hj])
    have hb3 := hbd.frame s3 (by simp)
    have S3 : Step [i, i + 3] w o w3 o := ((s1.weaken (by simp)).trans (sd.nil)).trans (s3.weaken (by simp))
    obtain ⟨d0, d1, d2, d3, d4, -⟩ := hbd.cells5
    obtain ⟨e0, e1, e2, e3, e4, -⟩ := hb3.cells5
    clear hb hr hr2 hm hokS hb1 hm1 hupd s1 sd s3 hbd h0
    go_enter Try.func16, Try.ntmps16
    go_wp2_with fail
    go_region
    all_goals go_wp2_with fail
    all_goals simp [bodyPost, results, Try.results16, go_sem]
    all_goals exact ⟨⟨HOK.out, hv, mb, ov, hb3, hr3, hr23, hm3⟩, S3⟩

theorem now_ok {w : World} {o : Owner} {i b N : Nat} {s : Dst} (h : DB w o i b s N) :
    Calls Try.prog 23 #[.pointer (some ⟨b, 0, none⟩)] w fun e w' => e = .returned (.int .i64 (nowE s)) ∧ DB w' o i b (nowS s) N ∧ Step [i + 1] w o w' o := by
  have h0 := h
  obtain ⟨ok, hv, mb, ov, hb, hr, hr2, hm⟩ := h
  have hokS := nowS_ok ok
  obtain ⟨c0, c1, c2, c3, c4, f0, f1, f2, f3, f4⟩ := hb.cells5
  obtain ⟨ws, hws⟩ : ∃ ws, s.ws = ws := ⟨_, rfl⟩
  unfold nowE
  rw [hws] at hr ⊢
  cases ws with
  | nil =>
    rw [if_pos rfl]
    have hS : nowS s = s := by unfold nowS; rw [hws]; cases s; simp at hws; simp [hws, nowL]
    rw [hS]
    obtain ⟨ao, cap, rfl, g1, g2⟩ := hr.slice
    clear hb hr hr2 hm hokS hS hws
    go_enter Try.func23, Try.ntmps23
    go_wp2_with fail
    go_ret
    exact ⟨rfl, h0, Step.refl _ _ _⟩
  | cons x r =>
    rw [if_neg (by simp)]
    obtain ⟨g, cap, rfl, hx⟩ := hr.rowx (by simp)
    have hxs := hx.setElem (r.length * 6 + 2) (.bool true)
    have hsp := hx.spare (j := r.length * 6 + 2) (by have := hx.le; simp at this; omega)
    have hcap := hx.capl
    have hle := hx.le
    have hgo := hx.own
    have hcells : (hcells (x :: r)).set (r.length * 6 + 2) (.bool true) = hcells (nowL (x :: r)) := by
      rw [nowL, hcells, hcells, List.set_append_right _ _ (by rw [hcells_len]; omega), hcells_len]
      congr 1
      simp [hd]
    rw [hcells] at hxs
    have HXS := Lib.hid hxs
    have HOK := Lib.hid hokS
    have HWS := Lib.hid hws
    unfold maxLen at hcap
    obtain ⟨n, hn⟩ : ∃ n, r.length = n := ⟨_, rfl⟩
    rw [List.length_cons] at hle c0
    rw [hn] at hsp c0 hle
    have HN := Lib.hid hn
    have hc1 : ((n + 1 : Nat) : Int) - 1 = n := by omega
    have hne : (((n + 1 : Nat) : Int) == 0) = false := by rw [beq_eq_false_iff_ne]; omega
    obtain ⟨M, hM⟩ : ∃ M : Nat, n + 1 = M := ⟨_, rfl⟩
    have hMi : (M : Int) - 1 = n := by omega
    have hlt : (n : Int) < M := by omega
    have hne : ((M : Int) == 0) = false := by rw [beq_eq_false_iff_ne]; omega
    rw [hM] at c0 hle
    have HM := Lib.hid hM
    obtain ⟨p1, p2⟩ := hsp
    obtain ⟨pv, p1⟩ := Option.isSome_iff_exists.1 p1
    have q1 : w.drew.cell? ⟨g, n * 6 + 2, none⟩ = some pv := p1
    have q2 : w.drew.frozen? ⟨g, n * 6 + 2, none⟩ = false := p2
    have q0 := c0
    rw [List.length_cons, hn, hM] at hr
    clear hx hr hxs hokS hws hcells hn hM h0 hc1
    go_enter Try.func23, Try.ntmps23
    go_wp2_with fail
    go_region
    all_goals go_wp2_with fail
    all_goals go_ret
    all_goals
      have hxs := HXS.out
      rw [HN.out] at hxs
      have s6 : Step [i + 1] w o (w.setCell ⟨g, n * 6 + 2, none⟩ (.bool true)) o := (Step.refl _ _ _).setCell (fun _ => by simp [hgo]) _
      have s7 : Step [i + 1] w o (w.setCell ⟨g, n * 6 + 2, none⟩ (.bool true)).drew o := s6.drew
      have sd : Step [] (w.setCell ⟨g, n * 6 + 2, none⟩ (.bool true)) o (w.setCell ⟨g, n * 6 + 2, none⟩ (.bool true)).drew o := (Step.refl _ _ _).drew
      refine ⟨rfl, ⟨HOK.out, _, mb, ov, hb.frame s7 (by simp), ?_, hr2.frame s7 (by simp), ?_⟩, s7⟩
      · show Row _ o (i + 1) 72 6 _ (nowL s.ws).length (hcells (nowL s.ws))
        rw [HWS.out, nowL_len]
        exact (hxs.row).frame sd (by simp)
      · have := hm.frame s7 (by simp)
        rw [show (fun k => ix k (nowS s).ws) = (fun k => ix k s.ws) from funext fun k => nowL_ix k s.ws]
        exact this
end Go.Proofs.Ytaledmoakhlmgaa
