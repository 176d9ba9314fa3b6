/- A dictionary is made to stand as it did. -/
import Derived.Test.YtaledmoakhlmgaaDicM
import Derived.BigRegion
namespace Go.Proofs.Ytaledmoakhlmgaa
open Go Go.RowKit
set_option linter.unusedSimpArgs false
set_option linter.unusedVariables false

/-- The words that stay; what Back tells, and leaves. -/
def kept (s : Dst) (mw : Int) : List Wd := s.ws.drop (s.ws.length - mw.toNat)
def backE (s : Dst) (mw ml : Int) : Int :=
  if mw < 0 then 1 else if (s.ws.length : Int) < mw then 1 else if ml < 1 then 1 else if s.lists < ml then 1 else if (kept s mw).any (fun x => decide (ml < x.li)) then 1 else 0
def inL (ml k : Int) : Bool := decide (1 ≤ k ∧ k ≤ ml)
def curB (c ml : Int) : Int := if 1 ≤ c ∧ c ≤ ml then c else 1
def backS (s : Dst) (mw ml : Int) : Dst :=
  if backE s mw ml = 0 then ⟨kept s mw, ml, s.order.filter (inL ml), curB s.cur ml⟩ else s
theorem backS_ok {s : Dst} (h : s.Ok) (mw ml : Int) : (backS s mw ml).Ok := by
  unfold backS
  split
  · rename_i he
    unfold backE at he
    split at he; omega
    split at he; omega
    split at he; omega
    split at he; omega
    split at he; omega
    rename_i h1 h2 h3 h4 h5
    refine ⟨by show 1 ≤ ml; omega, by show ml ≤ 8; have := h.l8; omega, ?_, ?_, ?_, ?_, ?_, ?_⟩
    · show 1 ≤ curB s.cur ml
      unfold curB
      split <;> omega
    · show curB s.cur ml ≤ ml
      unfold curB
      split <;> omega
    · intro k hk
      have := (List.mem_filter.1 hk).2
      simpa [inL] using this
    · exact Nat.le_trans (List.length_filter_le _ _) h.ol
    · show (kept s mw).length ≤ 2000
      unfold kept
      rw [List.length_drop]
      have := h.wl
      omega
    · intro x hx
      have hx' : x ∈ s.ws := List.mem_of_mem_drop hx
      have hw := h.w x hx'
      refine ⟨hw.1, ?_, hw.2.2⟩
      show x.li ≤ ml
      cases hd : decide (ml < x.li) with
      | false => simpa using hd
      | true => exact absurd (List.any_eq_true.2 ⟨x, hx, hd⟩) h5
  · exact h
theorem hcells_take {r : List Wd} : ∀ pre : List Wd, (hcells (pre ++ r)).take (r.length * 6) = hcells r
  | [] => by rw [List.nil_append, ← hcells_len, List.take_length]
  | p :: pre => by
    rw [List.cons_append, hcells, List.take_append_of_le_length (by rw [hcells_len]; simp; omega)]
    exact hcells_take pre

/-- What Back goes by: the dictionary's own cells, and the two boxes of what came in. -/
structure BK (w : World) (o : Owner) (i z0 z1 b : Nat) (hv : Value) (mb : Nat) (L : Int) (ov : Value) (cur mw ml : Int) : Prop where
  d : Blk w o i b 69 #[hv, .map (some mb), .int .i64 L, ov, .int .i64 cur]
  b0 : Blk w o (i + 4) z0 24 #[.pointer (some ⟨b, 0, none⟩)]
  b1 : Blk w o (i + 4) z1 31 #[.int .i64 mw, .int .i64 ml]
theorem BK.frame {S : List Nat} {w w' : World} {o o' : Owner} {i z0 z1 b mb : Nat} {hv ov : Value} {L cur mw ml : Int} (h : BK w o i z0 z1 b hv mb L ov cur mw ml) (st : Step S w o w' o') (h0 : i ∉ S) (h4 : i + 4 ∉ S) : BK w' o' i z0 z1 b hv mb L ov cur mw ml :=
  ⟨h.d.frame st h0, h.b0.frame st h4, h.b1.frame st h4⟩
theorem BK.facts {w : World} {o : Owner} {i z0 z1 b mb : Nat} {hv ov : Value} {L cur mw ml : Int} (h : BK w o i z0 z1 b hv mb L ov cur mw ml) :
    (w.cell? ⟨b, 0, none⟩ = some hv ∧ w.cell? ⟨b, 1, none⟩ = some (.map (some mb)) ∧ w.cell? ⟨b, 2, none⟩ = some (.int .i64 L) ∧ w.cell? ⟨b, 3, none⟩ = some ov ∧ w.cell? ⟨b, 4, none⟩ = some (.int .i64 cur)) ∧
    (w.frozen? ⟨b, 0, none⟩ = false ∧ w.frozen? ⟨b, 2, none⟩ = false ∧ w.frozen? ⟨b, 3, none⟩ = false ∧ w.frozen? ⟨b, 4, none⟩ = false) ∧
    (w.cell? ⟨z0, 0, none⟩ = some (.pointer (some ⟨b, 0, none⟩)) ∧ w.cell? ⟨z1, 0, none⟩ = some (.int .i64 mw) ∧ w.cell? ⟨z1, 1, none⟩ = some (.int .i64 ml)) :=
  ⟨⟨h.d.cell 0, h.d.cell 1, h.d.cell 2, h.d.cell 3, h.d.cell 4⟩, ⟨h.d.frozen 0, h.d.frozen 2, h.d.frozen 3, h.d.frozen 4⟩, ⟨h.b0.cell 0, h.b1.cell 0, h.b1.cell 1⟩⟩

theorem DB.boxes {w : World} {o : Owner} {i b N : Nat} {s : Dst} (h : DB w o i b s N) (mw ml : Int) :
    ∃ o2 hv mb ov, Step [] w o ((w.alloc (.cells #[.pointer (some ⟨b, 0, none⟩)] 24)).alloc (.cells #[.int .i64 mw, .int .i64 ml] 31)) o2 ∧
      BK ((w.alloc (.cells #[.pointer (some ⟨b, 0, none⟩)] 24)).alloc (.cells #[.int .i64 mw, .int .i64 ml] 31)) o2 i w.heap.size (w.heap.size + 1) b hv mb s.lists ov s.cur mw ml ∧
      Row ((w.alloc (.cells #[.pointer (some ⟨b, 0, none⟩)] 24)).alloc (.cells #[.int .i64 mw, .int .i64 ml] 31)) o2 (i + 1) 72 6 hv s.ws.length (hcells s.ws) ∧
      Row ((w.alloc (.cells #[.pointer (some ⟨b, 0, none⟩)] 24)).alloc (.cells #[.int .i64 mw, .int .i64 ml] 31)) o2 (i + 2) 3 1 ov s.order.length (ints s.order) ∧
      MapL ((w.alloc (.cells #[.pointer (some ⟨b, 0, none⟩)] 24)).alloc (.cells #[.int .i64 mw, .int .i64 ml] 31)) o2 (i + 3) mb s.lists (fun k => ix k s.ws) N := by
  obtain ⟨ok, hv, mb, ov, hb, hr, hr2, hm⟩ := h
  have s1 : Step [] w o (w.alloc (.cells #[.pointer (some ⟨b, 0, none⟩)] 24)) (o.set w.heap.size (i + 4)) := ((Step.refl _ _ _).alloc _).give (Nat.le_refl _) _
  have B1 := Blk.new w o (i + 4) 24 #[.pointer (some ⟨b, 0, none⟩)]
  have s2 : Step [] (w.alloc (.cells #[.pointer (some ⟨b, 0, none⟩)] 24)) (o.set w.heap.size (i + 4)) ((w.alloc (.cells #[.pointer (some ⟨b, 0, none⟩)] 24)).alloc (.cells #[.int .i64 mw, .int .i64 ml] 31)) ((o.set w.heap.size (i + 4)).set (w.heap.size + 1) (i + 4)) := ((Step.refl _ _ _).alloc _).give (by simp) _
  have B2 := Blk.new (w.alloc (.cells #[.pointer (some ⟨b, 0, none⟩)] 24)) (o.set w.heap.size (i + 4)) (i + 4) 31 #[.int .i64 mw, .int .i64 ml]
  rw [World.size_alloc] at B2
  exact ⟨_, hv, mb, ov, s1.trans s2, ⟨(hb.frame s1 (by simp)).frame s2 (by simp), B1.frame s2 (by simp), B2⟩, (hr.frame s1 (by simp)).frame s2 (by simp), (hr2.frame s1 (by simp)).frame s2 (by simp), (hm.frame s1 (by simp)).frame s2 (by simp)⟩

/-- The arguments that may not be. -/
theorem back_bad {w : World} {o : Owner} {i b N : Nat} {s : Dst} (h : DB w o i b s N) (mw ml : Int) (hbad : mw < 0 ∨ (s.ws.length : Int) < mw ∨ ml < 1 ∨ s.lists < ml) :
    Calls Try.prog 24 #[.pointer (some ⟨b, 0, none⟩), .agg #[.int .i64 mw, .int .i64 ml]] w fun e w' => e = .returned (.int .i64 1) ∧ Step [] w o w' o := by
  obtain ⟨o2, hv, mb, ov, s2, hk, hr, -, -⟩ := h.boxes mw ml
  obtain ⟨⟨c0, c1, c2, c3, c4⟩, -, ⟨c5, c6, c7⟩⟩ := hk.facts
  obtain ⟨ao, cap, rfl, g1, g2⟩ := hr.slice
  have s0 : Step [] w o ((w.alloc (.cells #[.pointer (some ⟨b, 0, none⟩)] 24)).alloc (.cells #[.int .i64 mw, .int .i64 ml] 31)) o := ((Step.refl _ _ _).alloc _).alloc _
  generalize hn : s.ws.length = n at hbad c0 g1
  clear hr hk h hn
  by_cases h1 : mw < 0
  · have e1 : decide (mw < 0) = true := decide_eq_true h1
    clear hbad h1
    go_enter Try.func24, Try.ntmps24
    go_wp2_with fail
    go_quiet (fail)
    go_wp2_with fail
    go_ret
    exact ⟨rfl, s0.drewN _⟩
  · have e1 : decide (mw < 0) = false := decide_eq_false h1
    by_cases h2 : (n : Int) < mw
    · have e2 : decide ((n : Int) < mw) = true := decide_eq_true h2
      clear hbad h1 h2
      go_enter Try.func24, Try.ntmps24
      go_wp2_with fail
      go_quiet (fail)
      go_wp2_with fail
      go_ret
      exact ⟨rfl, s0.drewN _⟩
    · have e2 : decide ((n : Int) < mw) = false := decide_eq_false h2
      by_cases h3 : ml < 1
      · have e3 : decide (ml < 1) = true := decide_eq_true h3
        clear hbad h1 h2 h3
        go_enter Try.func24, Try.ntmps24
        go_wp2_with fail
        go_quiet (fail)
        go_wp2_with fail
        go_ret
        exact ⟨rfl, s0.drewN _⟩
      · have e3 : decide (ml < 1) = false := decide_eq_false h3
        have h4 : s.lists < ml := by omega
        have e4 : decide (s.lists < ml) = true := decide_eq_true h4
        clear hbad h1 h2 h3 h4
        go_enter Try.func24, Try.ntmps24
        go_wp2_with fail
        go_quiet (fail)
        go_wp2_with fail
        go_ret
        exact ⟨rfl, s0.drewN _⟩
end Go.Proofs.Ytaledmoakhlmgaa
