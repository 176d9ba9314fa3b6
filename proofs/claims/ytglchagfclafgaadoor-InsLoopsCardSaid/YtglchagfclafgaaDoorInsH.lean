/- When a definition may be: plain laws; the document's examples. -/
import Derived.Test.YtglchagfclafgaaDoorInsF
import Derived.Test.YtglchagfclafgaaDoorInsG
namespace Go.Proofs.YtglchagfclafgaaDoor
open Go Go.RowKit
set_option linter.unusedSimpArgs false
set_option linter.unusedVariables false

theorem rch_inv {l : List In} (I : Int → Int → Prop) (h0 : I 0 0) (hs : ∀ (i : Nat) (m : Int) (x : In), I i m → l[i]? = some x → ∀ q ∈ stepsA x i m, I q.1 q.2) {i m : Int} (h : Rch l i m) : I i m := by
  induction h with
  | start => exact h0
  | step hr hx hq ih => exact hs _ _ _ ih hx _ hq
theorem good_inv {l : List In} (I : Int → Int → Prop) (h0 : I 0 0) (hs : ∀ (i : Nat) (m : Int) (x : In), I i m → l[i]? = some x → ∀ q ∈ stepsA x i m, I q.1 q.2)
    (hf : ∀ i m, I i m → 0 ≤ i ∧ i < l.length ∧ 0 ≤ m ∧ ∀ m', I i m' → m' = m) : Good l := fun i m h => by
  obtain ⟨h1, h2, h3, h4⟩ := hf i m (rch_inv I h0 hs h)
  exact ⟨h1, h2, h3, fun m' h' => h4 m' (rch_inv I h0 hs h')⟩
theorem labs_get {l : List In} {i : Nat} {u : Int} (h : (labs l)[i]? = some u) : (u = -1 ∧ ¬ ∃ m, Rch l i m) ∨ Rch l i u := by
  have hi := (List.getElem?_eq_some_iff.1 h).1
  rw [List.getElem?_eq_getElem hi] at h
  have h := Option.some.inj h
  simp only [labs, List.getElem_map, List.getElem_range] at h
  unfold labA at h
  split at h
  · next hex => right; rw [← h]; exact Classical.choose_spec hex
  · next hex => left; exact ⟨h.symm, hex⟩
theorem labs_rch {l : List In} (g : Good l) {i : Nat} {m : Int} (h : Rch l i m) : (labs l)[i]? = some m := by
  obtain ⟨h1, h2, h3, h4⟩ := g i m h
  have hi : i < (labs l).length := by rw [labs_len]; omega
  rcases hu : (labs l)[i]? with _ | u
  · rw [List.getElem?_eq_getElem hi] at hu; cases hu
  · rcases labs_get hu with ⟨_, hn⟩ | hr
    · exact absurd ⟨m, h⟩ hn
    · rw [h4 u hr]
theorem mayP_intro {l : List In} {words : Int} (I : Int → Int → Prop) (h0 : I 0 0) (hs : ∀ (i : Nat) (m : Int) (x : In), I i m → l[i]? = some x → ∀ q ∈ stepsA x i m, I q.1 q.2)
    (hf : ∀ i m, I i m → 0 ≤ i ∧ i < l.length ∧ 0 ≤ m ∧ ∀ m', I i m' → m' = m) (hn : l.length ≤ 500) (hl : ∃ x, l[l.length - 1]? = some x ∧ (x.op = 15 ∨ x.op = 3))
    (hi : ∀ (q : Nat) (x : In) (u : Int), l[q]? = some x → (0 ≤ u → I q u) → insP l.length words (locA l) u q x) : mayP l words := by
  refine ⟨good_inv I h0 hs hf, hn, hl, fun q x hx => ?_⟩
  have hq : q < (labs l).length := by rw [labs_len]; exact (List.getElem?_eq_some_iff.1 hx).1
  refine hi q x _ hx fun hu => ?_
  rw [List.getElem?_eq_getElem hq] at hu ⊢
  rcases labs_get (List.getElem?_eq_getElem hq) with ⟨h, _⟩ | h
  · simp only [Option.getD_some] at hu; omega
  · exact rch_inv I h0 hs h

def shownL : List In := [⟨1, 0, 5⟩, ⟨15, 0, 0⟩]
theorem shown_may : mayP shownL 0 := by
  refine mayP_intro (fun i m => m = 0 ∧ (i = 0 ∨ i = 1)) ⟨rfl, .inl rfl⟩ ?_ ?_ (by decide) ⟨⟨15, 0, 0⟩, rfl, .inl rfl⟩ ?_
  · rintro i m x ⟨rfl, hi⟩ hx q hq
    obtain rfl | rfl : i = 0 ∨ i = 1 := by omega
    · have hx' : x = ⟨1, 0, 5⟩ := (Option.some.inj hx).symm
      subst hx'
      have : q = (1, 0) := by simpa [stepsA] using hq
      subst this
      exact ⟨rfl, .inr rfl⟩
    · have hx' : x = ⟨15, 0, 0⟩ := (Option.some.inj hx).symm
      subst hx'
      simp [stepsA] at hq
  · rintro i m ⟨rfl, hi⟩
    have e : shownL.length = 2 := rfl
    exact ⟨by omega, by omega, by omega, fun m' h => h.1⟩
  · intro q x u hx hu
    have hq : q < 2 := (List.getElem?_eq_some_iff.1 hx).1
    obtain rfl | rfl : q = 0 ∨ q = 1 := by omega
    · have hx' : x = ⟨1, 0, 5⟩ := (Option.some.inj hx).symm
      subst hx'
      refine ⟨by decide, by decide, by decide, by decide, by decide, by decide, fun h => absurd h.1 (by decide)⟩
    · have hx' : x = ⟨15, 0, 0⟩ := (Option.some.inj hx).symm
      subst hx'
      refine ⟨by decide, by decide, by decide, by decide, by decide, by decide, fun h => ?_⟩
      have := (hu (by omega)).1
      omega
theorem shown_text : textB shownL = ⟨#[108, 105, 116, 32, 53, 32, 101, 120, 105, 116, 32, 48]⟩ := by
  apply lst_inj
  kernel_rfl

set_option maxRecDepth 100000 in
set_option maxHeartbeats 16000000 in
theorem shown_ok {w : World} {o : Owner} (hwl : WL w o) :
    Calls Tryd.prog 9 #[] w fun e w' => ∃ o', e = .returned (.bool true) ∧ Step [91, 93, 94, 95, 96] w o w' o' := by
  have s1 : Step [] w o (w.alloc (.cells #[.int .u8 1, .int .i64 0, .int .i64 5, .int .u8 15, .int .i64 0, .int .i64 0] 36)) (o.set w.heap.size 78) := ((Step.refl _ _ _).alloc _).give (Nat.le_refl _) _
  have hr := Rd.fresh w (o.set w.heap.size 78) 3 36 #[.int .u8 1, .int .i64 0, .int .i64 5, .int .u8 15, .int .i64 0, .int .i64 0] 2 (by decide) rfl
  rw [Owner.set_self] at hr
  have hwl1 := hwl.frame s1 (by simp)
  generalize o.set w.heap.size 78 = o1 at s1 hr hwl1
  have hok : ∀ x ∈ shownL, x.ok := by
    intro x hx
    rcases List.mem_cons.1 hx with rfl | hx
    · exact ⟨⟨by decide, by decide⟩, ⟨by decide, by decide⟩, ⟨by decide, by decide⟩⟩
    · rw [List.mem_singleton] at hx
      subst hx
      exact ⟨⟨by decide, by decide⟩, ⟨by decide, by decide⟩, ⟨by decide, by decide⟩⟩
  have HOK := Lib.hid hok
  have s2 := ((Step.refl [] (w.alloc (.cells #[.int .u8 1, .int .i64 0, .int .i64 5, .int .u8 15, .int .i64 0, .int .i64 0] 36)) o1).alloc (.cells #[.slice (some ⟨w.heap.size, 0, none⟩) 2 2] 24)).give (Nat.le_refl _) 79
  have hb := Blk.new (w.alloc (.cells #[.int .u8 1, .int .i64 0, .int .i64 5, .int .u8 15, .int .i64 0, .int .i64 0] 36)) o1 79 24 #[.slice (some ⟨w.heap.size, 0, none⟩) 2 2]
  have hr2 := hr.frame s2 (by simp)
  have hwl2 := hwl1.frame s2 (by simp)
  have hm := may_ok (l := shownL) (words := 0) hr2 HOK.out (by decide) (by decide) ⟨by decide, by decide⟩
  generalize o1.set (w.alloc (.cells #[.int .u8 1, .int .i64 0, .int .i64 5, .int .u8 15, .int .i64 0, .int .i64 0] 36)).heap.size 79 = o2 at s2 hb hr2 hwl2 hm
  rw [World.size_alloc] at hb
  have st2 := s1.trans s2
  clear hok hwl hr hwl1 s1 s2
  go_enter Tryd.func9, Tryd.ntmps9
  go_wp2_with fail
  refine hm.mono ?_
  rintro e w3 ⟨b, o3, rfl, hbm, s3⟩
  obtain rfl : b = true := hbm.2 shown_may
  have hb3 := hb.frame s3 (by simp)
  have hr3 := hr2.frame s3 (by simp)
  have hwl3 := hwl2.frame s3 (by simp)
  have c3 := hb3.cell0
  have ht := text_ok (l := shownL) hr3 HOK.out (by decide) (by decide) hwl3
  rw [shown_text] at ht
  have st3 := st2.nil.trans s3
  clear hm hbm hr2 hwl2 hb hb3 hr3 hwl3 st2 s3
  go_wp2_with fail
  refine ht.mono ?_
  rintro e w4 ⟨o4, rfl, s4⟩
  go_wp2_with fail
  go_ret
  exact ⟨o4, rfl, (st3.weaken (by simp)).trans (s4.weaken (by simp))⟩
end Go.Proofs.YtglchagfclafgaaDoor
