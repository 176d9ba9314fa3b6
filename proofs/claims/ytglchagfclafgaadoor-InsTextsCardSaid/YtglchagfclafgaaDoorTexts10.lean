/- InsTexts: the walk. -/
import Derived.Test.YtglchagfclafgaaDoorInsI
import Derived.Test.YtglchagfclafgaaDoorCalmA
namespace Go.Proofs.YtglchagfclafgaaDoor
open Go Go.RowKit
set_option linter.unusedSimpArgs false
set_option linter.unusedVariables false

theorem rtext_calm {w : World} {v : Value} {l : List In} (hl : Rd w Z0 0 3 v l.length (icells l)) (hok : ∀ x ∈ l, x.ok) (hn : l.length ≤ 1000) : Calls Tryd.prog 16 #[.agg #[v]] w fun e w' => e = .returned (.string (textB l)) ∧ Calm w w' :=
  (rtext_ok' hl hok hn).mono fun e w' ⟨o', he, s⟩ => ⟨he, s.calm (by decide)⟩

set_option maxRecDepth 100000 in
set_option maxHeartbeats 8000000 in
theorem texts_walk {w : World} {v : Value} {l : List In} (hl : Rd w Z0 0 3 v l.length (icells l)) (hok : ∀ x ∈ l, x.ok) (hwl : WL w Z0) :
    Calls Tryd.prog 4 #[.agg #[v]] w fun e w' => e = .returned (.bool true) ∧ Below w.heap.size w w' := by
  have s1 : Calm w (w.alloc (.cells #[v] 24)) := (Calm.refl w).alloc _
  have hb := Blk.new w Z0 0 24 #[v]
  have hl1 := hl.calm s1
  have hwl1 := hwl.calm s1
  have hsh := shown_calm hwl1
  obtain ⟨ao, cap, rfl, g1, g2⟩ := hl.form
  have HOK := Lib.hid hok
  clear hl hwl hok
  go_enter Tryd.func4, Tryd.ntmps4
  go_wp2_with fail
  refine hsh.mono ?_
  rintro e w2 ⟨rfl, s2⟩
  replace hb := hb.frame (s2 _) (by simp)
  replace hl1 := hl1.calm s2
  replace hwl1 := hwl1.calm s2
  have st := s1.trans s2
  have cb := hb.cell0
  have hfw := few_calm hl1
  clear hsh s1 s2
  go_wp2_with fail
  refine hfw.mono ?_
  rintro e w3 ⟨v3, rfl, hr3, s3⟩
  obtain ⟨a3, c3, rfl, j1, j2⟩ := hr3.form
  have hlen : (l.take 60).length ≤ 1000 := by rw [List.length_take]; omega
  have hok6 := ok_take HOK.out 60
  replace st := st.trans s3
  have s4 : Calm w3 (w3.alloc (.cells #[.slice a3 (l.take 60).length c3] 24)) := (Calm.refl _).alloc _
  have hb4 := Blk.new w3 Z0 0 24 #[.slice a3 (l.take 60).length c3]
  have hr4 := hr3.calm s4
  have hwl4 := (hwl1.calm s3).calm s4
  have st4 := st.trans s4
  have c4 := hb4.cell0
  have hT := fun W (h : Calm (w3.alloc (.cells #[.slice a3 (l.take 60).length c3] 24)) W) => text_calm (hr4.calm h) hok6 hlen (hwl4.calm h)
  have hR := fun W (h : Calm (w3.alloc (.cells #[.slice a3 (l.take 60).length c3] 24)) W) => rtext_calm (hr4.calm h) hok6 hlen
  have hC := fun W (h : Calm (w3.alloc (.cells #[.slice a3 (l.take 60).length c3] 24)) W) => (h.cell (a := ⟨w3.heap.size, 0, none⟩) (by simp)).trans c4
  generalize textB (l.take 60) = T at hT hR
  generalize (l.take 60).length = n at *
  clear hfw hl1 hwl1 hb cb hr3 hr4 hwl4 hb4 hok6
  go_wp2_with fail
  refine q_start (fun W => Calm (w3.alloc (.cells #[.slice a3 n c3] 24)) W) (by kernel_rfl) (Calm.refl _).drew ?_
  repeat (first
    | (refine q_off (by rfl) ?_; simp only [Act.put, List.setIfInBounds_toArray, List.set_cons_zero, List.set_cons_succ])
    | (refine q_on (by rfl) ?_; apply Exists.intro; refine ⟨fun W hW => ?_, ?_⟩; (have c0 := hC W hW; go_simp; first | done | with_reducible rfl | (go_at_call 15; exact (hT W hW).mono fun e w' k => ⟨k.1, hW.trans k.2⟩) | (go_at_call 16; exact (hR W hW).mono fun e w' k => ⟨k.1, hW.trans k.2⟩)); simp only [Act.put, List.setIfInBounds_toArray, List.set_cons_zero, List.set_cons_succ])
    | fail)
  refine q_end ?_
  intro w9 s9
  go_wp2
  go_ret
  exact ⟨by simp, (st4.trans s9).below⟩
end Go.Proofs.YtglchagfclafgaaDoor
