/- Push and SetLocal, done to frames and to the document's (printed by gen_doese.py). -/
import Derived.Test.YtegcpjheglcbcaaDoD14
namespace Go.Proofs.Ytegcpjheglcbcaa
open Go Go.RowKit Go.Shelf
set_option linter.unusedSimpArgs false
set_option linter.unusedVariables false

/-- What a call on the program's side leaves. -/
structure PDone (w : World) (o : Owner) (b N : Nat) (SP : List Nat) (s' : List Fa) (w' : World) (o' : Owner) (fl' : List (Fr × List Int × Nat)) : Prop where
  p : LT w' o' 10 b fl'
  po : ∀ p ∈ fl', 1000 ≤ p.2.2 ∧ p.2.2 < 1000 + (N + 1)
  pn : (fl'.map fun p => p.2.2).Nodup
  e : fl'.map ab = s'
  st : Step SP w o w' o'
structure RDone (w : World) (o : Owner) (c N : Nat) (SR : List Nat) (s' : List Fa) (w' : World) (o' : Owner) (fr' : List (Fr × List Int × Nat)) : Prop where
  r : RT w' o' 30 c fr'
  ro : ∀ p ∈ fr', 5000 ≤ p.2.2 ∧ p.2.2 < 5000 + (N + 1)
  e : fr'.map ab = s'
  st : Step SR w o w' o'
theorem PDone.over {w w' w2 : World} {o o' o2 : Owner} {b N : Nat} {SP SR : List Nat} {s' : List Fa} {fl' : List (Fr × List Int × Nat)} (h : PDone w o b N SP s' w' o' fl') (hN : N + 1 ≤ 1000) (st : Step SR w' o' w2 o2) (hS : ∀ x ∈ SR, x = 30 ∨ x = 31 ∨ 5000 ≤ x) : LT w2 o2 10 b fl' :=
  h.p.frame st (fun hx => by have := hS _ hx; omega) (fun hx => by have := hS _ hx; omega) (fun p hp hx => by have := hS _ hx; have := h.po p hp; omega)
theorem RDone.over {w w' w2 : World} {o o' o2 : Owner} {c N : Nat} {SP SR : List Nat} {s' : List Fa} {fr' : List (Fr × List Int × Nat)} (h : RDone w o c N SR s' w' o' fr') (st : Step SP w' o' w2 o2) (hS : ∀ x ∈ SP, x = 10 ∨ x = 11 ∨ (1000 ≤ x ∧ x < 5000)) : RT w2 o2 30 c fr' :=
  h.r.frame st (fun hx => by have := hS _ hx; omega) (fun hx => by have := hS _ hx; omega) (fun p hp hx => by have := hS _ hx; have := h.ro p hp; omega)

theorem nodup_mid {lo hi : List (Fr × List Int × Nat)} {t : Fr × List Int × Nat} (h : ((lo ++ t :: hi).map fun p => p.2.2).Nodup) : ∀ p ∈ lo ++ hi, p.2.2 ≠ t.2.2 := by
  intro p hp e
  rw [List.map_append, List.map_cons, List.nodup_append] at h
  obtain ⟨h1, h2, h3⟩ := h
  rcases List.mem_append.1 hp with hp | hp
  · exact h3 p.2.2 (List.mem_map_of_mem (f := fun p : Fr × List Int × Nat => p.2.2) hp) t.2.2 (by simp) e
  · exact (List.nodup_cons.1 h2).1 (by rw [← e]; exact List.mem_map_of_mem (f := fun p : Fr × List Int × Nat => p.2.2) hp)

section
variable {w : World} {o : Owner} {b c N : Nat} {fl fr : List (Fr × List Int × Nat)} (y k a d x z n X : Int) {al : Option Addr} {cl : Nat} {l : List Int}

set_option maxRecDepth 100000 in
set_option maxHeartbeats 16000000 in
theorem does_push (h : Both w o b c N fl fr) (hN : N + 1 ≤ 1000) (hy : 0 ≤ y ∧ y ≤ 255) (hkk : y % 9 = 0) (hn : -9223372036854775808 ≤ n ∧ n ≤ 9223372036854775807) (hl : Rd w o 0 1 (.slice al l.length cl) l.length (cellsOf l)) (hll : l.length ≤ 20) :
    Calls Try.prog 25 #[.pointer (some ⟨b, 0, none⟩), .pointer (some ⟨c, 0, none⟩), .agg #[.int .u8 y, .int .i64 k, .int .i64 a, .int .i64 d, .int .i64 x, .int .i64 z, .slice al l.length cl, .int .i64 n, .int .i64 X]] w fun e w' => e = .returned (.bool true) ∧ Done w o b c N w' := by
  have s1 : Step [] w o (w.alloc (.cells #[.int .u8 y, .int .i64 k, .int .i64 a, .int .i64 d, .int .i64 x, .int .i64 z, .slice al l.length cl, .int .i64 n, .int .i64 X] 59)) (o.set w.heap.size 50) := ((Step.refl _ _ _).alloc _).give (Nat.le_refl _) _
  have hbx := Blk.new w o 50 59 #[.int .u8 y, .int .i64 k, .int .i64 a, .int .i64 d, .int .i64 x, .int .i64 z, .slice al l.length cl, .int .i64 n, .int .i64 X]
  replace h := h.frame s1 (by simp)
  replace hl := hl.frame s1 (by simp)
  generalize o.set w.heap.size 50 = o1 at s1 h hbx hl
  obtain ⟨zb, hz⟩ : ∃ zb, w.heap.size = zb := ⟨_, rfl⟩
  rw [hz] at hbx
  obtain ⟨W1, hW1⟩ : ∃ W1, w.alloc (.cells #[.int .u8 y, .int .i64 k, .int .i64 a, .int .i64 d, .int .i64 x, .int .i64 z, .slice al l.length cl, .int .i64 n, .int .i64 X] 59) = W1 := ⟨_, rfl⟩
  rw [hW1] at s1 h hbx hl
  have hB : Box w W1 o o1 zb y k a d x z n X (.slice al l.length cl) := ⟨s1, hbx⟩
  obtain ⟨⟨c0, c1, c2, c3, c4, c5, c6⟩, c7, c8⟩ := hB.cells (Step.refl [] W1 o1) (by simp)
  rw [← hW1] at c0 c1 c2 c3 c4 c5 c6 c7 c8
  have HW1 := Lib.hid hW1
  have hlen := h.len
  have h128 := h.p.len
  clear hW1 hbx
  obtain ⟨E, s', SP, SR, hP50, hR50, hSP, hSR, hSOK, hA, hC⟩ : ∃ (E : Int) (s' : List Fa) (SP SR : List Nat), 50 ∉ SP ∧ 50 ∉ SR ∧ (∀ x ∈ SP, x = 10 ∨ x = 11 ∨ (1000 ≤ x ∧ x < 5000)) ∧ (∀ x ∈ SR, x = 30 ∨ x = 31 ∨ 5000 ≤ x) ∧ SOK (SP ++ SR) ∧
      (∀ V oV, Both V oV b c N fl fr → Rd V oV 0 1 (.slice al l.length cl) l.length (cellsOf l) → ∀ W oW, Step SR V oV W oW → Calls Try.prog 13 #[.pointer (some ⟨b, 0, none⟩), .agg #[.int .i64 k, .int .i64 a, .int .i64 d, .int .i64 x, .int .i64 z, .slice al l.length cl]] W fun e w' => ∃ o' fl', e = .returned (.int .i64 E) ∧ PDone W oW b N SP s' w' o' fl') ∧
      (∀ V oV, Both V oV b c N fl fr → Rd V oV 0 1 (.slice al l.length cl) l.length (cellsOf l) → ∀ W oW, Step SP V oV W oW → Calls Try.prog 32 #[.pointer (some ⟨c, 0, none⟩), .agg #[.int .i64 k, .int .i64 a, .int .i64 d, .int .i64 x, .int .i64 z, .slice al l.length cl]] W fun e w' => ∃ o' fr', e = .returned (.int .i64 E) ∧ RDone W oW c N SR s' w' o' fr') := by
    refine ⟨if fl.length < 128 then 0 else -5, if fl.length < 128 then fl.map ab ++ [(k, a, d, x, z, l)] else fl.map ab, [10, 11], [30, 31], by simp, by simp, (by first | (simp; done) | (simp; omega)), (by first | (simp; done) | (simp; omega)), SOK.lit, ?_, ?_⟩
    · intro V oV hV hlV W oW st
      have hp := LT.pOver hV.p hV.po hV.small st (by simp)
      have hlW := hlV.frame st (by simp)
      by_cases hf : fl.length < 128
      · rw [if_pos hf, if_pos hf]
        refine (push_t hp (1000 + N) (by omega) hf hlW (by omega) k a d x z).mono fun e w' hh => ?_
        obtain ⟨o', lv', h1, h2, s⟩ := hh
        refine ⟨o', _, h1, h2, fun p hp => ?_, ?_, ?_, s⟩
        · rcases List.mem_append.1 hp with hp | hp
          · have := hV.po p hp; omega
          · rw [List.mem_singleton] at hp; subst hp; dsimp only; omega
        · rw [List.map_append, List.map_singleton, List.nodup_append]
          refine ⟨hV.pn, by simp, fun u hu v hv e => ?_⟩
          rw [List.mem_singleton] at hv
          obtain ⟨p, hp, rfl⟩ := List.mem_map.1 hu
          have := hV.po p hp
          dsimp only at e hv
          omega
        · rw [List.map_append, List.map_singleton]; rfl
      · rw [if_neg hf, if_neg hf]
        refine (push_full hp.1 (by simpa using hf) k a d x z _ ⟨_, _, _, rfl⟩).mono fun e w' hh => ?_
        exact ⟨oW, fl, hh.1, hp.frame hh.2 (by simp) (by simp) (by simp), fun p hp => by have := hV.po p hp; omega, hV.pn, rfl, hh.2.nil⟩
    · intro V oV hV hlV W oW st
      have hr := hV.rOver st (by simp)
      have hlW := hlV.frame st (by simp)
      by_cases hf : fl.length < 128
      · rw [if_pos hf, if_pos hf]
        refine (rpush_fit hr (by decide) (5000 + N) (by omega) (by omega) hlW (by omega) k a d x z).mono fun e w' hh => ?_
        obtain ⟨o', lv', h1, h2, s⟩ := hh
        refine ⟨o', _, h1, h2, fun p hp => ?_, ?_, s⟩
        · rcases List.mem_append.1 hp with hp | hp
          · have := hV.ro p hp; omega
          · rw [List.mem_singleton] at hp; subst hp; dsimp only; omega
        · rw [List.map_append, List.map_singleton, ← hV.e]; rfl
      · rw [if_neg hf, if_neg hf]
        refine (rpush_full hr (by omega) k a d x z _ ⟨_, _, _, rfl⟩).mono fun e w' hh => ?_
        exact ⟨oW, fr, hh.1, hr.frame0 hh.2, fun p hp => by have := hV.ro p hp; omega, hV.e.symm, hh.2.nil⟩
  have hE : (E == E) = true := by simp
  go_enter Try.func25, Try.ntmps25
  go_wp2_with fail
  have sd : Step [] W1 o1 W1.drew o1 := (Step.refl _ _ _).drew
  have hd := h.frame sd (by simp)
  have hld := hl.frame sd (by simp)
  have hbd := hB.b.frame sd (by simp)
  have S0 : Step (SP ++ SR) w o W1.drew o1 := (s1.trans sd).weaken (by simp)
  rw [HW1.out]
  have hA1 := fun (W : World) (oW : Owner) (st : Step SR W1.drew o1 W oW) => hA W1.drew o1 hd hld W oW st
  have hA2 := fun (W : World) (oW : Owner) (st : Step SP W1.drew o1 W oW) => hC W1.drew o1 hd hld W oW st
  clear c0 c1 c2 c3 c4 c5 c6 c7 c8 hA hC
  go_region_held3 (fun W => W.cell? ⟨zb, 1, none⟩ = some (.int .i64 k) ∧ W.cell? ⟨zb, 2, none⟩ = some (.int .i64 a) ∧ W.cell? ⟨zb, 3, none⟩ = some (.int .i64 d) ∧ W.cell? ⟨zb, 4, none⟩ = some (.int .i64 x) ∧ W.cell? ⟨zb, 5, none⟩ = some (.int .i64 z) ∧ W.cell? ⟨zb, 6, none⟩ = some (.slice al l.length cl))
    (exact ⟨hbd.cell 1, hbd.cell 2, hbd.cell 3, hbd.cell 4, hbd.cell 5, hbd.cell 6⟩)
    (first
      | (go_at_call 13; (first | (refine (hA1 _ _ (Step.refl _ _ _)).mono ?_; rintro e w5 ⟨o5, fl5, rfl, h5⟩) | (refine (hA1 _ _ h6.st).mono ?_; rintro e w5 ⟨o5, fl5, rfl, h5⟩; have hr6 := h6.over h5.st hSP)); replace hbd := hbd.frame h5.st hP50; replace S0 : Step (SP ++ SR) w o w5 o5 := S0.trans (h5.st.weaken (fun i hi => List.mem_append_left _ hi)))
      | (go_at_call 32; (first | (refine (hA2 _ _ (Step.refl _ _ _)).mono ?_; rintro e w6 ⟨o6, fr6, rfl, h6⟩) | (refine (hA2 _ _ h5.st).mono ?_; rintro e w6 ⟨o6, fr6, rfl, h6⟩; have hp5 := h5.over hN h6.st hSR)); replace hbd := hbd.frame h6.st hR50; replace S0 : Step (SP ++ SR) w o w6 o6 := S0.trans (h6.st.weaken (fun i hi => List.mem_append_right _ hi))))
  all_goals go_wp2_with fail
  all_goals go_ret
  all_goals first
    | exact ⟨rfl, _, fl5, fr6, _, ⟨hp5, h6.r, h5.e.trans h6.e.symm, h5.po, h5.pn, h6.ro, hN⟩, hSOK, S0⟩
    | exact ⟨rfl, _, fl5, fr6, _, ⟨h5.p, hr6, h5.e.trans h6.e.symm, h5.po, h5.pn, h6.ro, hN⟩, hSOK, S0⟩

set_option maxRecDepth 100000 in
set_option maxHeartbeats 16000000 in
theorem does_setlocal (h : Both w o b c N fl fr) (hN : N + 1 ≤ 1000) (hy : 0 ≤ y ∧ y ≤ 255) (hkk : y % 9 = 7) (hn : -9223372036854775808 ≤ n ∧ n ≤ 9223372036854775807) (hl : Rd w o 0 1 (.slice al l.length cl) l.length (cellsOf l)) (hll : l.length ≤ 20) :
    Calls Try.prog 25 #[.pointer (some ⟨b, 0, none⟩), .pointer (some ⟨c, 0, none⟩), .agg #[.int .u8 y, .int .i64 k, .int .i64 a, .int .i64 d, .int .i64 x, .int .i64 z, .slice al l.length cl, .int .i64 n, .int .i64 X]] w fun e w' => e = .returned (.bool true) ∧ Done w o b c N w' := by
  have s1 : Step [] w o (w.alloc (.cells #[.int .u8 y, .int .i64 k, .int .i64 a, .int .i64 d, .int .i64 x, .int .i64 z, .slice al l.length cl, .int .i64 n, .int .i64 X] 59)) (o.set w.heap.size 50) := ((Step.refl _ _ _).alloc _).give (Nat.le_refl _) _
  have hbx := Blk.new w o 50 59 #[.int .u8 y, .int .i64 k, .int .i64 a, .int .i64 d, .int .i64 x, .int .i64 z, .slice al l.length cl, .int .i64 n, .int .i64 X]
  replace h := h.frame s1 (by simp)
  replace hl := hl.frame s1 (by simp)
  generalize o.set w.heap.size 50 = o1 at s1 h hbx hl
  obtain ⟨zb, hz⟩ : ∃ zb, w.heap.size = zb := ⟨_, rfl⟩
  rw [hz] at hbx
  obtain ⟨W1, hW1⟩ : ∃ W1, w.alloc (.cells #[.int .u8 y, .int .i64 k, .int .i64 a, .int .i64 d, .int .i64 x, .int .i64 z, .slice al l.length cl, .int .i64 n, .int .i64 X] 59) = W1 := ⟨_, rfl⟩
  rw [hW1] at s1 h hbx hl
  have hB : Box w W1 o o1 zb y k a d x z n X (.slice al l.length cl) := ⟨s1, hbx⟩
  obtain ⟨⟨c0, c1, c2, c3, c4, c5, c6⟩, c7, c8⟩ := hB.cells (Step.refl [] W1 o1) (by simp)
  rw [← hW1] at c0 c1 c2 c3 c4 c5 c6 c7 c8
  have HW1 := Lib.hid hW1
  have hlen := h.len
  have h128 := h.p.len
  clear hW1 hbx
  obtain ⟨E, s', SP, SR, hP50, hR50, hSP, hSR, hSOK, hA, hC⟩ : ∃ (E : Int) (s' : List Fa) (SP SR : List Nat), 50 ∉ SP ∧ 50 ∉ SR ∧ (∀ x ∈ SP, x = 10 ∨ x = 11 ∨ (1000 ≤ x ∧ x < 5000)) ∧ (∀ x ∈ SR, x = 30 ∨ x = 31 ∨ 5000 ≤ x) ∧ SOK (SP ++ SR) ∧
      (∀ V oV, Both V oV b c N fl fr → Rd V oV 0 1 (.slice al l.length cl) l.length (cellsOf l) → ∀ W oW, Step SR V oV W oW → Calls Try.prog 23 #[.pointer (some ⟨b, 0, none⟩), .int .i64 n, .int .i64 X] W fun e w' => ∃ o' fl', e = .returned (.int .i64 E) ∧ PDone W oW b N SP s' w' o' fl') ∧
      (∀ V oV, Both V oV b c N fl fr → Rd V oV 0 1 (.slice al l.length cl) l.length (cellsOf l) → ∀ W oW, Step SP V oV W oW → Calls Try.prog 37 #[.pointer (some ⟨c, 0, none⟩), .int .i64 n, .int .i64 X] W fun e w' => ∃ o' fr', e = .returned (.int .i64 E) ∧ RDone W oW c N SR s' w' o' fr') := by
    have hPO : ∀ {V : World} {oV : Owner}, Both V oV b c N fl fr → ∀ p ∈ fl, 1000 ≤ p.2.2 ∧ p.2.2 < 1000 + (N + 1) := fun hV p hp => by have := hV.po p hp; omega
    have hRO : ∀ {V : World} {oV : Owner}, Both V oV b c N fl fr → ∀ p ∈ fr, 5000 ≤ p.2.2 ∧ p.2.2 < 5000 + (N + 1) := fun hV p hp => by have := hV.ro p hp; omega
    rcases lastL fl with hno | ⟨lo, t, hi, hfl, hL, hh⟩
    · refine ⟨-6, fl.map ab, [], [], by simp, by simp, by simp, by simp, by intro x hx; simp at hx, fun V oV hV hlV W oW st => ?_, fun V oV hV hlV W oW st => ?_⟩
      · have hp := LT.pOver hV.p hV.po hV.small st (by simp)
        refine (setlocal_none hp hno n hn X).mono fun e w' hh => ?_
        exact ⟨oW, fl, hh.2, hp.frame hh.1 (by simp) (by simp) (by simp), hPO hV, hV.pn, rfl, hh.1⟩
      · have hr := hV.rOver st (by simp)
        refine (rsetlocal_miss (rlocal_none hr (rloc_none (noL hV.e.symm hno)) n) X).mono fun e w' hh => ?_
        obtain ⟨h1, rfl⟩ := hh
        exact ⟨oW, fr, h1, hr, hRO hV, hV.e.symm, Step.refl _ _ _⟩
    · obtain ⟨lo', t', hi', hfr, et, elo, ehi⟩ := both_mid h.e hfl
      have hh' := noL ehi hh
      have etk : t'.1.k = t.1.k := congrArg (fun f : Fa => f.1) et
      have etl : t'.2.1 = t.2.1 := congrArg (fun f : Fa => f.2.2.2.2.2) et
      have ht := h.po t (by rw [hfl]; simp)
      have hsm := h.small
      by_cases hin : t.1.k = 4 ∧ 0 ≤ n ∧ n < t.2.1.length
      · refine ⟨0, lo.map ab ++ (t.1.k, t.1.a, t.1.b, t.1.x, t.1.y, t.2.1.set n.toNat X) :: hi.map ab, [t.2.2], [30, 31, 5000 + N], (by first | (simp; done) | (simp; omega)), (by first | (simp; done) | (simp; omega)), (by first | (simp; done) | (simp; omega)), (by first | (simp; done) | (simp; omega)), by intro x hx; simp at hx; omega, fun V oV hV hlV W oW st => ?_, fun V oV hV hlV W oW st => ?_⟩
        · have hp := LT.pOver hV.p hV.po hV.small st ((by first | (simp; done) | (simp; omega)))
          refine (setlocal_t hp hfl hL hh (nodup_mid (by rw [← hfl]; exact hV.pn)) n hn X).mono fun e w' hh2 => ?_
          obtain ⟨s, ⟨-, -, -, h1, h2⟩ | ⟨h1, -⟩⟩ := hh2
          · refine ⟨oW, _, h1, h2, fun p hp => ?_, ?_, ?_, s⟩
            · have hpo := hPO hV
              rw [hfl] at hpo
              simp only [List.mem_append, List.mem_cons] at hp
              rcases hp with hp | rfl | hp
              · exact hpo p (by simp [hp])
              · exact hpo t (by simp)
              · exact hpo p (by simp [hp])
            · have := hV.pn
              rw [hfl] at this
              simpa using this
            · rw [List.map_append, List.map_cons]; rfl
          · exact absurd hin h1
        · have hr := hV.rOver st ((by first | (simp; done) | (simp; omega)))
          obtain ⟨⟨tk, ta, tb, tx, ty, tv⟩, tl, tw⟩ := t'
          have ek : tk = 4 := etk.trans hin.1
          dsimp only at etl
          simp only [ab, Prod.mk.injEq] at et
          obtain ⟨e1, e2, e3, e4, e5, e6⟩ := et
          subst ek
          obtain ⟨m, hm⟩ := Int.eq_ofNat_of_zero_le hin.2.1
          have hro := hV.ro
          refine (show Calls Try.prog 37 #[.pointer (some ⟨c, 0, none⟩), .int .i64 n, .int .i64 X] W _ from by
            rw [hm]
            exact rsetlocal_hit hr hfr hh' (by decide) (5000 + N) (by omega) (fun p hp => by have := hro p hp; omega) m (by have := hin.2.2; rw [etl]; omega) X).mono fun e w' hh2 => ?_
          obtain ⟨lv', o', h1, h2, s⟩ := hh2
          refine ⟨o', _, h1, h2, fun p hp => ?_, ?_, s⟩
          · have hro2 := hRO hV
            rw [hfr] at hro2
            simp only [List.mem_append, List.mem_cons] at hp
            rcases hp with hp | rfl | hp
            · exact hro2 p (by simp [hp])
            · dsimp only; omega
            · exact hro2 p (by simp [hp])
          · rw [List.map_append, List.map_cons, elo, ehi]
            simp only [ab]
            rw [← e1, ← e2, ← e3, ← e4, ← e5, etl, hm, Int.toNat_natCast]
      · refine ⟨-6, fl.map ab, [t.2.2], [], (by first | (simp; done) | (simp; omega)), by simp, (by first | (simp; done) | (simp; omega)), by simp, by intro x hx; simp at hx; omega, fun V oV hV hlV W oW st => ?_, fun V oV hV hlV W oW st => ?_⟩
        · have hp := LT.pOver hV.p hV.po hV.small st (by simp)
          refine (setlocal_t hp hfl hL hh (nodup_mid (by rw [← hfl]; exact hV.pn)) n hn X).mono fun e w' hh2 => ?_
          obtain ⟨s, ⟨h1, h2, h3, -⟩ | ⟨-, h1, h2⟩⟩ := hh2
          · exact absurd ⟨h1, h2, h3⟩ hin
          · exact ⟨oW, fl, h1, h2, hPO hV, hV.pn, rfl, s⟩
        · have hr := hV.rOver st ((by first | (simp; done) | (simp; omega)))
          have hmiss : Calls Try.prog 36 #[.pointer (some ⟨c, 0, none⟩), .int .i64 n] W fun e w' => e = .returned (.tuple #[.int .i64 0, .int .i64 (-6)]) ∧ W = w' := by
            by_cases h4 : t.1.k = 4
            · refine (rlocal_t hr hfr (etk.trans h4) hh' n).mono fun e w' hh2 => ?_
              obtain ⟨rfl, ⟨h1, -⟩ | ⟨-, h1⟩⟩ := hh2
              · rw [etl] at h1
                exact absurd ⟨h4, h1⟩ hin
              · exact ⟨h1, rfl⟩
            · have hloc := rloc_some hfr (by rw [etk]; exact hL) hh'
              rw [if_neg (by rw [etk]; exact h4)] at hloc
              exact rlocal_none hr hloc n
          refine (rsetlocal_miss hmiss X).mono fun e w' hh2 => ?_
          obtain ⟨h1, rfl⟩ := hh2
          exact ⟨oW, fr, h1, hr, hRO hV, hV.e.symm, Step.refl _ _ _⟩
  have hE : (E == E) = true := by simp
  go_enter Try.func25, Try.ntmps25
  go_wp2_with fail
  have sd : Step [] W1 o1 W1.drew o1 := (Step.refl _ _ _).drew
  have hd := h.frame sd (by simp)
  have hld := hl.frame sd (by simp)
  have hbd := hB.b.frame sd (by simp)
  have S0 : Step (SP ++ SR) w o W1.drew o1 := (s1.trans sd).weaken (by simp)
  rw [HW1.out]
  have hA1 := fun (W : World) (oW : Owner) (st : Step SR W1.drew o1 W oW) => hA W1.drew o1 hd hld W oW st
  have hA2 := fun (W : World) (oW : Owner) (st : Step SP W1.drew o1 W oW) => hC W1.drew o1 hd hld W oW st
  clear c0 c1 c2 c3 c4 c5 c6 c7 c8 hA hC
  go_region_held3 (fun W => W.cell? ⟨zb, 7, none⟩ = some (.int .i64 n) ∧ W.cell? ⟨zb, 8, none⟩ = some (.int .i64 X))
    (exact ⟨hbd.cell 7, hbd.cell 8⟩)
    (first
      | (go_at_call 23; (first | (refine (hA1 _ _ (Step.refl _ _ _)).mono ?_; rintro e w5 ⟨o5, fl5, rfl, h5⟩) | (refine (hA1 _ _ h6.st).mono ?_; rintro e w5 ⟨o5, fl5, rfl, h5⟩; have hr6 := h6.over h5.st hSP)); replace hbd := hbd.frame h5.st hP50; replace S0 : Step (SP ++ SR) w o w5 o5 := S0.trans (h5.st.weaken (fun i hi => List.mem_append_left _ hi)))
      | (go_at_call 37; (first | (refine (hA2 _ _ (Step.refl _ _ _)).mono ?_; rintro e w6 ⟨o6, fr6, rfl, h6⟩) | (refine (hA2 _ _ h5.st).mono ?_; rintro e w6 ⟨o6, fr6, rfl, h6⟩; have hp5 := h5.over hN h6.st hSR)); replace hbd := hbd.frame h6.st hR50; replace S0 : Step (SP ++ SR) w o w6 o6 := S0.trans (h6.st.weaken (fun i hi => List.mem_append_right _ hi))))
  all_goals go_wp2_with fail
  all_goals go_ret
  all_goals first
    | exact ⟨rfl, _, fl5, fr6, _, ⟨hp5, h6.r, h5.e.trans h6.e.symm, h5.po, h5.pn, h6.ro, hN⟩, hSOK, S0⟩
    | exact ⟨rfl, _, fl5, fr6, _, ⟨h5.p, hr6, h5.e.trans h6.e.symm, h5.po, h5.pn, h6.ro, hN⟩, hSOK, S0⟩
end
end Go.Proofs.Ytegcpjheglcbcaa
