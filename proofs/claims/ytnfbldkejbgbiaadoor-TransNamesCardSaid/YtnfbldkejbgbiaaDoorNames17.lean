/- TransNames: the walk. -/
import Derived.Test.YtnfbldkejbgbiaaDoorWords17
import Derived.Deep.CutRange
namespace Go.Proofs.YtnfbldkejbgbiaaDoor
open Go Go.RowKit Go.Shelf
set_option linter.unusedSimpArgs false
set_option linter.unusedVariables false

theorem lows_all : (built.all fun b => decide ((lst b.name).length ≤ 31) && (lst b.name).map lowc == lst b.name) = true := by kernel_rfl
theorem word_low {j : Nat} {b : B} (h : built[j]? = some b) : b.name.size ≤ 31 ∧ low b.name = b.name := by
  have := List.all_eq_true.1 lows_all b (List.mem_of_getElem? h)
  rw [Bool.and_eq_true, decide_eq_true_eq] at this
  exact ⟨this.1, lst_inj ((low_lst _).trans (eq_of_beq this.2))⟩
theorem seek_none : seekI (low ⟨#[]⟩) + 1 = 0 := by kernel_rfl
theorem up_low {c : UInt8} (h : 97 ≤ c.toNat ∧ c.toNat ≤ 122) : lowc (UInt8.ofNat (c.toNat - 32)) = lowc c := by
  have e : (UInt8.ofNat (c.toNat - 32)).toNat = c.toNat - 32 := by simp; omega
  rw [lowc_no (c := c) (by omega)]
  apply UInt8.toNat_inj.1
  rw [lowc_up (by omega), e]
  omega
theorem set_low {l : List UInt8} {j : Nat} (hj : j < l.length) (c' : UInt8) (h : lowc c' = lowc l[j]) : (l.set j c').map lowc = l.map lowc := by
  rw [List.map_set, h]
  apply List.ext_getElem?
  intro i
  rw [List.getElem?_set]
  by_cases e : j = i
  · subst e
    rw [if_pos rfl, if_pos (by simpa using hj), List.getElem?_map, List.getElem?_eq_getElem hj]
    rfl
  · rw [if_neg e]


set_option maxRecDepth 100000 in
set_option maxHeartbeats 16000000 in
theorem names17_walk (a0 a1 : Int) (h0 : 0 ≤ a0 ∧ a0 ≤ 65535) {w : World} (hm0 : ∃ m, w.cell? ⟨0, 0, none⟩ = some (.int .i64 m)) :
    Calls Tryd.prog 6 #[.int .u16 a0, .int .i64 a1] w fun e w' => e = .returned (.bool true) ∧ Below w.heap.size w w' := by
  have hm : ML w (fun _ => 0) := ⟨hm0, rfl⟩
  have hsh := shown17_ok hm
  obtain ⟨K, hK⟩ : ∃ K : Nat, a0.toNat % 180 = K := ⟨_, rfl⟩
  have hK180 : K < 180 := by omega
  have hKi : (K : Int) < 180 := by omega
  have hrem : a0.tmod 180 = (K : Int) := by rw [Int.tmod_eq_emod_of_nonneg h0.1]; omega
  have hrem2 : a0 % 180 = (K : Int) := by omega
  have hwk : wrap64 ((K : Int) + 1) = (K : Int) + 1 := by unfold wrap64; omega
  have hwk2 : IntKind.i64.wrap ((K : Int) + 1) = (K : Int) + 1 := by rw [IntKind.wrap_i64]; omega
  obtain ⟨b, hb⟩ : ∃ b, built[K]? = some b := ⟨_, List.getElem?_eq_getElem (by rw [built_length]; exact hK180)⟩
  have hon := only_word hb hK180
  obtain ⟨h31, hlow⟩ := word_low hb
  have hsk : seekI b.name = K := by
    obtain ⟨hk, e⟩ := List.getElem?_eq_some_iff.1 hb
    exact seek_at hk (by rw [e])
  have HON := Lib.hid hon
  have HLW := Lib.hid hlow
  have HSK := Lib.hid hsk
  have HB := Lib.hid hb
  clear hm0 hb hK hon hlow hsk
  go_enter Tryd.func6, Tryd.ntmps6
  go_wp2_with fail
  refine hsh.mono ?_
  rintro e w1 ⟨rfl, o1, S⟩
  replace hm := hm.frame S (by simp)
  have hal := rall_ok w1 o1 95
  clear hsh
  go_wp2_with fail
  refine hal.mono ?_
  rintro e w2 ⟨v2, o2, rfl, hx2, s2⟩
  obtain ⟨g, cap, rfl, hg⟩ := hx2.rowx (by decide)
  replace hm := hm.frame s2 (by simp)
  replace S := S.trans s2
  obtain ⟨y0, y1, y2, y3, y4⟩ := word_atb hg HB.out
  obtain ⟨w4, cap4, kc, hbr, s4⟩ := br_new w2 b.name
  replace s4 := (s4 o2).give (Nat.le_refl _) 98
  obtain ⟨o4, ho4⟩ : ∃ o4, o4 = o2.set w2.heap.size 98 := ⟨_, rfl⟩
  have hoq : o4 w2.heap.size = 98 := by rw [ho4]; exact Owner.set_self _ _ _
  rw [← ho4] at s4
  have hqw := S.size
  obtain ⟨q, hq⟩ : ∃ q, w2.heap.size = q := ⟨_, rfl⟩
  rw [hq] at hbr kc hoq hqw
  replace hm := hm.frame s4 (by simp)
  have hg4 := hg.frame s4 (by simp)
  obtain ⟨N, hN⟩ : ∃ N, b.name.size = N := ⟨_, rfl⟩
  have hlen : (lst b.name).length = N := hN
  rw [hN] at kc h31
  have HLEN := Lib.hid hlen
  have HN := Lib.hid hN
  have HQ := Lib.hid hq
  replace S := S.trans s4
  have S4 := S
  clear hal hx2 s2 s4 ho4 hg hlen hN hq S
  go_wp2_with fail
  go_loopg [27] N (fun gg v wr => ∃ (j : Nat) (l : List UInt8), gg = N - j ∧ j ≤ N ∧ v = .int .i64 j ∧ BR wr q l ∧ l.map lowc = lst b.name ∧ Step [98] w4 o4 wr o4)
  case atStart => exact ⟨0, _, rfl, Nat.zero_le _, rfl, hbr, (congrArg lst HLW.out).symm ▸ (low_lst b.name).symm, Step.refl _ _ _⟩
  case round =>
    obtain ⟨j, l, hgg, hj, rfl, hr, hl1, st⟩ := hrel
    have HG := Lib.hid hgg
    have HL1 := Lib.hid hl1
    have hll : l.length = N := by
      have := congrArg List.length hl1
      rw [List.length_map, HLEN.out] at this
      exact this
    have HLL := Lib.hid hll
    clear hgg hl1 kc hbr hll
    by_cases hlt : j < N
    · have hji : (j : Int) < N := by omega
      have hjl : j < l.length := by rw [HLL.out]; exact hlt
      obtain ⟨y, f⟩ := hr.at hjl
      obtain ⟨c, hc⟩ : ∃ c, l[j] = c := ⟨_, rfl⟩
      rw [hc] at y
      have HC := Lib.hid hc
      obtain ⟨d, hd⟩ : ∃ d, c.toNat = d := ⟨_, rfl⟩
      rw [hd] at y
      have HD := Lib.hid hd
      clear hc hd
      by_cases h97 : 97 ≤ d
      · have h97i : (97 : Int) ≤ d := by omega
        by_cases h122 : d ≤ 122
        · have h122i : (d : Int) ≤ 122 := by omega
          go_wp2_with fail
          go_roundg (N - (j + 1))
          case measure => rw [HG.out]; omega
          case rel =>
            refine ⟨j + 1, l.set j (UInt8.ofNat (d - 32)), rfl, by omega, by go_num, hr.set j _ _ (by simp; omega), ?_, st.setCell (fun _ => by rw [hoq]; simp) _⟩
            rw [set_low hjl _ (by rw [HC.out, ← HD.out]; exact up_low (by rw [HD.out]; exact ⟨h97, h122⟩)), HL1.out]
        · have h122i : ¬ (d : Int) ≤ 122 := by omega
          go_wp2_with fail
          go_roundg (N - (j + 1))
          case measure => rw [HG.out]; omega
          case rel => exact ⟨j + 1, l, rfl, by omega, by go_num, hr, HL1.out, st⟩
      · have h97i : ¬ (97 : Int) ≤ d := by omega
        go_wp2_with fail
        go_roundg (N - (j + 1))
        case measure => rw [HG.out]; omega
        case rel => exact ⟨j + 1, l, rfl, by omega, by go_num, hr, HL1.out, st⟩
    · obtain rfl : j = N := by omega
      have hji : ¬ (j : Int) < j := by omega
      replace hm := hm.frame st (by decide)
      have hg5 := hg4.frame st (by decide)
      have S5 := (S4.nil (S := [98])).trans st
      have hlw : low ⟨l.toArray⟩ = b.name := by apply lst_inj; rw [low_lst]; exact HL1.out
      have hz1 : b.name.size ≤ 1000000 := by rw [HN.out]; omega
      have hz2 : (⟨l.toArray⟩ : ByteArray).size ≤ 1000000 := by show l.toArray.size ≤ _; rw [List.size_toArray, HLL.out]; omega
      have he1 : seekI (low b.name) + 1 = (K : Int) + 1 := by rw [HLW.out, HSK.out]
      have he2 : seekI (low ⟨l.toArray⟩) + 1 = (K : Int) + 1 := by rw [hlw, HSK.out]
      have hkb : ∀ W oW, Step [] wr o4 W oW → (convert 47 9 (.slice (some ⟨q, 0, none⟩) j cap4)).run Tryd.prog W = .ok (.string ⟨l.toArray⟩) W := fun W oW sW => br_back (hr.frame sW (by simp)) j cap4 HLL.out.symm
      obtain ⟨T, hT⟩ : ∃ T : ByteArray, ⟨l.toArray⟩ = T := ⟨_, rfl⟩
      rw [hT] at hz2 he2
      simp only [hT] at hkb
      have Z1 := Lib.hid hz1
      have Z2 := Lib.hid hz2
      have E1 := Lib.hid he1
      have E2 := Lib.hid he2
      have E3 := Lib.hid seek_none
      have KB := Lib.hid hkb
      have ON := HON
      have hn : (a1 < 1 ∧ onlyAt a1 = false) ∨ (¬ a1 < 1 ∧ 180 < a1 ∧ onlyAt a1 = false) ∨ (¬ a1 < 1 ∧ ¬ 180 < a1) := by
        by_cases e1 : a1 < 1
        · exact .inl ⟨e1, by unfold onlyAt; rw [if_neg (by omega)]⟩
        · by_cases e2 : 180 < a1
          · exact .inr (.inl ⟨e1, e2, by unfold onlyAt; rw [if_neg (by omega)]⟩)
          · exact .inr (.inr ⟨e1, e2⟩)
      clear hg4 S4 st hr hlw hT hz1 hz2 he1 he2 hkb y0 y1 y2 y3 y4
      rcases hn with ⟨n1, n3⟩ | ⟨n1, n2, n3⟩ | ⟨n1, n2⟩
      · have N3 := Lib.hid n3
        clear n3
        go_wp2_with fail
        refine q_start (fun W => ∃ o', Step [] wr o4 W o') (by kernel_rfl) ⟨_, (Step.refl _ _ _).drew⟩ ?_
        repeat (first
          | (refine q_off (by rfl) ?_; simp only [Act.put, List.setIfInBounds_toArray, List.set_cons_zero, List.set_cons_succ])
          | (refine q_on (by rfl) ?_; apply Exists.intro; refine ⟨fun W hW => ?_, ?_⟩; (obtain ⟨oW, sW⟩ := hW; obtain ⟨y0, y1, y2, y3, y4⟩ := word_atb (hg5.frame sW (by simp)) HB.out; have kb := KB.out W oW sW; go_simp; first | done | with_reducible rfl | (go_at_call 13; exact (xt_ok _ (by first | exact Z1.out | exact Z2.out | decide) (hm.frame sW (by simp))).mono fun e w' k => ⟨k.1.trans (by first | rw [E1.out] | rw [E2.out] | rw [E3.out]), k.2.elim fun o2 st => ⟨o2, sW.trans st⟩⟩) | (go_at_call 15; exact (only_ok _ (hm.frame sW (by simp))).mono fun e w' k => ⟨k.1.trans (by first | rw [HON.out] | rw [N3.out]), k.2.elim fun o2 st => ⟨o2, sW.trans st⟩⟩)); simp only [Act.put, List.setIfInBounds_toArray, List.set_cons_zero, List.set_cons_succ])
          | fail)
        refine q_end ?_
        rintro w9 ⟨o9, s9⟩
        go_wp2_with fail
        go_ret
        exact ⟨rfl, ((Base.start w).step (S5.trans s9.nil) (by decide)).below⟩
      · have N3 := Lib.hid n3
        clear n3
        go_wp2_with fail
        refine q_start (fun W => ∃ o', Step [] wr o4 W o') (by kernel_rfl) ⟨_, (Step.refl _ _ _).drew⟩ ?_
        repeat (first
          | (refine q_off (by rfl) ?_; simp only [Act.put, List.setIfInBounds_toArray, List.set_cons_zero, List.set_cons_succ])
          | (refine q_on (by rfl) ?_; apply Exists.intro; refine ⟨fun W hW => ?_, ?_⟩; (obtain ⟨oW, sW⟩ := hW; obtain ⟨y0, y1, y2, y3, y4⟩ := word_atb (hg5.frame sW (by simp)) HB.out; have kb := KB.out W oW sW; go_simp; first | done | with_reducible rfl | (go_at_call 13; exact (xt_ok _ (by first | exact Z1.out | exact Z2.out | decide) (hm.frame sW (by simp))).mono fun e w' k => ⟨k.1.trans (by first | rw [E1.out] | rw [E2.out] | rw [E3.out]), k.2.elim fun o2 st => ⟨o2, sW.trans st⟩⟩) | (go_at_call 15; exact (only_ok _ (hm.frame sW (by simp))).mono fun e w' k => ⟨k.1.trans (by first | rw [HON.out] | rw [N3.out]), k.2.elim fun o2 st => ⟨o2, sW.trans st⟩⟩)); simp only [Act.put, List.setIfInBounds_toArray, List.set_cons_zero, List.set_cons_succ])
          | fail)
        refine q_end ?_
        rintro w9 ⟨o9, s9⟩
        go_wp2_with fail
        go_ret
        exact ⟨rfl, ((Base.start w).step (S5.trans s9.nil) (by decide)).below⟩
      · go_wp2_with fail
        refine q_start (fun W => ∃ o', Step [] wr o4 W o') (by kernel_rfl) ⟨_, (Step.refl _ _ _).drew⟩ ?_
        repeat (first
          | (refine q_off (by rfl) ?_; simp only [Act.put, List.setIfInBounds_toArray, List.set_cons_zero, List.set_cons_succ])
          | (refine q_on (by rfl) ?_; apply Exists.intro; refine ⟨fun W hW => ?_, ?_⟩; (obtain ⟨oW, sW⟩ := hW; obtain ⟨y0, y1, y2, y3, y4⟩ := word_atb (hg5.frame sW (by simp)) HB.out; have kb := KB.out W oW sW; go_simp; first | done | with_reducible rfl | (go_at_call 13; exact (xt_ok _ (by first | exact Z1.out | exact Z2.out | decide) (hm.frame sW (by simp))).mono fun e w' k => ⟨k.1.trans (by first | rw [E1.out] | rw [E2.out] | rw [E3.out]), k.2.elim fun o2 st => ⟨o2, sW.trans st⟩⟩) | (go_at_call 15; exact (only_ok _ (hm.frame sW (by simp))).mono fun e w' k => ⟨k.1.trans (by rw [HON.out]), k.2.elim fun o2 st => ⟨o2, sW.trans st⟩⟩)); simp only [Act.put, List.setIfInBounds_toArray, List.set_cons_zero, List.set_cons_succ])
          | fail)
        refine q_end ?_
        rintro w9 ⟨o9, s9⟩
        go_wp2_with fail
        go_ret
        exact ⟨rfl, ((Base.start w).step (S5.trans s9.nil) (by decide)).below⟩
end Go.Proofs.YtnfbldkejbgbiaaDoor
