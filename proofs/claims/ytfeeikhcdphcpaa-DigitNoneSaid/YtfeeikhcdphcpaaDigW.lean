/- The number that a text is: the document's side. -/
import Derived.Test.YtfeeikhcdphcpaaDigM
import Derived.Deep.CutRange
import Derived.Deep.CutBlock
namespace Go.Proofs.Ytfeeikhcdphcpaa
open Go Go.RowKit
set_option linter.unusedSimpArgs false
set_option linter.unusedVariables false

/-- What stands ahead of a number: the base, how many letters; the sign. -/
def Lead (d b b1 : Int) (at0 : Nat) : Prop :=
  (((d = 35 ∧ b1 = 10) ∨ (d = 36 ∧ b1 = 16) ∨ (d = 37 ∧ b1 = 2)) ∧ at0 = 1) ∨ (d ≠ 35 ∧ d ≠ 36 ∧ d ≠ 37 ∧ b1 = b ∧ at0 = 0)
def NegP (n e : Int) (at0 at1 : Nat) (neg : Bool) : Prop :=
  (¬ (at0 : Int) < n ∧ at1 = at0 ∧ neg = false) ∨ ((at0 : Int) < n ∧ e = 45 ∧ at1 = at0 + 1 ∧ neg = true) ∨ ((at0 : Int) < n ∧ e ≠ 45 ∧ at1 = at0 ∧ neg = false)

theorem u8_int (c : UInt8) (k : Nat) (hk : k < 256) : ((c.toNat : Nat) : Int) = (k : Int) ↔ c = UInt8.ofNat k := by
  constructor
  · intro h
    apply UInt8.toNat_inj.1
    rw [UInt8.toNat_ofNat']
    omega
  · rintro rfl
    rw [UInt8.toNat_ofNat']
    omega

theorem lead_ok (c : UInt8) (r : List UInt8) (b : Int) : ∃ at0 : Nat, Lead ((c.toNat : Nat) : Int) b (baseB c b) at0 ∧ baseL c r = (c :: r).drop at0 ∧ at0 ≤ r.length + 1 := by
  have k35 := u8_int c 35 (by decide)
  have k36 := u8_int c 36 (by decide)
  have k37 := u8_int c 37 (by decide)
  by_cases hb : base1 c = 0
  · have hn : c ≠ 35 ∧ c ≠ 36 ∧ c ≠ 37 := by
      refine ⟨?_, ?_, ?_⟩ <;> (rintro rfl; revert hb; decide)
    have hl : baseL c r = c :: r := by unfold baseL; rw [if_pos hb]
    have hbb : baseB c b = b := by unfold baseB; rw [if_pos hb]
    rw [hl, hbb]
    exact ⟨0, .inr ⟨fun h => hn.1 (k35.1 h), fun h => hn.2.1 (k36.1 h), fun h => hn.2.2 (k37.1 h), rfl, rfl⟩, rfl, by omega⟩
  · have hl : baseL c r = r := by unfold baseL; rw [if_neg hb]
    have hbb : baseB c b = base1 c := by unfold baseB; rw [if_neg hb]
    rw [hl, hbb]
    have h3 : (((c.toNat : Nat) : Int) = 35 ∧ base1 c = 10) ∨ (((c.toNat : Nat) : Int) = 36 ∧ base1 c = 16) ∨ (((c.toNat : Nat) : Int) = 37 ∧ base1 c = 2) := by
      by_cases h35 : c = 35
      · subst h35; exact .inl ⟨rfl, rfl⟩
      · by_cases h36 : c = 36
        · subst h36; exact .inr (.inl ⟨rfl, rfl⟩)
        · by_cases h37 : c = 37
          · subst h37; exact .inr (.inr ⟨rfl, rfl⟩)
          · exact absurd (by unfold base1; rw [if_neg h35, if_neg h36, if_neg h37]) hb
    exact ⟨1, .inl ⟨h3, rfl⟩, rfl, by omega⟩
theorem neg_at (L : List UInt8) (at0 : Nat) (h : at0 ≤ L.length) (e : Int) (he : ∀ x, L[at0]? = some x → e = ((x.toNat : Nat) : Int)) :
    ∃ at1 : Nat, NegP (L.length : Int) e at0 at1 (negB (L.drop at0)) ∧ negL (L.drop at0) = L.drop at1 ∧ at1 ≤ L.length := by
  by_cases hlt : at0 < L.length
  · have hx := he _ (List.getElem?_eq_getElem hlt)
    have k := u8_int (L[at0]'hlt) 45 (by decide)
    have hd : L.drop at0 = L[at0]'hlt :: L.drop (at0 + 1) := List.drop_eq_getElem_cons hlt
    by_cases h45 : L[at0]'hlt = 45
    · have hg : negB (L.drop at0) = true := by rw [hd, h45]; rfl
      exact ⟨at0 + 1, .inr (.inl ⟨by omega, by rw [hx]; exact k.2 h45, rfl, hg⟩), by unfold negL; rw [if_pos hg, hd]; rfl, by omega⟩
    · have hg : negB (L.drop at0) = false := by rw [hd]; unfold negB; simp only [List.head?_cons]; simpa using h45
      exact ⟨at0, .inr (.inr ⟨by omega, by rw [hx]; exact fun h => h45 (k.1 h), rfl, hg⟩), by unfold negL; rw [if_neg (by simp [hg])], by omega⟩
  · have hd : L.drop at0 = [] := List.drop_of_length_le (by omega)
    have hg : negB (L.drop at0) = false := by rw [hd]; rfl
    exact ⟨at0, .inl ⟨by omega, rfl, hg⟩, by unfold negL; rw [if_neg (by simp [hg])], h⟩

theorem PBlk.hi0 {w : World} {b : Nat} {n m lo hi : Int} (h : PBlk w b n) (e : pv n = .agg #[.int .i64 lo, .int .i64 hi]) (e2 : pv m = .agg #[.int .i64 lo, .int .i64 0]) : PBlk (w.setCell ⟨b, 1, none⟩ (.int .i64 0)) b m := by
  refine ⟨lo, 0, e2, ?_⟩
  rw [heap_setCell_same (h.at e)]
  rfl

/-- What is left with the point, and without it. -/
inductive Tails (l2 : List UInt8) (b1 : Int) (le rl A : Int) : List UInt8 → Int → Bool → Prop
  | k1 : rl = 1 → le = 46 → l2.length ≤ 1 → (acc b1 0 l2).1 = A → Tails l2 b1 le rl A [] 0 true
  | k2 (l3 : List UInt8) : rl = 1 → le = 46 → ¬ l2.length ≤ 1 → l3 ≠ [] → (acc b1 0 l2).1 = A → Tails l2 b1 le rl A l3 0 true
  | k3 (l3 : List UInt8) (left : Int) : 1 < rl → 0 < left → Tails l2 b1 le rl A l3 left true
  | k4 (l3 : List UInt8) (left : Int) : 0 < rl → (rl = 1 → le ≠ 46) → 0 < left → Tails l2 b1 le rl A l3 left false
  | k5 : rl = 0 → l2.length ≤ 0 → Tails l2 b1 le rl A [] 0 false
  | k6 (l3 : List UInt8) : rl = 0 → ¬ l2.length ≤ 0 → l3 ≠ [] → (acc b1 0 l2).1 = A → Tails l2 b1 le rl A l3 0 false

theorem dot46 (b : Int) : valB ((46 : UInt8).toNat : Nat) b = false := by
  have : dig (((46 : UInt8).toNat : Nat) : Int) = -1 := by decide
  unfold valB; rw [this]; simp

theorem tails_ok (l2 : List UInt8) (b1 le : Int) (hle : ∀ x, l2.getLast? = some x → le = ((x.toNat : Nat) : Int)) :
    Tails l2 b1 le (acc b1 0 l2).2 (acc b1 0 (dotL l2)).1 (dotL l2) (acc b1 0 (dotL l2)).2 (dotB l2) := by
  cases hd : dotB l2 with
  | true =>
    have hlast : l2.getLast? = some 46 := by simpa [dotB] using hd
    have hl3 : dotL l2 = l2.dropLast := by unfold dotL; rw [if_pos hd]
    have happ : l2 = dotL l2 ++ [46] := by
      rw [hl3]
      have hne : l2 ≠ [] := by intro h; subst h; simp at hlast
      rw [List.getLast?_eq_some_getLast hne] at hlast
      have := (List.dropLast_concat_getLast hne).symm
      rwa [Option.some.inj hlast] at this
    have hlen : l2.length = (dotL l2).length + 1 := by
      have := congrArg List.length happ
      simpa using this
    have h46 := hle 46 hlast
    have hacc := acc_app b1 (dotL l2) [46] 0
    rw [← happ] at hacc
    have hone : acc b1 (acc b1 0 (dotL l2)).1 [46] = ((acc b1 0 (dotL l2)).1, 1) := by rw [acc_cons, if_neg (by rw [dot46]; exact Bool.false_ne_true)]; rfl
    rw [hone] at hacc
    by_cases h0 : (acc b1 0 (dotL l2)).2 = 0
    · rw [if_pos h0] at hacc
      by_cases hn : dotL l2 = []
      · have h1 : l2.length ≤ 1 := by rw [hlen, hn]; simp
        rw [h0]
        have hA : (acc b1 0 l2).1 = (acc b1 0 (dotL l2)).1 := by rw [hacc]
        have hR : (acc b1 0 l2).2 = 1 := by rw [hacc]
        generalize (acc b1 0 (dotL l2)).1 = A at *
        rw [hn]
        exact .k1 hR h46 h1 hA
      · rw [h0]
        have h1 : ¬ l2.length ≤ 1 := by
          rw [hlen]
          have := List.length_pos_iff.2 hn
          omega
        exact .k2 _ (by rw [hacc]) h46 h1 hn (by rw [hacc])
    · rw [if_neg h0] at hacc
      have := acc_range b1 (dotL l2) 0
      exact .k3 _ _ (by rw [hacc]; simp; omega) (by omega)
  | false =>
    have hl3 : dotL l2 = l2 := by unfold dotL; rw [if_neg (by simp [hd])]
    rw [hl3]
    have hr := acc_range b1 l2 0
    by_cases h0 : (acc b1 0 l2).2 = 0
    · by_cases hn : l2 = []
      · subst hn
        exact .k5 rfl (by simp)
      · rw [h0]
        have h1 : ¬ l2.length ≤ 0 := by have := List.length_pos_iff.2 hn; omega
        exact .k6 _ rfl h1 hn rfl
    · refine .k4 _ _ (by omega) (fun h1 => ?_) (by omega)
      have hne : l2 ≠ [] := by intro h; subst h; simp [acc] at h0
      have hlast := List.getLast?_eq_some_getLast hne
      rw [hle _ hlast]
      intro h46
      have := (u8_int (l2.getLast hne) 46 (by decide)).1 h46
      rw [dotB, hlast, this] at hd
      simp at hd

set_option maxHeartbeats 16000000 in
theorem rnumber_ok (l : List UInt8) (hl : l.length ≤ 1000) (b : Int) (hb : C64 b) (w : World) : Calls Try.prog 25 #[.string (bl l), .int .i64 b] w fun e w' => e = .returned (numV l b) ∧ Calm w w' := by
  have hri := rright_ok b
  cases hr : rightB b with
  | false =>
    rw [hr] at hri
    rw [show numV l b = .tuple #[.agg #[.int .i64 0, .int .i64 0], .int .i64 0] by unfold numV num; rw [hr, if_neg Bool.false_ne_true, pv_zero]]
    generalize bl l = s
    go_enter Try.func25, Try.ntmps25
    go_wp2_with (go_at_call 30; refine (hri _).mono ?_; rintro e w1 ⟨rfl, rfl⟩)
    simp [bodyPost, results, Try.results25, go_sem]
    exact (Calm.refl _).alloc _
  | true =>
    rw [hr] at hri
    cases l with
    | nil =>
      rw [show numV [] b = .tuple #[.agg #[.int .i64 0, .int .i64 0], .int .i64 0] by unfold numV num; rw [hr, if_pos rfl, pv_zero]]
      have hsz : (bl []).size = 0 := bl_size []
      generalize bl [] = s at *
      go_enter Try.func25, Try.ntmps25
      go_wp2_with (go_at_call 30; refine (hri _).mono ?_; rintro e w1 ⟨rfl, rfl⟩)
      simp [bodyPost, results, Try.results25, go_sem]
      exact (Calm.refl _).alloc _
    | cons c r =>
      have hnum : num (c :: r) b = numE (baseB c b) (negB (baseL c r)) (negL (baseL c r)) := by unfold num; rw [hr, if_pos rfl]
      obtain ⟨at0, hlead, hdrop0, hat0'⟩ := lead_ok c r b
      obtain ⟨e, he⟩ : ∃ e : Int, ∀ x, (c :: r)[at0]? = some x → e = ((x.toNat : Nat) : Int) := by
        cases hx : (c :: r)[at0]? with
        | none => exact ⟨0, fun x h => by cases h⟩
        | some x => exact ⟨((x.toNat : Nat) : Int), fun y h => by cases h; rfl⟩
      obtain ⟨at1, hnegp, hdrop, hat⟩ := neg_at (c :: r) at0 hat0' e he
      rw [← hdrop0] at hnegp hdrop
      obtain ⟨b1, hb1⟩ : ∃ b1, baseB c b = b1 := ⟨_, rfl⟩
      have hb1r : rightB b1 = true := by rw [← hb1]; exact right_base hr
      have hb1c : C64 b1 := by rw [← hb1]; exact base_C hr
      obtain ⟨neg, hneg⟩ : ∃ neg, negB (baseL c r) = neg := ⟨_, rfl⟩
      obtain ⟨l2, hl2⟩ : ∃ l2, negL (baseL c r) = l2 := ⟨_, rfl⟩
      rw [hb1] at hlead
      rw [hneg] at hnegp
      rw [hb1, hneg, hl2] at hnum
      rw [hl2] at hdrop
      obtain ⟨s, hs⟩ : ∃ s, bl (c :: r) = s := ⟨_, rfl⟩
      have hsz : s.size = r.length + 1 := by rw [← hs, bl_size]; rfl
      have hl2n : l2.length = s.size - at1 := by rw [hdrop, List.length_drop, hsz]; rfl
      have hl1000 : s.size ≤ 1000 := by rw [hsz]; exact hl
      have hx : s.extract at1 s.size = bl l2 := by rw [hdrop, ← hs, bl_ext, bl_size, List.take_of_length_le (by simp)]
      have h00 : 0 < s.size := by omega
      have hc0 : (((s[0]'h00).toNat : Nat) : Int) = ((c.toNat : Nat) : Int) := by subst hs; rfl
      have hs1 : ∀ h : at0 < s.size, (((s[at0]'h).toNat : Nat) : Int) = e := by
        intro h
        have h2 : at0 < (c :: r).length := by rw [List.length_cons]; omega
        rw [he _ (List.getElem?_eq_getElem h2)]
        subst hs
        rfl
      have hll : s.size - 1 < s.size := by omega
      obtain ⟨le, hle⟩ : ∃ le : Int, (((s[s.size - 1]'hll).toNat : Nat) : Int) = le := ⟨_, rfl⟩
      have hlel : ∀ x, l2.getLast? = some x → le = ((x.toNat : Nat) : Int) := by
        intro x hx2
        rw [← hle]
        have h1 : (c :: r).getLast? = some x := by
          rw [hdrop, List.getLast?_drop] at hx2
          split at hx2
          · cases hx2
          · exact hx2
        have h2 : (c :: r).getLast? = (c :: r)[(c :: r).length - 1]? := List.getLast?_eq_getElem?
        rw [h2] at h1
        have h3 : (c :: r)[s.size - 1]? = some (s[s.size - 1]'hll) := by
          have hlt : s.size - 1 < (c :: r).length := by rw [List.length_cons]; omega
          rw [List.getElem?_eq_getElem hlt]
          subst hs
          rfl
        rw [show (c :: r).length - 1 = s.size - 1 by rw [hsz]; rfl, h3] at h1
        rw [Option.some.inj h1]
      have htl := tails_ok l2 b1 le hlel
      have hac := raccept_ok 0 b1 hb1c (bl l2) (by rw [bl_size, hl2n]; omega)
      have hnn := num_none (b1 := b1) (neg := neg) (l2 := l2)
      have hns := num_some (b1 := b1) (neg := neg) (l2 := l2)
      rw [accV, hb1r, if_pos rfl, if_pos rfl, lst_bl, pv_zero] at hac
      obtain ⟨rl, hrl⟩ : ∃ rl, (acc b1 0 l2).2 = rl := ⟨_, rfl⟩
      obtain ⟨RA, hRA⟩ : ∃ RA, (acc b1 0 l2).1 = RA := ⟨_, rfl⟩
      rw [hrl, hRA] at hac
      rw [hrl] at htl
      obtain ⟨l3, hl3⟩ : ∃ l3, dotL l2 = l3 := ⟨_, rfl⟩
      obtain ⟨dot, hdot⟩ : ∃ dot, dotB l2 = dot := ⟨_, rfl⟩
      obtain ⟨left, hleft⟩ : ∃ left, (acc b1 0 l3).2 = left := ⟨_, rfl⟩
      obtain ⟨A, hA⟩ : ∃ A, (acc b1 0 l3).1 = A := ⟨_, rfl⟩
      rw [hl3, hdot, hleft, hA] at htl
      rw [hl3, hleft] at hnn
      rw [hl3, hleft, hdot, hA] at hns
      obtain ⟨al, ah, -, -, -, eA, -⟩ := pv_split RA
      have hng := negR_calm RA
      obtain ⟨gl, gh, -, -, -, eG, -⟩ := pv_split (-RA)
      rw [eA] at hac hng
      rw [eG] at hng
      obtain ⟨V, hV⟩ : ∃ V, numV (c :: r) b = V := ⟨_, rfl⟩
      have hVn : (l3 = [] ∨ 0 < left) → V = .tuple #[.agg #[.int .i64 0, .int .i64 0], .int .i64 0] := by
        intro h; rw [← hV, numV, hnum, hnn h, pv_zero]
      have hVs : ¬ l3 = [] → ¬ 0 < left → RA = A → V = .tuple #[.agg #[.int .i64 (if neg then gl else al), .int .i64 (if dot then (if neg then gh else ah) else 0)], .int .i64 (if dot then 2 else 1)] := by
        intro h1 h2 h3
        subst h3
        rw [← hV, numV, hnum, hns h1 h2]
        cases dot <;> cases neg <;> simp only [if_true, if_false, Bool.false_eq_true]
        · rw [pv_low eA]
        · rw [pv_low eG]
        · rw [eA]
        · rw [eG]
      rw [hV, hs]
      obtain ⟨d, hd⟩ : ∃ d : Int, ((c.toNat : Nat) : Int) = d := ⟨_, rfl⟩
      rw [hd] at hc0 hlead
      have hcast : ((c :: r).length : Int) = s.size := by rw [List.length_cons]; omega
      rw [hcast] at hnegp
      rw [List.length_cons] at hat
      have hatn : (at1 : Int) ≤ s.size := by omega
      have hat0 : at1 ≤ s.size := by omega
      have hat00 : (at0 : Int) ≤ s.size := by omega
      have HNP := Lib.hid hnegp
      obtain ⟨s2, hs2⟩ : ∃ s2, bl l2 = s2 := ⟨_, rfl⟩
      rw [hs2] at hac hx
      have HL := Lib.hid hl2n
      have EA := Lib.hid eA
      have EG := Lib.hid eG
      have HS1 := Lib.hid hs1
      have HLE := Lib.hid hlead
      have HT := Lib.hid htl
      have HRA := Lib.hid hRA
      have HC0 := Lib.hid hc0
      have HLA := Lib.hid hle
      have HX := Lib.hid hx
      have hszi : (1 : Int) ≤ s.size := by omega
      have hsm : (s.size : Int) ≤ 1000 := by omega
      have hne0 : ((s.size : Int) == 0) = false := by rw [beq_eq_false_iff_ne]; omega
      clear hs2 hd hcast hV hA hleft hdot hl3 hRA hrl eA eG htl hnn hns hlead hs1 hc0 hle hlel hx hl2n hsz hs hl2 hneg hb1 he hdrop hdrop0 hnegp hat hat0' hnum hr hb hl hl1000
      go_enter Try.func25, Try.ntmps25
      have c00 := HC0.out
      go_upto_block 0 with (go_at_call 30; refine (hri _).mono ?_; rintro e w1 ⟨rfl, rfl⟩)
      go_cut [1, 6] from 22 to 28 (fun c1 c6 wx => c1 = .int .i64 b1 ∧ c6 = .int .i64 (at0 : Int) ∧ wx = w.alloc (.cells #[.int .i64 0, .int .i64 0] 24))
      case first =>
        rcases HLE.out with ⟨h3, rfl⟩ | ⟨d1, d2, d3, rfl, rfl⟩
        · rcases h3 with ⟨rfl, rfl⟩ | ⟨rfl, rfl⟩ | ⟨rfl, rfl⟩
          all_goals (go_wp2_with fail; go_meet; exact ⟨rfl, rfl, rfl⟩)
        · have f1 : (d == 35) = false := by rw [beq_eq_false_iff_ne]; exact d1
          have f2 : (d == 36) = false := by rw [beq_eq_false_iff_ne]; exact d2
          have f3 : (d == 37) = false := by rw [beq_eq_false_iff_ne]; exact d3
          go_wp2_with fail
          go_meet
          exact ⟨rfl, rfl, rfl⟩
      case rest =>
        obtain ⟨rfl, rfl, rfl⟩ := hcut
        have hx := HX.out
        have hla := HLA.out
        have hsub : ((s.size : Int) - 1).toNat = s.size - 1 := by omega
        rcases HNP.out with ⟨m1, m0, rfl⟩ | ⟨m1, m2, m0, rfl⟩ | ⟨m1, m2, m0, rfl⟩
        · simp only [if_true, if_false, Bool.false_eq_true] at hVs
          subst at1
          have HL2 := HL.out
          rcases HT.out with ⟨t1, t2, t3, t4⟩ | ⟨_, t1, t2, t3, t5, t4⟩ | ⟨_, _, t1, t2⟩ | ⟨_, _, t1, t2, t3⟩ | ⟨t1, t2⟩ | ⟨_, t1, t2, t5, t4⟩
          · have hv := hVn (.inl rfl)
            subst hv t1 t2
            have hk : (s.size : Int) ≤ ((at0 : Nat) : Int) + 1 := by omega
            clear HL2 hVn hVs
            go_wp2_with (first
              | (go_at_call 23; refine (hac _).mono ?_; rintro e w5 ⟨rfl, s5⟩; have PZ := (PBlk.new w pv_zero).calm s5; have SZ := ((Calm.refl w).alloc (.cells #[.int .i64 0, .int .i64 0] 24)).trans s5; obtain ⟨z0, z1, z2, z3⟩ := PZ.cells pv_zero; have PA := PBlk.new w5 EA.out; have PZA := PZ.calm ((Calm.refl _).alloc (.cells #[.int .i64 al, .int .i64 ah] 24)); obtain ⟨y0, y1, y2, y3⟩ := PZA.cells pv_zero; have PZF := PZ.calm ((Calm.refl _).alloc (.cells #[.int .i64 al, .int .i64 0] 24)); obtain ⟨r0, r1, r2, r3⟩ := PZF.cells pv_zero))
            have QZ := PZA.set pv_zero
            obtain ⟨q0, q1, -, -⟩ := QZ.cells pv_zero
            refine bodyPost_ret (v := .tuple #[.agg #[.int .i64 0, .int .i64 0], .int .i64 0]) (by simp only [results, Try.results25]; simp [go_sem, q0, q1]) rfl ⟨rfl, ?_⟩
            exact ((SZ.alloc _).set2 (Nat.le_refl _) _ _)
          · have hk : ¬ (s.size : Int) ≤ ((at0 : Nat) : Int) + 1 := by omega
            skip
            skip
            exfalso; omega
          · have hv := hVn (.inr t2)
            subst hv
            have g1 : (rl == 1) = false := by rw [beq_eq_false_iff_ne]; omega
            have g2 : 0 < rl := by omega
            clear HL2 hVn hVs
            go_wp2_with (first
              | (go_at_call 23; refine (hac _).mono ?_; rintro e w5 ⟨rfl, s5⟩; have PZ := (PBlk.new w pv_zero).calm s5; have SZ := ((Calm.refl w).alloc (.cells #[.int .i64 0, .int .i64 0] 24)).trans s5; obtain ⟨z0, z1, z2, z3⟩ := PZ.cells pv_zero; have PA := PBlk.new w5 EA.out; have PZA := PZ.calm ((Calm.refl _).alloc (.cells #[.int .i64 al, .int .i64 ah] 24)); obtain ⟨y0, y1, y2, y3⟩ := PZA.cells pv_zero; have PZF := PZ.calm ((Calm.refl _).alloc (.cells #[.int .i64 al, .int .i64 0] 24)); obtain ⟨r0, r1, r2, r3⟩ := PZF.cells pv_zero))
            have QZ := PZA.set pv_zero
            obtain ⟨q0, q1, -, -⟩ := QZ.cells pv_zero
            refine bodyPost_ret (v := .tuple #[.agg #[.int .i64 0, .int .i64 0], .int .i64 0]) (by simp only [results, Try.results25]; simp [go_sem, q0, q1]) rfl ⟨rfl, ?_⟩
            exact ((SZ.alloc _).set2 (Nat.le_refl _) _ _)
          · have hv := hVn (.inr t3)
            subst hv
            clear HL2 hVn hVs
            by_cases g0 : rl = 1
            · have g3 : (le == 46) = false := by rw [beq_eq_false_iff_ne]; exact t2 g0
              subst g0
              clear t2
              go_wp2_with (first
                | (go_at_call 23; refine (hac _).mono ?_; rintro e w5 ⟨rfl, s5⟩; have PZ := (PBlk.new w pv_zero).calm s5; have SZ := ((Calm.refl w).alloc (.cells #[.int .i64 0, .int .i64 0] 24)).trans s5; obtain ⟨z0, z1, z2, z3⟩ := PZ.cells pv_zero; have PA := PBlk.new w5 EA.out; have PZA := PZ.calm ((Calm.refl _).alloc (.cells #[.int .i64 al, .int .i64 ah] 24)); obtain ⟨y0, y1, y2, y3⟩ := PZA.cells pv_zero; have PZF := PZ.calm ((Calm.refl _).alloc (.cells #[.int .i64 al, .int .i64 0] 24)); obtain ⟨r0, r1, r2, r3⟩ := PZF.cells pv_zero))
              have QZ := PZA.set pv_zero
              obtain ⟨q0, q1, -, -⟩ := QZ.cells pv_zero
              refine bodyPost_ret (v := .tuple #[.agg #[.int .i64 0, .int .i64 0], .int .i64 0]) (by simp only [results, Try.results25]; simp [go_sem, q0, q1]) rfl ⟨rfl, ?_⟩
              exact ((SZ.alloc _).set2 (Nat.le_refl _) _ _)
            · have g1 : (rl == 1) = false := by rw [beq_eq_false_iff_ne]; exact g0
              clear t2
              go_wp2_with (first
                | (go_at_call 23; refine (hac _).mono ?_; rintro e w5 ⟨rfl, s5⟩; have PZ := (PBlk.new w pv_zero).calm s5; have SZ := ((Calm.refl w).alloc (.cells #[.int .i64 0, .int .i64 0] 24)).trans s5; obtain ⟨z0, z1, z2, z3⟩ := PZ.cells pv_zero; have PA := PBlk.new w5 EA.out; have PZA := PZ.calm ((Calm.refl _).alloc (.cells #[.int .i64 al, .int .i64 ah] 24)); obtain ⟨y0, y1, y2, y3⟩ := PZA.cells pv_zero; have PZF := PZ.calm ((Calm.refl _).alloc (.cells #[.int .i64 al, .int .i64 0] 24)); obtain ⟨r0, r1, r2, r3⟩ := PZF.cells pv_zero))
              have QZ := PZA.set pv_zero
              obtain ⟨q0, q1, -, -⟩ := QZ.cells pv_zero
              refine bodyPost_ret (v := .tuple #[.agg #[.int .i64 0, .int .i64 0], .int .i64 0]) (by simp only [results, Try.results25]; simp [go_sem, q0, q1]) rfl ⟨rfl, ?_⟩
              exact ((SZ.alloc _).set2 (Nat.le_refl _) _ _)
          · have hv := hVn (.inl rfl)
            subst hv t1
            have hk : (s.size : Int) ≤ ((at0 : Nat) : Int) := by omega
            clear HL2 hVn hVs
            go_wp2_with (first
              | (go_at_call 23; refine (hac _).mono ?_; rintro e w5 ⟨rfl, s5⟩; have PZ := (PBlk.new w pv_zero).calm s5; have SZ := ((Calm.refl w).alloc (.cells #[.int .i64 0, .int .i64 0] 24)).trans s5; obtain ⟨z0, z1, z2, z3⟩ := PZ.cells pv_zero; have PA := PBlk.new w5 EA.out; have PZA := PZ.calm ((Calm.refl _).alloc (.cells #[.int .i64 al, .int .i64 ah] 24)); obtain ⟨y0, y1, y2, y3⟩ := PZA.cells pv_zero; have PZF := PZ.calm ((Calm.refl _).alloc (.cells #[.int .i64 al, .int .i64 0] 24)); obtain ⟨r0, r1, r2, r3⟩ := PZF.cells pv_zero))
            have QZ := PZA.set pv_zero
            obtain ⟨q0, q1, -, -⟩ := QZ.cells pv_zero
            refine bodyPost_ret (v := .tuple #[.agg #[.int .i64 0, .int .i64 0], .int .i64 0]) (by simp only [results, Try.results25]; simp [go_sem, q0, q1]) rfl ⟨rfl, ?_⟩
            exact ((SZ.alloc _).set2 (Nat.le_refl _) _ _)
          · have hk : ¬ (s.size : Int) ≤ ((at0 : Nat) : Int) := by omega
            skip
            skip
            exfalso; omega
        · simp only [if_true, if_false, Bool.false_eq_true] at hVs
          subst at1
          have m3 : at0 < s.size := by omega
          have m4 := HS1.out m3
          subst m2
          have HL2 := HL.out
          rcases HT.out with ⟨t1, t2, t3, t4⟩ | ⟨_, t1, t2, t3, t5, t4⟩ | ⟨_, _, t1, t2⟩ | ⟨_, _, t1, t2, t3⟩ | ⟨t1, t2⟩ | ⟨_, t1, t2, t5, t4⟩
          · have hv := hVn (.inl rfl)
            subst hv t1 t2
            have hk : (s.size : Int) ≤ ((at0 : Nat) : Int) + 1 + 1 := by omega
            clear HL2 hVn hVs
            go_wp2_with (first
              | (go_at_call 23; refine (hac _).mono ?_; rintro e w5 ⟨rfl, s5⟩; have PZ := (PBlk.new w pv_zero).calm s5; have SZ := ((Calm.refl w).alloc (.cells #[.int .i64 0, .int .i64 0] 24)).trans s5; obtain ⟨z0, z1, z2, z3⟩ := PZ.cells pv_zero; have PA := PBlk.new w5 EA.out; have PZA := PZ.calm ((Calm.refl _).alloc (.cells #[.int .i64 al, .int .i64 ah] 24)); obtain ⟨y0, y1, y2, y3⟩ := PZA.cells pv_zero; have PZF := PZ.calm ((Calm.refl _).alloc (.cells #[.int .i64 al, .int .i64 0] 24)); obtain ⟨r0, r1, r2, r3⟩ := PZF.cells pv_zero))
            have QZ := PZA.set pv_zero
            obtain ⟨q0, q1, -, -⟩ := QZ.cells pv_zero
            refine bodyPost_ret (v := .tuple #[.agg #[.int .i64 0, .int .i64 0], .int .i64 0]) (by simp only [results, Try.results25]; simp [go_sem, q0, q1]) rfl ⟨rfl, ?_⟩
            exact ((SZ.alloc _).set2 (Nat.le_refl _) _ _)
          · have hk : ¬ (s.size : Int) ≤ ((at0 : Nat) : Int) + 1 + 1 := by omega
            subst t1 t2
            clear t3
            have HRA2 := HRA.out
            have hv := hVs t5 (by omega) (by rw [← HRA2, t4])
            subst hv
            clear HRA2 t4 hVn hVs HL2
            · skip
              go_wp2_with (first
                | (go_at_call 23; refine (hac _).mono ?_; rintro e w5 ⟨rfl, s5⟩; have PZ := (PBlk.new w pv_zero).calm s5; have SZ := ((Calm.refl w).alloc (.cells #[.int .i64 0, .int .i64 0] 24)).trans s5; obtain ⟨z0, z1, z2, z3⟩ := PZ.cells pv_zero; have PA := PBlk.new w5 EA.out; have PZA := PZ.calm ((Calm.refl _).alloc (.cells #[.int .i64 al, .int .i64 ah] 24)); obtain ⟨y0, y1, y2, y3⟩ := PZA.cells pv_zero; have PZF := PZ.calm ((Calm.refl _).alloc (.cells #[.int .i64 al, .int .i64 0] 24)); obtain ⟨r0, r1, r2, r3⟩ := PZF.cells pv_zero)
                | (go_at_call 35; refine (hng _).mono ?_; rintro e w6 ⟨rfl, s6⟩; have PA6 := PA.calm s6; have PZ6 := PZA.calm s6; have PG := PA6.set EG.out; have PZG := PZ6.other2 (c := w5.heap.size) (by have := PZ.lt; omega) (.int .i64 gl) (.int .i64 gh); obtain ⟨x0, x1, x2, x3⟩ := PA6.cells EA.out; obtain ⟨y0, y1, y2, y3⟩ := PZG.cells pv_zero; obtain ⟨v0, v1, v2, v3⟩ := PG.cells EG.out))
              have QZ := (PZG).set EG.out
              obtain ⟨q0, q1, -, -⟩ := QZ.cells EG.out
              refine bodyPost_ret (v := .tuple #[.agg #[.int .i64 gl, .int .i64 gh], .int .i64 2]) (by simp only [results, Try.results25]; simp [go_sem, q0, q1]) rfl ⟨rfl, ?_⟩
              exact ((((SZ.alloc _).trans s6).set2 (b := w5.heap.size) (by have := SZ.size; omega) _ _)).set2 (Nat.le_refl _) _ _
          · have hv := hVn (.inr t2)
            subst hv
            have g1 : (rl == 1) = false := by rw [beq_eq_false_iff_ne]; omega
            have g2 : 0 < rl := by omega
            clear HL2 hVn hVs
            go_wp2_with (first
              | (go_at_call 23; refine (hac _).mono ?_; rintro e w5 ⟨rfl, s5⟩; have PZ := (PBlk.new w pv_zero).calm s5; have SZ := ((Calm.refl w).alloc (.cells #[.int .i64 0, .int .i64 0] 24)).trans s5; obtain ⟨z0, z1, z2, z3⟩ := PZ.cells pv_zero; have PA := PBlk.new w5 EA.out; have PZA := PZ.calm ((Calm.refl _).alloc (.cells #[.int .i64 al, .int .i64 ah] 24)); obtain ⟨y0, y1, y2, y3⟩ := PZA.cells pv_zero; have PZF := PZ.calm ((Calm.refl _).alloc (.cells #[.int .i64 al, .int .i64 0] 24)); obtain ⟨r0, r1, r2, r3⟩ := PZF.cells pv_zero))
            have QZ := PZA.set pv_zero
            obtain ⟨q0, q1, -, -⟩ := QZ.cells pv_zero
            refine bodyPost_ret (v := .tuple #[.agg #[.int .i64 0, .int .i64 0], .int .i64 0]) (by simp only [results, Try.results25]; simp [go_sem, q0, q1]) rfl ⟨rfl, ?_⟩
            exact ((SZ.alloc _).set2 (Nat.le_refl _) _ _)
          · have hv := hVn (.inr t3)
            subst hv
            clear HL2 hVn hVs
            by_cases g0 : rl = 1
            · have g3 : (le == 46) = false := by rw [beq_eq_false_iff_ne]; exact t2 g0
              subst g0
              clear t2
              go_wp2_with (first
                | (go_at_call 23; refine (hac _).mono ?_; rintro e w5 ⟨rfl, s5⟩; have PZ := (PBlk.new w pv_zero).calm s5; have SZ := ((Calm.refl w).alloc (.cells #[.int .i64 0, .int .i64 0] 24)).trans s5; obtain ⟨z0, z1, z2, z3⟩ := PZ.cells pv_zero; have PA := PBlk.new w5 EA.out; have PZA := PZ.calm ((Calm.refl _).alloc (.cells #[.int .i64 al, .int .i64 ah] 24)); obtain ⟨y0, y1, y2, y3⟩ := PZA.cells pv_zero; have PZF := PZ.calm ((Calm.refl _).alloc (.cells #[.int .i64 al, .int .i64 0] 24)); obtain ⟨r0, r1, r2, r3⟩ := PZF.cells pv_zero))
              have QZ := PZA.set pv_zero
              obtain ⟨q0, q1, -, -⟩ := QZ.cells pv_zero
              refine bodyPost_ret (v := .tuple #[.agg #[.int .i64 0, .int .i64 0], .int .i64 0]) (by simp only [results, Try.results25]; simp [go_sem, q0, q1]) rfl ⟨rfl, ?_⟩
              exact ((SZ.alloc _).set2 (Nat.le_refl _) _ _)
            · have g1 : (rl == 1) = false := by rw [beq_eq_false_iff_ne]; exact g0
              clear t2
              go_wp2_with (first
                | (go_at_call 23; refine (hac _).mono ?_; rintro e w5 ⟨rfl, s5⟩; have PZ := (PBlk.new w pv_zero).calm s5; have SZ := ((Calm.refl w).alloc (.cells #[.int .i64 0, .int .i64 0] 24)).trans s5; obtain ⟨z0, z1, z2, z3⟩ := PZ.cells pv_zero; have PA := PBlk.new w5 EA.out; have PZA := PZ.calm ((Calm.refl _).alloc (.cells #[.int .i64 al, .int .i64 ah] 24)); obtain ⟨y0, y1, y2, y3⟩ := PZA.cells pv_zero; have PZF := PZ.calm ((Calm.refl _).alloc (.cells #[.int .i64 al, .int .i64 0] 24)); obtain ⟨r0, r1, r2, r3⟩ := PZF.cells pv_zero))
              have QZ := PZA.set pv_zero
              obtain ⟨q0, q1, -, -⟩ := QZ.cells pv_zero
              refine bodyPost_ret (v := .tuple #[.agg #[.int .i64 0, .int .i64 0], .int .i64 0]) (by simp only [results, Try.results25]; simp [go_sem, q0, q1]) rfl ⟨rfl, ?_⟩
              exact ((SZ.alloc _).set2 (Nat.le_refl _) _ _)
          · have hv := hVn (.inl rfl)
            subst hv t1
            have hk : (s.size : Int) ≤ ((at0 : Nat) : Int) + 1 := by omega
            clear HL2 hVn hVs
            go_wp2_with (first
              | (go_at_call 23; refine (hac _).mono ?_; rintro e w5 ⟨rfl, s5⟩; have PZ := (PBlk.new w pv_zero).calm s5; have SZ := ((Calm.refl w).alloc (.cells #[.int .i64 0, .int .i64 0] 24)).trans s5; obtain ⟨z0, z1, z2, z3⟩ := PZ.cells pv_zero; have PA := PBlk.new w5 EA.out; have PZA := PZ.calm ((Calm.refl _).alloc (.cells #[.int .i64 al, .int .i64 ah] 24)); obtain ⟨y0, y1, y2, y3⟩ := PZA.cells pv_zero; have PZF := PZ.calm ((Calm.refl _).alloc (.cells #[.int .i64 al, .int .i64 0] 24)); obtain ⟨r0, r1, r2, r3⟩ := PZF.cells pv_zero))
            have QZ := PZA.set pv_zero
            obtain ⟨q0, q1, -, -⟩ := QZ.cells pv_zero
            refine bodyPost_ret (v := .tuple #[.agg #[.int .i64 0, .int .i64 0], .int .i64 0]) (by simp only [results, Try.results25]; simp [go_sem, q0, q1]) rfl ⟨rfl, ?_⟩
            exact ((SZ.alloc _).set2 (Nat.le_refl _) _ _)
          · have hk : ¬ (s.size : Int) ≤ ((at0 : Nat) : Int) + 1 := by omega
            subst t1
            clear t2
            have HRA2 := HRA.out
            have hv := hVs t5 (by omega) (by rw [← HRA2, t4])
            subst hv
            clear HRA2 t4 hVn hVs HL2
            · skip
              have EF := Lib.hid (pv_low EG.out)
              go_wp2_with (first
                | (go_at_call 23; refine (hac _).mono ?_; rintro e w5 ⟨rfl, s5⟩; have PZ := (PBlk.new w pv_zero).calm s5; have SZ := ((Calm.refl w).alloc (.cells #[.int .i64 0, .int .i64 0] 24)).trans s5; obtain ⟨z0, z1, z2, z3⟩ := PZ.cells pv_zero; have PA := PBlk.new w5 EA.out; have PZA := PZ.calm ((Calm.refl _).alloc (.cells #[.int .i64 al, .int .i64 ah] 24)); obtain ⟨y0, y1, y2, y3⟩ := PZA.cells pv_zero; have PZF := PZ.calm ((Calm.refl _).alloc (.cells #[.int .i64 al, .int .i64 0] 24)); obtain ⟨r0, r1, r2, r3⟩ := PZF.cells pv_zero)
                | (go_at_call 35; refine (hng _).mono ?_; rintro e w6 ⟨rfl, s6⟩; have PA6 := PA.calm s6; have PZ6 := PZA.calm s6; have PG := PA6.set EG.out; have PZG := PZ6.other2 (c := w5.heap.size) (by have := PZ.lt; omega) (.int .i64 gl) (.int .i64 gh); obtain ⟨x0, x1, x2, x3⟩ := PA6.cells EA.out; obtain ⟨y0, y1, y2, y3⟩ := PZG.cells pv_zero; obtain ⟨v0, v1, v2, v3⟩ := PG.cells EG.out; have PF := PG.hi0 EG.out EF.out; have PZF := PZG.other (c := w5.heap.size) (by have := PZ.lt; omega) 1 (.int .i64 0); obtain ⟨o0, o1, o2, o3⟩ := PF.cells EF.out; obtain ⟨r0, r1, r2, r3⟩ := PZF.cells pv_zero))
              have QZ := PZF.set EF.out
              obtain ⟨q0, q1, -, -⟩ := QZ.cells EF.out
              refine bodyPost_ret (v := .tuple #[.agg #[.int .i64 gl, .int .i64 0], .int .i64 1]) (by simp only [results, Try.results25]; simp [go_sem, q0, q1]) rfl ⟨rfl, ?_⟩
              exact (((((SZ.alloc _).trans s6).set2 (b := w5.heap.size) (by have := SZ.size; omega) _ _).setCell (a := ⟨w5.heap.size, 1, none⟩) (by have := SZ.size; show _ ≤ w5.heap.size; omega) (.int .i64 0))).set2 (Nat.le_refl _) _ _
        · simp only [if_true, if_false, Bool.false_eq_true] at hVs
          subst at1
          have m3 : at0 < s.size := by omega
          have m4 := HS1.out m3
          have m5 : (e == 45) = false := by rw [beq_eq_false_iff_ne]; exact m2
          clear m2
          have HL2 := HL.out
          rcases HT.out with ⟨t1, t2, t3, t4⟩ | ⟨_, t1, t2, t3, t5, t4⟩ | ⟨_, _, t1, t2⟩ | ⟨_, _, t1, t2, t3⟩ | ⟨t1, t2⟩ | ⟨_, t1, t2, t5, t4⟩
          · have hv := hVn (.inl rfl)
            subst hv t1 t2
            have hk : (s.size : Int) ≤ ((at0 : Nat) : Int) + 1 := by omega
            clear HL2 hVn hVs
            go_wp2_with (first
              | (go_at_call 23; refine (hac _).mono ?_; rintro e w5 ⟨rfl, s5⟩; have PZ := (PBlk.new w pv_zero).calm s5; have SZ := ((Calm.refl w).alloc (.cells #[.int .i64 0, .int .i64 0] 24)).trans s5; obtain ⟨z0, z1, z2, z3⟩ := PZ.cells pv_zero; have PA := PBlk.new w5 EA.out; have PZA := PZ.calm ((Calm.refl _).alloc (.cells #[.int .i64 al, .int .i64 ah] 24)); obtain ⟨y0, y1, y2, y3⟩ := PZA.cells pv_zero; have PZF := PZ.calm ((Calm.refl _).alloc (.cells #[.int .i64 al, .int .i64 0] 24)); obtain ⟨r0, r1, r2, r3⟩ := PZF.cells pv_zero))
            have QZ := PZA.set pv_zero
            obtain ⟨q0, q1, -, -⟩ := QZ.cells pv_zero
            refine bodyPost_ret (v := .tuple #[.agg #[.int .i64 0, .int .i64 0], .int .i64 0]) (by simp only [results, Try.results25]; simp [go_sem, q0, q1]) rfl ⟨rfl, ?_⟩
            exact ((SZ.alloc _).set2 (Nat.le_refl _) _ _)
          · have hk : ¬ (s.size : Int) ≤ ((at0 : Nat) : Int) + 1 := by omega
            subst t1 t2
            clear t3
            have HRA2 := HRA.out
            have hv := hVs t5 (by omega) (by rw [← HRA2, t4])
            subst hv
            clear HRA2 t4 hVn hVs HL2
            · skip
              go_wp2_with (first
                | (go_at_call 23; refine (hac _).mono ?_; rintro e w5 ⟨rfl, s5⟩; have PZ := (PBlk.new w pv_zero).calm s5; have SZ := ((Calm.refl w).alloc (.cells #[.int .i64 0, .int .i64 0] 24)).trans s5; obtain ⟨z0, z1, z2, z3⟩ := PZ.cells pv_zero; have PA := PBlk.new w5 EA.out; have PZA := PZ.calm ((Calm.refl _).alloc (.cells #[.int .i64 al, .int .i64 ah] 24)); obtain ⟨y0, y1, y2, y3⟩ := PZA.cells pv_zero; have PZF := PZ.calm ((Calm.refl _).alloc (.cells #[.int .i64 al, .int .i64 0] 24)); obtain ⟨r0, r1, r2, r3⟩ := PZF.cells pv_zero))
              have QZ := (PZA).set EA.out
              obtain ⟨q0, q1, -, -⟩ := QZ.cells EA.out
              refine bodyPost_ret (v := .tuple #[.agg #[.int .i64 al, .int .i64 ah], .int .i64 2]) (by simp only [results, Try.results25]; simp [go_sem, q0, q1]) rfl ⟨rfl, ?_⟩
              exact ((SZ.alloc _)).set2 (Nat.le_refl _) _ _
          · have hv := hVn (.inr t2)
            subst hv
            have g1 : (rl == 1) = false := by rw [beq_eq_false_iff_ne]; omega
            have g2 : 0 < rl := by omega
            clear HL2 hVn hVs
            go_wp2_with (first
              | (go_at_call 23; refine (hac _).mono ?_; rintro e w5 ⟨rfl, s5⟩; have PZ := (PBlk.new w pv_zero).calm s5; have SZ := ((Calm.refl w).alloc (.cells #[.int .i64 0, .int .i64 0] 24)).trans s5; obtain ⟨z0, z1, z2, z3⟩ := PZ.cells pv_zero; have PA := PBlk.new w5 EA.out; have PZA := PZ.calm ((Calm.refl _).alloc (.cells #[.int .i64 al, .int .i64 ah] 24)); obtain ⟨y0, y1, y2, y3⟩ := PZA.cells pv_zero; have PZF := PZ.calm ((Calm.refl _).alloc (.cells #[.int .i64 al, .int .i64 0] 24)); obtain ⟨r0, r1, r2, r3⟩ := PZF.cells pv_zero))
            have QZ := PZA.set pv_zero
            obtain ⟨q0, q1, -, -⟩ := QZ.cells pv_zero
            refine bodyPost_ret (v := .tuple #[.agg #[.int .i64 0, .int .i64 0], .int .i64 0]) (by simp only [results, Try.results25]; simp [go_sem, q0, q1]) rfl ⟨rfl, ?_⟩
            exact ((SZ.alloc _).set2 (Nat.le_refl _) _ _)
          · have hv := hVn (.inr t3)
            subst hv
            clear HL2 hVn hVs
            by_cases g0 : rl = 1
            · have g3 : (le == 46) = false := by rw [beq_eq_false_iff_ne]; exact t2 g0
              subst g0
              clear t2
              go_wp2_with (first
                | (go_at_call 23; refine (hac _).mono ?_; rintro e w5 ⟨rfl, s5⟩; have PZ := (PBlk.new w pv_zero).calm s5; have SZ := ((Calm.refl w).alloc (.cells #[.int .i64 0, .int .i64 0] 24)).trans s5; obtain ⟨z0, z1, z2, z3⟩ := PZ.cells pv_zero; have PA := PBlk.new w5 EA.out; have PZA := PZ.calm ((Calm.refl _).alloc (.cells #[.int .i64 al, .int .i64 ah] 24)); obtain ⟨y0, y1, y2, y3⟩ := PZA.cells pv_zero; have PZF := PZ.calm ((Calm.refl _).alloc (.cells #[.int .i64 al, .int .i64 0] 24)); obtain ⟨r0, r1, r2, r3⟩ := PZF.cells pv_zero))
              have QZ := PZA.set pv_zero
              obtain ⟨q0, q1, -, -⟩ := QZ.cells pv_zero
              refine bodyPost_ret (v := .tuple #[.agg #[.int .i64 0, .int .i64 0], .int .i64 0]) (by simp only [results, Try.results25]; simp [go_sem, q0, q1]) rfl ⟨rfl, ?_⟩
              exact ((SZ.alloc _).set2 (Nat.le_refl _) _ _)
            · have g1 : (rl == 1) = false := by rw [beq_eq_false_iff_ne]; exact g0
              clear t2
              go_wp2_with (first
                | (go_at_call 23; refine (hac _).mono ?_; rintro e w5 ⟨rfl, s5⟩; have PZ := (PBlk.new w pv_zero).calm s5; have SZ := ((Calm.refl w).alloc (.cells #[.int .i64 0, .int .i64 0] 24)).trans s5; obtain ⟨z0, z1, z2, z3⟩ := PZ.cells pv_zero; have PA := PBlk.new w5 EA.out; have PZA := PZ.calm ((Calm.refl _).alloc (.cells #[.int .i64 al, .int .i64 ah] 24)); obtain ⟨y0, y1, y2, y3⟩ := PZA.cells pv_zero; have PZF := PZ.calm ((Calm.refl _).alloc (.cells #[.int .i64 al, .int .i64 0] 24)); obtain ⟨r0, r1, r2, r3⟩ := PZF.cells pv_zero))
              have QZ := PZA.set pv_zero
              obtain ⟨q0, q1, -, -⟩ := QZ.cells pv_zero
              refine bodyPost_ret (v := .tuple #[.agg #[.int .i64 0, .int .i64 0], .int .i64 0]) (by simp only [results, Try.results25]; simp [go_sem, q0, q1]) rfl ⟨rfl, ?_⟩
              exact ((SZ.alloc _).set2 (Nat.le_refl _) _ _)
          · exfalso; omega
          · have hk : ¬ (s.size : Int) ≤ ((at0 : Nat) : Int) := by omega
            subst t1
            clear t2
            have HRA2 := HRA.out
            have hv := hVs t5 (by omega) (by rw [← HRA2, t4])
            subst hv
            clear HRA2 t4 hVn hVs HL2
            · skip
              have EF := Lib.hid (pv_low EA.out)
              go_wp2_with (first
                | (go_at_call 23; refine (hac _).mono ?_; rintro e w5 ⟨rfl, s5⟩; have PZ := (PBlk.new w pv_zero).calm s5; have SZ := ((Calm.refl w).alloc (.cells #[.int .i64 0, .int .i64 0] 24)).trans s5; obtain ⟨z0, z1, z2, z3⟩ := PZ.cells pv_zero; have PA := PBlk.new w5 EA.out; have PZA := PZ.calm ((Calm.refl _).alloc (.cells #[.int .i64 al, .int .i64 ah] 24)); obtain ⟨y0, y1, y2, y3⟩ := PZA.cells pv_zero; have PZF := PZ.calm ((Calm.refl _).alloc (.cells #[.int .i64 al, .int .i64 0] 24)); obtain ⟨r0, r1, r2, r3⟩ := PZF.cells pv_zero))
              have QZ := PZF.set EF.out
              obtain ⟨q0, q1, -, -⟩ := QZ.cells EF.out
              refine bodyPost_ret (v := .tuple #[.agg #[.int .i64 al, .int .i64 0], .int .i64 1]) (by simp only [results, Try.results25]; simp [go_sem, q0, q1]) rfl ⟨rfl, ?_⟩
              exact ((SZ.alloc _)).set2 (Nat.le_refl _) _ _
end Go.Proofs.Ytfeeikhcdphcpaa
