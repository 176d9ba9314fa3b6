/- The document's frames: Cut, Index, the place of the locals, Local. -/
import Derived.Test.YtegcpjheglcbcaaRfA
namespace Go.Proofs.Ytegcpjheglcbcaa
open Go Go.RowKit Go.Shelf
set_option linter.unusedSimpArgs false
set_option linter.unusedVariables false

theorem RT.key {w : World} {o : Owner} {i b : Nat} {fl : List (Fr × List Int × Nat)} (h : RT w o i b fl) :
    ∃ ao cap g, w.cell? ⟨b, 0, none⟩ = some (.slice ao fl.length cap) ∧ (0 < fl.length → ao = some ⟨g, 0, none⟩) ∧ fl.length ≤ cap ∧ cap ≤ 9223372036854775807 ∧
      (∀ x (hx : x < fl.length) r u, r < 6 → fl[x].1.cells[r]? = some u → w.cell? ⟨g, x * 6 + r, none⟩ = some u) := by
  obtain ⟨h0, ⟨v, hb, hr⟩, hL⟩ := h
  have hc := hb.cell0
  by_cases hz : 0 < fl.length
  · obtain ⟨g, cap, rfl, hx⟩ := hr.rowx hz
    have h1 := hx.le
    have h2 := hx.capl
    unfold maxLen at h2
    refine ⟨_, cap, g, hc, fun _ => rfl, h1, by omega, fun x hxl r u hr6 hu => ?_⟩
    have := frs_get (fl.map Prod.fst) x r (by simpa using hxl) hr6
    exact hx.cell (this.trans (by simpa using hu))
  · obtain ⟨ao, cap, rfl, h1, h2⟩ := hr.slice
    exact ⟨ao, cap, 0, hc, fun h => absurd h hz, h1, h2, fun x h => by omega⟩

/-- Frames are taken off: what lies there, and what will. -/
theorem RT.cut {w : World} {o : Owner} {i b : Nat} {fl : List (Fr × List Int × Nat)} (h : RT w o i b fl) :
    ∃ ao cap, w.cell? ⟨b, 0, none⟩ = some (.slice ao fl.length cap) ∧ fl.length ≤ cap ∧ cap ≤ 9223372036854775807 ∧ w.frozen? ⟨b, 0, none⟩ = false ∧
      ∀ m, m ≤ fl.length → RT (w.setCell ⟨b, 0, none⟩ (.slice ao m cap)) o i b (fl.take m) ∧ Step [i] w o (w.setCell ⟨b, 0, none⟩ (.slice ao m cap)) o := by
  obtain ⟨h0, ⟨v, hb, hr⟩, hL⟩ := h
  obtain ⟨ao, cap, rfl, h1, h2⟩ := hr.slice
  refine ⟨ao, cap, hb.cell0, h1, h2, hb.frozen 0, fun m hm => ?_⟩
  have hr1 := hr.cut (k := m) (by omega)
  rw [frs_take (fl.map Prod.fst) m (by simpa using hm)] at hr1
  have hlen : (fl.take m).length = m := by simp; omega
  refine ⟨⟨by omega, ⟨_, hb.set 0 _, ?_⟩, fun p hp => ?_⟩, (Step.refl _ _ _).setCell (fun _ => by simp [hb.own]) _⟩
  · rw [hlen, List.map_take]
    exact hr1.setOther hb (by decide) 0 _
  · obtain ⟨q1, q2, q3, q4, q5⟩ := hL p (List.mem_of_mem_take hp)
    exact ⟨q1, q2, q3, q4, q5.setOther hb (by decide) 0 _⟩

theorem rcut_ok {w : World} {o : Owner} {i b : Nat} {fl : List (Fr × List Int × Nat)} (hs : RT w o i b fl) (n : Int) :
    Calls Try.prog 27 #[.pointer (some ⟨b, 0, none⟩), .int .i64 n] w fun e w' => e = .returned (.tuple #[]) ∧ RT w' o i b (fl.take n.toNat) ∧ Step [i] w o w' o := by
  have h0 := hs.1
  go_enter Try.func27, Try.ntmps27
  go_wp2_with fail
  go_loopg [] fl.length (fun gk wr => ∃ k : Nat, gk = k ∧ k ≤ fl.length ∧ Hid (k = fl.length ∨ n ≤ k) ∧ RT wr o i b (fl.take k) ∧ Step [i] w o wr o)
  case atStart => exact ⟨_, rfl, Nat.le_refl _, Lib.hid (.inl rfl), by rw [List.take_length]; exact hs, Step.refl _ _ _⟩
  case round =>
    obtain ⟨k, hgk, hk, HK, hs1, st1⟩ := hrel
    have HGK := Lib.hid hgk
    clear hgk
    have hlen : (fl.take k).length = k := by simp; omega
    obtain ⟨ao, cap, hc, h1, h2, hf, hset⟩ := hs1.cut
    rw [hlen] at hc h1 hset
    clear hlen hs
    by_cases hz : 0 < k
    · by_cases hlt : n < k
      · obtain ⟨hN, hS⟩ := hset (k - 1) (by omega)
        rw [List.take_take, Nat.min_eq_left (by omega)] at hN
        have sd : Step [] (wr.setCell ⟨b, 0, none⟩ (.slice ao (k - 1) cap)) o (wr.setCell ⟨b, 0, none⟩ (.slice ao (k - 1) cap)).drew o := (Step.refl _ _ _).drew
        replace hN := hN.frame0 sd
        replace hS := (st1.trans hS).trans sd.nil
        obtain ⟨q, hq⟩ : ∃ q, k - 1 = q := ⟨_, rfl⟩
        rw [hq] at hN hS sd
        have hqe : (k : Int) - 1 = q := by omega
        have hqc : (q : Int) ≤ cap := by omega
        have hzi : (0 : Int) < k := by omega
        have HQ := Lib.hid hq
        clear hset hz hq sd
        go_wp2_with fail
        go_region
        go_wp2_with fail
        go_roundg q
        case measure => rw [HGK.out]; have := HQ.out; omega
        case rel => exact ⟨_, rfl, by have := HQ.out; omega, Lib.hid (.inr (by have := HQ.out; omega)), hN, hS⟩
      · have hzi : (0 : Int) < k := by omega
        clear hset
        go_wp2_with fail
        simp [bodyPost, results, Try.results27, go_sem]
        have e : fl.take k = fl.take n.toNat := by
          rcases HK.out with h | h
          · rw [h, List.take_length, List.take_of_length_le (by omega)]
          · rw [show k = n.toNat by omega]
        exact ⟨by rw [← e]; exact hs1, st1⟩
    · obtain rfl : k = 0 := by omega
      clear hset hz
      go_wp2_with fail
      simp [bodyPost, results, Try.results27, go_sem]
      have e : fl.take 0 = fl.take n.toNat := by
        rcases HK.out with h | h
        · have : fl = [] := List.eq_nil_of_length_eq_zero h.symm
          rw [this]; simp
        · rw [show n.toNat = 0 by omega]
      exact ⟨by rw [← e]; exact hs1, st1⟩

/-- The place of the locals: below m. -/
def locI (kf : Nat → Int) : Nat → Int
  | 0 => -1
  | m + 1 => if kf m = 4 then m else if kf m = 1 then -1 else locI kf m

theorem rlocals_ok {w : World} {o : Owner} {i b : Nat} {fl : List (Fr × List Int × Nat)} (hs : RT w o i b fl) :
    Calls Try.prog 42 #[.pointer (some ⟨b, 0, none⟩)] w fun e w' => e = .returned (.int .i64 (locI (kfs (fl.map Prod.fst)) fl.length)) ∧ w = w' := by
  have h0 := hs.1
  obtain ⟨ao, cap, g, hc, hg, h1, h2, hcell⟩ := hs.key
  have hk : ∀ x, x < fl.length → w.cell? ⟨g, x * 6, none⟩ = some (.int .i64 (kfs (fl.map Prod.fst) x)) := fun x hx => by
    have := hcell x hx 0 _ (by omega) rfl
    rw [Nat.add_zero] at this
    rw [this]
    simp [kfs, hx]
  generalize kfs (fl.map Prod.fst) = kf at hk ⊢
  obtain ⟨n, hn⟩ : ∃ n, fl.length = n := ⟨_, rfl⟩
  rw [hn] at h0 hc hg h1 hk ⊢
  clear hs hcell hn
  go_enter Try.func42, Try.ntmps42
  go_wp2_with fail
  go_loopg [3] n (fun gm a wr => ∃ m : Nat, gm = m ∧ m ≤ n ∧ a = .int .i64 ((m : Int) - 1) ∧ Hid (locI kf n = locI kf m) ∧ w = wr)
  case atStart => exact ⟨_, rfl, Nat.le_refl _, rfl, Lib.hid rfl, rfl⟩
  case round =>
    obtain ⟨m, hgm, hm, rfl, HK, rfl⟩ := hrel
    have HGM := Lib.hid hgm
    clear hgm
    cases m with
    | zero =>
      have e : (((0 : Nat) : Int) - 1) = -1 := rfl
      rw [e]
      go_wp2_with fail
      go_ret
      exact ⟨by rw [HK.out]; rfl, rfl⟩
    | succ m =>
      have e : (((m + 1 : Nat) : Int) - 1) = m := by omega
      rw [e]
      have hcm := hk m (by omega)
      obtain rfl := hg (by omega)
      obtain ⟨km, hkm⟩ : ∃ km, kf m = km := ⟨_, rfl⟩
      rw [hkm] at hcm
      have HK2 := Lib.hid hkm
      have hmi : (m : Int) < n := by omega
      have hm0 : (0 : Int) ≤ m := by omega
      clear hk hkm e
      by_cases h4 : km = 4
      · subst h4
        go_wp2_with fail
        go_ret
        have hres : locI kf n = m := by rw [HK.out, locI, HK2.out, if_pos rfl]
        exact ⟨by rw [hres]; rfl, rfl⟩
      · have h4b : (km == 4) = false := by simpa using h4
        by_cases h1' : km = 1
        · subst h1'
          go_wp2_with fail
          go_ret
          have hres : locI kf n = -1 := by rw [HK.out, locI, HK2.out, if_neg (by decide), if_pos rfl]
          exact ⟨by rw [hres]; rfl, rfl⟩
        · have h1b : (km == 1) = false := by simpa using h1'
          have HN := Lib.hid (And.intro h4 h1')
          clear h4 h1'
          go_wp2_with fail
          go_roundg m
          case measure => rw [HGM.out]; omega
          case rel => exact ⟨_, rfl, by omega, by go_num, Lib.hid (by rw [HK.out, locI, HK2.out, if_neg HN.out.1, if_neg HN.out.2]), rfl⟩
theorem locI_at (kf : Nat → Int) (p m : Nat) (hp : p < m) (hL : isL (kf p)) (hh : ∀ q, p < q → q < m → ¬ isL (kf q)) : locI kf m = if kf p = 4 then (p : Int) else -1 := by
  induction m with
  | zero => omega
  | succ m ih =>
    rw [locI]
    by_cases hpm : p = m
    · subst hpm
      rcases hL with h | h
      · rw [if_pos h, if_pos h]
      · rw [if_neg (by rw [h]; decide), if_pos h, if_neg (by rw [h]; decide)]
    · have h1 := hh m (by omega) (by omega)
      rw [if_neg (fun h => h1 (.inl h)), if_neg (fun h => h1 (.inr h))]
      exact ih (by omega) (fun q h2 h3 => hh q h2 (by omega))
theorem locI_none (kf : Nat → Int) (m : Nat) (hh : ∀ q, q < m → ¬ isL (kf q)) : locI kf m = -1 := by
  induction m with
  | zero => rfl
  | succ m ih =>
    have h1 := hh m (by omega)
    rw [locI, if_neg (fun h => h1 (.inl h)), if_neg (fun h => h1 (.inr h))]
    exact ih (fun q h2 => hh q (by omega))

theorem kfs_mid {lo hi : List (Fr × List Int × Nat)} {t : Fr × List Int × Nat} {fl : List (Fr × List Int × Nat)} (h : fl = lo ++ t :: hi) : kfs (fl.map Prod.fst) lo.length = t.1.k ∧ ∀ q, lo.length < q → q < fl.length → ∃ p ∈ hi, kfs (fl.map Prod.fst) q = p.1.k := by
  subst h
  refine ⟨by simp [kfs], fun q h1 h2 => ?_⟩
  obtain ⟨d, rfl⟩ : ∃ d, q = lo.length + (d + 1) := ⟨q - lo.length - 1, by omega⟩
  have hd : d < hi.length := by simp at h2; omega
  exact ⟨hi[d], List.getElem_mem hd, by simp [kfs, List.getElem?_append_right, hd]⟩

theorem rloc_some {fl lo hi : List (Fr × List Int × Nat)} {t : Fr × List Int × Nat} (hfl : fl = lo ++ t :: hi) (hL : isL t.1.k) (hh : ∀ p ∈ hi, ¬ isL p.1.k) : locI (kfs (fl.map Prod.fst)) fl.length = if t.1.k = 4 then (lo.length : Int) else -1 := by
  obtain ⟨h1, h2⟩ := kfs_mid hfl
  rw [locI_at (kfs (fl.map Prod.fst)) lo.length fl.length (by rw [hfl]; simp) (by rw [h1]; exact hL) (fun q h3 h4 => by obtain ⟨p, hp, e⟩ := h2 q h3 h4; rw [e]; exact hh p hp), h1]
theorem rloc_none {fl : List (Fr × List Int × Nat)} (hh : ∀ p ∈ fl, ¬ isL p.1.k) : locI (kfs (fl.map Prod.fst)) fl.length = -1 :=
  locI_none _ _ fun q hq => by
    have : kfs (fl.map Prod.fst) q = fl[q].1.k := by simp [kfs, hq]
    rw [this]
    exact hh _ (List.getElem_mem hq)

theorem rlocal_none {w : World} {o : Owner} {i b : Nat} {fl : List (Fr × List Int × Nat)} (hs : RT w o i b fl) (hh : locI (kfs (fl.map Prod.fst)) fl.length = -1) (n : Int) :
    Calls Try.prog 36 #[.pointer (some ⟨b, 0, none⟩), .int .i64 n] w fun e w' => e = .returned (.tuple #[.int .i64 0, .int .i64 (-6)]) ∧ w = w' := by
  have hl := rlocals_ok hs
  rw [hh] at hl
  clear hh hs
  go_enter Try.func36, Try.ntmps36
  go_wp2_with (go_at_call 42; refine hl.mono ?_; rintro e w' ⟨rfl, rfl⟩)
  go_ret2
  exact ⟨rfl, rfl⟩

theorem rlocal_t {w : World} {o : Owner} {i b : Nat} {fl lo hi : List (Fr × List Int × Nat)} {t : Fr × List Int × Nat} (hs : RT w o i b fl) (hfl : fl = lo ++ t :: hi) (hL : t.1.k = 4) (hh : ∀ p ∈ hi, ¬ isL p.1.k) (n : Int) :
    Calls Try.prog 36 #[.pointer (some ⟨b, 0, none⟩), .int .i64 n] w fun e w' => w = w' ∧ ((∃ h : 0 ≤ n ∧ n < t.2.1.length, e = .returned (.tuple #[.int .i64 (t.2.1[n.toNat]'(by omega)), .int .i64 0])) ∨ (¬ (0 ≤ n ∧ n < t.2.1.length) ∧ e = .returned (.tuple #[.int .i64 0, .int .i64 (-6)]))) := by
  have hl := rlocals_ok hs
  rw [rloc_some hfl (.inl hL) hh, if_pos hL] at hl
  have hlen := hs.1
  have hrt := (hs.2.2 t (by rw [hfl]; simp)).2.2.2.2
  have hll := (hs.2.2 t (by rw [hfl]; simp)).1
  obtain ⟨ao, cap, g, hc, hg, hle, hcap, hcell⟩ := hs.key
  have hA : lo.length < fl.length := by rw [hfl]; simp
  have hget : fl[lo.length] = t := by simp [hfl]
  obtain rfl := hg (by omega)
  obtain ⟨k, l, j⟩ := t
  obtain ⟨kk, ka, kc, kx, ky, lv⟩ := k
  dsimp only at hL hrt hll ⊢
  obtain ⟨al, cl, rfl, _, _⟩ := hrt.slice
  have q5 : w.cell? ⟨g, lo.length * 6 + 5, none⟩ = some (.slice al l.length cl) := hcell lo.length hA 5 _ (by omega) (by rw [hget]; rfl)
  obtain ⟨A, hAe⟩ : ∃ A, lo.length = A := ⟨_, rfl⟩
  obtain ⟨N, hN⟩ : ∃ N, fl.length = N := ⟨_, rfl⟩
  rw [hAe] at hl q5 hA
  rw [hN] at hc hle hA hlen
  have hAi : (A : Int) < N := by omega
  have hA0 : ¬ (A : Int) < 0 := by omega
  clear hcell hget hfl hh hs hL hg hAe hN
  by_cases hn : 0 ≤ n ∧ n < l.length
  · obtain ⟨g', cap', hlv', hc', _⟩ := Row.elem' (p := n.toNat) hrt (by omega)
    simp only [Value.slice.injEq, true_and] at hlv'
    obtain ⟨rfl, rfl⟩ := hlv'
    have HN := Lib.hid hn
    obtain ⟨n, rfl⟩ := Int.eq_ofNat_of_zero_le hn.1
    have hn2 : (n : Int) < l.length := hn.2
    have hn0 : ¬ (n : Int) < 0 := by omega
    have hnl : ¬ (l.length : Int) ≤ n := by omega
    simp only [Int.toNat_natCast] at hc'
    have hnlt : n < l.length := by omega
    obtain ⟨ln, hln⟩ : ∃ ln, l[n]'hnlt = ln := ⟨_, rfl⟩
    rw [hln] at hc'
    have HLN := Lib.hid hln
    clear hrt hn hln
    go_enter Try.func36, Try.ntmps36
    go_wp2_with (go_at_call 42; refine hl.mono ?_; rintro e w' ⟨rfl, rfl⟩)
    go_ret2
    refine ⟨rfl, .inl ⟨HN.out, ?_⟩⟩
    simp [HLN.out]
  · have HN := Lib.hid hn
    have hor : n < 0 ∨ (l.length : Int) ≤ n := by omega
    clear hrt hn
    rcases hor with h | h
    · go_enter Try.func36, Try.ntmps36
      go_wp2_with (go_at_call 42; refine hl.mono ?_; rintro e w' ⟨rfl, rfl⟩)
      go_ret2
      exact ⟨rfl, .inr ⟨HN.out, rfl⟩⟩
    · have h2 : ¬ n < 0 := by omega
      go_enter Try.func36, Try.ntmps36
      go_wp2_with (go_at_call 42; refine hl.mono ?_; rintro e w' ⟨rfl, rfl⟩)
      go_ret2
      exact ⟨rfl, .inr ⟨HN.out, rfl⟩⟩

end Go.Proofs.Ytegcpjheglcbcaa
