/- TransRows: the walk. -/
import Derived.Test.YtnfbldkejbgbiaaDoorSame17
import Derived.Laws.BitsLemmas
namespace Go.Proofs.YtnfbldkejbgbiaaDoor
open Go Go.RowKit Go.Shelf
set_option linter.unusedSimpArgs false
set_option linter.unusedVariables false

theorem and3 (n : Int) : bits .and .i64 n 3 = n % 4 := by
  have h3 : (BitVec.ofInt 64 3).toNat = 2 ^ 2 - 1 := by decide
  have key : (BitVec.ofInt 64 n &&& BitVec.ofInt 64 3).toNat = (n % ((2 ^ 64 : Nat) : Int)).toNat % 2 ^ 2 := by
    rw [BitVec.toNat_and, BitVec.toNat_ofInt, h3, Nat.and_two_pow_sub_one_eq_mod]
  show IntKind.i64.wrap ((BitVec.ofInt 64 n &&& BitVec.ofInt 64 3).toNat : Nat) = n % 4
  rw [key, IntKind.wrap_i64]
  omega

section
variable {P : Program}
/-- append under a guard that is on. -/
theorem wpList_app_w {ops : Array Oper} {rest : List Oper} {op : Oper} {a : Act} {Q : Exit → Act → World → Prop} {w : World} (hw : Region.wanted op (yielded ops a.tmps) = true) (s x : Operand) (t : TypeId)
    (ho : op.op = .call { callee := .builtin .append, args := #[s, x], argTypes := #[t, t] })
    {o : Owner} {i E size bytes : Nat} {v : Value} {n : Nat} {xs : List Value} {o2 : Owner} {k : Nat} {xv : Value} {m : Nat} {news : List Value} {z : Value}
    (ht : P.underlying t = some (.slice E)) (hinfo : (P.info? E).map (fun i => (i.zero, i.size, i.bytes)) = some (some z, size, bytes)) (hzs : z.cells.size = size)
    (hs : a.eval s = v) (hrow : Row w o i E size v n xs) (hx : a.eval x = xv) (hrd : Rd w o2 k size xv m news) (h1 : ∀ u ∈ news, u.oneCell' = true)
    (h63 : n + m ≤ 9223372036854775807) (hbytes : (n + m) * bytes ≤ 140737488355328)
    (h : ∀ v' w' o', Row w' o' i E size v' (n + m) (xs ++ news) → Step [i] w o w' o' → wpList P ops Q rest (a.put op.dst v') w') : wpList P ops Q (op :: rest) a w := by
  obtain ⟨v', w', o', hr, h2, h3⟩ := run_app (P := P) hrow hrd h1 t op.type ht hinfo hzs h63 hbytes
  show (if _ then _ else _)
  rw [if_pos hw]
  refine .inl ?_
  unfold Oper.wp execOp
  simp only [ho, resolve, invoke, builtin, Sem.run_bind, Sem.run_pure, Result.andThen_ok, List.map_toArray, List.map_cons, List.map_nil, hs, hx, hr]
  exact h v' w' o' h2 h3
end

theorem cellF_pos (x mode : Int) : 0 < (cellF x mode).length := by
  unfold cellF
  split
  · simp
  · split <;> simp

/-- A pair and its two cells, in each mode. -/
theorem rowsF (a b m : Int) (hm : 0 ≤ m ∧ m ≤ 3) : ∃ e la lb, planF 3 0 false a b m = (la ++ lb, e) ∧ planF 2 0 false a 0 m = (la, e) ∧ planF 2 0 false b 0 m = (lb, e) ∧ (e == 1) = (m == 0) ∧ la.length ≤ 2 ∧ lb.length ≤ 2 := by
  by_cases h : m < 1
  · refine ⟨1, [], [], ?_, ?_, ?_, ?_, by decide, by decide⟩
    · unfold planF; rw [if_pos (.inl h)]; rfl
    · unfold planF; rw [if_pos (.inl h)]
    · unfold planF; rw [if_pos (.inl h)]
    · obtain rfl : m = 0 := by omega
      rfl
  · refine ⟨0, cellF a m, cellF b m, ?_, ?_, ?_, ?_, cellF_length _ _, cellF_length _ _⟩
    · unfold planF; rw [if_neg (by omega), if_neg (by decide), if_neg (by decide), if_pos rfl]
    · unfold planF; rw [if_neg (by omega), if_neg (by decide), if_pos rfl]
    · unfold planF; rw [if_neg (by omega), if_neg (by decide), if_pos rfl]
    · have : (m == 0) = false := by rw [beq_eq_false_iff_ne]; omega
      rw [this]; rfl

theorem only1 : onlyAt 1 = false := by kernel_rfl
theorem lastF (k m : Int) (hm : 0 ≤ m ∧ m ≤ 3) : ∃ e l, planF k 1 false 0 0 m = (l, e) ∧ ((e = 0 ∧ 0 < l.length) ∨ (e ≠ 0 ∧ l.length = 0)) ∧ ((1 ≤ k ∧ k ≤ 4) ∨ m = 0 ∨ e = -13) := by
  unfold planF
  by_cases h : m < 1 ∨ 3 < m
  · rw [if_pos h]
    exact ⟨1, [], rfl, .inr ⟨by decide, rfl⟩, .inr (.inl (by omega))⟩
  rw [if_neg h]
  by_cases k1 : k = 1
  · subst k1
    rw [if_pos rfl]
    unfold nameF
    rw [only1]
    by_cases m1 : m = 1
    · rw [if_pos m1]; exact ⟨0, _, rfl, .inl ⟨rfl, by simp⟩, .inl (by decide)⟩
    · rw [if_neg m1]
      by_cases m2 : m = 2
      · rw [if_pos m2]; exact ⟨0, _, rfl, .inl ⟨rfl, by simp⟩, .inl (by decide)⟩
      · rw [if_neg m2]; exact ⟨0, _, rfl, .inl ⟨rfl, by simp⟩, .inl (by decide)⟩
  rw [if_neg k1]
  by_cases k2 : k = 2
  · subst k2
    rw [if_pos rfl]
    exact ⟨0, _, rfl, .inl ⟨rfl, cellF_pos _ _⟩, .inl (by decide)⟩
  rw [if_neg k2]
  by_cases k3 : k = 3
  · subst k3
    rw [if_pos rfl]
    exact ⟨0, _, rfl, .inl ⟨rfl, by rw [List.length_append]; have := cellF_pos 0 m; omega⟩, .inl (by decide)⟩
  rw [if_neg k3]
  by_cases k4 : k = 4
  · subst k4
    rw [if_pos rfl]
    by_cases m1 : m = 1
    · rw [if_pos m1]; exact ⟨-14, [], rfl, .inr ⟨by decide, rfl⟩, .inl (by decide)⟩
    · rw [if_neg m1]
      by_cases m3 : m = 3
      · rw [if_pos m3]; exact ⟨-48, [], rfl, .inr ⟨by decide, rfl⟩, .inl (by decide)⟩
      · rw [if_neg m3]; exact ⟨0, _, rfl, .inl ⟨rfl, by simp⟩, .inl (by decide)⟩
  rw [if_neg k4]
  exact ⟨-13, [], rfl, .inr ⟨by decide, rfl⟩, .inr (.inr rfl)⟩

set_option maxRecDepth 100000 in
set_option maxHeartbeats 8000000 in
theorem rows17_walk (a0 a1 a2 a3 : Int) {w : World} (hm0 : ∃ m, w.cell? ⟨0, 0, none⟩ = some (.int .i64 m)) :
    Calls Tryd.prog 8 #[.int .i64 a0, .int .i64 a1, .int .i64 a2, .int .i64 a3] w fun e w' => e = .returned (.bool true) ∧ Below w.heap.size w w' := by
  have hm : ML w (fun _ => 0) := ⟨hm0, rfl⟩
  have hsh := shown17_ok hm
  obtain ⟨m, hmm⟩ : ∃ m, a2 % 4 = m := ⟨_, rfl⟩
  have hm03 : 0 ≤ m ∧ m ≤ 3 := by omega
  have hand : bits .and .i64 a2 3 = m := by rw [and3, hmm]
  obtain ⟨e, la, lb, f1, f2, f3, f4, f5, f6⟩ := rowsF a0 a1 m hm03
  have F1 := Lib.hid f1
  have F2 := Lib.hid f2
  have F3 := Lib.hid f3
  have F4 := Lib.hid f4
  clear hm0 hmm f1 f2 f3 f4
  go_enter Tryd.func8, Tryd.ntmps8
  go_wp2_with fail
  refine hsh.mono ?_
  rintro e' w1 ⟨rfl, o1, s1⟩
  have hm1 := hm.frame s1 (by simp)
  have hp1 := plan_ok hm1 20 3 0 false a0 a1 m
  rw [F1.out] at hp1
  clear hsh
  go_wp2_with fail
  refine hp1.mono ?_
  rintro e' w2 ⟨v2, o2, rfl, hr2, s2⟩
  obtain ⟨aa2, cc2, rfl⟩ := hr2.slice'
  have hm2 := hm1.frame s2 (by simp)
  have hp2 := plan_ok hm2 21 2 0 false a0 0 m
  rw [F2.out] at hp2
  have S2 := s1.trans s2
  clear hp1 hm hm1 s1 s2
  go_wp2_with fail
  refine hp2.mono ?_
  rintro e' w3 ⟨v3, o3, rfl, hr3, s3⟩
  obtain ⟨aa3, cc3, rfl⟩ := hr3.slice'
  have hm3 := hm2.frame s3 (by simp)
  have hp3 := plan_ok hm3 22 2 0 false a1 0 m
  rw [F3.out] at hp3
  have hr23 := hr2.frame s3 (by simp)
  have S3 := S2.trans s3
  clear hp2 hm2 s3 S2 hr2
  go_wp2_with fail
  refine hp3.mono ?_
  rintro e' w4 ⟨v4, o4, rfl, hr4, s4⟩
  obtain ⟨aa4, cc4, rfl⟩ := hr4.slice'
  have hm4 := hm3.frame s4 (by simp)
  have hr24 := hr23.frame s4 (by simp)
  have hr34 := hr3.frame s4 (by simp)
  have S4 := S3.trans s4
  clear hp3 hm3 s4 S3 hr23 hr3
  have f4 := F4.out
  have fe : (e != e) = false := by simp
  have hN : ∀ cs, Row (w4.alloc (.cells cs 42)) o4 30 42 5 (.slice (some ⟨w4.heap.size, 0, none⟩) 0 0) 0 [] := fun cs => Row.nil _ _ _ _ _ _
  have hr34' : ∀ cs, Rd (w4.alloc (.cells cs 42)) o4 21 5 (.slice aa3 la.length cc3) la.length (tcells la) := fun cs => (hr34.frame ((Step.refl [] w4 o4).alloc _) (by simp)).rd
  go_wp2_with (at_builtin; refine wpList_app_w (by kernel_rfl) (.tmp 62) (.tmp 63) 26 rfl Tryd.underlying26 infoT rfl rfl (hN _) rfl (hr34' _) (tcells_onecell _) (by omega) (by omega) ?_)
  intro v6 w6 o6 hr6 s6
  obtain ⟨aa6, cc6, rfl⟩ := hr6.slice'
  have s46 : Step [30] w4 o4 w6 o6 := ((Step.refl [] w4 o4).alloc _).nil.trans s6
  have hm6 := hm4.frame s46 (by simp)
  have hr26 := hr24.frame s46 (by simp)
  have hr46 := (hr4.frame s46 (by simp)).rd
  have S6 := (S4.nil (S := [30])).trans s46
  clear hN hr34' hm4 hr24 hr34 hr4 s6 s46 S4
  go_wp2_with (at_builtin; refine wpList_app_w (by kernel_rfl) (.tmp 64) (.tmp 65) 26 rfl Tryd.underlying26 infoT rfl rfl hr6 rfl hr46 (tcells_onecell _) (by omega) (by omega) ?_)
  intro v7 w7 o7 hr7 s7
  obtain ⟨aa7, cc7, rfl⟩ := hr7.slice'
  have hm7 := hm6.frame s7 (by simp)
  have hr27 := (hr26.frame s7 (by simp)).rd
  rw [← tcells_app] at hr7
  have S7 := S6.trans s7
  obtain ⟨T, hT⟩ : ∃ T, la ++ lb = T := ⟨_, rfl⟩
  have hTl : T.length = la.length + lb.length := by rw [← hT, List.length_append]
  obtain ⟨N, hN⟩ : ∃ N, la.length + lb.length = N := ⟨_, rfl⟩
  rw [hT] at hr27 hr7
  rw [hTl, hN] at hr27
  rw [hN] at hr7
  have hsa := same_ok hr27 hr7.rd
  have HN := Lib.hid hN
  clear hm6 hr26 hr46 hr6 s7 S6 hT hTl hr27 hr7 hN
  go_wp2_with fail
  rw [HN.out]
  refine hsa.mono ?_
  rintro e' w8 ⟨rfl, s8⟩
  have hm8 := hm7.frame s8 (by simp)
  obtain ⟨e2, l2, g1, g2, g3⟩ := lastF a3 m hm03
  have hp9 := plan_ok hm8 23 a3 1 false 0 0 m
  rw [g1] at hp9
  have S8 := S7.trans s8.nil
  have G3 := Lib.hid g3
  have HAND := Lib.hid hand
  clear hsa hm7 s8 S7 g1 g3 f4 fe
  go_wp2_with fail
  refine hp9.mono ?_
  rintro e' w9 ⟨v9, o9, rfl, hr9, s9⟩
  obtain ⟨aa9, cc9, rfl⟩ := hr9.slice'
  obtain ⟨L, hL⟩ : ∃ L, l2.length = L := ⟨_, rfl⟩
  rw [hL] at g2 ⊢
  have S9 := S8.trans s9.nil
  clear hp9 hm8 hr9 s9 S8 hL
  have hk : (1 ≤ a3 ∧ a3 ≤ 4) ∨ ((¬ 1 ≤ a3 ∨ (1 ≤ a3 ∧ ¬ a3 ≤ 4)) ∧ ((m == 0) = true ∨ ((m == 0) = false ∧ (e2 == -13) = true))) := by
    by_cases h : 1 ≤ a3 ∧ a3 ≤ 4
    · exact .inl h
    · refine .inr ⟨by omega, ?_⟩
      by_cases hz : m = 0
      · exact .inl (by simp [hz])
      · refine .inr ⟨by simp [hz], ?_⟩
        rcases G3.out with h1 | h1 | h1
        · exact absurd h1 h
        · exact absurd h1 hz
        · simp [h1]
  have hzz : ((e2 == 0) = true ∧ 0 < (L : Int)) ∨ ((e2 == 0) = false ∧ ¬ 0 < (L : Int)) := by
    rcases g2 with ⟨z1, z2⟩ | ⟨z1, z2⟩
    · exact .inl ⟨by simp [z1], by omega⟩
    · exact .inr ⟨by simp [z1], by omega⟩
  clear g2
  rcases hzz with ⟨z1, z2⟩ | ⟨z1, z2⟩
  all_goals
    rcases hk with ⟨k1, k2⟩ | ⟨k1 | ⟨k1, k2⟩, k3 | ⟨k3, k4⟩⟩
    all_goals
      go_wp2_with fail
      go_ret
      exact ⟨rfl, ((Base.start w).step S9 (by decide)).below⟩
end Go.Proofs.YtnfbldkejbgbiaaDoor
