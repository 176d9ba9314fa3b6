/- The law InsJumps: for every input the call returns true, and each argument reads afterwards as it read before. No condition. -/
import Derived.Test.YtglchagfclafgaaDoorRows
import Derived.Test.YtglchagfclafgaaDoorTie
import Derived.Test.YtglchagfclafgaaDoorCards
import Derived.Test.YtglchagfclafgaaDoorJumpsW
import Derived.Test.YtglchagfclafgaaDoorArgsI
import Derived.Test.YtglchagfclafgaaDoorArgsV
import Derived.WalkKit
import Derived.ProofKit
import Derived.OpenShut
import Derived.ShutString
import Derived.ChangeOld
import Derived.Below
import Derived.LaidMore
import Derived.Lay
import Derived.SevenTiedAt
import Derived.Stop.Joined
import Derived.Shelf.Vars
import Derived.Deep.Grids
import Derived.Test.YtglchagfclafgaaDoorTabW
import Derived.Test.YtglchagfclafgaaDoorCalmA
namespace Go.Proofs.YtglchagfclafgaaDoor.insJumps
open Go.ChangeShapes Go.WideShapes Go.ChangeAt Go.RowKit
open Go.ChangeMaps (open_string shut_string)
set_option linter.unusedVariables false
set_option linter.unusedSimpArgs false

theorem own : ownKnob Tryd.prog.godebug = none := by kernel_rfl
theorem laidOut : laidOutB Tryd.prog = true := by kernel_rfl
theorem maxlen_some {W : World} (h : W.ShapedOpen Tryd.prog) : ∃ m, W.cell? ⟨1, 0, none⟩ = some (.int .i64 m) :=
  Go.Proofs.cell_of_shapedOpen_int (zero := #[.int .i64 0]) (t := 3) h (of_decide_eq_true (by kernel_rfl)) (by kernel_rfl) rfl (by kernel_rfl) (by kernel_rfl) Tryd.underlying3

/-! The walk. -/
theorem walk (a0 : Option Addr) (len0 cap0 : Nat) (z0 : List Int) (a1 : Option Addr) (len1 cap1 : Nat) (z1 : List Bool) (w : World) (w0 : IsRow .i8 w a0 len0 cap0 z0) (w1 : IsBools w a1 len1 cap1 z1) (hm : WL w Z0) :
    Calls Tryd.prog 8 #[.slice a0 len0 cap0, .slice a1 len1 cap1] w fun e w' => e = .returned (.bool true) ∧ Below w.heap.size w w' := by
  obtain ⟨xs, hxl, hxr, hxw⟩ := IsRow.rd w0
  exact jumps_walk hm ⟨hxl, hxr⟩ (fun x hx => wf_i8_of (hxw x hx)) (IsBools.rd w1)

set_option maxRecDepth 100000 in
theorem lifted (os : Os) (started : os.Started) (H : Type) (enc : TypeId × Value → H) :
    ReturnsInHanded {} Tryd.checked os 8 .any (fun w args => (Rows.insJumpsSpec.pre enc Tryd.prog Tryd.f8 Rows.insJumpsRow.domain false w args ∧ laidMetH Tryd.prog Rows.insJumpsRow.laid w) ∧ sizedMet enc Tryd.prog Tryd.f8 (OpenSpec.ofChange Rows.insJumpsSpec) false w args)
      (Rows.insJumpsSpec.post enc Tryd.prog Tryd.f8 false true false false) := by
  have contract : ∀ (W : World) (base : Nat) (args : Array Value) (ds gs : List (DataW H)) (before : List MemPlace),
      (∀ (j : Nat) t v, Tryd.f8.params[j]? = some t → args[j]? = some v → Value.okWide Tryd.prog W .any base t v) →
      DataW.Whole enc Tryd.prog Tryd.f8.params.toList Rows.insJumpsSpec.vars false W args.toList ds gs before → W.ShapedOpen Tryd.prog → laidMetH Tryd.prog Rows.insJumpsRow.laid W →
      Calls Tryd.prog 8 args W fun e W' => ∃ v, e = .returned v ∧ Rows.insJumpsSpec.post enc Tryd.prog Tryd.f8 false true false false W args v W' := by
    intro W base args ds gs before hval0 hW hsh hlaid
    have hm : WL W Z0 := ⟨maxlen_some hsh, rfl, tab_of hlaid, rfl⟩
    clear hlaid
    have hval : ∀ (j : Nat) t v, Tryd.f8.params[j]? = some t → args[j]? = some v → Value.okWide Tryd.prog W .any base t v := hval0
    have hW' := hW
    obtain ⟨p, q, hA0, hV, rfl, hfz, hnd⟩ := hW
    have hA : DataW.TrodAll enc Tryd.prog W 0 (fun _ => true) true Tryd.f8.params.toList args.toList ds p := hA0
    rw [Tryd.params8] at hA hval
    obtain ⟨s0, vs0, d0, ds0, p0, q0, hargs, rfl, rfl, h0, r0⟩ := trodAll_cons hA
    obtain ⟨s1, vs1, d1, ds1, p1, q1, rfl, rfl, rfl, h1, r1⟩ := trodAll_cons r0
    obtain ⟨rfl, rfl, rfl⟩ := trodAll_nil r1
    obtain rfl : args = #[s0, s1] := by cases args; simp_all
    obtain ⟨rfl, rfl⟩ := trodVars_none hV
    obtain ⟨a0, len0, cap0, rfl⟩ := okWide_slice Tryd.underlying39 (hval 0 39 s0 rfl rfl)
    have k0 := h0
    have lt0 : ∀ x ∈ p0, x.block < W.heap.size := by obtain ⟨m, hm⟩ := k0; exact DataW.trod_lt m _ _ _ hm
    obtain ⟨z0, w0⟩ : ∃ zs, IsRow .i8 W a0 len0 cap0 zs := by
      obtain ⟨fuel, hf⟩ := h0
      rcases open_ints Tryd.underlying39 Tryd.underlying41 (by kernel_rfl) hf with ⟨hcs, _⟩ | ⟨x, l, c, zs, hcs, _, hl, hm, hz, _, hcell, hwz⟩
      · simp [Value.cells] at hcs
        obtain ⟨rfl, rfl, rfl⟩ := hcs
        exact ⟨[], .inl ⟨rfl, rfl, rfl, rfl⟩⟩
      · simp [Value.cells] at hcs
        obtain ⟨rfl, rfl, rfl⟩ := hcs
        exact ⟨zs, .inr ⟨_, rfl, hl, hm, by simpa using hz, hcell, hwz⟩⟩
    obtain ⟨a1, len1, cap1, rfl⟩ := okWide_slice Tryd.underlying40 (hval 1 40 s1 rfl rfl)
    have k1 := h1
    have lt1 : ∀ x ∈ p1, x.block < W.heap.size := by obtain ⟨m, hm⟩ := k1; exact DataW.trod_lt m _ _ _ hm
    obtain ⟨z1, w1⟩ : ∃ zs, IsBools W a1 len1 cap1 zs := by
      obtain ⟨fuel, hf⟩ := h1
      rcases Deep.open_bools Tryd.underlying40 Tryd.underlying4 (by kernel_rfl) hf with ⟨hcs, _⟩ | ⟨x, l, c, B, hcs, _, hl, hm, _, hcell⟩
      · simp [Value.cells] at hcs
        obtain ⟨rfl, rfl, rfl⟩ := hcs
        exact ⟨[], .nil⟩
      · simp [Value.cells] at hcs
        obtain ⟨rfl, rfl, rfl⟩ := hcs
        exact ⟨_, .mk hl hm hcell⟩
    clear hA0 hval0
    refine (walk a0 len0 cap0 z0 a1 len1 cap1 z1 W w0 w1 hm).mono fun e W' ⟨he, bel⟩ => ?_
    subst he
    exact ⟨_, rfl, _, _, _, [], _, [], hW', trodAll_mk1 (shut_bool Tryd.underlying4 _), (trodAll_cons_mk (Below.trod laidOut (by kernel_rfl) (of_decide_eq_true (by kernel_rfl)) k0 bel lt0) (trodAll_cons_mk (Below.trod laidOut (by kernel_rfl) (of_decide_eq_true (by kernel_rfl)) k1 bel lt1) trodAll_mk0)), rfl, bel.frame _, fun h => by cases h⟩
  refine returnsInHanded_of_calls (C := Tryd.checked) own started (by kernel_rfl)
    (ChangeSpec.witness_shaped (enc := enc) (C := Tryd.checked) (os := os) (X := fun w _ => laidMetH Tryd.prog Rows.insJumpsRow.laid w) false (World.laidAll Tryd.prog os Rows.insJumpsRow.laid) #[.slice none 0 0, .slice none 0 0] 8 (World.laidAll_os _ _ _)
      (World.shaped_of_ZipB (by kernel_rfl) (by kernel_rfl)) (by kernel_rfl) (by kernel_rfl) (by kernel_rfl)
      (by rw [MakeChecks.laidMetH_plain _ _ _ (by kernel_rfl)]; exact laidMet_laidAll _ (by kernel_rfl) (by kernel_rfl))) ?_
  intro w tape i _ hsh _ hok hpre hholds
  obtain ⟨_, _, _, fn', hfn', _, _, _, _, hval⟩ := hok
  obtain rfl : fn' = Tryd.f8 := Option.some.inj (hfn'.symm.trans Tryd.func8)
  obtain ⟨⟨⟨ds, gs, before, hw, hc⟩, hx⟩, hz⟩ := hpre
  refine (contract (w.forCall tape i) w.heap.size i.args ds gs before hval (DataW.Whole.of_heap (w' := w.forCall tape i) (by rfl) hw) hsh (by rw [MakeChecks.laidMetH_plain _ _ _ (by kernel_rfl)] at hx ⊢; exact laidMet.of_heap (by rfl) hx)).mono fun e W' ⟨v, he, hp⟩ => ?_
  subst he
  exact ChangeSpec.post_blind hp

theorem over : Rows.insJumpsRow.holds Tryd.pinned (OpenSpec.ofChange Rows.insJumpsSpec) :=
  OpenClaim.holds_of_wide 8 Tryd.f8 rfl rfl rfl rfl rfl rfl rfl ⟨rfl, rfl, rfl, rfl, rfl⟩ rfl rfl rfl rfl rfl (by kernel_rfl) Tryd.func8 (by kernel_rfl)
    (of_decide_eq_true (by kernel_rfl)) (by unfold Func.isWrapper; first | (rw [if_pos (by decide +kernel)]; kernel_rfl) | (rw [if_neg (by decide +kernel)]; exact ⟨rfl, rfl⟩))
    (fun os started H enc _ => lifted os started H enc)

/-- THE STATEMENT -/
theorem proved : Rows.InsJumpsCardSaid :=
  Claim7.holds_tied_plain_at .later [] [.data, .data, .data, .data, .pinned] true _ false over (fun _ h => by cases h) (by kernel_rfl) (fun _ h => by cases h) insJumps_row_tie rfl ⟨rfl, rfl⟩ (by kernel_rfl) rfl
    (fun f fn hf hfn => by
      obtain rfl : f = 8 := Option.some.inj ((show Tryd.prog.funcNamed Rows.insJumpsRow.func = some 8 by kernel_rfl).symm.trans hf) |>.symm
      obtain rfl : fn = Tryd.f8 := (Option.some.inj (Tryd.func8.symm.trans hfn)).symm
      exact ⟨by kernel_rfl, fun j t ht => by
        rw [Tryd.params8] at ht
        have hm : t ∈ [39, 40] := by simpa using Array.mem_of_getElem? ht
        have hall : ([39, 40].all fun u => !Tryd.prog.wantsStandIn u) = true := by kernel_rfl
        exact (show Tryd.prog.wantsStandIn t = false by simpa using List.all_eq_true.1 hall t hm)⟩)
    (by kernel_rfl)
#print axioms proved
end Go.Proofs.YtglchagfclafgaaDoor.insJumps
