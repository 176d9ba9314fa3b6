/- A definition as text: the document's. -/
import Derived.Test.YtglchagfclafgaaDoorArgsD
import Derived.Test.YtglchagfclafgaaDoorDigS
import Derived.Great.Walk
namespace Go.Proofs.YtglchagfclafgaaDoor
open Go Go.RowKit
set_option linter.unusedSimpArgs false
set_option linter.unusedVariables false

theorem dec_txt (u : Nat) : Lib.decDigits u = txt 10 u := by
  induction u using Nat.strongRecOn with
  | _ u ih =>
    by_cases h : u < 10
    · rw [Lib.decDigits_one h]
      unfold txt dgs
      rw [Nat.div_eq_of_lt h, ds_zero, Nat.mod_eq_of_lt h]
      simp [chu, h]
    · have e : txt 10 u = txt 10 (u / 10) ++ [chu (u % 10)] := by
        unfold txt
        rw [dgs, dgs_pos (by decide) (by omega : 0 < u / 10)]
        simp
      rw [Lib.decDigits, dif_neg h, ih (u / 10) (by omega), e]
      congr 1
      unfold chu
      rw [if_pos (by omega)]
theorem textL_dec (n : Nat) (h : n < 340282366920938463463374607431768211456) : textL (n : Int) 10 = Lib.decDigits n := by
  unfold textL
  rw [if_pos (by decide), dec_txt]
  have : (U (n : Int)).toNat = n := by unfold U; omega
  rw [this]
  rfl
theorem sign_itoa {n : Int} (h : I64 n) : signL n 10 = Lib.itoa n := by
  obtain ⟨h1, h2⟩ := h
  unfold signL
  rcases Int.lt_or_le n 0 with hn | hn
  · obtain ⟨u, rfl⟩ : ∃ u : Nat, n = -(u : Int) := ⟨n.natAbs, by omega⟩
    rw [if_pos ⟨hn, by decide⟩, Int.neg_neg, textL_dec u (by omega), Lib.itoa_neg u (by omega)]
  · obtain ⟨u, rfl⟩ : ∃ u : Nat, n = u := ⟨n.toNat, by omega⟩
    rw [if_neg (by omega), textL_dec u (by omega), Lib.itoa_nonneg]

/-- A text grows by one instruction. -/
theorem lst_append (a b : ByteArray) : lst (a ++ b) = lst a ++ lst b := by simp [lst]
theorem textB_one (x : In) : textB [x] = pieceB x := by
  apply lst_inj
  show (Lib.join [(pieceB x).data.toList] [32]) = _
  rw [Lib.join_one]
  rfl
theorem textB_more (l : List In) (x : In) (h : l ≠ []) : textB (l ++ [x]) = textB l ++ ⟨#[32]⟩ ++ pieceB x := by
  cases l with
  | nil => exact absurd rfl h
  | cons y r =>
    apply lst_inj
    rw [lst_append, lst_append]
    show Lib.join ((((y :: r) ++ [x]).map pieceB).map (·.data.toList)) [32] = Lib.join (((y :: r).map pieceB).map (·.data.toList)) [32] ++ [32] ++ (pieceB x).data.toList
    simp only [List.cons_append, List.map_cons, List.map_append, List.map_nil, Lib.join_cons, Lib.joinTail, List.flatten_append, List.flatten_cons, List.flatten_nil, List.append_nil, List.append_assoc]
theorem textB_len {l : List In} (h : ∀ x ∈ l, x.ok) (hn : l.length ≤ 1000) : (textB l).size ≤ 29000 := by
  have := join_le h
  show (Lib.join _ [32]).length ≤ _
  omega

theorem nameA_at {w : World} {o : Owner} {i b : Nat} (h : SR w o i b namesI) {p : Nat} (hp : p < 16) : w.cell? ⟨b, p, none⟩ = some (.string (nameA p)) := by
  rw [SR.at h (j := p) hp, nameA, Int.toNat_natCast, List.getD_eq_getElem?_getD, List.getElem?_eq_getElem (show p < namesI.length from hp)]
  rfl
theorem nameA_no {p : Nat} (h : 16 ≤ p) : w8 [63] = nameA p := by
  rw [nameA, Int.toNat_natCast, List.getD_eq_getElem?_getD, List.getElem?_eq_none (show namesI.length ≤ p from h)]
  rfl

/-- What stands ahead of the next instruction's text. -/
def preB (l : List In) (q : Nat) : ByteArray := if q = 0 then textB (l.take q) else textB (l.take q) ++ ⟨#[32]⟩
theorem preB_next {l : List In} {q : Nat} {x : In} (h : l[q]? = some x) : preB l q ++ nameA x.op ++ ⟨#[32]⟩ ++ itoaB (numA x) = textB (l.take (q + 1)) := by
  have e : l.take (q + 1) = l.take q ++ [x] := by rw [List.take_add_one, h]; rfl
  have hq := (List.getElem?_eq_some_iff.1 h).1
  rw [e]
  unfold preB
  split
  · next h0 =>
    subst h0
    rw [List.take_zero, List.nil_append, textB_one]
    apply lst_inj
    unfold pieceB
    simp only [lst_append]
    rfl
  · next h0 =>
    rw [textB_more _ _ (fun h1 => by have h2 := congrArg List.length h1; rw [List.length_take, List.length_nil] at h2; omega)]
    apply lst_inj
    unfold pieceB
    simp only [lst_append, List.append_assoc]

set_option maxRecDepth 100000 in
set_option maxHeartbeats 16000000 in
theorem rtext_ok' {w : World} {o : Owner} {k : Nat} {v : Value} {l : List In} (hl : Rd w o k 3 v l.length (icells l)) (hok : ∀ x ∈ l, x.ok) (hn : l.length ≤ 1000) :
    Calls Tryd.prog 16 #[.agg #[v]] w fun e w' => ∃ o', e = .returned (.string (textB l)) ∧ Step [] w o w' o' := by
  have s1 : Step [] w o (w.alloc (.cells #[v] 24)) (o.set w.heap.size 77) := ((Step.refl _ _ _).alloc _).give (Nat.le_refl _) _
  have hb := Blk.new w o 77 24 #[v]
  replace hl := hl.frame s1 (by simp)
  have s2 : Step [] (w.alloc (.cells #[v] 24)) (o.set w.heap.size 77) ((w.alloc (.cells #[v] 24)).alloc (.cells (namesI.map Value.string).toArray 9)) ((o.set w.heap.size 77).set (w.alloc (.cells #[v] 24)).heap.size 97) := ((Step.refl _ _ _).alloc _).give (Nat.le_refl _) _
  have hS : SR _ _ 97 _ namesI := Blk.new (w.alloc (.cells #[v] 24)) (o.set w.heap.size 77) 97 9 (namesI.map Value.string).toArray
  replace hb := hb.frame s2 (by simp)
  replace hl := hl.frame s2 (by simp)
  have st := s1.trans s2
  generalize (o.set w.heap.size 77).set (w.alloc (.cells #[v] 24)).heap.size 97 = o1 at st hb hl hS
  rw [World.size_alloc] at hS
  clear s1 s2
  obtain ⟨ao, cap, rfl, g1, g2, -, -⟩ := id hl
  unfold maxLen at g2
  obtain ⟨n, hnl⟩ : ∃ n, l.length = n := ⟨_, rfl⟩
  rw [hnl] at hl hn g1 hb st hS ⊢
  have HOK := Lib.hid hok
  have HNL := Lib.hid hnl
  clear hok hnl
  go_enter Tryd.func16, Tryd.ntmps16
  go_wp2_with (refine Great.wpList_buildSliceTo rfl 53 9 16 _ rfl _ rfl _ rfl Tryd.underlying53 (namesI.map Value.string).toArray (by kernel_rfl) ?_)
  have e0 : textB (l.take 0) = ⟨#[]⟩ := rfl
  go_loopg [4, 5] (n + 1) (fun gm a4 a5 wr => ∃ (q : Nat) (O : Owner), Hid (gm = n + 1 - q) ∧ q ≤ n ∧ a5 = .int .i64 (q : Int) ∧ a4 = .string (textB (l.take q)) ∧ Rd wr O k 3 (.slice ao n cap) n (icells l) ∧ SR wr O 97 (w.heap.size + 1) namesI ∧ Blk wr O 77 w.heap.size 24 #[.slice ao n cap] ∧ Step [] w o wr O)
  case atStart => exact ⟨0, o1, Lib.hid (by omega), by omega, rfl, rfl, hl, hS, hb, st⟩
  case round =>
    clear e0 hl hS hb st
    obtain ⟨q, O, HGM, hq, rfl, rfl, hl, hS, hb, st⟩ := hrel
    have cb := hb.cell0
    rcases Nat.lt_or_ge q n with hqn | hqn
    rotate_left
    · obtain rfl : q = n := by omega
      have e : textB (l.take q) = textB l := by rw [← HNL.out, List.take_length]
      rw [e]
      clear e
      go_wp2_with fail
      go_ret
      exact ⟨O, rfl, st⟩
    obtain ⟨x, hx⟩ : ∃ x, l[q]? = some x := ⟨_, List.getElem?_eq_getElem (by have := HNL.out; omega)⟩
    have hxo := HOK.out x (List.mem_of_getElem? hx)
    have hnx := preB_next hx
    rcases x with ⟨op, xa, xw⟩
    obtain ⟨p, hp⟩ := Int.eq_ofNat_of_zero_le hxo.1.1
    dsimp only at hp
    subst hp
    obtain ⟨b, off, rfl, hbl, hbo, hcell⟩ := hl.ins (by omega)
    obtain ⟨k0, k1, k2⟩ := hcell q _ hx
    dsimp only at k0 k1 k2
    have HX := Lib.hid hx
    have hqi : (q : Int) < n := by omega
    clear hcell hx
    have tn : Step [] wr O (wr.alloc (.cells #[.int .u8 p, .int .i64 xa, .int .i64 xw] 36)) (O.set wr.heap.size 78) := ((Step.refl _ _ _).alloc _).give (Nat.le_refl _) _
    have hbx := Blk.new wr O 78 36 #[.int .u8 p, .int .i64 xa, .int .i64 xw]
    go_upto_region 7 with (fail)
    replace hl := hl.frame tn (by simp)
    replace hS := Blk.frame hS tn (by simp)
    replace hb := hb.frame tn (by simp)
    have stn := st.trans tn
    clear k0 k1 k2 hbl hbo st tn cb
    generalize wr.alloc (.cells #[.int .u8 p, .int .i64 xa, .int .i64 xw] 36) = Wd at *
    generalize O.set wr.heap.size 78 = O at *
    generalize wr.heap.size = zx at *
    have y0 := hbx.cell 0
    have y1 := hbx.cell 1
    have y2 := hbx.cell 2
    simp only [List.getElem?_toArray, List.getElem?_cons_succ, List.getElem?_cons_zero] at y0 y1 y2
    have np : p < 16 → Wd.cell? ⟨w.heap.size + 1, p, none⟩ = some (.string (nameA p)) := fun h => nameA_at hS h
    have np2 : 16 ≤ p → w8 [63] = nameA p := nameA_no
    obtain ⟨nm, hnm⟩ : ∃ nm, nameA p = nm := ⟨_, rfl⟩
    rw [hnm] at np np2
    have HNM := Lib.hid hnm
    have HR := Lib.hid (And.intro hl (And.intro hS hb))
    have HXO := Lib.hid hxo
    have HNX := Lib.hid hnx
    have p255 : p ≤ 255 := by have := hxo.1.2; dsimp only at this; omega
    have wp : wrap64 (p : Int) = p := by unfold wrap64; omega
    clear hnm hl hS hb hbx hxo hnx
    go_upto_if 24 with (fail)
    go_cut [7] from 24 to 29 (fun c wx => c = .string nm ∧ wx = Wd)
    case first =>
      by_cases h16 : p < 16
      · have np' := np h16
        clear np np2
        go_wp2_with fail
        go_meet
        case rel => exact ⟨rfl, rfl⟩
      · have np' := Lib.hid (np2 (by omega))
        clear np np2
        go_wp2_with fail
        go_meet
        case rel => exact ⟨by rw [← np'.out]; rfl, rfl⟩
    case rest =>
      obtain ⟨rfl, hW⟩ := hcut
      obtain rfl : Wd = wc := hW.symm
      clear np np2
      go_upto_if 34 with (fail)
      go_cut [8] from 34 to 36 (fun c wx => c = .int .i64 (numA ⟨p, xa, xw⟩) ∧ wx = Wd)
      case first =>
        by_cases h1 : p = 1
        · subst h1
          go_wp2_with fail
          go_meet
          case rel => exact ⟨rfl, rfl⟩
        · have e1 : ((p : Int) == 1) = false := by rw [beq_eq_false_iff_ne]; omega
          have e2 : numA ⟨p, xa, xw⟩ = xa := by unfold numA; rw [if_neg (by show ¬ ((p : Int) = 1); omega)]
          have E2 := Lib.hid e2
          clear h1 e2
          go_wp2_with fail
          go_meet
          case rel => exact ⟨by rw [E2.out], rfl⟩
      case rest =>
        obtain ⟨rfl, hW⟩ := hcut
        obtain rfl : Wd = wc := hW.symm
        have tl : (textB (l.take q)).size ≤ 29000 := textB_len (fun y hy => HOK.out y (List.mem_of_mem_take hy)) (by rw [List.length_take]; omega)
        obtain ⟨T, hT⟩ : ∃ T, textB (l.take q) = T := ⟨_, rfl⟩
        rw [hT] at tl ⊢
        have HT := Lib.hid hT
        have z0 : ¬ 9223372036854775807 < T.size + 1 := by omega
        clear hT
        go_upto_if 38 with (fail)
        go_cut [4] from 38 to 40 (fun c wx => c = .string (preB l q) ∧ wx = Wd)
        case first =>
          by_cases hq0 : q = 0
          · subst hq0
            have e : T = preB l 0 := by rw [← HT.out]; rfl
            have E := Lib.hid e
            clear e
            go_wp2_with fail
            go_meet
            case rel => exact ⟨by rw [E.out], rfl⟩
          · have e : T ++ ⟨#[32]⟩ = preB l q := by rw [← HT.out, preB, if_neg hq0]
            have E := Lib.hid e
            have hq1 : 0 < q := by omega
            have hq2 : 0 < (q : Int) := by omega
            clear e hq0
            go_wp2_with fail
            go_meet
            case rel => exact ⟨by rw [E.out], rfl⟩
        case rest =>
          obtain ⟨rfl, hW⟩ := hcut
          obtain rfl : Wd = wc := hW.symm
          obtain ⟨P, hP⟩ : ∃ P, preB l q = P := ⟨_, rfl⟩
          have pl : P.size ≤ 29001 := by
            rw [← hP, preB]
            split
            · rw [HT.out]; omega
            · rw [HT.out, ByteArray.size_append]
              have : ByteArray.size ⟨#[32]⟩ = 1 := rfl
              omega
          obtain ⟨num, hnum⟩ : ∃ num, numA ⟨p, xa, xw⟩ = num := ⟨_, rfl⟩
          have hI : I64 num := by rw [← hnum]; exact numA_I64 HXO.out
          have hnx := HNX.out
          rw [hP, HNM.out, hnum] at hnx
          have HNX2 := Lib.hid hnx
          rw [hP, hnum]
          obtain ⟨hl, hS, hb⟩ := HR.out
          have hof := rof_ok num hI Wd
          have hsg := fun W => rsigned_ok num 10 (by unfold S128; obtain ⟨i1, i2⟩ := hI; omega) W
          rw [sign_itoa hI] at hsg
          obtain ⟨sg, hsgE⟩ : ∃ sg, itoaB num = sg := ⟨_, rfl⟩
          have hsg' : ∀ W, Calls Tryd.prog 26 #[pv num, .int .i64 10] W fun e w' => e = .returned (.string sg) ∧ Calm W w' := by rw [← hsgE]; exact hsg
          have z2 : sg.size ≤ 21 := by rw [← hsgE]; exact Lib.itoa_length_le _ hI.1 hI.2
          have z1 : nm.size ≤ 6 := by rw [← HNM.out]; exact nameA_len p
          have z3 : ¬ 9223372036854775807 < P.size + nm.size := by omega
          have z4 : ¬ 9223372036854775807 < P.size + nm.size + 1 := by omega
          have z5 : ¬ 9223372036854775807 < P.size + nm.size + 1 + sg.size := by omega
          obtain ⟨lo, hi, -, -, -, ep, -⟩ := pv_split num
          rw [ep] at hof hsg'
          have HSG := Lib.hid hsgE
          clear hnx hP pl hI hnum hsg hsgE z1 z2 ep y0 y1 y2 HNX HR tl z0
          go_wp2_with (first
            | (go_at_call 27; refine hof.mono ?_; rintro e w5 ⟨rfl, s5⟩)
            | (go_at_call 26; refine (hsg' _).mono ?_; rintro e w6 ⟨rfl, s6⟩))
          have ss := (s5 O).trans (s6 O)
          replace hl := hl.frame ss (by simp)
          replace hS := Blk.frame hS ss (by simp)
          replace hb := hb.frame ss (by simp)
          have st6 := stn.trans ss
          have hfin : P ++ nm ++ ⟨#[32]⟩ ++ sg = textB (l.take (q + 1)) := by rw [← HSG.out]; exact HNX2.out
          have HF := Lib.hid hfin
          clear hof hsg' z3 z4 z5 s5 s6 ss stn hfin
          go_roundg (n + 1 - (q + 1))
          case measure => rw [HGM.out]; omega
          case rel => exact ⟨q + 1, O, Lib.hid rfl, hqn, by go_num, by rw [HF.out], hl, hS, hb, st6⟩
end Go.Proofs.YtglchagfclafgaaDoor
