/- Definitions as text: the names, a number as text, Text of the program. -/
import Derived.Test.YtglchagfclafgaaDoorInsE
import Derived.Lib.SplitLaws
import Derived.Lib.ItoaLen
import Derived.Deep.CutRange
import Derived.KernelRfl
namespace Go.Proofs.YtglchagfclafgaaDoor
open Go Go.RowKit
set_option linter.unusedSimpArgs false
set_option linter.unusedVariables false

def w8 (l : List UInt8) : ByteArray := ⟨l.toArray⟩
/-- The bytes of a text. -/
def lst (s : ByteArray) : List UInt8 := s.data.toList
theorem lst_inj {a b : ByteArray} (h : lst a = lst b) : a = b := by
  cases a; cases b
  simp only [lst] at h
  congr 1
  exact Array.ext' h
theorem map_lst_inj : ∀ {a b : List ByteArray}, a.map lst = b.map lst → a = b
  | [], [], _ => rfl
  | [], _ :: _, h => by cases h
  | _ :: _, [], h => by cases h
  | x :: a, y :: b, h => by
    simp only [List.map_cons, List.cons.injEq] at h
    rw [lst_inj h.1, map_lst_inj h.2]

/-- The names of what an instruction does. -/
def namesI : List ByteArray := [w8 [63], w8 [108, 105, 116], w8 [99, 97, 108, 108], w8 [106, 117, 109, 112], w8 [122, 101, 114, 111], w8 [100, 111], w8 [113, 100, 111], w8 [108, 111, 111, 112], w8 [112, 108, 117, 115], w8 [108, 101, 97, 118, 101], w8 [111, 102], w8 [100, 114, 111, 112], w8 [108, 111, 99, 97, 108, 115], w8 [108, 111, 99, 97, 108], w8 [116, 111], w8 [101, 120, 105, 116]]

/-- What the library reads: MaxLen is some number, the powers of ten lie as they were laid; both are nobody's. -/
structure WL (w : World) (o : Owner) : Prop where
  cell : ∃ m, w.cell? ⟨1, 0, none⟩ = some (.int .i64 m)
  own : o 1 = 0
  tab : Lib.TabIs Tryd.prog w "internal/strconv.uint64pow10" .u64 Lib.pow10Tab
  town : o 0 = 0
theorem tabG : Tryd.prog.globalNamed "internal/strconv.uint64pow10" = some 0 := by kernel_rfl

theorem WL.frame {S : List Nat} {w w' : World} {o o' : Owner} (h : WL w o) (st : Step S w o w' o') (hi : 0 ∉ S) : WL w' o' := by
  obtain ⟨m, hm⟩ := h.cell
  have hb : 1 < w.heap.size := World.block_lt_of_cell? w _ hm
  have hb0 : 0 < w.heap.size := by omega
  refine ⟨⟨m, (st.cell (a := ⟨1, 0, none⟩) hb (by show o 1 ∉ S; rw [h.own]; exact hi)).trans hm⟩, (st.own _ hb).trans h.own, ?_, (st.own _ hb0).trans h.town⟩
  have ht := h.tab
  unfold Lib.TabIs World.var? at ht ⊢
  rw [tabG] at ht ⊢
  simp only [Option.bind_some] at ht ⊢
  rw [st.blk 0 hb0 (by rw [h.town]; exact hi)]
  exact ht

/-- A row of texts, whole in block b. -/
abbrev SR (w : World) (o : Owner) (i b : Nat) (l : List ByteArray) : Prop := Blk w o i b 9 (l.map Value.string).toArray
theorem SR.at {w : World} {o : Owner} {i b : Nat} {l : List ByteArray} (h : SR w o i b l) {j : Nat} (hj : j < l.length) : w.cell? ⟨b, j, none⟩ = some (.string l[j]) := by
  rw [Blk.cell h]
  simp [hj]

theorem split_of (s : ByteArray) (l : List ByteArray) (n : Nat) (hl : Lib.splitK [32] 0 (Lib.countB s ⟨#[32]⟩) (lst s) = l.map lst) (hn : Lib.countB s ⟨#[32]⟩ + 1 = n) (hs : s.size < 4294967281) {w : World} {o : Owner} (hm : WL w o) (i : Nat) :
    Calls Tryd.prog 23 #[.string s, .string ⟨#[32]⟩] w fun e w' => ∃ b o', e = .returned (.slice (some ⟨b, 0, none⟩) n n) ∧ SR w' o' i b l ∧ Step [] w o w' o' := by
  obtain ⟨m, hm⟩ := hm.cell
  have h := Tryd.strings_Split s ⟨#[32]⟩ m w hs hm (by decide)
  have e : Lib.splitB ⟨#[32]⟩ 0 (Lib.countB s ⟨#[32]⟩) s = l := map_lst_inj ((Lib.splitB_data _ 0 _ s).trans hl)
  rw [e, hn] at h
  refine h.mono ?_
  rintro e w' ⟨rfl, rfl⟩
  exact ⟨_, o.set w.heap.size i, rfl, Blk.new w o i _ _, ((Step.refl [] w o).alloc _).give (Nat.le_refl _) _⟩

def itoaB (n : Int) : ByteArray := ⟨(Lib.itoa n).toArray⟩
theorem fmt_ok {w : World} {o : Owner} (h : WL w o) {n : Int} (hn : I64 n) :
    Calls Tryd.prog 24 #[.int .i64 n, .int .i64 10] w fun e w' => e = .returned (.string (itoaB n)) ∧ Step [] w o w' o := by
  refine (Tryd.strconv_FormatInt_10 n hn.1 hn.2 w h.tab).mono ?_
  rintro e w' ⟨rfl, k, os, rfl⟩
  refine ⟨rfl, ⟨rfl, rfl, rfl, ?_, fun _ _ => rfl, fun b hb _ => ?_⟩⟩
  · rw [Go.Sort.size_grow]
    exact Nat.le_add_right _ _
  · exact Go.Sort.heap_grow_old _ _ hb

/-- An instruction as text. -/
def nameA (op : Int) : ByteArray := namesI.getD op.toNat (w8 [63])
def numA (x : In) : Int := if x.op = 1 then x.w else x.a
def pieceB (x : In) : ByteArray := nameA x.op ++ ⟨#[32]⟩ ++ itoaB (numA x)
def textB (l : List In) : ByteArray := ⟨(Lib.join ((l.map pieceB).map (·.data.toList)) [32]).toArray⟩
theorem infoStr : (Tryd.prog.info? 9).map (fun i => (i.zero, i.size, i.bytes)) = some (some (.string ⟨#[]⟩), 1, 16) := by kernel_rfl

theorem Rd.at0 {w : World} {o : Owner} {i n cap b off : Nat} {l : List In} (h : Rd w o i 3 (.slice (some ⟨b, off, none⟩) n cap) n (icells l)) (hn : 0 < n) : b < w.heap.size ∧ o b = i ∧ ∀ q x, l[q]? = some x → w.cell? ⟨b, off + q * 3, none⟩ = some (.int .u8 x.op) ∧ w.cell? ⟨b, off + q * 3 + 1, none⟩ = some (.int .i64 x.a) ∧ w.cell? ⟨b, off + q * 3 + 2, none⟩ = some (.int .i64 x.w) := by
  obtain ⟨b', off', he, h1, h2, h3⟩ := h.ins hn
  simp only [Option.some.injEq, Addr.mk.injEq, and_true] at he
  obtain ⟨rfl, rfl⟩ := he
  exact ⟨h1, h2, h3⟩

theorem nameA_len (op : Int) : (nameA op).size ≤ 6 := by
  unfold nameA
  rw [List.getD_eq_getElem?_getD]
  rcases h : namesI[op.toNat]? with _ | s
  · decide
  · have hm := List.mem_of_getElem? h
    have hall : namesI.all (fun s => decide (s.size ≤ 6)) = true := by decide
    simpa using List.all_eq_true.1 hall s hm
theorem numA_I64 {x : In} (h : x.ok) : I64 (numA x) := by
  unfold numA
  split
  · exact h.2.2
  · exact h.2.1
theorem pieceB_len {x : In} (h : x.ok) : (pieceB x).data.toList.length ≤ 28 := by
  have h1 := nameA_len x.op
  have h2 := Lib.itoa_length_le _ (numA_I64 h).1 (numA_I64 h).2
  have e : (pieceB x).size = (nameA x.op).size + 1 + (itoaB (numA x)).size := by
    unfold pieceB
    rw [ByteArray.size_append, ByteArray.size_append]
    rfl
  have e2 : (itoaB (numA x)).size = (Lib.itoa (numA x)).length := rfl
  show (pieceB x).data.toList.length ≤ 28
  have e3 : (pieceB x).data.toList.length = (pieceB x).size := rfl
  omega
theorem lens_le : ∀ {l : List In}, (∀ x ∈ l, x.ok) → Lib.lens ((l.map pieceB).map (·.data.toList)) ≤ 28 * l.length
  | [], _ => by simp [Lib.lens]
  | x :: r, h => by
    have h1 := pieceB_len (h x (by simp))
    have h2 := lens_le (l := r) (fun y hy => h y (by simp [hy]))
    unfold Lib.lens at *
    simp only [List.map_cons, List.sum_cons, List.length_cons]
    omega
theorem join_le {l : List In} (h : ∀ x ∈ l, x.ok) : (Lib.join ((l.map pieceB).map (·.data.toList)) [32]).length ≤ 29 * l.length := by
  cases l with
  | nil => simp [Lib.join_nil]
  | cons x r =>
    have h1 := lens_le h
    rw [List.map_cons, List.map_cons] at h1 ⊢
    rw [Lib.join_length]
    simp only [List.length_map, List.length_cons, List.length_singleton, List.length_nil] at *
    omega

theorem fmt_piece (x : In) : pieceB x = nameA x.op ++ ⟨#[32]⟩ ++ itoaB (numA x) := rfl

theorem join_ok {w : World} {o : Owner} {l : List In} (hok : ∀ x ∈ l, x.ok) {i : Nat} {a : Option Addr} {n c : Nat} (hn : l.length = n) (hn2 : n ≤ 1000) (h : Row w o i 9 1 (.slice a n c) n ((l.map pieceB).map Value.string)) :
    Calls Tryd.prog 25 #[.slice a n c, .string ⟨#[32]⟩] w fun e w' => e = .returned (.string (textB l)) ∧ Step [] w o w' o := by
  subst hn
  rcases l with _ | ⟨x, r⟩
  · refine (Tryd.strings_Join_none a c ⟨#[32]⟩ w).mono ?_
    rintro e w' ⟨rfl, rfl⟩
    exact ⟨rfl, Step.refl _ _ _⟩
  · obtain ⟨g, cap, hv, hx⟩ := h.rowx (by simp)
    simp only [Value.slice.injEq, true_and] at hv
    obtain ⟨rfl, rfl⟩ := hv
    have hlt : g < w.heap.size := by obtain ⟨cur, h1, _⟩ := hx.cells; exact (Array.getElem?_eq_some_iff.1 h1).1
    have hj := join_le hok
    have hJ := Tryd.strings_Join g 0 c ((x :: r).map pieceB) ⟨#[32]⟩ w (fun j y hy => by
      rw [Nat.zero_add]
      exact hx.cell (by rw [List.getElem?_map, hy]; rfl)) hlt (by rw [List.length_map]; omega) (by rw [List.length_map]; exact hx.le) (by
      show (Lib.join _ [32]).length ≤ _
      omega)
    rw [List.length_map] at hJ
    refine hJ.mono ?_
    rintro e w' ⟨rfl, hb⟩
    exact ⟨rfl, ⟨hb.os, hb.tape, hb.output, hb.size, fun _ _ => rfl, fun b hb' _ => hb.block b hb'⟩⟩

set_option maxRecDepth 100000 in
set_option maxHeartbeats 16000000 in
theorem text_ok {w : World} {o : Owner} {k : Nat} {v : Value} {l : List In} (hl : Rd w o k 3 v l.length (icells l)) (hok : ∀ x ∈ l, x.ok) (hn : l.length ≤ 1000) (hk : k ≠ 77 ∧ k ≠ 96 ∧ k ≠ 97) (hwl : WL w o) :
    Calls Tryd.prog 15 #[.agg #[v]] w fun e w' => ∃ o', e = .returned (.string (textB l)) ∧ Step [96] w o w' o' := by
  have s1 : Step [] w o (w.alloc (.cells #[v] 24)) (o.set w.heap.size 77) := ((Step.refl _ _ _).alloc _).give (Nat.le_refl _) _
  have hb := Blk.new w o 77 24 #[v]
  replace hl := hl.frame s1 (by simp)
  have hwl1 := hwl.frame s1 (by simp)
  generalize o.set w.heap.size 77 = o1 at s1 hb hl hwl1
  obtain ⟨ao, cap, rfl, g1, g2, -, -⟩ := id hl
  unfold maxLen at g2
  obtain ⟨n, hnl⟩ : ∃ n, l.length = n := ⟨_, rfl⟩
  rw [hnl] at hl hn g1 hb s1 hwl1 ⊢
  have HOK := Lib.hid hok
  have HNL := Lib.hid hnl
  clear hok hnl hwl
  go_enter Tryd.func15, Tryd.ntmps15
  go_wp2_with (go_at_call 23; refine (split_of _ namesI 16 (by kernel_rfl) (by kernel_rfl) (by decide) hwl1 97).mono ?_; rintro e w2 ⟨gS, o2, rfl, hS2, s2⟩; have hb2 := hb.frame s2 (by simp); have cb2 := hb2.cell0)
  have hl2 := hl.frame s2 (by simp)
  have hwl2 := hwl1.frame s2 (by simp)
  have st2 : Step [96] w o w2 o2 := s1.nil.trans s2.nil
  clear hb hl hwl1 hb2 cb2 s1 s2
  go_loopg [4, 13] (n + 1) (fun gm a4 a13 wr => ∃ (q : Nat) (O : Owner), Hid (gm = n + 1 - q) ∧ q ≤ n ∧ a13 = .int .i64 (q : Int) ∧ Row wr O 96 9 1 a4 q (((l.take q).map pieceB).map Value.string) ∧ Rd wr O k 3 (.slice ao n cap) n (icells l) ∧ SR wr O 97 gS namesI ∧ WL wr O ∧ Step [96] w o wr O)
  case atStart => exact ⟨0, o2, Lib.hid (by omega), by omega, rfl, by simpa using Row.nil _ _ _ _ _ none, hl2, hS2, hwl2, st2⟩
  case round =>
    obtain ⟨q, O, HGM, hq, rfl, hT, hl, hS, hwl, st⟩ := hrel
    clear hl2 hS2 hwl2 st2
    obtain ⟨aT, cT, rfl, -, -⟩ := hT.slice
    rcases Nat.lt_or_ge q n with hqn | hqn
    rotate_left
    · obtain rfl : q = n := by omega
      have hjn := join_ok (o := O) HOK.out HNL.out hn (by rw [← HNL.out, List.take_length, HNL.out] at hT; exact hT)
      clear hT
      go_wp2_with fail
      refine hjn.mono ?_
      rintro e w5 ⟨rfl, s5⟩
      go_wp2_with fail
      go_ret
      exact ⟨O, rfl, st.trans s5.nil⟩
    obtain ⟨x, hx⟩ : ∃ x, l[q]? = some x := ⟨_, List.getElem?_eq_getElem (by have := HNL.out; omega)⟩
    have hxo := HOK.out x (List.mem_of_getElem? hx)
    have hpx := fmt_piece x
    rcases x with ⟨op, xa, xw⟩
    obtain ⟨p, hp⟩ := Int.eq_ofNat_of_zero_le hxo.1.1
    dsimp only at hp
    subst hp
    obtain ⟨b, off, rfl, hbl, hbo, hcell⟩ := hl.ins (by omega)
    obtain ⟨k0, k1, k2⟩ := hcell q _ hx
    dsimp only at k0 k1 k2
    have HX := Lib.hid hx
    have hqi : (q : Int) < n := by omega
    clear hcell hx
    have tn : Step [] wr O (wr.alloc (.cells #[.int .u8 p, .int .i64 xa, .int .i64 xw] 36)) (O.set wr.heap.size 77) := ((Step.refl _ _ _).alloc _).give (Nat.le_refl _) _
    have hbx := Blk.new wr O 77 36 #[.int .u8 p, .int .i64 xa, .int .i64 xw]
    go_upto_region 6 with (fail)
    replace hl := hl.frame tn (by simp)
    replace hT := hT.frame tn (by simp)
    replace hS := Blk.frame hS tn (by simp)
    replace hwl := hwl.frame tn (by simp)
    have stn := st.trans tn.nil
    clear k0 k1 k2 hbl hbo st tn
    generalize wr.alloc (.cells #[.int .u8 p, .int .i64 xa, .int .i64 xw] 36) = Wn at *
    generalize O.set wr.heap.size 77 = O at *
    generalize wr.heap.size = zx at *
    have y0 := hbx.cell 0
    have y1 := hbx.cell 1
    have y2 := hbx.cell 2
    simp only [List.getElem?_toArray, List.getElem?_cons_succ, List.getElem?_cons_zero] at y0 y1 y2
    have n0 : Wn.cell? ⟨gS, 0, none⟩ = some (.string (w8 [63])) := SR.at hS (j := 0) (by decide)
    go_region
    have sd : Step [] Wn O Wn.drew O := (Step.refl _ _ _).drew
    replace hl := hl.frame sd (by simp)
    replace hT := hT.frame sd (by simp)
    replace hS := Blk.frame hS sd (by simp)
    replace hwl := hwl.frame sd (by simp)
    replace hbx := hbx.frame sd (by simp)
    replace stn := stn.trans sd.nil
    clear y0 y1 y2 n0 sd
    generalize Wn.drew = Wd at *
    have y0 := hbx.cell 0
    have y1 := hbx.cell 1
    have y2 := hbx.cell 2
    simp only [List.getElem?_toArray, List.getElem?_cons_succ, List.getElem?_cons_zero] at y0 y1 y2
    have np : p < 16 → Wd.cell? ⟨gS, p, none⟩ = some (.string (nameA p)) := fun h => by
      rw [SR.at hS (j := p) h, nameA, Int.toNat_natCast, List.getD_eq_getElem?_getD, List.getElem?_eq_getElem (show p < namesI.length from h)]
      rfl
    have np2 : 16 ≤ p → w8 [63] = nameA p := fun h => by
      rw [nameA, Int.toNat_natCast, List.getD_eq_getElem?_getD, List.getElem?_eq_none (show namesI.length ≤ p from h)]
      rfl
    have hfm := fmt_ok hwl (numA_I64 hxo)
    obtain ⟨nm, hnm⟩ : ∃ nm, nameA p = nm := ⟨_, rfl⟩
    rw [hnm] at np np2
    have HNM := Lib.hid hnm
    have HR := Lib.hid (And.intro hl (And.intro hT hS))
    have HXO := Lib.hid hxo
    have HPX := Lib.hid hpx
    have p255 : p ≤ 255 := by have := hxo.1.2; dsimp only at this; omega
    have wp : wrap64 (p : Int) = p := by unfold wrap64; omega
    clear hnm hl hT hS hbx hxo hpx
    go_upto_if 27 with (fail)
    go_cut [7] from 27 to 32 (fun c wx => c = .string nm ∧ wx = Wd)
    case first =>
      by_cases h16 : p < 16
      · have np' := np h16
        clear np np2
        go_wp2_with fail
        go_meet
        case rel => exact ⟨rfl, rfl⟩
      · have np' := Lib.hid (np2 (by omega))
        clear np np2
        go_wp2_with fail
        go_meet
        case rel => exact ⟨by rw [np'.out], rfl⟩
    case rest =>
      obtain ⟨rfl, hW⟩ := hcut
      obtain rfl : Wd = wc := hW.symm
      clear np np2
      go_upto_if 35 with (fail)
      go_cut [8] from 35 to 37 (fun c wx => c = .int .i64 (numA ⟨p, xa, xw⟩) ∧ wx = Wd)
      case first =>
        by_cases h1 : p = 1
        · subst h1
          go_wp2_with fail
          go_meet
          case rel => exact ⟨rfl, rfl⟩
        · have e1 : ((p : Int) == 1) = false := by rw [beq_eq_false_iff_ne]; omega
          have e2 : numA ⟨p, xa, xw⟩ = xa := by unfold numA; rw [if_neg (by show ¬ ((p : Int) = 1); omega)]
          have E2 := Lib.hid e2
          clear h1 e2
          go_wp2_with fail
          go_meet
          case rel => exact ⟨by rw [E2.out], rfl⟩
      case rest =>
        obtain ⟨rfl, hW⟩ := hcut
        obtain rfl : Wd = wc := hW.symm
        obtain ⟨num, hnum⟩ : ∃ num, numA ⟨p, xa, xw⟩ = num := ⟨_, rfl⟩
        rw [hnum] at hfm
        rw [hnum]
        have HNUM := Lib.hid hnum
        obtain ⟨hl, hT, hS⟩ := HR.out
        clear hnum y0 y1 y2 HR
        have z1 : (nm.size + 1) ≤ 7 := by rw [← HNM.out]; have := nameA_len p; omega
        have z2 : (itoaB num).size ≤ 21 := by rw [← HNUM.out]; exact Lib.itoa_length_le _ (numA_I64 HXO.out).1 (numA_I64 HXO.out).2
        have z3 : ¬ 9223372036854775807 < nm.size + 1 := by omega
        have z4 : ¬ 9223372036854775807 < nm.size + 1 + (itoaB num).size := by omega
        clear z1 z2
        have hbig : q + 1 ≤ 9223372036854775807 := by omega
        have hbig2 : (q + 1) * 16 ≤ 140737488355328 := by omega
        go_wp2_with (first
          | (go_at_call 24; refine hfm.mono ?_; rintro e w5 ⟨rfl, s5⟩; have hT5 := hT.frame s5 (by simp); have hnew := fun (t : ByteArray) => Rd.fresh w5 (O.set w5.heap.size 77) 1 9 #[.string t] 1 (by decide) rfl; have hT6 := fun (t : ByteArray) => hT5.frame (((Step.refl [] w5 O).alloc (.cells #[.string t] 9)).give (Nat.le_refl _) 77) (by simp))
          | (at_builtin; refine wpList_app rfl (.tmp 38) (.tmp 44) 53 rfl Tryd.underlying53 infoStr rfl rfl (hT6 _) rfl (hnew _) (by simp [Value.oneCell']) hbig hbig2 ?_))
        intro vx w6 o6 hx6 s6
        have S6 : Step [96] w o w6 o6 := ((stn.trans s5.nil).trans ((((Step.refl [] w5 O).alloc (.cells #[.string (nm ++ ⟨#[32]⟩ ++ itoaB num)] 9)).give (Nat.le_refl _) 77).nil)).trans s6
        have s56 : Step [96] Wd O w6 o6 := (s5.nil.trans ((((Step.refl [] w5 O).alloc (.cells #[.string (nm ++ ⟨#[32]⟩ ++ itoaB num)] 9)).give (Nat.le_refl _) 77).nil)).trans s6
        replace hl := hl.frame s56 (by simp; exact hk.2.1)
        replace hS := Blk.frame hS s56 (by simp)
        replace hwl := hwl.frame s56 (by simp)
        have hx7 : Row w6 o6 96 9 1 vx (q + 1) (((l.take (q + 1)).map pieceB).map Value.string) := by
          have e : l.take (q + 1) = l.take q ++ [⟨p, xa, xw⟩] := by rw [List.take_add_one, HX.out]; rfl
          rw [e, List.map_append, List.map_append, List.map_cons, List.map_nil, HPX.out, HNUM.out, HNM.out]
          simpa using hx6
        obtain ⟨a7, c7, rfl, -, -⟩ := hx7.slice
        clear hx6 hT hT5 hT6 hnew hfm z3 z4 s6 s5 s56 stn
        go_wp2_with fail
        go_roundg (n + 1 - (q + 1))
        case measure => rw [HGM.out]; omega
        case rel => exact ⟨q + 1, o6, Lib.hid rfl, hqn, by go_num, hx7, hl, hS, hwl, S6⟩
end Go.Proofs.YtglchagfclafgaaDoor
