/- Texts with their great letters made small, two ways. -/
import Derived.Test.YtaledmoakhlmgaaCore
import Derived.Laws.IdiomStrings
import Derived.Lib.ConvBytes
import Derived.KernelRfl
namespace Go.Proofs.Ytaledmoakhlmgaa
open Go Go.RowKit
set_option linter.unusedSimpArgs false
set_option linter.unusedVariables false

/-- The bytes of a text. -/
def lst (s : ByteArray) : List UInt8 := s.data.toList
theorem lst_inj {a b : ByteArray} (h : lst a = lst b) : a = b := by
  cases a; cases b
  simp only [lst] at h
  congr 1
  exact Array.ext' h
def lowc (c : UInt8) : UInt8 := if 65 ≤ c.toNat ∧ c.toNat ≤ 90 then UInt8.ofNat (c.toNat + 32) else c
def low (s : ByteArray) : ByteArray := ⟨((lst s).map lowc).toArray⟩
theorem low_lst (s : ByteArray) : lst (low s) = (lst s).map lowc := by simp [low, lst]
theorem low_size (s : ByteArray) : (low s).size = s.size := by
  show (((lst s).map lowc).toArray).size = s.size
  rw [List.size_toArray, List.length_map]
  rfl

/-- A row of bytes that a conversion has laid: its cells, none of them frozen. -/
structure BR (w : World) (b : Nat) (l : List UInt8) : Prop where
  heap : ∃ cur, w.heap[b]? = some (.cells cur 5 (cur.size, cur.size + 1)) ∧ l.length ≤ cur.size ∧ cur.toList.take l.length = l.map fun c => Value.int .u8 c.toNat

theorem BR.lt {w : World} {b : Nat} {l : List UInt8} (h : BR w b l) : b < w.heap.size := by
  obtain ⟨cur, h1, _⟩ := h.heap
  exact (Array.getElem?_eq_some_iff.1 h1).1
theorem BR.at {w : World} {b : Nat} {l : List UInt8} (h : BR w b l) {j : Nat} (hj : j < l.length) : w.cell? ⟨b, j, none⟩ = some (.int .u8 (l[j].toNat : Nat)) ∧ w.frozen? ⟨b, j, none⟩ = false := by
  obtain ⟨cur, h1, h2, h3⟩ := h.heap
  constructor
  · have e := congrArg (fun x => x[j]?) h3
    simp only [List.getElem?_take, if_pos hj, List.getElem?_map, List.getElem?_eq_getElem hj, Option.map_some] at e
    simp only [World.cell?, h1]
    simpa using e
  · simp only [World.frozen?, h1]
    simp
    omega
theorem BR.set {w : World} {b : Nat} {l : List UInt8} (h : BR w b l) (j : Nat) (c : UInt8) (x : Int) (hx : x = (c.toNat : Nat)) : BR (w.setCell ⟨b, j, none⟩ (.int .u8 x)) b (l.set j c) := by
  obtain ⟨cur, h1, h2, h3⟩ := h.heap
  subst hx
  refine ⟨cur.setIfInBounds j (.int .u8 (c.toNat : Nat)), ?_, by simpa using h2, ?_⟩
  · have := heap_setCell_same h1 j (Value.int .u8 (c.toNat : Nat))
    simpa using this
  · rw [Array.toList_setIfInBounds, List.length_set, List.take_set, h3, List.map_set]
theorem BR.frame {S : List Nat} {w w' : World} {o o' : Owner} {b : Nat} {l : List UInt8} (h : BR w b l) (st : Step S w o w' o') (hb : o b ∉ S) : BR w' b l := by
  obtain ⟨cur, h1, h2, h3⟩ := h.heap
  exact ⟨cur, (st.blk b h.lt hb).trans h1, h2, h3⟩

theorem br_new (w : World) (s : ByteArray) : ∃ w' cap, (convert 9 38 (.string s)).run Try.prog w = .ok (.slice (some ⟨w.heap.size, 0, none⟩) s.size cap) w' ∧ BR w' w.heap.size (lst s) ∧ (∀ o, Step [] w o w' o) := by
  refine ⟨_, _, Lib.run_convert_string_bytes w 9 38 5 s Try.underlying9 Try.underlying38 Try.underlying5, ⟨⟨_, Lib.bytesWorld_at_new w 5 s, ?_, ?_⟩⟩, fun o => ⟨rfl, ?_, rfl, ?_, fun _ _ => rfl, fun b hb _ => Lib.bytesWorld_at_old w 5 s b hb⟩⟩
  · show s.data.toList.length ≤ (Lib.bytesCells w 5 s).size
    unfold Lib.bytesCells
    rw [Array.size_append, Array.size_map, Array.length_toList]
    exact Nat.le_add_right _ _
  · show (Lib.bytesCells w 5 s).toList.take s.data.toList.length = s.data.toList.map _
    unfold Lib.bytesCells
    rw [Array.toList_append, Array.toList_map, List.take_append_of_le_length (by rw [List.length_map]; exact Nat.le_refl _), List.take_of_length_le (by rw [List.length_map]; exact Nat.le_refl _)]
  · rfl
  · rw [Lib.bytesWorld_size]; omega

theorem br_back {w : World} {b : Nat} {l : List UInt8} (h : BR w b l) (n cap : Nat) (hn : n = l.length) : (convert 38 9 (.slice (some ⟨b, 0, none⟩) n cap)).run Try.prog w = .ok (.string ⟨l.toArray⟩) w := by
  subst hn
  exact run_convert_bytes_back w 38 9 5 ⟨b, 0, none⟩ cap l Try.underlying38 Try.underlying5 Try.underlying9 (fun j hj => by
    have := (h.at hj).1
    simpa [Addr.add_lit] using this)
def mixL (k : Nat) (l : List UInt8) : List UInt8 := (l.take k).map lowc ++ l.drop k
theorem mixL_length (k : Nat) (l : List UInt8) : (mixL k l).length = l.length := by
  simp only [mixL, List.length_append, List.length_map, List.length_take, List.length_drop]; omega
theorem mixL_at {k : Nat} {l : List UInt8} (h : k < l.length) : (mixL k l)[k]? = some l[k] := by
  rw [mixL, List.getElem?_append_right (by simp; omega), List.getElem?_drop]
  simp only [List.length_map, List.length_take]
  rw [Nat.min_eq_left (by omega), Nat.sub_self, Nat.add_zero, List.getElem?_eq_getElem h]
theorem mixL_succ {k : Nat} {l : List UInt8} (h : k < l.length) : mixL (k + 1) l = (mixL k l).set k (lowc l[k]) := by
  apply List.ext_getElem?
  intro j
  rw [List.getElem?_set]
  simp only [mixL_length, h, if_true]
  by_cases hj : k = j
  · subst hj
    rw [if_pos rfl, mixL, List.getElem?_append_left (by simp; omega), List.getElem?_map, List.getElem?_take_of_lt (by omega), List.getElem?_eq_getElem h]
    rfl
  · rw [if_neg hj]
    by_cases hl : j < k
    · rw [mixL, mixL, List.getElem?_append_left (by simp; omega), List.getElem?_append_left (by simp; omega), List.getElem?_map, List.getElem?_map, List.getElem?_take_of_lt (by omega), List.getElem?_take_of_lt hl]
    · rw [mixL, mixL, List.getElem?_append_right (by simp; omega), List.getElem?_append_right (by simp; omega), List.getElem?_drop, List.getElem?_drop]
      simp only [List.length_map, List.length_take]
      congr 1
      omega
theorem mixL_zero (l : List UInt8) : mixL 0 l = l := rfl
theorem mixL_all (l : List UInt8) : mixL l.length l = l.map lowc := by simp [mixL]
theorem mixL_same {k : Nat} {l : List UInt8} (h : k < l.length) (hc : lowc l[k] = l[k]) : mixL (k + 1) l = mixL k l := by
  rw [mixL_succ h, hc]
  apply List.ext_getElem?
  intro j
  rw [List.getElem?_set]
  by_cases hj : k = j
  · subst hj
    rw [if_pos rfl, mixL_length, if_pos h, mixL_at h]
  · rw [if_neg hj]
theorem lowc_up {c : UInt8} (h : 65 ≤ c.toNat ∧ c.toNat ≤ 90) : (lowc c).toNat = c.toNat + 32 := by
  rw [lowc, if_pos h]
  simp
  omega
theorem lowc_no {c : UInt8} (h : ¬ (65 ≤ c.toNat ∧ c.toNat ≤ 90)) : lowc c = c := by rw [lowc, if_neg h]

set_option maxHeartbeats 4000000 in
theorem fold_ok (s : ByteArray) (hs : s.size ≤ 9223372036854775807) (w : World) (o : Owner) : Calls Try.prog 30 #[.string s] w fun e w' => e = .returned (.string (low s)) ∧ Step [] w o w' o := by
  obtain ⟨w1, cap, kc, hb, st⟩ := br_new w s
  have hsz : (lst s).length = s.size := rfl
  replace st := st o
  obtain ⟨l, hl⟩ : ∃ l, lst s = l := ⟨_, rfl⟩
  obtain ⟨N, hN⟩ : ∃ N, s.size = N := ⟨_, rfl⟩
  obtain ⟨b, hbb⟩ : ∃ b, w.heap.size = b := ⟨_, rfl⟩
  have hlow : low s = ⟨(l.map lowc).toArray⟩ := by rw [← hl]; rfl
  rw [hlow]
  rw [hl] at hb hsz
  rw [hN] at hsz kc hs
  rw [hbb] at kc hb
  have HB := Lib.hid hbb
  have HS := Lib.hid hsz
  clear hl hN hlow hbb hsz
  go_enter Try.func30, Try.ntmps30
  go_wp2_with fail
  go_loopg [10] N (fun g v wr => ∃ k : Nat, g = N - k ∧ k ≤ N ∧ v = .int .i64 k ∧ BR wr b (mixL k l) ∧ Step [] w o wr o)
  case atStart => exact ⟨0, rfl, Nat.zero_le _, rfl, hb, st⟩
  case round =>
    obtain ⟨k, hg, hk, rfl, hr, sr⟩ := hrel
    have HG := Lib.hid hg
    clear hg hb st kc
    by_cases hlt : k < N
    · have hki : (k : Int) < N := by omega
      have hkl : k < l.length := by rw [HS.out]; exact hlt
      have hsame := mixL_same (l := l) hkl
      have hsucc := mixL_succ hkl
      have hat : (mixL k l)[k]'(by rw [mixL_length]; exact hkl) = l[k] := by
        have := mixL_at hkl
        rw [List.getElem?_eq_getElem (by rw [mixL_length]; exact hkl)] at this
        exact Option.some.inj this
      obtain ⟨y, f⟩ := hr.at (j := k) (by rw [mixL_length]; exact hkl)
      rw [hat] at y
      generalize l[k] = c at y hsame hsucc
      obtain ⟨d, hd⟩ : ∃ d, c.toNat = d := ⟨_, rfl⟩
      have hup := lowc_up (c := c)
      have hno := lowc_no (c := c)
      rw [hd] at y hup hno
      have HD := Lib.hid hd
      have HSA := Lib.hid hsame
      have HSU := Lib.hid hsucc
      have HUP := Lib.hid hup
      have HNO := Lib.hid hno
      clear hat hsame hsucc hd hup hno
      by_cases h1 : 65 ≤ d
      · have h1i : (65 : Int) ≤ d := by omega
        by_cases h2 : d ≤ 90
        · have h2i : (d : Int) ≤ 90 := by omega
          go_wp2_with fail
          go_roundg (N - (k + 1))
          case measure => rw [HG.out]; omega
          case rel =>
            refine ⟨k + 1, rfl, by omega, by go_num, ?_, sr.setCell (by intro hb; exact absurd hb (by have := HB.out; show ¬ (b < w.heap.size); omega)) _⟩
            rw [HSU.out]
            exact hr.set k (lowc c) _ (by rw [HUP.out ⟨h1, h2⟩]; first | omega | (go_num; omega))
        · have h2i : ¬ (d : Int) ≤ 90 := by omega
          go_wp2_with fail
          go_roundg (N - (k + 1))
          case measure => rw [HG.out]; omega
          case rel => exact ⟨k + 1, rfl, by omega, by go_num, by rw [HSA.out (HNO.out (by omega))]; exact hr, sr⟩
      · have h1i : ¬ (65 : Int) ≤ d := by omega
        go_wp2_with fail
        go_roundg (N - (k + 1))
        case measure => rw [HG.out]; omega
        case rel => exact ⟨k + 1, rfl, by omega, by go_num, by rw [HSA.out (HNO.out (by omega))]; exact hr, sr⟩
    · obtain rfl : k = N := by omega
      have hki : ¬ (k : Int) < k := by omega
      have hall : mixL k l = l.map lowc := by rw [← HS.out]; exact mixL_all l
      rw [hall] at hr
      have kb := br_back hr k cap (by rw [List.length_map]; exact HS.out.symm)
      clear hall
      go_wp2_with fail
      go_ret
      exact ⟨rfl, sr⟩
def u8s (l : List UInt8) : List Value := l.map fun c => Value.int .u8 (c.toNat : Nat)
theorem u8s_one (l : List UInt8) : ∀ u ∈ u8s l, u.oneCell' = true := by
  intro u hu
  obtain ⟨c, _, rfl⟩ := List.mem_map.1 hu
  rfl
theorem infoU8 : (Try.prog.info? 5).map (fun i => (i.zero, i.size, i.bytes)) = some (some (.int .u8 0), 1, 1) := by kernel_rfl
theorem Row.cast {w : World} {o : Owner} {i E size n : Nat} {v : Value} {xs ys : List Value} (h : Row w o i E size v n xs) (e : xs = ys) : Row w o i E size v n ys := e ▸ h
theorem Row.slice' {w : World} {o : Owner} {i E size n : Nat} {v : Value} {xs : List Value} (h : Row w o i E size v n xs) : ∃ ao c, v = .slice ao n c := by
  obtain ⟨_, ⟨ao, rfl, rfl⟩ | ⟨g, cap, cur, rfl, _⟩⟩ := h
  · exact ⟨_, _, rfl⟩
  · exact ⟨_, _, rfl⟩

/-- What writes only into new blocks leaves all that was there, whoever owns it. -/
theorem Step.calm0 {S : List Nat} {w w' : World} {o1 : Owner} (h : Step S w (fun _ => 0) w' o1) (o : Owner) (hS : 0 ∉ S) : ∃ o', Step [] w o w' o' :=
  ⟨fun b => if b < w.heap.size then o b else o1 b, h.os, h.tape, h.output, h.size, fun b hb => if_pos hb, fun b hb _ => h.blk b hb hS⟩

/-- 'string(b)' of a row that is owned. -/
theorem row_back {w : World} {o : Owner} {i n : Nat} {a : Option Addr} {c : Nat} {l : List UInt8} (h : Row w o i 5 1 (.slice a n c) n (u8s l)) : (convert 38 9 (.slice a n c)).run Try.prog w = .ok (.string ⟨l.toArray⟩) w := by
  have hl : l.length = n := by have := h.len; simpa [u8s] using this
  obtain ⟨ao, cap, hv, h1, h2, h3, h4⟩ := h.rd
  simp only [Value.slice.injEq, true_and] at hv
  obtain ⟨rfl, rfl⟩ := hv
  by_cases hn : 0 < n
  · obtain ⟨b, off, rfl, hb, ho, hc⟩ := h4 hn
    subst hl
    exact run_convert_bytes_back w 38 9 5 ⟨b, off, none⟩ c l Try.underlying38 Try.underlying5 Try.underlying9 (fun j hj => by
      rw [Addr.add_lit]
      exact hc j _ (by simp [u8s, hj]))
  · obtain rfl : n = 0 := by omega
    obtain rfl : l = [] := List.eq_nil_of_length_eq_zero hl
    cases a with
    | none => exact run_convert_bytes_nil w 38 5 Try.underlying38 Try.underlying5 0 c _ Try.underlying9
    | some a => exact run_convert_bytes_back w 38 9 5 a c [] Try.underlying38 Try.underlying5 Try.underlying9 (fun j hj => absurd hj (by simp))

theorem low_take {k : Nat} {l : List UInt8} (h : k < l.length) : (l.take (k + 1)).map lowc = (l.take k).map lowc ++ [lowc l[k]] := by
  rw [List.take_succ_eq_append_getElem h, List.map_append]; rfl

set_option maxHeartbeats 4000000 in
theorem rfold_ok (s : ByteArray) (hs : s.size ≤ 1000000) (w : World) (o : Owner) : Calls Try.prog 49 #[.string s] w fun e w' => e = .returned (.string (low s)) ∧ ∃ o', Step [] w o w' o' := by
  obtain ⟨l, hl⟩ : ∃ l, lst s = l := ⟨_, rfl⟩
  have hsz : l.length = s.size := by rw [← hl]; rfl
  have hlow : low s = ⟨(l.map lowc).toArray⟩ := by rw [← hl]; rfl
  have hel : ∀ k (h : k < s.size) (h2 : k < l.length), s[k]'h = l[k]'h2 := fun k h h2 => by subst hl; rfl
  rw [hlow]
  have HS := Lib.hid hsz
  have HE := Lib.hid hel
  clear hl hlow hsz hel
  go_enter Try.func49, Try.ntmps49
  go_wp2_with fail
  go_loopg [3, 4] s.size (fun g x v wr => ∃ (k : Nat) (o' : Owner), g = s.size - k ∧ k ≤ s.size ∧ v = .int .i64 k ∧ Row wr o' 77 5 1 x k (u8s ((l.take k).map lowc)) ∧ Step [77] w (fun _ => 0) wr o')
  case atStart => exact ⟨0, fun _ => 0, rfl, Nat.zero_le _, rfl, Row.nil _ _ _ _ _ none, Step.refl _ _ _⟩
  case round =>
    obtain ⟨k, o3, hg, hk, rfl, hr, sr⟩ := hrel
    have HG := Lib.hid hg
    clear hg
    obtain ⟨ax, cx, rfl⟩ := hr.slice'
    by_cases hlt : k < s.size
    · have hki : (k : Int) < s.size := by omega
      have hks := hlt
      have hkl : k < l.length := by rw [HS.out]; exact hks
      have hch := HE.out k hks hkl
      have hlt2 := low_take hkl
      generalize l[k] = c at hch hlt2
      obtain ⟨d, hd⟩ : ∃ d, c.toNat = d := ⟨_, rfl⟩
      have hup := lowc_up (c := c)
      have hno := lowc_no (c := c)
      rw [hd] at hup hno
      have HD := Lib.hid hd
      have HLT := Lib.hid hlt2
      have HUP := Lib.hid hup
      have HNO := Lib.hid hno
      have HCH := Lib.hid hch
      have hxB : ∀ cs, Row (wr.alloc (.cells cs 5)) o3 77 5 1 (.slice ax k cx) k (u8s ((l.take k).map lowc)) := fun cs => hr.frame ((Step.refl [] wr o3).alloc _) (by simp)
      obtain ⟨X, hX⟩ : ∃ X, X = u8s ((l.take k).map lowc) := ⟨_, rfl⟩
      rw [← hX] at hxB
      have HX := Lib.hid hX
      have hdc : ((s[k]'hks).toNat : Nat) = d := by rw [hch, hd]
      clear hlt2 hd hup hno hch hr hX
      have hbig : k < 9223372036854775807 := by omega
      have hk47 : (k + 1) * 1 ≤ 140737488355328 := by omega
      by_cases h1 : 65 ≤ d
      · have h1i : (65 : Int) ≤ d := by omega
        by_cases h2 : d ≤ 90
        · have h2i : (d : Int) ≤ 90 := by omega
          go_wp2_with (at_builtin; refine wpList_app rfl (.tmp 23) (.tmp 25) 38 rfl Try.underlying38 infoU8 rfl rfl (hxB _) rfl (Rd.fresh wr o3 1 5 _ 1 (by decide) rfl) (by simp [Value.oneCell']) (by omega) (by omega) ?_)
          intro vx w6 o6 hx6 s6
          obtain ⟨ax6, cx6, rfl⟩ := hx6.slice'
          have S6 := (sr.alloc _).trans s6
          go_wp2_with fail
          go_roundg (s.size - (k + 1))
          case measure => rw [HG.out]; omega
          case rel =>
            refine ⟨k + 1, o6, rfl, by omega, by go_num, hx6.cast ?_, S6⟩
            rw [HLT.out, HX.out]
            have h := HUP.out ⟨h1, h2⟩; simp only [u8s, List.map_append, List.map_cons, List.map_nil]; rw [h]; first | (congr 3; omega) | simp
        · have h2i : ¬ (d : Int) ≤ 90 := by omega
          go_wp2_with (at_builtin; refine wpList_app rfl (.tmp 23) (.tmp 25) 38 rfl Try.underlying38 infoU8 rfl rfl (hxB _) rfl (Rd.fresh wr o3 1 5 _ 1 (by decide) rfl) (by simp [Value.oneCell']) (by omega) (by omega) ?_)
          intro vx w6 o6 hx6 s6
          obtain ⟨ax6, cx6, rfl⟩ := hx6.slice'
          have S6 := (sr.alloc _).trans s6
          go_wp2_with fail
          go_roundg (s.size - (k + 1))
          case measure => rw [HG.out]; omega
          case rel =>
            refine ⟨k + 1, o6, rfl, by omega, by go_num, hx6.cast ?_, S6⟩
            rw [HLT.out, HX.out]
            rw [HNO.out (by omega)]; simp only [u8s, List.map_append, List.map_cons, List.map_nil, HD.out]
      · have h1i : ¬ (65 : Int) ≤ d := by omega
        go_wp2_with (at_builtin; refine wpList_app rfl (.tmp 23) (.tmp 25) 38 rfl Try.underlying38 infoU8 rfl rfl (hxB _) rfl (Rd.fresh wr o3 1 5 _ 1 (by decide) rfl) (by simp [Value.oneCell']) (by omega) (by omega) ?_)
        intro vx w6 o6 hx6 s6
        obtain ⟨ax6, cx6, rfl⟩ := hx6.slice'
        have S6 := (sr.alloc _).trans s6
        go_wp2_with fail
        go_roundg (s.size - (k + 1))
        case measure => rw [HG.out]; omega
        case rel =>
          refine ⟨k + 1, o6, rfl, by omega, by go_num, hx6.cast ?_, S6⟩
          rw [HLT.out, HX.out]
          rw [HNO.out (by omega)]; simp only [u8s, List.map_append, List.map_cons, List.map_nil, HD.out]
    · obtain rfl : k = s.size := by omega
      have hki : ¬ (s.size : Int) < s.size := by omega
      rw [List.take_of_length_le (by rw [HS.out]; exact Nat.le_refl _)] at hr
      have kb := row_back hr
      go_wp2_with fail
      go_ret
      exact ⟨rfl, sr.calm0 o (by decide)⟩

end Go.Proofs.Ytaledmoakhlmgaa
