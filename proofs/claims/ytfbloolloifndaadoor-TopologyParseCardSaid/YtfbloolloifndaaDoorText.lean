/-
  Contracts of topology.line and topology.Text: the text of a topology.
-/
import Derived.Test.YtfbloolloifndaaDoorBuilder
import Derived.Test.YtfbloolloifndaaDoorShelf
import Derived.Test.YtfbloolloifndaaDoorValid
import Derived.Lib.ItoaLen
import Derived.Lib.AppendIntMem
namespace Go.Proofs.YtfbloolloifndaaDoor
open Go.RowKit Go.Sort Go.Shelf

abbrev Tab (B : Nat) (w : World) : Prop := Lib.TabBelow Tryd.prog B w "internal/strconv.uint64pow10" .u64 Lib.pow10Tab

theorem tab_up {B B' : Nat} {w w' : World} (h : Tab B w) (hb : Below B w w') (hB : B ≤ B') : Tab B' w' := fun w'' h'' => h w'' (hb.trans (h''.mono hB))

theorem strconv_Itoa (n : Int) (h0 : -9223372036854775808 ≤ n) (h1 : n ≤ 9223372036854775807) (B : Nat) (w : World) (ht : Tab B w) :
    Calls Tryd.prog 35 #[.int .i64 n] w fun e w' => e = .returned (.string ⟨(Lib.itoa n).toArray⟩) ∧ Below w.heap.size w w' := by
  refine (Tryd.strconv_Itoa n h0 h1 w ht.here).mono ?_
  rintro e w' ⟨rfl, k, os, rfl⟩
  exact ⟨rfl, Lib.below_grow _ w (Nat.le_refl _) k os⟩

theorem IsBuilder.up {T e : TypeId} {B b : Nat} {bs : List Value} {w w' : World} (h : Lib.IsBuilder T e B b bs w) (hb : Below w.heap.size w w') : Lib.IsBuilder T e B b bs w' := by
  have hg : w.grownBy w' none := ⟨hb.os, hb.tape, hb.output, hb.size, fun i hi _ => hb.block i hi⟩
  rcases h with ⟨hB, v, hv, ho, hn⟩ | ⟨hB, v, hv, ho, hn⟩
  · exact .inl ⟨hB, v, (hb.block b (lt_of_heap hv)).trans hv, ho.kept hg (Classical.em _), hn⟩
  · exact .inr ⟨hB, v, (hb.block b (lt_of_heap hv)).trans hv, ho.kept hg (Classical.em _), hn⟩

theorem bc_str (l : List UInt8) (s : ByteArray) : Lib.byteCells l ++ Lib.strCells s = Lib.byteCells (l ++ s.data.toList) := by rw [Lib.strCells_eq, Lib.byteCells_append]
theorem bc_one (l : List UInt8) (c : UInt8) : Lib.byteCells l ++ [.int .u8 (c.toNat : Int)] = Lib.byteCells (l ++ [c]) := by rw [Lib.byteCells_append]; rfl

/-- The numbers of a line: a space before each. -/
def nums (xs : List Int) : List UInt8 := xs.flatMap fun n => 32 :: Lib.itoa n
theorem nums_snoc {xs : List Int} {k : Nat} {x : Int} (h : xs[k]? = some x) : nums (xs.take (k + 1)) = nums (xs.take k) ++ [32] ++ Lib.itoa x := by
  obtain ⟨hk, rfl⟩ := List.getElem?_eq_some_iff.1 h
  unfold nums
  rw [List.take_succ_eq_append_getElem hk, List.flatMap_append]
  simp
theorem nums_len {xs : List Int} (h : ∀ x ∈ xs, -9223372036854775808 ≤ x ∧ x ≤ 9223372036854775807) : (nums xs).length ≤ 22 * xs.length := by
  induction xs with
  | nil => simp [nums]
  | cons x xs ih =>
    have h1 := Lib.itoa_length_le x (h x (by simp)).1 (h x (by simp)).2
    have h2 := ih (fun y hy => h y (by simp [hy]))
    simp only [nums, List.flatMap_cons, List.length_append, List.length_cons] at h2 ⊢
    omega

set_option maxHeartbeats 2000000 in
set_option maxRecDepth 100000 in
theorem topology_line (B b g : Nat) (l : List UInt8) (s : ByteArray) (xs : List Int) (w : World) (h : Lib.IsBuilder 41 5 B b (Lib.byteCells l) w)
    (hg : w.heap[g]? = some (.cells (xs.map (Value.int .i64)).toArray 3 (0, 0))) (hx : ∀ x ∈ xs, -9223372036854775808 ≤ x ∧ x ≤ 9223372036854775807)
    (hlen : l.length + s.size + 22 * xs.length + 100 ≤ 1099511627776) (hBw : B ≤ w.heap.size) (ht : Tab B w) :
    Calls Tryd.prog 16 #[.pointer (some ⟨b, 0, none⟩), .string s, .slice (some ⟨g, 0, none⟩) xs.length xs.length] w fun e w' => e = .returned (.tuple #[]) ∧
      (Lib.IsBuilder 41 5 B b (Lib.byteCells (l ++ (s.data.toList ++ nums xs ++ [10]))) w' ∧ Below B w w' ∧ KeepT 41 5 w w') := by
  obtain ⟨m, hm⟩ : ∃ m, m = xs.length := ⟨_, rfl⟩
  have hs : s.data.toList.length = s.size := by rw [Array.length_toList]; rfl
  have HS := Lib.hid hs; clear hs
  have HX := Lib.hid hx; clear hx
  have HG := Lib.hid hg; clear hg
  rw [← hm] at hlen ⊢
  have HM := Lib.hid hm; clear hm
  go_enter Tryd.func16, Tryd.ntmps16
  go_wp2_with (go_at_call 33; refine (builder_WriteString B b _ s _ h (by rw [Lib.byteCells_length]; omega) hBw).mono ?_)
  rintro e w1 ⟨rfl, h1, hb1, hk1⟩
  rw [bc_str] at h1
  go_wp2_with fail
  go_loopw [13] (fun i wr => ∃ k : Nat, k ≤ m ∧ i = .int .i64 k ∧ Lib.IsBuilder 41 5 B b (Lib.byteCells (l ++ s.data.toList ++ nums (xs.take k))) wr ∧ Below B w wr ∧ KeepT 41 5 w wr) (fun i _ => m - (intOf i).toNat)
  case atStart => exact ⟨0, Nat.zero_le _, rfl, by simpa [nums] using h1, hb1, hk1⟩
  case round =>
    clear h h1 hb1 hk1
    obtain ⟨k, hk, rfl, h2, hb2, hk2⟩ := hrel
    have hl2 : (l ++ s.data.toList ++ nums (xs.take k)).length ≤ l.length + s.size + 22 * k := by
      have := nums_len (xs := xs.take k) (fun x hx => HX.out x (List.mem_of_mem_take hx))
      have h3 : (xs.take k).length ≤ k := List.length_take_le _ _
      rw [List.length_append, List.length_append, HS.out]
      omega
    have hsz := hb2.size
    by_cases hlt : k < m
    · obtain ⟨x, hx⟩ : ∃ x, xs[k]? = some x := ⟨xs[k]'(by rw [← HM.out]; exact hlt), List.getElem?_eq_getElem _⟩
      have hxb := HX.out x (List.mem_of_getElem? hx)
      have q0 : wr.cell? ⟨g, k, none⟩ = some (.int .i64 x) := by
        rw [Lib.cell_of_heap (hk2 g _ _ _ HG.out (by decide) (by decide))]
        simp [hx]
      have HN := Lib.hid (nums_snoc hx); clear hx
      have hil := Lib.itoa_length_le x hxb.1 hxb.2
      generalize nums (xs.take k) = u at *
      go_wp2_with fail
      refine (builder_WriteByte B b _ 32 _ h2 (by rw [Lib.byteCells_length]; omega) (by omega)).mono ?_
      rintro e w3 ⟨rfl, h3, hb3, hk3⟩
      have hsz3 := hb3.size
      rw [show (32 : Int) = ((32 : UInt8).toNat : Int) from rfl, bc_one] at h3
      go_wp2_with fail
      refine (strconv_Itoa x hxb.1 hxb.2 B _ (ht.on (hb2.trans hb3))).mono ?_
      rintro e w4 ⟨rfl, hb4⟩
      have hsz4 := hb4.size
      go_wp2_with fail
      refine (builder_WriteString B b _ _ _ (IsBuilder.up h3 hb4) (by rw [Lib.byteCells_length]; simp only [List.length_append, List.length_cons, List.length_nil] at hl2 ⊢; simp only [ByteArray.size, List.size_toArray]; omega) (by omega)).mono ?_
      rintro e w5 ⟨rfl, h5, hb5, hk5⟩
      rw [bc_str] at h5
      go_wp2_with fail
      go_roundw
      case rel => exact ⟨k + 1, by omega, by go_num, by rw [HN.out]; simpa using h5, ((hb2.trans hb3).trans (hb4.mono (by omega))).trans hb5, ((hk2.trans hk3).trans (KeepT.of_below hb4)).trans hk5⟩
      case measure => simp [intOf]; omega
    · obtain rfl : k = m := by omega
      have e1 : xs.take k = xs := List.take_of_length_le (by rw [← HM.out]; exact Nat.le_refl _)
      rw [e1] at h2 hl2
      clear e1
      go_wp2_with fail
      refine (builder_WriteByte B b _ 10 _ h2 (by rw [Lib.byteCells_length]; omega) (by omega)).mono ?_
      rintro e w3 ⟨rfl, h3, hb3, hk3⟩
      rw [show (10 : Int) = ((10 : UInt8).toNat : Int) from rfl, bc_one] at h3
      go_wp2_with fail
      go_end0
      exact ⟨rfl, by simpa using h3, hb2.trans hb3, hk2.trans hk3⟩

def sNodes : List UInt8 := [110, 111, 100, 101, 115]
def sOverload : List UInt8 := [111, 118, 101, 114, 108, 111, 97, 100]
def sLink : List UInt8 := [108, 105, 110, 107]
def lineT (s : List UInt8) (xs : List Int) : List UInt8 := s ++ nums xs ++ [10]
def lnkNums (l : Lnk) : List Int := [l.a, l.b, l.c0, l.c1, l.cap, l.dl, l.g]
def ovOne (ov : List Bool) (i : Nat) : List UInt8 := if ov.getD i false = true then lineT sOverload [(i : Int)] else []
def ovK (ov : List Bool) (k : Nat) : List UInt8 := (List.range k).flatMap (ovOne ov)
def lkK (ls : List Lnk) (k : Nat) : List UInt8 := (ls.take k).flatMap fun l => lineT sLink (lnkNums l)
/-- The text of a topology that is valid. -/
def textOf (t : Topo) : List UInt8 := lineT sNodes [t.n] ++ ovK t.ov t.ov.length ++ lkK t.ls t.ls.length
def textV (t : Topo) : List UInt8 := if valid t = true then textOf t else []

theorem lineT_len {s : List UInt8} {xs : List Int} (h : ∀ x ∈ xs, -9223372036854775808 ≤ x ∧ x ≤ 9223372036854775807) : (lineT s xs).length ≤ s.length + 22 * xs.length + 1 := by
  have := nums_len h
  simp only [lineT, List.length_append, List.length_cons, List.length_nil]
  omega
theorem ovK_succ (ov : List Bool) (k : Nat) : ovK ov (k + 1) = ovK ov k ++ ovOne ov k := by simp [ovK, List.range_succ]
theorem lkK_succ {ls : List Lnk} {k : Nat} {l : Lnk} (h : ls[k]? = some l) : lkK ls (k + 1) = lkK ls k ++ lineT sLink (lnkNums l) := by
  obtain ⟨hk, rfl⟩ := List.getElem?_eq_some_iff.1 h
  unfold lkK
  rw [List.take_succ_eq_append_getElem hk, List.flatMap_append]
  simp
theorem ovOne_len (ov : List Bool) (k : Nat) (hk : k ≤ 1000000) : (ovOne ov k).length ≤ 40 := by
  unfold ovOne
  split
  · have := lineT_len (s := sOverload) (xs := [(k : Int)]) (by intro x hx; simp at hx; subst hx; omega)
    simp [sOverload] at this ⊢; omega
  · simp
theorem ovK_len (ov : List Bool) : ∀ k, k ≤ 1000000 → (ovK ov k).length ≤ 40 * k
  | 0, _ => by simp [ovK]
  | k + 1, h => by
    rw [ovK_succ, List.length_append]
    have := ovK_len ov k (by omega)
    have := ovOne_len ov k (by omega)
    omega
theorem lnkNums_bd {n : Int} {l : Lnk} (hn : n ≤ 64) (h : lnkOk n l = true) : ∀ x ∈ lnkNums l, -9223372036854775808 ≤ x ∧ x ≤ 9223372036854775807 := by
  have := lnk_bd h
  intro x hx
  simp only [lnkNums, List.mem_cons, List.not_mem_nil, or_false] at hx
  omega
theorem lkK_len {t : Topo} (hv : valid t = true) : ∀ k, k ≤ t.ls.length → (lkK t.ls k).length ≤ 160 * k
  | 0, _ => by simp [lkK]
  | k + 1, h => by
    have hl : t.ls[k]? = some t.ls[k] := List.getElem?_eq_getElem (by omega)
    rw [lkK_succ hl, List.length_append]
    have := lkK_len hv k (by omega)
    have := lineT_len (s := sLink) (lnkNums_bd (valid_n hv).2 (valid_lnk hv hl))
    simp [sLink, lnkNums] at this ⊢
    omega

theorem new_blk (w : World) (cs : Array Value) (t : TypeId) (g : Nat) (h : g = w.heap.size) : (w.alloc (.cells cs t)).heap[g]? = some (.cells cs t (0, 0)) := by subst h; exact heap_alloc_new w _
theorem strB (l : List UInt8) : (ByteArray.mk l.toArray).data.toList = l := rfl

set_option maxHeartbeats 4000000 in
set_option maxRecDepth 100000 in
theorem topology_Text (t : Topo) (A1 A2 : Option Addr) (c1 c2 : Nat) (w : World) (hT : TAt w A1 A2 t) (ht : Tab w.heap.size w) :
    Calls Tryd.prog 7 #[.agg #[.int .i64 t.n, .slice A1 t.ov.length c1, .slice A2 t.ls.length c2]] w fun e w' => e = .returned (.string ⟨(textV t).toArray⟩) ∧ Below w.heap.size w w' := by
  have hb0 := below_box w (.cells #[.int .i64 t.n, .slice A1 t.ov.length c1, .slice A2 t.ls.length c2] 25)
  have HT := hT.below hb0
  have HB := hb0
  have b0 := box0 w (.int .i64 t.n) (.slice A1 t.ov.length c1) (.slice A2 t.ls.length c2) 25
  have b1 := box1 w (.int .i64 t.n) (.slice A1 t.ov.length c1) (.slice A2 t.ls.length c2) 25
  have b2 := box2 w (.int .i64 t.n) (.slice A1 t.ov.length c1) (.slice A2 t.ls.length c2) 25
  clear hb0 hT
  cases hv : valid t with
  | false =>
    have HR : Hid (textV t = []) := Lib.hid (by simp [textV, hv])
    go_enter Tryd.func7, Tryd.ntmps7
    go_wp2_with (go_at_call 15; refine (topology_Valid t _ _ _ _ _ HT.ls).mono ?_; rintro e w1 ⟨rfl, hb⟩; replace HT := HT.below hb; replace b0 := cell_up hb b0; replace b1 := cell_up hb b1; replace b2 := cell_up hb b2; replace HB := below_next HB hb; clear hb)
    go_ret
    exact ⟨by rw [HR.out]; rfl, HB⟩
  | true =>
    have HR : Hid (textV t = textOf t) := Lib.hid (by simp [textV, hv])
    have HV := Lib.hid hv
    have hn := valid_n hv
    have hls := valid_ls hv
    have hov : t.ov.length ≤ 64 := by have := valid_ov hv; omega
    go_enter Tryd.func7, Tryd.ntmps7
    go_wp2_with fail
    refine (topology_Valid t _ _ _ _ _ HT.ls).mono ?_
    rintro e w1 ⟨rfl, hb1⟩
    have HTB : TBox w A1 A2 c1 c2 t w1 := ⟨cell_up hb1 b0, cell_up hb1 b1, cell_up hb1 b2, HT.below hb1, below_next HB hb1⟩
    clear b0 b1 b2 HT HB hb1
    have ht1 := tab_up ht HTB.hb HTB.hb.size
    have HBX := Lib.fresh_isBuilder 41 5 w1
    have hbb := below_box w1 (.cells #[.pointer none, .slice none 0 0] 41)
    have b0 := cell_up hbb HTB.b0
    have hz : w1.heap.size < (w1.alloc (.cells #[.pointer none, .slice none 0 0] 41)).heap.size := by simp
    go_wp2_with fail
    refine (topology_line w1.heap.size w1.heap.size (w1.heap.size + 1) [] ⟨sNodes.toArray⟩ [t.n] _ (by exact IsBuilder.up HBX (below_box _ _)) (by exact new_blk _ _ _ _ (by simp)) (by intro x hx; simp at hx; subst hx; omega) (by simp [ByteArray.size, sNodes]) (by simp; omega) (by exact tab_up ht1 ((below_box _ _).trans ((below_box _ _).mono (by simp))) (Nat.le_refl _))).mono ?_
    rintro e w2 ⟨rfl, h2, hb2, _⟩
    have hB2 : Below w1.heap.size w1 w2 := ((below_box _ _).trans ((below_box _ _).mono (by simp))).trans hb2
    clear HBX hbb b0 hz hb2
    have e2 : ([] : List UInt8) ++ ((ByteArray.mk sNodes.toArray).data.toList ++ nums [t.n] ++ [10]) = lineT sNodes [t.n] := rfl
    rw [e2] at h2
    clear e2
    have b1 := cell_up hB2 HTB.b1
    go_wp2_with fail
    have HH2 := Lib.hid h2
    clear h2
    have hl0 : (lineT sNodes [t.n]).length ≤ 40 := by
      have := lineT_len (s := sNodes) (xs := [t.n]) (by intro x hx; simp at hx; subst hx; omega)
      simp [sNodes] at this ⊢; omega
    generalize hL0 : lineT sNodes [t.n] = L0 at *
    have HL0 := Lib.hid hL0; clear hL0
    go_loopw [18] (fun i wr => ∃ k : Nat, k ≤ t.ov.length ∧ i = .int .i64 k ∧ Hid (Lib.IsBuilder 41 5 w1.heap.size w1.heap.size (Lib.byteCells (L0 ++ ovK t.ov k)) wr) ∧ Below w1.heap.size w1 wr) (fun i _ => t.ov.length - (intOf i).toNat)
    case atStart => exact ⟨0, Nat.zero_le _, rfl, Lib.hid (by simpa [ovK] using HH2.out), hB2⟩
    case round =>
      clear hB2 b1 HH2
      obtain ⟨k, hk, rfl, HH, hB⟩ := hrel
      have hsz := hB.size
      have hlk := ovK_len t.ov k (by omega)
      by_cases hlt : k < t.ov.length
      · obtain ⟨x, hx⟩ : ∃ x, t.ov[k]? = some x := ⟨_, List.getElem?_eq_getElem hlt⟩
        have hxo : t.ov.getD k false = x := by simp [List.getD_eq_getElem?_getD, hx]
        obtain ⟨b, o, rfl, q0⟩ := (HTB.ta.ov.below hB).at_ (k := k) (u := .bool x) (by simp [hx])
        have b1 := cell_up hB HTB.b1
        cases x with
        | false =>
          have HK := Lib.hid (ovK_succ t.ov k)
          have HO : Hid (ovOne t.ov k = []) := Lib.hid (by unfold ovOne; rw [hxo]; rfl)
          clear hx hxo
          go_wp2_with fail
          go_roundw
          case rel => exact ⟨k + 1, by omega, by go_num, Lib.hid (by rw [HK.out, HO.out, List.append_nil]; exact HH.out), hB⟩
          case measure => simp [intOf]; omega
        | true =>
          have HK := Lib.hid (ovK_succ t.ov k)
          have HO : Hid (ovOne t.ov k = lineT sOverload [(k : Int)]) := Lib.hid (by unfold ovOne; rw [hxo]; rfl)
          clear hx hxo
          go_wp2_with fail
          refine (topology_line w1.heap.size w1.heap.size wr.heap.size (L0 ++ ovK t.ov k) ⟨sOverload.toArray⟩ [(k : Int)] _ (by exact IsBuilder.up HH.out (below_box _ _)) (by exact new_blk _ _ _ _ rfl) (by intro x hx; simp at hx; subst hx; omega) (by simp [ByteArray.size, sOverload]; omega) (by simp; omega) (by exact tab_up ht1 (below_next hB (below_box _ _)) (Nat.le_refl _))).mono ?_
          rintro e w3 ⟨rfl, h3, hb3, _⟩
          have hB3 : Below w1.heap.size w1 w3 := (below_next hB (below_box _ _)).trans hb3
          clear hb3
          have H3 : Hid (Lib.IsBuilder 41 5 w1.heap.size w1.heap.size (Lib.byteCells (L0 ++ ovK t.ov (k + 1))) w3) := Lib.hid (by rw [HK.out, HO.out, ← List.append_assoc]; exact h3)
          clear h3
          go_wp2_with fail
          go_roundw
          case rel => exact ⟨k + 1, by omega, by go_num, H3, hB3⟩
          case measure => simp [intOf]; omega
      · obtain rfl : k = t.ov.length := by omega
        have b2 := cell_up hB HTB.b2
        generalize hL1 : L0 ++ ovK t.ov t.ov.length = L1 at *
        have hl1 : L1.length ≤ 4000 := by rw [← hL1, List.length_append]; omega
        have HL1 := Lib.hid hL1; clear hL1
        go_wp2_with fail
        obtain ⟨wo, rfl⟩ : ∃ wo : World, wo = wr := ⟨_, rfl⟩
        go_loopw [31] (fun i wr => ∃ k : Nat, k ≤ t.ls.length ∧ i = .int .i64 k ∧ Hid (Lib.IsBuilder 41 5 w1.heap.size w1.heap.size (Lib.byteCells (L1 ++ lkK t.ls k)) wr) ∧ Below w1.heap.size w1 wr) (fun i _ => t.ls.length - (intOf i).toNat)
        case atStart => exact ⟨0, Nat.zero_le _, rfl, Lib.hid (by simpa [lkK] using HH.out), hB⟩
        case round =>
          clear hB b2 HH hsz hlk hlt
          obtain ⟨k, hk, rfl, HH, hB⟩ := hrel
          have hsz := hB.size
          have hlk := lkK_len HV.out k hk
          by_cases hlt : k < t.ls.length
          · obtain ⟨b, o, l, rfl, hl, hc⟩ := (HTB.ta.ls.below hB).at_ hlt
            have HK := Lib.hid (lkK_succ hl)
            have HN := Lib.hid (lnkNums_bd hn.2 (valid_lnk HV.out hl)); clear hl
            obtain ⟨q0, q1, q2, q3, q4, q5, q6⟩ := hc
            go_wp2_with fail
            refine (topology_line w1.heap.size w1.heap.size (wr.heap.size + 1) (L1 ++ lkK t.ls k) ⟨sLink.toArray⟩ (lnkNums l) _ (by exact IsBuilder.up (IsBuilder.up HH.out (below_box _ _)) (below_box _ _)) (by exact new_blk _ _ _ _ (by simp)) HN.out (by simp [ByteArray.size, sLink, lnkNums]; omega) (by simp; omega) (by exact tab_up ht1 (below_next (below_next hB (below_box _ _)) (below_box _ _)) (Nat.le_refl _))).mono ?_
            rintro e w3 ⟨rfl, h3, hb3, _⟩
            have hB3 : Below w1.heap.size w1 w3 := (below_next (below_next hB (below_box _ _)) (below_box _ _)).trans hb3
            clear hb3
            have H3 : Hid (Lib.IsBuilder 41 5 w1.heap.size w1.heap.size (Lib.byteCells (L1 ++ lkK t.ls (k + 1))) w3) := Lib.hid (by rw [HK.out, ← List.append_assoc]; exact h3)
            clear h3
            go_wp2_with fail
            go_roundw
            case rel => exact ⟨k + 1, by omega, by go_num, H3, hB3⟩
            case measure => simp [intOf]; omega
          · obtain rfl : k = t.ls.length := by omega
            go_wp2_with fail
            refine (Tryd.Builder_String_any w1.heap.size w1.heap.size (L1 ++ lkK t.ls t.ls.length) _ HH.out hsz).mono ?_
            rintro e w3 ⟨rfl, hb3⟩
            have HE : Hid (textV t = L1 ++ lkK t.ls t.ls.length) := Lib.hid (by rw [HR.out, ← HL1.out, ← HL0.out]; rfl)
            go_wp2_with fail
            go_ret
            exact ⟨by rw [HE.out]; rfl, below_next HTB.hb (hB.trans hb3)⟩

end Go.Proofs.YtfbloolloifndaaDoor
