/-
  Contracts of topology.line and topology.Text: the text of a topology.
  waypoint/prefix: Valid and Text.
  strings.Cut and strings.Split at a separator of one byte.
  waypoint/prefix.Parse: what it returns.
-/
import Derived.Test.YtfimacgmciogmaaGreatDoorBuilder
import Derived.Test.YtfimacgmciogmaaGreatDoorShelf
import Derived.Test.YtfimacgmciogmaaGreatDoorPkBase
import Derived.Lib.ItoaLen
import Derived.Lib.AppendIntMem
import Derived.BigQuiet
import Derived.Lib.QuietBelow
import Derived.Laws.Shifts
import Derived.Shelf.Strings.SplitCore
import Derived.Laws.BitsAllLaws
namespace Go.Proofs.YtfimacgmciogmaaGreatDoor
open Go.RowKit Go.Sort Go.Shelf
abbrev Tab (B : Nat) (w : World) : Prop := Lib.TabBelow Tryz.prog B w "internal/strconv.uint64pow10" .u64 Lib.pow10Tab
theorem tab_up {B B' : Nat} {w w' : World} (h : Tab B w) (hb : Below B w w') (hB : B ≤ B') : Tab B' w' := fun w'' h'' => h w'' (hb.trans (h''.mono hB))
theorem strconv_Itoa (n : Int) (h0 : -9223372036854775808 ≤ n) (h1 : n ≤ 9223372036854775807) (B : Nat) (w : World) (ht : Tab B w) :
  Calls Tryz.prog 15 #[.int .i64 n] w fun e w' => e = .returned (.string ⟨(Lib.itoa n).toArray⟩) ∧ Below w.heap.size w w' := by
 refine (Tryz.strconv_Itoa n h0 h1 w ht.here).mono ?_
 rintro e w' ⟨rfl, k, os, rfl⟩
 exact ⟨rfl, Lib.below_grow _ w (Nat.le_refl _) k os⟩
theorem IsBuilder.up {T e : TypeId} {B b : Nat} {bs : List Value} {w w' : World} (h : Lib.IsBuilder T e B b bs w) (hb : Below w.heap.size w w') : Lib.IsBuilder T e B b bs w' := by
 have hg : w.grownBy w' none := ⟨hb.os, hb.tape, hb.output, hb.size, fun i hi _ => hb.block i hi⟩
 rcases h with ⟨hB, v, hv, ho, hn⟩ | ⟨hB, v, hv, ho, hn⟩
 ·exact .inl ⟨hB, v, (hb.block b (lt_of_heap hv)).trans hv, ho.kept hg (Classical.em _), hn⟩
 ·exact .inr ⟨hB, v, (hb.block b (lt_of_heap hv)).trans hv, ho.kept hg (Classical.em _), hn⟩
theorem bc_str (l : List UInt8) (s : ByteArray) : Lib.byteCells l ++ Lib.strCells s = Lib.byteCells (l ++ s.data.toList) := by rw [Lib.strCells_eq, Lib.byteCells_append]
theorem bc_one (l : List UInt8) (c : UInt8) : Lib.byteCells l ++ [.int .u8 (c.toNat : Int)] = Lib.byteCells (l ++ [c]) := by rw [Lib.byteCells_append]; rfl
theorem strB (l : List UInt8) : (ByteArray.mk l.toArray).data.toList = l := rfl
end Go.Proofs.YtfimacgmciogmaaGreatDoor
namespace Go.Proofs.YtfimacgmciogmaaGreatDoor
set_option linter.unusedSimpArgs false
set_option linter.unusedVariables false
open Go.RowKit Go.Sort Go.Shelf
/-- The number whose first n bits are 1. -/
def maskS (n : Int) : Int := IntKind.u64.wrap (4294967295 * 2 ^ (32 - n).toNat) % 4294967296
set_option maxRecDepth 100000 in
theorem pfx_mask (n : Int) (h0 : 0 ≤ n) (h1 : n ≤ 32) (w : World) : Calls Tryz.prog 74 #[.int .i64 n] w fun e w' => e = .returned (.int .u32 (maskS n)) ∧ Below w.heap.size w w' := by
 have c1 : (0 : Int) ≤ 32 - n := by omega
 go_enter Tryz.func74, Tryz.ntmps74
 go_wp2
 go_ret
 exact ⟨rfl, Below.refl _ _⟩
def pvalB (x y : Int) : Bool := decide (0 ≤ y) && (decide (y ≤ 32) && (bits BinOp.andNot IntKind.u32 x (maskS y) == 0))
theorem pbox (w : World) (x y : Int) : (w.alloc (.cells #[.int .u32 x, .int .i64 y] 70)).cell? ⟨w.heap.size, 0, none⟩ = some (.int .u32 x) ∧ (w.alloc (.cells #[.int .u32 x, .int .i64 y] 70)).cell? ⟨w.heap.size, 1, none⟩ = some (.int .i64 y) := by
 constructor <;> simp
set_option maxHeartbeats 4000000 in
set_option maxRecDepth 100000 in
theorem pfx_Valid (x y : Int) (w : World) : Calls Tryz.prog 46 #[.agg #[.int .u32 x, .int .i64 y]] w fun e w' => e = .returned (.bool (pvalB x y)) ∧ Below w.heap.size w w' := by
 obtain ⟨b0, b1⟩ := pbox w x y
 have HB := below_box w (.cells #[.int .u32 x, .int .i64 y] 70)
 by_cases h0 : 0 ≤ y
 ·by_cases h1 : y ≤ 32
  ·have HM := Lib.hid (fun w' => pfx_mask y h0 h1 w')
   obtain ⟨m, hm⟩ : ∃ m, m = maskS y := ⟨_, rfl⟩
   rw [← hm] at HM
   go_enter Tryz.func46, Tryz.ntmps46
   go_wp2_with fail
   have kq_b0 := cell_regrown b0
   have kq_b1 := cell_regrown b1
   refine wp_region_quiet_below (by kernel_rfl) (by kernel_rfl) ?_
   repeat (go_big_quiet_step (exact Calls.regrown_of (HM.out _)))
   refine wpQuiet_nil ?_
   intro w2 hb2
   replace hb2 := below_of_regrown hb2
   clear kq_b0 kq_b1
   replace b0 := cell_up hb2 b0
   replace b1 := cell_up hb2 b1
   go_wp2_with fail
   go_ret
   exact ⟨by simp [pvalB, h0, h1], below_next HB hb2⟩
  ·have c1 : decide (y ≤ 32) = false := decide_eq_false h1
   have HN1 := Lib.hid h1
   clear h1
   go_enter Tryz.func46, Tryz.ntmps46
   go_wp2_with fail
   have kq_b0 := cell_regrown b0
   have kq_b1 := cell_regrown b1
   refine wp_region_quiet_below (by kernel_rfl) (by kernel_rfl) ?_
   repeat (go_big_quiet_step (fail))
   refine wpQuiet_nil ?_
   intro w2 hb2
   replace hb2 := below_of_regrown hb2
   clear kq_b0 kq_b1
   replace b0 := cell_up hb2 b0
   replace b1 := cell_up hb2 b1
   go_wp2_with fail
   go_ret
   exact ⟨by rw [pvalB, decide_eq_false (show ¬ y ≤ 32 by have := HN1.out; omega)]; simp, below_next HB hb2⟩
 ·have c0 : decide (0 ≤ y) = false := decide_eq_false h0
  have HN0 := Lib.hid h0
  clear h0
  go_enter Tryz.func46, Tryz.ntmps46
  go_wp2_with fail
  have kq_b0 := cell_regrown b0
  have kq_b1 := cell_regrown b1
  refine wp_region_quiet_below (by kernel_rfl) (by kernel_rfl) ?_
  repeat (go_big_quiet_step (fail))
  refine wpQuiet_nil ?_
  intro w2 hb2
  replace hb2 := below_of_regrown hb2
  clear kq_b0 kq_b1
  replace b0 := cell_up hb2 b0
  replace b1 := cell_up hb2 b1
  go_wp2_with fail
  go_ret
  exact ⟨by rw [pvalB, decide_eq_false (show ¬ 0 ≤ y by have := HN0.out; omega)]; simp, below_next HB hb2⟩
def octA (x : Int) (i : Nat) : Int := if i = 0 then x / 16777216 else if i = 1 then x / 65536 else if i = 2 then x / 256 else x
def octV (x : Int) (i : Nat) : Int := wrap64 (bits BinOp.and IntKind.u32 (octA x i) 255)
def octP (x : Int) (i : Nat) : List UInt8 := (if i = 0 then [] else [46]) ++ Lib.itoa (octV x i)
def octK (x : Int) (k : Nat) : List UInt8 := (List.range k).flatMap (octP x)
def ptextS (x y : Int) : List UInt8 := if pvalB x y = true then octK x 4 ++ 47 :: Lib.itoa y else []
theorem octK_succ (x : Int) (k : Nat) : octK x (k + 1) = octK x k ++ octP x k := by simp [octK, List.range_succ]
theorem wrap_in (v : Int) : -9223372036854775808 ≤ wrap64 v ∧ wrap64 v ≤ 9223372036854775807 := by unfold wrap64; omega
theorem octV_in (x : Int) (i : Nat) : -9223372036854775808 ≤ octV x i ∧ octV x i ≤ 9223372036854775807 := by
 unfold octV
 exact wrap_in _
theorem octP_len (x : Int) (i : Nat) : (octP x i).length ≤ 22 := by
 have h := Lib.itoa_length_le (octV x i) (octV_in x i).1 (octV_in x i).2
 rw [octP, List.length_append]
 generalize (Lib.itoa (octV x i)).length = n at *
 split <;> simp only [List.length_nil, List.length_cons] <;> omega
theorem octK_len (x : Int) : ∀ k, (octK x k).length ≤ 22 * k
 | 0 => by simp [octK]
 | k + 1 => by
  have h1 := octK_len x k
  have h2 := octP_len x k
  rw [octK_succ, List.length_append]
  generalize (octK x k).length = a at *
  generalize (octP x k).length = b at *
  omega
theorem shr_0 (x : Int) : (Op.shift .shr .u32 x .i64 24 : Sem Value) = pure (.int .u32 (octA x 0)) := by
 rw [show octA x 0 = x / 16777216 by simp [octA]]
 simp [go_sem]
theorem shr_1 (x : Int) : (Op.shift .shr .u32 x .i64 16 : Sem Value) = pure (.int .u32 (octA x 1)) := by
 rw [show octA x 1 = x / 65536 by simp [octA]]
 simp [go_sem]
theorem shr_2 (x : Int) : (Op.shift .shr .u32 x .i64 8 : Sem Value) = pure (.int .u32 (octA x 2)) := by
 rw [show octA x 2 = x / 256 by simp [octA]]
 simp [go_sem]
theorem shr_3 (x : Int) : (Op.shift .shr .u32 x .i64 0 : Sem Value) = pure (.int .u32 (octA x 3)) := by
 rw [show octA x 3 = x by simp [octA]]
 simp [go_sem]
theorem oct_of (x : Int) (k : Nat) {y : Int} (hs : (Op.shift .shr .u32 x .i64 y : Sem Value) = pure (.int .u32 (octA x k))) : ∃ a b' v, (Op.shift .shr .u32 x .i64 y : Sem Value) = pure (.int .u32 a) ∧ bits BinOp.and IntKind.u32 a 255 = b' ∧ wrap64 b' = v ∧ (-9223372036854775808 ≤ v ∧ v ≤ 9223372036854775807) ∧ octK x (k + 1) = octK x k ++ ((if k = 0 then [] else [46]) ++ Lib.itoa v) :=
 ⟨octA x k, _, octV x k, hs, rfl, by rw [octV], octV_in x k, octK_succ x k⟩
set_option maxHeartbeats 4000000 in
set_option maxRecDepth 100000 in
theorem pfx_Text (x y : Int) (w : World) (ht : Tab w.heap.size w) : Calls Tryz.prog 16 #[.agg #[.int .u32 x, .int .i64 y]] w fun e w' => e = .returned (.string ⟨(ptextS x y).toArray⟩) ∧ Below w.heap.size w w' := by
 obtain ⟨b0, b1⟩ := pbox w x y
 have HB := below_box w (.cells #[.int .u32 x, .int .i64 y] 70)
 cases hv : pvalB x y with
 | false =>
  have HR : Hid (ptextS x y = []) := Lib.hid (by simp [ptextS, hv])
  have HV := Lib.hid (fun w' => pfx_Valid x y w')
  rw [hv] at HV
  go_enter Tryz.func16, Tryz.ntmps16
  go_wp2_with (go_at_call 46; refine (HV.out _).mono ?_; rintro e w1 ⟨rfl, hb1⟩)
  go_ret
  exact ⟨by rw [HR.out]; rfl, below_next HB hb1⟩
 | true =>
  have HR : Hid (ptextS x y = octK x 4 ++ 47 :: Lib.itoa y) := Lib.hid (by simp [ptextS, hv])
  have HV := Lib.hid (fun w' => pfx_Valid x y w')
  rw [hv] at HV
  go_enter Tryz.func16, Tryz.ntmps16
  go_wp2_with (go_at_call 46; refine (HV.out _).mono ?_; rintro e w1 ⟨rfl, hb1⟩)
  have HB1 := below_next HB hb1
  have d0 := cell_up hb1 b0
  have d1 := cell_up hb1 b1
  clear b0 b1 HB hb1
  have ht1 := tab_up ht HB1 HB1.size
  have hy : -9223372036854775808 ≤ y ∧ y ≤ 9223372036854775807 := by
   have h := hv
   unfold pvalB at h
   simp at h
   omega
  have HYI := Lib.hid hy
  clear hy hv HV
  have HBX := Lib.fresh_isBuilder 63 5 w1
  have hbb := below_box w1 (.cells #[.pointer none, .slice none 0 0] 63)
  obtain ⟨w2, hw2⟩ : ∃ w2, w2 = w1.alloc (.cells #[.pointer none, .slice none 0 0] 63) := ⟨_, rfl⟩
  rw [← hw2] at HBX hbb ⊢
  have HX0 := Lib.hid HBX
  have HB2 := Lib.hid hbb
  clear HBX hw2
  go_loopw [8] (fun i wr => ∃ k : Nat, k ≤ 4 ∧ i = .int .i64 k ∧ Hid (Lib.IsBuilder 63 5 w1.heap.size w1.heap.size (Lib.byteCells (octK x k)) wr) ∧ Hid (Below w1.heap.size w1 wr)) (fun i _ => 4 - (intOf i).toNat)
  case atStart => exact ⟨0, by omega, rfl, HX0, HB2⟩
  case round =>
   clear HX0 HB2 hbb
   obtain ⟨k, hk, rfl, HX, HBW⟩ := hrel
   have hsz := HBW.out.size
   have q0 := cell_up HBW.out d0
   have q1 := cell_up HBW.out d1
   have hxl : (octK x k).length ≤ 22 * k := octK_len x k
   have HXL := Lib.hid hxl
   clear hxl
   by_cases hlt : k < 4
   ·have hk4 : (k : Int) < 4 := by omega
    rcases (by omega : k = 0 ∨ k = 1 ∨ k = 2 ∨ k = 3) with rfl | rfl | rfl | rfl
    ·obtain ⟨a, b', v, ha, hb', hv, hov, hop⟩ := oct_of x 0 (shr_0 x)
     have HOV := Lib.hid hop
     have HIN := Lib.hid hov
     clear hop hov hk
     go_wp2_with fail
     refine (strconv_Itoa v HIN.out.1 HIN.out.2 w1.heap.size _ (ht1.on HBW.out)).mono ?_
     rintro e w4 ⟨rfl, hb4⟩
     go_wp2_with fail
     refine (builder_WriteString w1.heap.size w1.heap.size _ _ _ (IsBuilder.up HX.out hb4) (by rw [Lib.byteCells_length]; have := HXL.out; have hil := Lib.itoa_length_le v HIN.out.1 HIN.out.2; simp only [ByteArray.size, List.size_toArray, List.length_append, List.length_cons, List.length_nil]; omega) (by have := hb4.size; omega)).mono ?_
     rintro e w5 ⟨rfl, h5, hb5, _⟩
     rw [bc_str] at h5
     go_wp2_with fail
     go_roundw
     case rel => exact ⟨0 + 1, by omega, by go_num, Lib.hid (by rw [HOV.out]; simpa [strB] using h5), Lib.hid ((HBW.out.trans (hb4.mono hsz)).trans hb5)⟩
     case measure => simp [intOf]
    ·obtain ⟨a, b', v, ha, hb', hv, hov, hop⟩ := oct_of x 1 (shr_1 x)
     have HOV := Lib.hid hop
     have HIN := Lib.hid hov
     clear hop hov hk
     go_wp2_with fail
     refine (builder_WriteByte w1.heap.size w1.heap.size _ 46 _ HX.out (by rw [Lib.byteCells_length]; have := HXL.out; omega) hsz).mono ?_
     rintro e w3 ⟨rfl, h3, hb3, _⟩
     rw [show (46 : Int) = ((46 : UInt8).toNat : Int) from rfl, bc_one] at h3
     have q0 := cell_up (HBW.out.trans hb3) d0
     have hsz3 := (HBW.out.trans hb3).size
     go_wp2_with fail
     refine (strconv_Itoa v HIN.out.1 HIN.out.2 w1.heap.size _ (ht1.on (HBW.out.trans hb3))).mono ?_
     rintro e w4 ⟨rfl, hb4⟩
     go_wp2_with fail
     refine (builder_WriteString w1.heap.size w1.heap.size _ _ _ (IsBuilder.up h3 hb4) (by rw [Lib.byteCells_length]; have := HXL.out; have hil := Lib.itoa_length_le v HIN.out.1 HIN.out.2; simp only [ByteArray.size, List.size_toArray, List.length_append, List.length_cons, List.length_nil]; omega) (by have := hb4.size; omega)).mono ?_
     rintro e w5 ⟨rfl, h5, hb5, _⟩
     rw [bc_str] at h5
     go_wp2_with fail
     go_roundw
     case rel => exact ⟨1 + 1, by omega, by go_num, Lib.hid (by rw [HOV.out]; simpa [strB] using h5), Lib.hid (((HBW.out.trans hb3).trans (hb4.mono hsz3)).trans hb5)⟩
     case measure => simp [intOf]
    ·obtain ⟨a, b', v, ha, hb', hv, hov, hop⟩ := oct_of x 2 (shr_2 x)
     have HOV := Lib.hid hop
     have HIN := Lib.hid hov
     clear hop hov hk
     go_wp2_with fail
     refine (builder_WriteByte w1.heap.size w1.heap.size _ 46 _ HX.out (by rw [Lib.byteCells_length]; have := HXL.out; omega) hsz).mono ?_
     rintro e w3 ⟨rfl, h3, hb3, _⟩
     rw [show (46 : Int) = ((46 : UInt8).toNat : Int) from rfl, bc_one] at h3
     have q0 := cell_up (HBW.out.trans hb3) d0
     have hsz3 := (HBW.out.trans hb3).size
     go_wp2_with fail
     refine (strconv_Itoa v HIN.out.1 HIN.out.2 w1.heap.size _ (ht1.on (HBW.out.trans hb3))).mono ?_
     rintro e w4 ⟨rfl, hb4⟩
     go_wp2_with fail
     refine (builder_WriteString w1.heap.size w1.heap.size _ _ _ (IsBuilder.up h3 hb4) (by rw [Lib.byteCells_length]; have := HXL.out; have hil := Lib.itoa_length_le v HIN.out.1 HIN.out.2; simp only [ByteArray.size, List.size_toArray, List.length_append, List.length_cons, List.length_nil]; omega) (by have := hb4.size; omega)).mono ?_
     rintro e w5 ⟨rfl, h5, hb5, _⟩
     rw [bc_str] at h5
     go_wp2_with fail
     go_roundw
     case rel => exact ⟨2 + 1, by omega, by go_num, Lib.hid (by rw [HOV.out]; simpa [strB] using h5), Lib.hid (((HBW.out.trans hb3).trans (hb4.mono hsz3)).trans hb5)⟩
     case measure => simp [intOf]
    ·obtain ⟨a, b', v, ha, hb', hv, hov, hop⟩ := oct_of x 3 (shr_3 x)
     have HOV := Lib.hid hop
     have HIN := Lib.hid hov
     clear hop hov hk
     go_wp2_with fail
     refine (builder_WriteByte w1.heap.size w1.heap.size _ 46 _ HX.out (by rw [Lib.byteCells_length]; have := HXL.out; omega) hsz).mono ?_
     rintro e w3 ⟨rfl, h3, hb3, _⟩
     rw [show (46 : Int) = ((46 : UInt8).toNat : Int) from rfl, bc_one] at h3
     have q0 := cell_up (HBW.out.trans hb3) d0
     have hsz3 := (HBW.out.trans hb3).size
     go_wp2_with fail
     refine (strconv_Itoa v HIN.out.1 HIN.out.2 w1.heap.size _ (ht1.on (HBW.out.trans hb3))).mono ?_
     rintro e w4 ⟨rfl, hb4⟩
     go_wp2_with fail
     refine (builder_WriteString w1.heap.size w1.heap.size _ _ _ (IsBuilder.up h3 hb4) (by rw [Lib.byteCells_length]; have := HXL.out; have hil := Lib.itoa_length_le v HIN.out.1 HIN.out.2; simp only [ByteArray.size, List.size_toArray, List.length_append, List.length_cons, List.length_nil]; omega) (by have := hb4.size; omega)).mono ?_
     rintro e w5 ⟨rfl, h5, hb5, _⟩
     rw [bc_str] at h5
     go_wp2_with fail
     go_roundw
     case rel => exact ⟨3 + 1, by omega, by go_num, Lib.hid (by rw [HOV.out]; simpa [strB] using h5), Lib.hid (((HBW.out.trans hb3).trans (hb4.mono hsz3)).trans hb5)⟩
     case measure => simp [intOf]
   ·obtain rfl : k = 4 := by omega
    go_wp2_with fail
    refine (builder_WriteByte w1.heap.size w1.heap.size _ 47 _ HX.out (by rw [Lib.byteCells_length]; have := HXL.out; omega) hsz).mono ?_
    rintro e w3 ⟨rfl, h3, hb3, _⟩
    rw [show (47 : Int) = ((47 : UInt8).toNat : Int) from rfl, bc_one] at h3
    have q1 := cell_up (HBW.out.trans hb3) d1
    have hsz3 := (HBW.out.trans hb3).size
    have hil := Lib.itoa_length_le y HYI.out.1 HYI.out.2
    go_wp2_with fail
    refine (strconv_Itoa y HYI.out.1 HYI.out.2 w1.heap.size _ (ht1.on (HBW.out.trans hb3))).mono ?_
    rintro e w4 ⟨rfl, hb4⟩
    go_wp2_with fail
    refine (builder_WriteString w1.heap.size w1.heap.size _ _ _ (IsBuilder.up h3 hb4) (by rw [Lib.byteCells_length]; have := HXL.out; simp only [ByteArray.size, List.size_toArray, List.length_append, List.length_cons, List.length_nil]; omega) (by have := hb4.size; omega)).mono ?_
    rintro e w5 ⟨rfl, h5, hb5, _⟩
    rw [bc_str] at h5
    have hb6 := ((HBW.out.trans hb3).trans (hb4.mono hsz3)).trans hb5
    go_wp2_with fail
    refine (Tryz.Builder_String_any w1.heap.size w1.heap.size _ _ h5 hb6.size).mono ?_
    rintro e w6 ⟨rfl, hb7⟩
    go_wp2_with fail
    go_ret
    exact ⟨by rw [HR.out]; simp [strB], below_next HB1 (hb6.trans hb7)⟩
end Go.Proofs.YtfimacgmciogmaaGreatDoor
namespace Go.Proofs.YtfimacgmciogmaaGreatDoor
set_option linter.unusedSimpArgs false
set_option linter.unusedVariables false
open Go.RowKit Go.Sort
/-- What stands ahead of a byte, what stands behind it, and whether it is there. -/
def cutA (c : UInt8) : List UInt8 → List UInt8 × List UInt8 × Bool
 | [] => ([], [], false)
 | x :: r => if x = c then ([], r, true) else (x :: (cutA c r).1, (cutA c r).2.1, (cutA c r).2.2)
theorem cutA_miss {c : UInt8} : ∀ {s : List UInt8}, c ∉ s → cutA c s = (s, [], false)
 | [], _ => rfl
 | x :: r, h => by
  have h1 : ¬ x = c := fun e => h (by simp [e])
  have h2 : c ∉ r := fun e => h (by simp [e])
  rw [cutA, if_neg h1, cutA_miss h2]
theorem cutA_hit {c : UInt8} {y : List UInt8} : ∀ {x : List UInt8}, c ∉ x → cutA c (x ++ c :: y) = (x, y, true)
 | [], _ => by simp [cutA]
 | a :: r, h => by
  have h1 : ¬ a = c := fun e => h (by simp [e])
  have h2 : c ∉ r := fun e => h (by simp [e])
  rw [List.cons_append, cutA, if_neg h1, cutA_hit h2]
theorem cutA_len (c : UInt8) : ∀ s, (cutA c s).1.length ≤ s.length
 | [] => Nat.le_refl _
 | x :: r => by
  have := cutA_len c r
  unfold cutA
  split
  ·simp
  ·simp; omega
theorem cutA_len2 (c : UInt8) : ∀ s, (cutA c s).2.1.length ≤ s.length
 | [] => Nat.le_refl _
 | x :: r => by
  have := cutA_len2 c r
  unfold cutA
  split
  ·simp
  ·simp; omega
theorem ext_rest (x y : List UInt8) (c : UInt8) : (⟨(x ++ c :: y).toArray⟩ : ByteArray).extract (x.length + 1) (x ++ c :: y).length = ⟨y.toArray⟩ := by
 apply ByteArray.ext
 simp [ByteArray.data_extract]
 rw [show x.length + (y.length + 1) - (x.length + 1) = y.length by omega, List.take_length]
set_option maxHeartbeats 2000000 in
set_option maxRecDepth 100000 in
theorem slite_Cut1 (c : UInt8) (s : List UInt8) (hs : s.length ≤ 1000000) (w : World) :
  Calls Tryz.prog 56 #[.string ⟨s.toArray⟩, .string ⟨#[c]⟩] w fun e w' => e = .returned (.tuple #[.string ⟨(cutA c s).1.toArray⟩, .string ⟨(cutA c s).2.1.toArray⟩, .bool (cutA c s).2.2]) ∧ Below w.heap.size w w' := by
 by_cases hc : c ∈ s
 ·obtain ⟨x, y, rfl, hx⟩ := indexByte_some hc
  rw [cutA_hit hx]
  have HI : Hid (∀ w', Calls Tryz.prog 76 #[.string ⟨(x ++ c :: y).toArray⟩, .string ⟨#[c]⟩] w' fun e w'' => e = .returned (.int .i64 (x.length : Int)) ∧ w'' = w') := Lib.hid fun w' => by
   have h := Tryz.stringslite_Index_one ⟨(x ++ c :: y).toArray⟩ c w'
   rw [show (⟨(x ++ c :: y).toArray⟩ : ByteArray).data.toList = x ++ c :: y by simp, indexByte_at hx] at h
   exact h
  have E1 := ext_front x (c :: y)
  have E2 := ext_rest x y c
  obtain ⟨l, hl⟩ : ∃ l, l = x ++ c :: y := ⟨_, rfl⟩
  have hll : x.length + 1 ≤ l.length := by rw [hl]; simp
  rw [← hl] at HI E1 E2 hs ⊢
  have h1 : (x.length : Int) ≤ (l.length : Int) := by omega
  have h2 : (x.length : Int) + 1 ≤ (l.length : Int) := by omega
  clear hl hc hx hll
  go_enter Tryz.func56, Tryz.ntmps56
  go_wp2_with (go_at_call 76; refine (HI.out _).mono ?_; rintro e w1 ⟨rfl, rfl⟩)
  go_region
  go_wp2
  go_ret3
  exact ⟨rfl, ⟨rfl, rfl, rfl, Nat.le_refl _, fun _ _ => rfl⟩⟩
 ·rw [cutA_miss hc]
  have HI : Hid (∀ w', Calls Tryz.prog 76 #[.string ⟨s.toArray⟩, .string ⟨#[c]⟩] w' fun e w'' => e = .returned (.int .i64 (-1)) ∧ w'' = w') := Lib.hid fun w' => by
   have h := Tryz.stringslite_Index_one ⟨s.toArray⟩ c w'
   rw [show (⟨s.toArray⟩ : ByteArray).data.toList = s by simp, indexByte_none hc] at h
   exact h
  clear hc
  go_enter Tryz.func56, Tryz.ntmps56
  go_wp2_with (go_at_call 76; refine (HI.out _).mono ?_; rintro e w1 ⟨rfl, rfl⟩)
  go_ret3
  exact ⟨rfl, Below.refl _ _⟩
set_option maxHeartbeats 2000000 in
set_option maxRecDepth 100000 in
theorem strings_Cut1 (c : UInt8) (s : List UInt8) (hs : s.length ≤ 1000000) (w : World) :
  Calls Tryz.prog 30 #[.string ⟨s.toArray⟩, .string ⟨#[c]⟩] w fun e w' => e = .returned (.tuple #[.string ⟨(cutA c s).1.toArray⟩, .string ⟨(cutA c s).2.1.toArray⟩, .bool (cutA c s).2.2]) ∧ Below w.heap.size w w' := by
 have HC := Lib.hid (slite_Cut1 c s hs w)
 generalize (cutA c s).1 = a at *
 generalize (cutA c s).2.1 = b at *
 generalize (cutA c s).2.2 = d at *
 go_enter Tryz.func30, Tryz.ntmps30
 go_wp2_with (go_at_call 56; refine HC.out.mono ?_; rintro e w1 ⟨rfl, hb⟩)
 have HB := Lib.hid hb
 go_ret3
 exact ⟨rfl, HB.out⟩
theorem splitB_one (c : UInt8) : ∀ (n : Nat) (s : List UInt8), s.length ≤ n → Lib.splitB ⟨#[c]⟩ 0 (Lib.countB ⟨s.toArray⟩ ⟨#[c]⟩) ⟨s.toArray⟩ = (splitK c [] s).map fun l => (⟨l.toArray⟩ : ByteArray) := by
 intro n
 induction n with
 | zero =>
  intro s hs
  obtain rfl : s = [] := List.eq_nil_of_length_eq_zero (by omega)
  rw [Lib.splitB_miss _ _ _ _ (by show Lib.index _ _ = _; rw [Lib.index_one]; rfl)]
  rfl
 | succ n ih =>
  intro s hs
  by_cases hc : c ∈ s
  ·obtain ⟨x, y, rfl, hx⟩ := indexByte_some hc
   have hi : Lib.indexB (⟨(x ++ c :: y).toArray⟩ : ByteArray) ⟨#[c]⟩ = (x.length : Int) := by
    show Lib.index _ _ = _
    rw [Lib.index_one]
    simpa using indexByte_at (y := y) hx
   have h2 : (⟨(x ++ c :: y).toArray⟩ : ByteArray).extract (x.length + 1) (⟨(x ++ c :: y).toArray⟩ : ByteArray).size = ⟨y.toArray⟩ := by
    have := ext_rest x y c
    simpa [ByteArray.size] using this
   rw [Lib.countB_hit _ _ x.length (by simp [ByteArray.size]) hi, Nat.add_comm 1, Lib.splitB_hit _ _ _ _ _ hi, splitK_hit hx]
   rw [show (⟨#[c]⟩ : ByteArray).size = 1 from rfl, h2, ih y (by simp at hs; omega), Nat.add_zero, ext_front]
   simp
  ·have hi : Lib.indexB (⟨s.toArray⟩ : ByteArray) ⟨#[c]⟩ = -1 := by
    show Lib.index _ _ = _
    rw [Lib.index_one]
    simpa using indexByte_none hc
   rw [Lib.splitB_miss _ _ _ _ hi, splitK_miss hc]
   rfl
set_option maxHeartbeats 2000000 in
set_option maxRecDepth 100000 in
theorem strings_Split1 (c : UInt8) (s : List UInt8) (hs : s.length ≤ 1000000) (w : World) :
  Calls Tryz.prog 82 #[.string ⟨s.toArray⟩, .string ⟨#[c]⟩] w fun e w' => e = .returned (.slice (some ⟨w.heap.size, 0, none⟩) (splitK c [] s).length (splitK c [] s).length) ∧ w' = w.alloc (.cells ((splitK c [] s).map fun l => Value.string ⟨l.toArray⟩).toArray 9) := by
 have hss : (⟨s.toArray⟩ : ByteArray).size = s.length := by simp [ByteArray.size]
 have h1 : 1 ≤ (⟨#[c]⟩ : ByteArray).size := by simp [ByteArray.size]
 have hle := Lib.countB_le ⟨#[c]⟩ h1 _ (⟨s.toArray⟩ : ByteArray) (Nat.le_refl _)
 have hlen := Lib.splitB_all ⟨#[c]⟩ h1 0 _ (⟨s.toArray⟩ : ByteArray) rfl
 have hb := splitB_one c _ s (Nat.le_refl _)
 have C := Any.strings_genSplit_core Tryz.lays221 (by kernel_rfl) ⟨s.toArray⟩ ⟨#[c]⟩ 0 (-1) (Lib.countB ⟨s.toArray⟩ ⟨#[c]⟩ + 1) w (by omega) h1 (Nat.zero_le _)
  (fun x cs _ => (Tryz.strings_Index_one x c _).mono fun e w' h => ⟨by rw [h.1]; show _ = Ending.returned (Value.int .i64 (Lib.index x.data.toList [c])); rw [Lib.index_one], h.2⟩)
  ((Tryz.strings_Count_one ⟨s.toArray⟩ c w).mono fun e w' h => ⟨by rw [h.1]; show _ = Ending.returned (Value.int .i64 ((Lib.count s [c] : Nat) : Int)); rw [Lib.count_one]; rfl, h.2⟩)
  (by decide) (by decide) (by rw [if_pos (by decide)]; omega)
 rw [Nat.add_sub_cancel] at C
 have e2 : Lib.cellsOf (Lib.splitB ⟨#[c]⟩ 0 (Lib.countB ⟨s.toArray⟩ ⟨#[c]⟩) ⟨s.toArray⟩) (Lib.countB ⟨s.toArray⟩ ⟨#[c]⟩ + 1) = ((Lib.splitB ⟨#[c]⟩ 0 (Lib.countB ⟨s.toArray⟩ ⟨#[c]⟩) ⟨s.toArray⟩).map Value.string).toArray := by rw [← hlen]; exact Lib.cellsOf_full _
 have e3 : Lib.countB ⟨s.toArray⟩ ⟨#[c]⟩ + 1 = (splitK c [] s).length := by rw [← hlen, hb, List.length_map]
 rw [e2, hlen, e3, hb, List.map_map] at C
 have HC := Lib.hid C
 clear C
 generalize (splitK c [] s).length = n at *
 clear e2 e3 hlen hle h1 hss hb
 go_enter Tryz.func82, Tryz.ntmps82
 go_wp2_with (go_at_call 96; refine HC.out.mono ?_; rintro e w1 ⟨rfl, rfl⟩)
 go_ret
 exact ⟨rfl, rfl⟩
end Go.Proofs.YtfimacgmciogmaaGreatDoor
namespace Go.Proofs.YtfimacgmciogmaaGreatDoor
set_option linter.unusedSimpArgs false
set_option linter.unusedVariables false
open Go.RowKit Go.Sort Go.Shelf
def nextA (x n : Int) : Int := bits BinOp.or IntKind.u32 (x * 256 % 4294967296) n
def octF : List (List UInt8) → Int → Option Int
 | [], x => some x
 | w :: r, x => match Lib.atoiAll w with | .ok n => if n < 0 ∨ 255 < n then none else octF r (nextA x n) | _ => none
def pparseS (s : List UInt8) : Option (Int × Int) :=
 if (cutA 47 s).2.2 = false ∨ 18 < s.length ∨ (splitK 46 [] (cutA 47 s).1).length ≠ 4 then none
 else match octF (splitK 46 [] (cutA 47 s).1) 0 with
  | none => none
  | some x => match Lib.atoiAll (cutA 47 s).2.1 with | .ok y => if ptextS x y = s then some (x, y) else none | _ => none
theorem nextA_in (x n : Int) (hn : ¬ (n < 0 ∨ 255 < n)) : 0 ≤ nextA x n ∧ nextA x n < 4294967296 := by
 have h1 : 0 ≤ x * 256 % 4294967296 ∧ x * 256 % 4294967296 < 4294967296 := by omega
 have h2 : 0 ≤ n ∧ n < 4294967296 := by omega
 unfold nextA
 generalize x * 256 % 4294967296 = z at *
 rw [u32_or z n h1.1 h1.2 h2.1 h2.2]
 have := Nat.or_lt_two_pow (x := z.toNat) (y := n.toNat) (n := 32) (by omega) (by omega)
 generalize z.toNat ||| n.toNat = q at *
 omega
theorem octF_in : ∀ (ws : List (List UInt8)) (x z : Int), 0 ≤ x ∧ x < 4294967296 → octF ws x = some z → 0 ≤ z ∧ z < 4294967296
 | [], x, z, h, e => by injection e with e; rw [← e]; exact h
 | w :: r, x, z, h, e => by
  rw [octF] at e
  split at e
  ·split at e
   ·cases e
   ·rename_i hn; exact octF_in r _ z (nextA_in _ _ hn) e
  ·cases e
theorem octF_stop {w : List UInt8} {r : List (List UInt8)} {x : Int} (h : ∀ v, Lib.atoiAll w ≠ .ok v) : octF (w :: r) x = none := by
 rw [octF]
 split
 ·rename_i n hn; exact absurd hn (h n)
 ·rfl
theorem octF_out {w : List UInt8} {r : List (List UInt8)} {x n : Int} (h : Lib.atoiAll w = .ok n) (hn : n < 0 ∨ 255 < n) : octF (w :: r) x = none := by
 rw [octF, h]
 simp only
 rw [if_pos hn]
theorem octF_go {w : List UInt8} {r : List (List UInt8)} {x n : Int} (h : Lib.atoiAll w = .ok n) (hn : ¬ (n < 0 ∨ 255 < n)) : octF (w :: r) x = octF r (nextA x n) := by
 rw [octF, h]
 simp only
 rw [if_neg hn]
/-- What prefix.Parse returns. -/
def RetPx (w : World) (V : Option (Int × Int)) (e : Ending) (w' : World) : Prop :=
 (match V with
  | some (x, y) => e = .returned (.tuple #[.agg #[.int .u32 x, .int .i64 y], .int .i64 0])
  | none => e = .returned (.tuple #[.agg #[.int .u32 0, .int .i64 0], .int .i64 3])) ∧ Below w.heap.size w w'
theorem px_box (w : World) : (w.alloc (.cells #[.int .u32 0, .int .i64 0] 70)).heap[w.heap.size]? = some (.cells #[.int .u32 0, .int .i64 0] 70 (0, 0)) := heap_alloc_new _ _
theorem bx_set1 {W : World} {B : Nat} {a b y : Value} {T : TypeId} (h : W.heap[B]? = some (.cells #[a, b] T (0, 0))) : (W.setCell ⟨B, 0, none⟩ y).heap[B]? = some (.cells #[y, b] T (0, 0)) ∧ (W.setCell ⟨B, 1, none⟩ y).heap[B]? = some (.cells #[a, y] T (0, 0)) := by
 constructor
 ·rw [heap_setCell_same _ _ 0 _ _ _ h]; rfl
 ·rw [heap_setCell_same _ _ 1 _ _ _ h]; rfl
set_option maxRecDepth 100000 in
set_option maxHeartbeats 8000000 in
theorem prefix_Parse (s : List UInt8) (hs : s.length ≤ 100000) (w : World) (hE : Errs w) (ht : Tab w.heap.size w) :
  Calls Tryz.prog 67 #[.string ⟨s.toArray⟩] w (RetPx w (pparseS s)) := by
 obtain ⟨V, hV⟩ : ∃ V, V = pparseS s := ⟨_, rfl⟩
 rw [← hV]
 have HE := Lib.hid hE
 have HT := Lib.hid ht
 clear hE ht
 obtain ⟨a, l, fnd, hc⟩ : ∃ a l fnd, cutA 47 s = (a, l, fnd) := ⟨_, _, _, rfl⟩
 have HC : Hid (∀ w', Calls Tryz.prog 30 #[.string ⟨s.toArray⟩, .string ⟨#[47]⟩] w' fun e w'' => e = .returned (.tuple #[.string ⟨a.toArray⟩, .string ⟨l.toArray⟩, .bool fnd]) ∧ Below w'.heap.size w' w'') := Lib.hid fun w' => by
  have := strings_Cut1 47 s (by omega) w'
  rw [hc] at this
  exact this
 have hal : a.length ≤ s.length := by have := cutA_len 47 s; rw [hc] at this; exact this
 have hll : l.length ≤ s.length := by have := cutA_len2 47 s; rw [hc] at this; exact this
 obtain ⟨ws, hws⟩ : ∃ ws, ws = splitK 46 [] a := ⟨_, rfl⟩
 have HSP : Hid (∀ w', Calls Tryz.prog 82 #[.string ⟨a.toArray⟩, .string ⟨#[46]⟩] w' fun e w'' => e = .returned (.slice (some ⟨w'.heap.size, 0, none⟩) ws.length ws.length) ∧ w'' = w'.alloc (.cells (ws.map strW).toArray 9)) := Lib.hid fun w' => by
  rw [hws]; exact strings_Split1 46 a (by omega) w'
 have hwl : ∀ x ∈ ws, x.length ≤ 100000 := fun x hx => by rw [hws] at hx; have := splitK_mem hx; omega
 have HWL := Lib.hid hwl
 have hV2 : V = if fnd = false ∨ 18 < s.length ∨ ws.length ≠ 4 then none else match octF ws 0 with | none => none | some x => match Lib.atoiAll l with | .ok y => if ptextS x y = s then some (x, y) else none | _ => none := by
  rw [hV, pparseS, hc, hws]
 have HV := Lib.hid hV2
 have HLL : Hid (l.length ≤ 100000) := Lib.hid (by omega)
 clear hV hV2 hwl hws hc hal hll
 have HZ := Lib.hid (px_box w)
 have HB := Lib.hid (below_box w (.cells #[.int .u32 0, .int .i64 0] 70))
 have hz0 : (w.alloc (.cells #[.int .u32 0, .int .i64 0] 70)).frozen? ⟨w.heap.size, 0, none⟩ = false := by simp
 by_cases hbad : fnd = false ∨ 18 < s.length ∨ ws.length ≠ 4
 ·have HN : Hid (V = none) := Lib.hid (by rw [HV.out, if_pos hbad])
  cases fnd with
  | false =>
   clear hbad
   go_enter Tryz.func67, Tryz.ntmps67
   go_wp2_with (first | (go_at_call 30; refine (HC.out _).mono ?_; rintro e w1 ⟨rfl, hb⟩; replace HZ := Lib.hid ((hb.block _ (lt_of_heap HZ.out)).trans HZ.out); replace HB := Lib.hid (below_next HB.out hb); clear hb) | (go_at_call 82; refine (HSP.out _).mono ?_; rintro e w2 ⟨rfl, hw2⟩; have HZW := Lib.hid (lt_of_heap HZ.out); have hb2 := below_box w1 (.cells (ws.map strW).toArray 9); have hwk := heap_alloc_new w1 (.cells (ws.map strW).toArray 9); rw [← hw2] at hb2 hwk; have HWK := Lib.hid hwk; replace HZ := Lib.hid ((hb2.block _ (lt_of_heap HZ.out)).trans HZ.out); replace HB := Lib.hid (below_next HB.out hb2); obtain ⟨wb, hwb⟩ : ∃ wb, wb = w1.heap.size := ⟨_, rfl⟩; rw [← hwb] at HWK ⊢; have HWB : Hid (w.heap.size < wb) := Lib.hid (by rw [hwb]; exact HZW.out); clear hb2 hwk hw2 hwb; have z0 := Lib.cell_of_heap HZ.out 0; have z1 := Lib.cell_of_heap HZ.out 1; have zf0 : w2.frozen? ⟨w.heap.size, 0, none⟩ = false := Lib.frozen_of_heap HZ.out _; have zf1 : w2.frozen? ⟨w.heap.size, 1, none⟩ = false := Lib.frozen_of_heap HZ.out _))
   have hz := box_set (x := .int .u32 0) (y := .int .i64 0) HZ.out
   have hy0 := Lib.cell_of_heap hz 0
   have hy1 := Lib.cell_of_heap hz 1
   exact bodyPost_ret (v := .tuple #[.agg #[.int .u32 0, .int .i64 0], .int .i64 3]) (by simp [results, Tryz.results67, go_sem, hy0, hy1]) rfl ⟨by rw [HN.out], below_set2 HB.out _ _⟩
  | true =>
   by_cases h18 : 18 < s.length
   ·have h18' : (18 : Int) < (s.length : Int) := by omega
    clear hbad h18
    go_enter Tryz.func67, Tryz.ntmps67
    go_wp2_with (first | (go_at_call 30; refine (HC.out _).mono ?_; rintro e w1 ⟨rfl, hb⟩; replace HZ := Lib.hid ((hb.block _ (lt_of_heap HZ.out)).trans HZ.out); replace HB := Lib.hid (below_next HB.out hb); clear hb) | (go_at_call 82; refine (HSP.out _).mono ?_; rintro e w2 ⟨rfl, hw2⟩; have HZW := Lib.hid (lt_of_heap HZ.out); have hb2 := below_box w1 (.cells (ws.map strW).toArray 9); have hwk := heap_alloc_new w1 (.cells (ws.map strW).toArray 9); rw [← hw2] at hb2 hwk; have HWK := Lib.hid hwk; replace HZ := Lib.hid ((hb2.block _ (lt_of_heap HZ.out)).trans HZ.out); replace HB := Lib.hid (below_next HB.out hb2); obtain ⟨wb, hwb⟩ : ∃ wb, wb = w1.heap.size := ⟨_, rfl⟩; rw [← hwb] at HWK ⊢; have HWB : Hid (w.heap.size < wb) := Lib.hid (by rw [hwb]; exact HZW.out); clear hb2 hwk hw2 hwb; have z0 := Lib.cell_of_heap HZ.out 0; have z1 := Lib.cell_of_heap HZ.out 1; have zf0 : w2.frozen? ⟨w.heap.size, 0, none⟩ = false := Lib.frozen_of_heap HZ.out _; have zf1 : w2.frozen? ⟨w.heap.size, 1, none⟩ = false := Lib.frozen_of_heap HZ.out _))
    have hz := box_set (x := .int .u32 0) (y := .int .i64 0) HZ.out
    have hy0 := Lib.cell_of_heap hz 0
    have hy1 := Lib.cell_of_heap hz 1
    exact bodyPost_ret (v := .tuple #[.agg #[.int .u32 0, .int .i64 0], .int .i64 3]) (by simp [results, Tryz.results67, go_sem, hy0, hy1]) rfl ⟨by rw [HN.out], below_set2 HB.out _ _⟩
   ·have h18' : ¬ (18 : Int) < (s.length : Int) := by omega
    have n4 : ((ws.length : Int) != 4) = true := by
     have : ¬ ws.length = 4 := by rcases hbad with h | h | h <;> first | exact h | exact absurd h h18 | (cases h)
     rw [bne_iff_ne]; omega
    clear hbad h18
    go_enter Tryz.func67, Tryz.ntmps67
    go_wp2_with (first | (go_at_call 30; refine (HC.out _).mono ?_; rintro e w1 ⟨rfl, hb⟩; replace HZ := Lib.hid ((hb.block _ (lt_of_heap HZ.out)).trans HZ.out); replace HB := Lib.hid (below_next HB.out hb); clear hb) | (go_at_call 82; refine (HSP.out _).mono ?_; rintro e w2 ⟨rfl, hw2⟩; have HZW := Lib.hid (lt_of_heap HZ.out); have hb2 := below_box w1 (.cells (ws.map strW).toArray 9); have hwk := heap_alloc_new w1 (.cells (ws.map strW).toArray 9); rw [← hw2] at hb2 hwk; have HWK := Lib.hid hwk; replace HZ := Lib.hid ((hb2.block _ (lt_of_heap HZ.out)).trans HZ.out); replace HB := Lib.hid (below_next HB.out hb2); obtain ⟨wb, hwb⟩ : ∃ wb, wb = w1.heap.size := ⟨_, rfl⟩; rw [← hwb] at HWK ⊢; have HWB : Hid (w.heap.size < wb) := Lib.hid (by rw [hwb]; exact HZW.out); clear hb2 hwk hw2 hwb; have z0 := Lib.cell_of_heap HZ.out 0; have z1 := Lib.cell_of_heap HZ.out 1; have zf0 : w2.frozen? ⟨w.heap.size, 0, none⟩ = false := Lib.frozen_of_heap HZ.out _; have zf1 : w2.frozen? ⟨w.heap.size, 1, none⟩ = false := Lib.frozen_of_heap HZ.out _))
    have hz := box_set (x := .int .u32 0) (y := .int .i64 0) HZ.out
    have hy0 := Lib.cell_of_heap hz 0
    have hy1 := Lib.cell_of_heap hz 1
    exact bodyPost_ret (v := .tuple #[.agg #[.int .u32 0, .int .i64 0], .int .i64 3]) (by simp [results, Tryz.results67, go_sem, hy0, hy1]) rfl ⟨by rw [HN.out], below_set2 HB.out _ _⟩
 ·have hft : fnd = true := by cases fnd <;> simp at hbad ⊢
  subst hft
  have h18 : ¬ (18 : Int) < (s.length : Int) := by intro h; exact hbad (.inr (.inl (by omega)))
  have h4 : ws.length = 4 := Classical.byContradiction fun h => hbad (.inr (.inr h))
  have n4 : ((ws.length : Int) != 4) = false := by rw [h4]; rfl
  replace HV : Hid (V = match octF ws 0 with | none => none | some x => match Lib.atoiAll l with | .ok y => if ptextS x y = s then some (x, y) else none | _ => none) := Lib.hid (by rw [HV.out, if_neg hbad])
  have H4 := Lib.hid h4
  have HSL : Hid (s.length ≤ 18) := Lib.hid (by omega)
  clear hbad h4
  go_enter Tryz.func67, Tryz.ntmps67
  go_wp2_with (first | (go_at_call 30; refine (HC.out _).mono ?_; rintro e w1 ⟨rfl, hb⟩; replace HZ := Lib.hid ((hb.block _ (lt_of_heap HZ.out)).trans HZ.out); replace HB := Lib.hid (below_next HB.out hb); clear hb) | (go_at_call 82; refine (HSP.out _).mono ?_; rintro e w2 ⟨rfl, hw2⟩; have HZW := Lib.hid (lt_of_heap HZ.out); have hb2 := below_box w1 (.cells (ws.map strW).toArray 9); have hwk := heap_alloc_new w1 (.cells (ws.map strW).toArray 9); rw [← hw2] at hb2 hwk; have HWK := Lib.hid hwk; replace HZ := Lib.hid ((hb2.block _ (lt_of_heap HZ.out)).trans HZ.out); replace HB := Lib.hid (below_next HB.out hb2); obtain ⟨wb, hwb⟩ : ∃ wb, wb = w1.heap.size := ⟨_, rfl⟩; rw [← hwb] at HWK ⊢; have HWB : Hid (w.heap.size < wb) := Lib.hid (by rw [hwb]; exact HZW.out); clear hb2 hwk hw2 hwb; have z0 := Lib.cell_of_heap HZ.out 0; have z1 := Lib.cell_of_heap HZ.out 1; have zf0 : w2.frozen? ⟨w.heap.size, 0, none⟩ = false := Lib.frozen_of_heap HZ.out _; have zf1 : w2.frozen? ⟨w.heap.size, 1, none⟩ = false := Lib.frozen_of_heap HZ.out _))
  clear z0 z1 zf0 zf1
  have HQ := Lib.hid (px_box w2)
  have hb3 := below_box w2 (.cells #[.int .u32 0, .int .i64 0] 70)
  obtain ⟨qb, hqb⟩ : ∃ qb, qb = w2.heap.size := ⟨_, rfl⟩
  rw [← hqb] at HQ ⊢
  have HQB : Hid (w.heap.size < qb ∧ wb < qb) := Lib.hid ⟨by rw [hqb]; exact lt_of_heap HZ.out, by rw [hqb]; exact lt_of_heap HWK.out⟩
  replace HZ := Lib.hid ((hb3.block _ (lt_of_heap HZ.out)).trans HZ.out)
  replace HWK := Lib.hid ((hb3.block _ (lt_of_heap HWK.out)).trans HWK.out)
  replace HB := Lib.hid (below_next HB.out hb3)
  generalize w2.alloc (.cells #[.int .u32 0, .int .i64 0] 70) = w3 at *
  clear hb3 hqb
  obtain ⟨wl, hwl⟩ : ∃ wl, wl = ws.length := ⟨_, rfl⟩
  rw [← hwl] at n4 ⊢
  have hwl4 : wl = 4 := by rw [hwl]; exact H4.out
  have HWLN := Lib.hid hwl
  have HW4 := Lib.hid hwl4
  clear hwl hwl4 n4
  go_wp2_with fail
  go_loopw [38] (fun i wr => ∃ (k : Nat) (x : Int), k ≤ wl ∧ i = .int .i64 k ∧ Hid (octF (ws.drop k) x = octF ws 0 ∧ 0 ≤ x ∧ x < 4294967296) ∧ Hid (wr.heap[w.heap.size]? = some (.cells #[.int .u32 0, .int .i64 0] 70 (0, 0))) ∧ Hid (wr.heap[wb]? = some (.cells (ws.map strW).toArray 9 (0, 0))) ∧ Hid (wr.heap[qb]? = some (.cells #[.int .u32 x, .int .i64 0] 70 (0, 0))) ∧ Hid (Below w.heap.size w wr)) (fun i _ => wl - (intOf i).toNat)
  case atStart => exact ⟨0, 0, by omega, rfl, Lib.hid ⟨by simp, by omega, by omega⟩, HZ, HWK, HQ, HB⟩
  case round =>
   clear HZ HWK HQ HB
   obtain ⟨k, x, hk, rfl, HX, HZ, HWK, HQ, HB⟩ := hrel
   have hk4 : k ≤ 4 := by have := HW4.out; omega
   have z0 := Lib.cell_of_heap HZ.out 0
   have z1 := Lib.cell_of_heap HZ.out 1
   by_cases hlt : k < wl
   ·have hlt2 : (k : Int) < (wl : Int) := by omega
    obtain ⟨u, hu⟩ : ∃ u, ws[k]? = some u := ⟨_, List.getElem?_eq_getElem (by rw [← HWLN.out]; exact hlt)⟩
    have hd : ws.drop k = u :: ws.drop (k + 1) := by
     obtain ⟨h1, h2⟩ := List.getElem?_eq_some_iff.1 hu
     rw [List.drop_eq_getElem_cons h1, h2]
    have HX1 : Hid (octF (u :: ws.drop (k + 1)) x = octF ws 0) := Lib.hid (by rw [← hd]; exact HX.out.1)
    have q0 : wr.cell? ⟨wb, k, none⟩ = some (.string ⟨u.toArray⟩) := by rw [Lib.cell_of_heap HWK.out]; simp [hu, strW]
    have HUL : Hid (u.length ≤ 100000) := Lib.hid (HWL.out u (List.mem_of_getElem? hu))
    clear hu hd
    by_cases hv : ∃ v, Lib.atoiAll u = .ok v
    ·obtain ⟨n, hn⟩ := hv
     have HA := Lib.hid (fun w' => atoi_ok u n hn (by have := HUL.out; omega) w')
     by_cases hr : n < 0 ∨ 255 < n
     ·have HN : Hid (V = none) := Lib.hid (by rw [HV.out, ← HX1.out, octF_out hn hr])
      clear hn
      have HNI : Hid (n < 0 ∨ 255 < n) := Lib.hid hr
      by_cases hr1 : n < 0
      ·clear hr
       go_wp2_with (go_at_call 83; refine (HA.out _).mono ?_; rintro e w4 ⟨rfl, hb⟩; replace HZ := Lib.hid ((hb.block _ (lt_of_heap HZ.out)).trans HZ.out); replace HWK := Lib.hid ((hb.block _ (lt_of_heap HWK.out)).trans HWK.out); replace HQ := Lib.hid ((hb.block _ (lt_of_heap HQ.out)).trans HQ.out); replace HB := Lib.hid (below_next HB.out hb); clear hb; have z0 := Lib.cell_of_heap HZ.out 0; have z1 := Lib.cell_of_heap HZ.out 1; have zf0 : w4.frozen? ⟨w.heap.size, 0, none⟩ = false := Lib.frozen_of_heap HZ.out _; have zf1 : w4.frozen? ⟨w.heap.size, 1, none⟩ = false := Lib.frozen_of_heap HZ.out _; have c0 := Lib.cell_of_heap HQ.out 0; have c1 := Lib.cell_of_heap HQ.out 1; have cf0 : w4.frozen? ⟨qb, 0, none⟩ = false := Lib.frozen_of_heap HQ.out _; have cf1 : w4.frozen? ⟨qb, 1, none⟩ = false := Lib.frozen_of_heap HQ.out _)
       have hz := box_set (x := .int .u32 0) (y := .int .i64 0) HZ.out
       have hy0 := Lib.cell_of_heap hz 0
       have hy1 := Lib.cell_of_heap hz 1
       exact bodyPost_ret (v := .tuple #[.agg #[.int .u32 0, .int .i64 0], .int .i64 3]) (by simp [results, Tryz.results67, go_sem, hy0, hy1]) rfl ⟨by rw [HN.out], below_set2 HB.out _ _⟩
      ·have hr2 : 255 < n := by rcases hr with h | h <;> first | exact h | exact absurd h hr1
       clear hr
       go_wp2_with (go_at_call 83; refine (HA.out _).mono ?_; rintro e w4 ⟨rfl, hb⟩; replace HZ := Lib.hid ((hb.block _ (lt_of_heap HZ.out)).trans HZ.out); replace HWK := Lib.hid ((hb.block _ (lt_of_heap HWK.out)).trans HWK.out); replace HQ := Lib.hid ((hb.block _ (lt_of_heap HQ.out)).trans HQ.out); replace HB := Lib.hid (below_next HB.out hb); clear hb; have z0 := Lib.cell_of_heap HZ.out 0; have z1 := Lib.cell_of_heap HZ.out 1; have zf0 : w4.frozen? ⟨w.heap.size, 0, none⟩ = false := Lib.frozen_of_heap HZ.out _; have zf1 : w4.frozen? ⟨w.heap.size, 1, none⟩ = false := Lib.frozen_of_heap HZ.out _; have c0 := Lib.cell_of_heap HQ.out 0; have c1 := Lib.cell_of_heap HQ.out 1; have cf0 : w4.frozen? ⟨qb, 0, none⟩ = false := Lib.frozen_of_heap HQ.out _; have cf1 : w4.frozen? ⟨qb, 1, none⟩ = false := Lib.frozen_of_heap HQ.out _)
       have hz := box_set (x := .int .u32 0) (y := .int .i64 0) HZ.out
       have hy0 := Lib.cell_of_heap hz 0
       have hy1 := Lib.cell_of_heap hz 1
       exact bodyPost_ret (v := .tuple #[.agg #[.int .u32 0, .int .i64 0], .int .i64 3]) (by simp [results, Tryz.results67, go_sem, hy0, hy1]) rfl ⟨by rw [HN.out], below_set2 HB.out _ _⟩
     ·have hr1 : ¬ n < 0 := fun h => hr (.inl h)
      have hr2 : ¬ 255 < n := fun h => hr (.inr h)
      have HX2 : Hid (octF (ws.drop (k + 1)) (nextA x n) = octF ws 0 ∧ 0 ≤ nextA x n ∧ nextA x n < 4294967296) := Lib.hid ⟨by rw [← HX1.out, octF_go hn hr], nextA_in x n hr⟩
      obtain ⟨na, hna, hnx⟩ : ∃ na, na = nextA x n ∧ bits BinOp.or IntKind.u32 (x * 256 % 4294967296) n = na := ⟨_, rfl, rfl⟩
      rw [← hna] at HX2
      clear hr hn hna
      go_wp2_with (go_at_call 83; refine (HA.out _).mono ?_; rintro e w4 ⟨rfl, hb⟩; replace HZ := Lib.hid ((hb.block _ (lt_of_heap HZ.out)).trans HZ.out); replace HWK := Lib.hid ((hb.block _ (lt_of_heap HWK.out)).trans HWK.out); replace HQ := Lib.hid ((hb.block _ (lt_of_heap HQ.out)).trans HQ.out); replace HB := Lib.hid (below_next HB.out hb); clear hb; have z0 := Lib.cell_of_heap HZ.out 0; have z1 := Lib.cell_of_heap HZ.out 1; have zf0 : w4.frozen? ⟨w.heap.size, 0, none⟩ = false := Lib.frozen_of_heap HZ.out _; have zf1 : w4.frozen? ⟨w.heap.size, 1, none⟩ = false := Lib.frozen_of_heap HZ.out _; have c0 := Lib.cell_of_heap HQ.out 0; have c1 := Lib.cell_of_heap HQ.out 1; have cf0 : w4.frozen? ⟨qb, 0, none⟩ = false := Lib.frozen_of_heap HQ.out _; have cf1 : w4.frozen? ⟨qb, 1, none⟩ = false := Lib.frozen_of_heap HQ.out _)
      go_roundw
      case rel => exact ⟨k + 1, na, by omega, by go_num, HX2, Lib.hid ((Below.heap_setCell w4 ⟨qb, 0, none⟩ (.int .u32 na) w.heap.size (by have := HQB.out; simp; omega)).trans HZ.out), Lib.hid ((Below.heap_setCell w4 ⟨qb, 0, none⟩ (.int .u32 na) wb (by have := HQB.out; simp; omega)).trans HWK.out), Lib.hid (bx_set1 HQ.out).1, Lib.hid (HB.out.setCell (p := ⟨qb, 0, none⟩) (by have := HQB.out; simp; omega) (.int .u32 na))⟩
      case measure => simp [intOf]; omega
    ·have HN : Hid (V = none) := Lib.hid (by rw [HV.out, ← HX1.out, octF_stop (fun v h => hv ⟨v, h⟩)])
     have HA := Lib.hid (fun w' hE => atoi_bad u (fun v h => hv ⟨v, h⟩) (by have := HUL.out; omega) w' hE)
     clear hv
     go_wp2_with (go_at_call 83; refine (HA.out _ (HE.out.up HB.out)).mono ?_; rintro e w4 ⟨n, t, p, rfl, hb⟩; replace HZ := Lib.hid ((hb.block _ (lt_of_heap HZ.out)).trans HZ.out); replace HWK := Lib.hid ((hb.block _ (lt_of_heap HWK.out)).trans HWK.out); replace HQ := Lib.hid ((hb.block _ (lt_of_heap HQ.out)).trans HQ.out); replace HB := Lib.hid (below_next HB.out hb); clear hb; have z0 := Lib.cell_of_heap HZ.out 0; have z1 := Lib.cell_of_heap HZ.out 1; have zf0 : w4.frozen? ⟨w.heap.size, 0, none⟩ = false := Lib.frozen_of_heap HZ.out _; have zf1 : w4.frozen? ⟨w.heap.size, 1, none⟩ = false := Lib.frozen_of_heap HZ.out _; have c0 := Lib.cell_of_heap HQ.out 0; have c1 := Lib.cell_of_heap HQ.out 1; have cf0 : w4.frozen? ⟨qb, 0, none⟩ = false := Lib.frozen_of_heap HQ.out _; have cf1 : w4.frozen? ⟨qb, 1, none⟩ = false := Lib.frozen_of_heap HQ.out _)
     have hz := box_set (x := .int .u32 0) (y := .int .i64 0) HZ.out
     have hy0 := Lib.cell_of_heap hz 0
     have hy1 := Lib.cell_of_heap hz 1
     exact bodyPost_ret (v := .tuple #[.agg #[.int .u32 0, .int .i64 0], .int .i64 3]) (by simp [results, Tryz.results67, go_sem, hy0, hy1]) rfl ⟨by rw [HN.out], below_set2 HB.out _ _⟩
   ·obtain rfl : k = wl := by omega
    have HX3 : Hid (octF ws 0 = some x) := Lib.hid (by rw [← HX.out.1, HWLN.out, List.drop_length]; rfl)
    by_cases hv : ∃ v, Lib.atoiAll l = .ok v
    ·obtain ⟨y, hy⟩ := hv
     have HA := Lib.hid (fun w' => atoi_ok l y hy (by have := HLL.out; omega) w')
     have HV2 : Hid (V = if ptextS x y = s then some (x, y) else none) := Lib.hid (by rw [HV.out, HX3.out]; simp only [hy])
     obtain ⟨T, hT⟩ : ∃ T, T = ptextS x y := ⟨_, rfl⟩
     have HTX : Hid (∀ w', Tab w'.heap.size w' → Calls Tryz.prog 16 #[.agg #[.int .u32 x, .int .i64 y]] w' fun e w'' => e = .returned (.string ⟨T.toArray⟩) ∧ Below w'.heap.size w' w'') := Lib.hid fun w' h => by rw [hT]; exact pfx_Text x y w' h
     rw [← hT] at HV2
     clear hy hT z0 z1
     by_cases hTs : T = s
     ·have HN : Hid (V = some (x, y)) := Lib.hid (by rw [HV2.out, if_pos hTs])
      subst hTs
      go_wp2_with (first | (go_at_call 83; refine (HA.out _).mono ?_; rintro e w4 ⟨rfl, hb⟩; replace HZ := Lib.hid ((hb.block _ (lt_of_heap HZ.out)).trans HZ.out); replace HQ := Lib.hid ((hb.block _ (lt_of_heap HQ.out)).trans HQ.out); replace HB := Lib.hid (below_next HB.out hb); clear hb; have c1 := Lib.cell_of_heap HQ.out 1; have cf1 : w4.frozen? ⟨qb, 1, none⟩ = false := Lib.frozen_of_heap HQ.out _; have HZ5 := Lib.hid ((Below.heap_setCell w4 ⟨qb, 1, none⟩ (.int .i64 y) w.heap.size (by have := HQB.out; simp; omega)).trans HZ.out); have HQ5 := Lib.hid (bx_set1 (y := .int .i64 y) HQ.out).2; have HB5 := Lib.hid (HB.out.setCell (p := ⟨qb, 1, none⟩) (by have := HQB.out; simp; omega) (.int .i64 y)); have z0 := Lib.cell_of_heap HZ5.out 0; have z1 := Lib.cell_of_heap HZ5.out 1; have c0 := Lib.cell_of_heap HQ5.out 0; have c1 := Lib.cell_of_heap HQ5.out 1) | (go_at_call 16; refine (HTX.out _ (tab_up HT.out HB5.out HB5.out.size)).mono ?_; rintro e w6 ⟨rfl, hb⟩; replace HZ5 := Lib.hid ((hb.block _ (lt_of_heap HZ5.out)).trans HZ5.out); replace HQ5 := Lib.hid ((hb.block _ (lt_of_heap HQ5.out)).trans HQ5.out); replace HB5 := Lib.hid (below_next HB5.out hb); clear hb; have z0 := Lib.cell_of_heap HZ5.out 0; have z1 := Lib.cell_of_heap HZ5.out 1; have zf0 : w6.frozen? ⟨w.heap.size, 0, none⟩ = false := Lib.frozen_of_heap HZ5.out _; have zf1 : w6.frozen? ⟨w.heap.size, 1, none⟩ = false := Lib.frozen_of_heap HZ5.out _; have c0 := Lib.cell_of_heap HQ5.out 0; have c1 := Lib.cell_of_heap HQ5.out 1))
      have hz := box_set (x := .int .u32 x) (y := .int .i64 y) HZ5.out
      have hy0 := Lib.cell_of_heap hz 0
      have hy1 := Lib.cell_of_heap hz 1
      exact bodyPost_ret (v := .tuple #[.agg #[.int .u32 x, .int .i64 y], .int .i64 0]) (by simp [results, Tryz.results67, go_sem, hy0, hy1]) rfl ⟨by rw [HN.out], below_set2 HB5.out _ _⟩
     ·have HN : Hid (V = none) := Lib.hid (by rw [HV2.out, if_neg hTs])
      have hTb : (T == s) = false := by simpa using hTs
      clear hTs
      go_wp2_with (first | (go_at_call 83; refine (HA.out _).mono ?_; rintro e w4 ⟨rfl, hb⟩; replace HZ := Lib.hid ((hb.block _ (lt_of_heap HZ.out)).trans HZ.out); replace HQ := Lib.hid ((hb.block _ (lt_of_heap HQ.out)).trans HQ.out); replace HB := Lib.hid (below_next HB.out hb); clear hb; have c1 := Lib.cell_of_heap HQ.out 1; have cf1 : w4.frozen? ⟨qb, 1, none⟩ = false := Lib.frozen_of_heap HQ.out _; have HZ5 := Lib.hid ((Below.heap_setCell w4 ⟨qb, 1, none⟩ (.int .i64 y) w.heap.size (by have := HQB.out; simp; omega)).trans HZ.out); have HQ5 := Lib.hid (bx_set1 (y := .int .i64 y) HQ.out).2; have HB5 := Lib.hid (HB.out.setCell (p := ⟨qb, 1, none⟩) (by have := HQB.out; simp; omega) (.int .i64 y)); have z0 := Lib.cell_of_heap HZ5.out 0; have z1 := Lib.cell_of_heap HZ5.out 1; have c0 := Lib.cell_of_heap HQ5.out 0; have c1 := Lib.cell_of_heap HQ5.out 1) | (go_at_call 16; refine (HTX.out _ (tab_up HT.out HB5.out HB5.out.size)).mono ?_; rintro e w6 ⟨rfl, hb⟩; replace HZ5 := Lib.hid ((hb.block _ (lt_of_heap HZ5.out)).trans HZ5.out); replace HQ5 := Lib.hid ((hb.block _ (lt_of_heap HQ5.out)).trans HQ5.out); replace HB5 := Lib.hid (below_next HB5.out hb); clear hb; have z0 := Lib.cell_of_heap HZ5.out 0; have z1 := Lib.cell_of_heap HZ5.out 1; have zf0 : w6.frozen? ⟨w.heap.size, 0, none⟩ = false := Lib.frozen_of_heap HZ5.out _; have zf1 : w6.frozen? ⟨w.heap.size, 1, none⟩ = false := Lib.frozen_of_heap HZ5.out _; have c0 := Lib.cell_of_heap HQ5.out 0; have c1 := Lib.cell_of_heap HQ5.out 1))
      have hz := box_set (x := .int .u32 0) (y := .int .i64 0) HZ5.out
      have hy0 := Lib.cell_of_heap hz 0
      have hy1 := Lib.cell_of_heap hz 1
      exact bodyPost_ret (v := .tuple #[.agg #[.int .u32 0, .int .i64 0], .int .i64 3]) (by simp [results, Tryz.results67, go_sem, hy0, hy1]) rfl ⟨by rw [HN.out], below_set2 HB5.out _ _⟩
    ·have HN : Hid (V = none) := Lib.hid (by
      rw [HV.out, HX3.out]
      simp only
      split
      ·rename_i v h; exact absurd ⟨v, h⟩ hv
      ·rfl)
     have HA := Lib.hid (fun w' hE => atoi_bad l (fun v h => hv ⟨v, h⟩) (by have := HLL.out; omega) w' hE)
     clear hv z0 z1
     go_wp2_with (first | (go_at_call 83; refine (HA.out _ (HE.out.up HB.out)).mono ?_; rintro e w4 ⟨y, t, p, rfl, hb⟩; replace HZ := Lib.hid ((hb.block _ (lt_of_heap HZ.out)).trans HZ.out); replace HQ := Lib.hid ((hb.block _ (lt_of_heap HQ.out)).trans HQ.out); replace HB := Lib.hid (below_next HB.out hb); clear hb; have c1 := Lib.cell_of_heap HQ.out 1; have cf1 : w4.frozen? ⟨qb, 1, none⟩ = false := Lib.frozen_of_heap HQ.out _; have HZ5 := Lib.hid ((Below.heap_setCell w4 ⟨qb, 1, none⟩ (.int .i64 y) w.heap.size (by have := HQB.out; simp; omega)).trans HZ.out); have HQ5 := Lib.hid (bx_set1 (y := .int .i64 y) HQ.out).2; have HB5 := Lib.hid (HB.out.setCell (p := ⟨qb, 1, none⟩) (by have := HQB.out; simp; omega) (.int .i64 y)); have z0 := Lib.cell_of_heap HZ5.out 0; have z1 := Lib.cell_of_heap HZ5.out 1; have zf0 : w4.frozen? ⟨w.heap.size, 0, none⟩ = false := Lib.frozen_of_heap HZ.out _; have zf1 : w4.frozen? ⟨w.heap.size, 1, none⟩ = false := Lib.frozen_of_heap HZ.out _; have c0 := Lib.cell_of_heap HQ5.out 0; have c1 := Lib.cell_of_heap HQ5.out 1))
     have hz := box_set (x := .int .u32 0) (y := .int .i64 0) HZ5.out
     have hy0 := Lib.cell_of_heap hz 0
     have hy1 := Lib.cell_of_heap hz 1
     exact bodyPost_ret (v := .tuple #[.agg #[.int .u32 0, .int .i64 0], .int .i64 3]) (by simp [results, Tryz.results67, go_sem, hy0, hy1]) rfl ⟨by rw [HN.out], below_set2 HB5.out _ _⟩
end Go.Proofs.YtfimacgmciogmaaGreatDoor
