/-
  waypoint/prefix: Valid and Text.
-/
import Derived.Test.YtpofbhaipeiegaaGreatDoorText
import Derived.Test.YtpofbhaipeiegaaGreatDoorNum
import Derived.BigQuiet
import Derived.Lib.QuietBelow
import Derived.Laws.Shifts
namespace Go.Proofs.YtpofbhaipeiegaaGreatDoor
set_option linter.unusedSimpArgs false
set_option linter.unusedVariables false
open Go.RowKit Go.Sort Go.Shelf

/-- The number whose first n bits are 1. -/
def maskS (n : Int) : Int := IntKind.u64.wrap (4294967295 * 2 ^ (32 - n).toNat) % 4294967296
set_option maxRecDepth 100000 in
theorem pfx_mask (n : Int) (h0 : 0 ≤ n) (h1 : n ≤ 32) (w : World) : Calls Tryz.prog 106 #[.int .i64 n] w fun e w' => e = .returned (.int .u32 (maskS n)) ∧ Below w.heap.size w w' := by
  have c1 : (0 : Int) ≤ 32 - n := by omega
  go_enter Tryz.func106, Tryz.ntmps106
  go_wp2
  go_ret
  exact ⟨rfl, Below.refl _ _⟩
def pvalB (x y : Int) : Bool := decide (0 ≤ y) && (decide (y ≤ 32) && (bits BinOp.andNot IntKind.u32 x (maskS y) == 0))
theorem pbox (w : World) (x y : Int) : (w.alloc (.cells #[.int .u32 x, .int .i64 y] 90)).cell? ⟨w.heap.size, 0, none⟩ = some (.int .u32 x) ∧ (w.alloc (.cells #[.int .u32 x, .int .i64 y] 90)).cell? ⟨w.heap.size, 1, none⟩ = some (.int .i64 y) := by
  constructor <;> simp
set_option maxHeartbeats 4000000 in
set_option maxRecDepth 100000 in
theorem pfx_Valid (x y : Int) (w : World) : Calls Tryz.prog 76 #[.agg #[.int .u32 x, .int .i64 y]] w fun e w' => e = .returned (.bool (pvalB x y)) ∧ Below w.heap.size w w' := by
  obtain ⟨b0, b1⟩ := pbox w x y
  have HB := below_box w (.cells #[.int .u32 x, .int .i64 y] 90)
  by_cases h0 : 0 ≤ y
  · by_cases h1 : y ≤ 32
    · have HM := Lib.hid (fun w' => pfx_mask y h0 h1 w')
      obtain ⟨m, hm⟩ : ∃ m, m = maskS y := ⟨_, rfl⟩
      rw [← hm] at HM
      go_enter Tryz.func76, Tryz.ntmps76
      go_wp2_with fail
      have kq_b0 := cell_regrown b0
      have kq_b1 := cell_regrown b1
      refine wp_region_quiet_below (by kernel_rfl) (by kernel_rfl) ?_
      repeat (go_big_quiet_step (exact Calls.regrown_of (HM.out _)))
      refine wpQuiet_nil ?_
      intro w2 hb2
      replace hb2 := below_of_regrown hb2
      clear kq_b0 kq_b1
      replace b0 := cell_up hb2 b0
      replace b1 := cell_up hb2 b1
      go_wp2_with fail
      go_ret
      exact ⟨by simp [pvalB, h0, h1], below_next HB hb2⟩
    · have c1 : decide (y ≤ 32) = false := decide_eq_false h1
      have HN1 := Lib.hid h1
      clear h1
      go_enter Tryz.func76, Tryz.ntmps76
      go_wp2_with fail
      have kq_b0 := cell_regrown b0
      have kq_b1 := cell_regrown b1
      refine wp_region_quiet_below (by kernel_rfl) (by kernel_rfl) ?_
      repeat (go_big_quiet_step (fail))
      refine wpQuiet_nil ?_
      intro w2 hb2
      replace hb2 := below_of_regrown hb2
      clear kq_b0 kq_b1
      replace b0 := cell_up hb2 b0
      replace b1 := cell_up hb2 b1
      go_wp2_with fail
      go_ret
      exact ⟨by rw [pvalB, decide_eq_false (show ¬ y ≤ 32 by have := HN1.out; omega)]; simp, below_next HB hb2⟩
  · have c0 : decide (0 ≤ y) = false := decide_eq_false h0
    have HN0 := Lib.hid h0
    clear h0
    go_enter Tryz.func76, Tryz.ntmps76
    go_wp2_with fail
    have kq_b0 := cell_regrown b0
    have kq_b1 := cell_regrown b1
    refine wp_region_quiet_below (by kernel_rfl) (by kernel_rfl) ?_
    repeat (go_big_quiet_step (fail))
    refine wpQuiet_nil ?_
    intro w2 hb2
    replace hb2 := below_of_regrown hb2
    clear kq_b0 kq_b1
    replace b0 := cell_up hb2 b0
    replace b1 := cell_up hb2 b1
    go_wp2_with fail
    go_ret
    exact ⟨by rw [pvalB, decide_eq_false (show ¬ 0 ≤ y by have := HN0.out; omega)]; simp, below_next HB hb2⟩

def octA (x : Int) (i : Nat) : Int := if i = 0 then x / 16777216 else if i = 1 then x / 65536 else if i = 2 then x / 256 else x
def octV (x : Int) (i : Nat) : Int := wrap64 (bits BinOp.and IntKind.u32 (octA x i) 255)
def octP (x : Int) (i : Nat) : List UInt8 := (if i = 0 then [] else [46]) ++ Lib.itoa (octV x i)
def octK (x : Int) (k : Nat) : List UInt8 := (List.range k).flatMap (octP x)
def ptextS (x y : Int) : List UInt8 := if pvalB x y = true then octK x 4 ++ 47 :: Lib.itoa y else []
theorem octK_succ (x : Int) (k : Nat) : octK x (k + 1) = octK x k ++ octP x k := by simp [octK, List.range_succ]
theorem wrap_in (v : Int) : -9223372036854775808 ≤ wrap64 v ∧ wrap64 v ≤ 9223372036854775807 := by unfold wrap64; omega
theorem octV_in (x : Int) (i : Nat) : -9223372036854775808 ≤ octV x i ∧ octV x i ≤ 9223372036854775807 := by
  unfold octV
  exact wrap_in _
theorem octP_len (x : Int) (i : Nat) : (octP x i).length ≤ 22 := by
  have h := Lib.itoa_length_le (octV x i) (octV_in x i).1 (octV_in x i).2
  rw [octP, List.length_append]
  generalize (Lib.itoa (octV x i)).length = n at *
  split <;> simp only [List.length_nil, List.length_cons] <;> omega
theorem octK_len (x : Int) : ∀ k, (octK x k).length ≤ 22 * k
  | 0 => by simp [octK]
  | k + 1 => by
    have h1 := octK_len x k
    have h2 := octP_len x k
    rw [octK_succ, List.length_append]
    generalize (octK x k).length = a at *
    generalize (octP x k).length = b at *
    omega
theorem shr_0 (x : Int) : (Op.shift .shr .u32 x .i64 24 : Sem Value) = pure (.int .u32 (octA x 0)) := by
  rw [show octA x 0 = x / 16777216 by simp [octA]]
  simp [go_sem]
theorem shr_1 (x : Int) : (Op.shift .shr .u32 x .i64 16 : Sem Value) = pure (.int .u32 (octA x 1)) := by
  rw [show octA x 1 = x / 65536 by simp [octA]]
  simp [go_sem]
theorem shr_2 (x : Int) : (Op.shift .shr .u32 x .i64 8 : Sem Value) = pure (.int .u32 (octA x 2)) := by
  rw [show octA x 2 = x / 256 by simp [octA]]
  simp [go_sem]
theorem shr_3 (x : Int) : (Op.shift .shr .u32 x .i64 0 : Sem Value) = pure (.int .u32 (octA x 3)) := by
  rw [show octA x 3 = x by simp [octA]]
  simp [go_sem]
theorem oct_of (x : Int) (k : Nat) {y : Int} (hs : (Op.shift .shr .u32 x .i64 y : Sem Value) = pure (.int .u32 (octA x k))) : ∃ a b' v, (Op.shift .shr .u32 x .i64 y : Sem Value) = pure (.int .u32 a) ∧ bits BinOp.and IntKind.u32 a 255 = b' ∧ wrap64 b' = v ∧ (-9223372036854775808 ≤ v ∧ v ≤ 9223372036854775807) ∧ octK x (k + 1) = octK x k ++ ((if k = 0 then [] else [46]) ++ Lib.itoa v) :=
  ⟨octA x k, _, octV x k, hs, rfl, by rw [octV], octV_in x k, octK_succ x k⟩
set_option maxHeartbeats 4000000 in
set_option maxRecDepth 100000 in
theorem pfx_Text (x y : Int) (w : World) (ht : Tab w.heap.size w) : Calls Tryz.prog 49 #[.agg #[.int .u32 x, .int .i64 y]] w fun e w' => e = .returned (.string ⟨(ptextS x y).toArray⟩) ∧ Below w.heap.size w w' := by
  obtain ⟨b0, b1⟩ := pbox w x y
  have HB := below_box w (.cells #[.int .u32 x, .int .i64 y] 90)
  cases hv : pvalB x y with
  | false =>
    have HR : Hid (ptextS x y = []) := Lib.hid (by simp [ptextS, hv])
    have HV := Lib.hid (fun w' => pfx_Valid x y w')
    rw [hv] at HV
    go_enter Tryz.func49, Tryz.ntmps49
    go_wp2_with (go_at_call 76; refine (HV.out _).mono ?_; rintro e w1 ⟨rfl, hb1⟩)
    go_ret
    exact ⟨by rw [HR.out]; rfl, below_next HB hb1⟩
  | true =>
    have HR : Hid (ptextS x y = octK x 4 ++ 47 :: Lib.itoa y) := Lib.hid (by simp [ptextS, hv])
    have HV := Lib.hid (fun w' => pfx_Valid x y w')
    rw [hv] at HV
    go_enter Tryz.func49, Tryz.ntmps49
    go_wp2_with (go_at_call 76; refine (HV.out _).mono ?_; rintro e w1 ⟨rfl, hb1⟩)
    have HB1 := below_next HB hb1
    have d0 := cell_up hb1 b0
    have d1 := cell_up hb1 b1
    clear b0 b1 HB hb1
    have ht1 := tab_up ht HB1 HB1.size
    have hy : -9223372036854775808 ≤ y ∧ y ≤ 9223372036854775807 := by
      have h := hv
      unfold pvalB at h
      simp at h
      omega
    have HYI := Lib.hid hy
    clear hy hv HV
    have HBX := Lib.fresh_isBuilder 48 5 w1
    have hbb := below_box w1 (.cells #[.pointer none, .slice none 0 0] 48)
    obtain ⟨w2, hw2⟩ : ∃ w2, w2 = w1.alloc (.cells #[.pointer none, .slice none 0 0] 48) := ⟨_, rfl⟩
    rw [← hw2] at HBX hbb ⊢
    have HX0 := Lib.hid HBX
    have HB2 := Lib.hid hbb
    clear HBX hw2
    go_loopw [8] (fun i wr => ∃ k : Nat, k ≤ 4 ∧ i = .int .i64 k ∧ Hid (Lib.IsBuilder 48 5 w1.heap.size w1.heap.size (Lib.byteCells (octK x k)) wr) ∧ Hid (Below w1.heap.size w1 wr)) (fun i _ => 4 - (intOf i).toNat)
    case atStart => exact ⟨0, by omega, rfl, HX0, HB2⟩
    case round =>
      clear HX0 HB2 hbb
      obtain ⟨k, hk, rfl, HX, HBW⟩ := hrel
      have hsz := HBW.out.size
      have q0 := cell_up HBW.out d0
      have q1 := cell_up HBW.out d1
      have hxl : (octK x k).length ≤ 22 * k := octK_len x k
      have HXL := Lib.hid hxl
      clear hxl
      by_cases hlt : k < 4
      · have hk4 : (k : Int) < 4 := by omega
        rcases (by omega : k = 0 ∨ k = 1 ∨ k = 2 ∨ k = 3) with rfl | rfl | rfl | rfl
        · obtain ⟨a, b', v, ha, hb', hv, hov, hop⟩ := oct_of x 0 (shr_0 x)
          have HOV := Lib.hid hop
          have HIN := Lib.hid hov
          clear hop hov hk
          go_wp2_with fail
          refine (strconv_Itoa v HIN.out.1 HIN.out.2 w1.heap.size _ (ht1.on HBW.out)).mono ?_
          rintro e w4 ⟨rfl, hb4⟩
          go_wp2_with fail
          refine (builder_WriteString w1.heap.size w1.heap.size _ _ _ (IsBuilder.up HX.out hb4) (by rw [Lib.byteCells_length]; have := HXL.out; have hil := Lib.itoa_length_le v HIN.out.1 HIN.out.2; simp only [ByteArray.size, List.size_toArray, List.length_append, List.length_cons, List.length_nil]; omega) (by have := hb4.size; omega)).mono ?_
          rintro e w5 ⟨rfl, h5, hb5, _⟩
          rw [bc_str] at h5
          go_wp2_with fail
          go_roundw
          case rel => exact ⟨0 + 1, by omega, by go_num, Lib.hid (by rw [HOV.out]; simpa [strB] using h5), Lib.hid ((HBW.out.trans (hb4.mono hsz)).trans hb5)⟩
          case measure => simp [intOf]
        · obtain ⟨a, b', v, ha, hb', hv, hov, hop⟩ := oct_of x 1 (shr_1 x)
          have HOV := Lib.hid hop
          have HIN := Lib.hid hov
          clear hop hov hk
          go_wp2_with fail
          refine (builder_WriteByte w1.heap.size w1.heap.size _ 46 _ HX.out (by rw [Lib.byteCells_length]; have := HXL.out; omega) hsz).mono ?_
          rintro e w3 ⟨rfl, h3, hb3, _⟩
          rw [show (46 : Int) = ((46 : UInt8).toNat : Int) from rfl, bc_one] at h3
          have q0 := cell_up (HBW.out.trans hb3) d0
          have hsz3 := (HBW.out.trans hb3).size
          go_wp2_with fail
          refine (strconv_Itoa v HIN.out.1 HIN.out.2 w1.heap.size _ (ht1.on (HBW.out.trans hb3))).mono ?_
          rintro e w4 ⟨rfl, hb4⟩
          go_wp2_with fail
          refine (builder_WriteString w1.heap.size w1.heap.size _ _ _ (IsBuilder.up h3 hb4) (by rw [Lib.byteCells_length]; have := HXL.out; have hil := Lib.itoa_length_le v HIN.out.1 HIN.out.2; simp only [ByteArray.size, List.size_toArray, List.length_append, List.length_cons, List.length_nil]; omega) (by have := hb4.size; omega)).mono ?_
          rintro e w5 ⟨rfl, h5, hb5, _⟩
          rw [bc_str] at h5
          go_wp2_with fail
          go_roundw
          case rel => exact ⟨1 + 1, by omega, by go_num, Lib.hid (by rw [HOV.out]; simpa [strB] using h5), Lib.hid (((HBW.out.trans hb3).trans (hb4.mono hsz3)).trans hb5)⟩
          case measure => simp [intOf]
        · obtain ⟨a, b', v, ha, hb', hv, hov, hop⟩ := oct_of x 2 (shr_2 x)
          have HOV := Lib.hid hop
          have HIN := Lib.hid hov
          clear hop hov hk
          go_wp2_with fail
          refine (builder_WriteByte w1.heap.size w1.heap.size _ 46 _ HX.out (by rw [Lib.byteCells_length]; have := HXL.out; omega) hsz).mono ?_
          rintro e w3 ⟨rfl, h3, hb3, _⟩
          rw [show (46 : Int) = ((46 : UInt8).toNat : Int) from rfl, bc_one] at h3
          have q0 := cell_up (HBW.out.trans hb3) d0
          have hsz3 := (HBW.out.trans hb3).size
          go_wp2_with fail
          refine (strconv_Itoa v HIN.out.1 HIN.out.2 w1.heap.size _ (ht1.on (HBW.out.trans hb3))).mono ?_
          rintro e w4 ⟨rfl, hb4⟩
          go_wp2_with fail
          refine (builder_WriteString w1.heap.size w1.heap.size _ _ _ (IsBuilder.up h3 hb4) (by rw [Lib.byteCells_length]; have := HXL.out; have hil := Lib.itoa_length_le v HIN.out.1 HIN.out.2; simp only [ByteArray.size, List.size_toArray, List.length_append, List.length_cons, List.length_nil]; omega) (by have := hb4.size; omega)).mono ?_
          rintro e w5 ⟨rfl, h5, hb5, _⟩
          rw [bc_str] at h5
          go_wp2_with fail
          go_roundw
          case rel => exact ⟨2 + 1, by omega, by go_num, Lib.hid (by rw [HOV.out]; simpa [strB] using h5), Lib.hid (((HBW.out.trans hb3).trans (hb4.mono hsz3)).trans hb5)⟩
          case measure => simp [intOf]
        · obtain ⟨a, b', v, ha, hb', hv, hov, hop⟩ := oct_of x 3 (shr_3 x)
          have HOV := Lib.hid hop
          have HIN := Lib.hid hov
          clear hop hov hk
          go_wp2_with fail
          refine (builder_WriteByte w1.heap.size w1.heap.size _ 46 _ HX.out (by rw [Lib.byteCells_length]; have := HXL.out; omega) hsz).mono ?_
          rintro e w3 ⟨rfl, h3, hb3, _⟩
          rw [show (46 : Int) = ((46 : UInt8).toNat : Int) from rfl, bc_one] at h3
          have q0 := cell_up (HBW.out.trans hb3) d0
          have hsz3 := (HBW.out.trans hb3).size
          go_wp2_with fail
          refine (strconv_Itoa v HIN.out.1 HIN.out.2 w1.heap.size _ (ht1.on (HBW.out.trans hb3))).mono ?_
          rintro e w4 ⟨rfl, hb4⟩
          go_wp2_with fail
          refine (builder_WriteString w1.heap.size w1.heap.size _ _ _ (IsBuilder.up h3 hb4) (by rw [Lib.byteCells_length]; have := HXL.out; have hil := Lib.itoa_length_le v HIN.out.1 HIN.out.2; simp only [ByteArray.size, List.size_toArray, List.length_append, List.length_cons, List.length_nil]; omega) (by have := hb4.size; omega)).mono ?_
          rintro e w5 ⟨rfl, h5, hb5, _⟩
          rw [bc_str] at h5
          go_wp2_with fail
          go_roundw
          case rel => exact ⟨3 + 1, by omega, by go_num, Lib.hid (by rw [HOV.out]; simpa [strB] using h5), Lib.hid (((HBW.out.trans hb3).trans (hb4.mono hsz3)).trans hb5)⟩
          case measure => simp [intOf]
      · obtain rfl : k = 4 := by omega
        go_wp2_with fail
        refine (builder_WriteByte w1.heap.size w1.heap.size _ 47 _ HX.out (by rw [Lib.byteCells_length]; have := HXL.out; omega) hsz).mono ?_
        rintro e w3 ⟨rfl, h3, hb3, _⟩
        rw [show (47 : Int) = ((47 : UInt8).toNat : Int) from rfl, bc_one] at h3
        have q1 := cell_up (HBW.out.trans hb3) d1
        have hsz3 := (HBW.out.trans hb3).size
        have hil := Lib.itoa_length_le y HYI.out.1 HYI.out.2
        go_wp2_with fail
        refine (strconv_Itoa y HYI.out.1 HYI.out.2 w1.heap.size _ (ht1.on (HBW.out.trans hb3))).mono ?_
        rintro e w4 ⟨rfl, hb4⟩
        go_wp2_with fail
        refine (builder_WriteString w1.heap.size w1.heap.size _ _ _ (IsBuilder.up h3 hb4) (by rw [Lib.byteCells_length]; have := HXL.out; simp only [ByteArray.size, List.size_toArray, List.length_append, List.length_cons, List.length_nil]; omega) (by have := hb4.size; omega)).mono ?_
        rintro e w5 ⟨rfl, h5, hb5, _⟩
        rw [bc_str] at h5
        have hb6 := ((HBW.out.trans hb3).trans (hb4.mono hsz3)).trans hb5
        go_wp2_with fail
        refine (Tryz.Builder_String_any w1.heap.size w1.heap.size _ _ h5 hb6.size).mono ?_
        rintro e w6 ⟨rfl, hb7⟩
        go_wp2_with fail
        go_ret
        exact ⟨by rw [HR.out]; simp [strB], below_next HB1 (hb6.trans hb7)⟩

end Go.Proofs.YtpofbhaipeiegaaGreatDoor
