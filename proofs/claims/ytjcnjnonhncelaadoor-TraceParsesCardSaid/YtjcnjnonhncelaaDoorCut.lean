/-
  strings.Cut at a space: what it returns.
-/
import Derived.Test.YtjcnjnonhncelaaDoorShelf
import Derived.Test.YtjcnjnonhncelaaDoorOut
import Derived.Test.YtjcnjnonhncelaaDoorNum
import Derived.Laws.DeepStrings4
namespace Go.Proofs.YtjcnjnonhncelaaDoor
open Go.RowKit Go.Sort

theorem extract_hit (x y : List UInt8) : (⟨(x ++ 32 :: y).toArray⟩ : ByteArray).extract 0 x.length = ⟨x.toArray⟩ := by
  apply ByteArray.ext
  simp [ByteArray.data_extract]
theorem extract_rest (x y : List UInt8) : (⟨(x ++ 32 :: y).toArray⟩ : ByteArray).extract (x.length + 1) (x ++ 32 :: y).length = ⟨y.toArray⟩ := by
  apply ByteArray.ext
  simp [ByteArray.data_extract]
  rw [List.take_of_length_le (by omega)]

set_option maxHeartbeats 1000000 in
set_option maxRecDepth 100000 in
theorem lite_cut_hit (x y : List UInt8) (hx : (32 : UInt8) ∉ x) (hl : x.length + y.length ≤ 1000000) (w : World) :
    Calls Tryd.prog 123 #[.string ⟨(x ++ 32 :: y).toArray⟩, .string ⟨#[32]⟩] w fun e w' => e = .returned (.tuple #[.string ⟨x.toArray⟩, .string ⟨y.toArray⟩, .bool true]) ∧ Below w.heap.size w w' := by
  obtain ⟨s, hs⟩ : ∃ s, s = x ++ 32 :: y := ⟨_, rfl⟩
  have hi : Lib.indexByte s 32 = (x.length : Int) := by rw [hs]; exact indexByte_at hx
  have hsl : s.length = x.length + 1 + y.length := by rw [hs]; simp; omega
  have E1 := Lib.hid (extract_hit x y)
  have E2 := Lib.hid (extract_rest x y)
  rw [← hs] at E1 E2 ⊢
  have HI : Hid (∀ w', Calls Tryd.prog 96 #[.string ⟨s.toArray⟩, .string ⟨#[32]⟩] w' fun e w'' => e = .returned (.int .i64 (x.length : Int)) ∧ w'' = w') := Lib.hid fun w' => by
    have h := Tryd.stringslite_Index_one ⟨s.toArray⟩ 32 w'
    rw [show (⟨s.toArray⟩ : ByteArray).data.toList = s by simp, hi] at h
    exact h
  have h1 : (x.length : Int) ≤ (s.length : Int) := by omega
  have h2 : (x.length : Int) + 1 ≤ (s.length : Int) := by omega
  have HSL := Lib.hid hsl
  clear hs hi hx hsl
  go_enter Tryd.func123, Tryd.ntmps123
  go_wp2_with (go_at_call 96; refine (HI.out _).mono ?_; rintro e w1 ⟨rfl, rfl⟩)
  go_quiet (fail)
  go_wp2_with fail
  refine bodyPost_ret (results_tmp3 (t := 4) (u := 5) (v := 6) rfl _ _ _) rfl ⟨?_, below_drw (Below.refl _ _) _⟩
  show Ending.returned (.tuple #[.string ((⟨s.toArray⟩ : ByteArray).extract 0 x.length), .string ((⟨s.toArray⟩ : ByteArray).extract (x.length + 1) s.length), .bool true]) = _
  rw [E1.out, E2.out]

set_option maxHeartbeats 1000000 in
set_option maxRecDepth 100000 in
theorem lite_cut_miss (s : List UInt8) (hx : (32 : UInt8) ∉ s) (w : World) :
    Calls Tryd.prog 123 #[.string ⟨s.toArray⟩, .string ⟨#[32]⟩] w fun e w' => e = .returned (.tuple #[.string ⟨s.toArray⟩, .string ⟨#[]⟩, .bool false]) ∧ Below w.heap.size w w' := by
  have hi : Lib.indexByte s 32 = -1 := indexByte_none hx
  have HI : Hid (∀ w', Calls Tryd.prog 96 #[.string ⟨s.toArray⟩, .string ⟨#[32]⟩] w' fun e w'' => e = .returned (.int .i64 (-1)) ∧ w'' = w') := Lib.hid fun w' => by
    have h := Tryd.stringslite_Index_one ⟨s.toArray⟩ 32 w'
    rw [show (⟨s.toArray⟩ : ByteArray).data.toList = s by simp, hi] at h
    exact h
  clear hi hx
  go_enter Tryd.func123, Tryd.ntmps123
  go_wp2_with (go_at_call 96; refine (HI.out _).mono ?_; rintro e w1 ⟨rfl, rfl⟩)
  exact bodyPost_ret (results_tmp3 (t := 4) (u := 5) (v := 6) rfl _ _ _) rfl ⟨rfl, Below.refl _ _⟩

theorem strings_cut_hit (x y : List UInt8) (hx : (32 : UInt8) ∉ x) (hl : x.length + y.length ≤ 1000000) (w : World) :
    Calls Tryd.prog 99 #[.string ⟨(x ++ 32 :: y).toArray⟩, .string ⟨#[32]⟩] w fun e w' => e = .returned (.tuple #[.string ⟨x.toArray⟩, .string ⟨y.toArray⟩, .bool true]) ∧ Below w.heap.size w w' := by
  have HC := Lib.hid (lite_cut_hit x y hx hl)
  generalize x ++ 32 :: y = s at *
  go_enter Tryd.func99, Tryd.ntmps99
  go_wp2_with (go_at_call 123; refine (HC.out _).mono ?_; rintro e w1 ⟨rfl, hb⟩)
  exact bodyPost_ret (results_tmp3 (t := 4) (u := 5) (v := 6) rfl _ _ _) rfl ⟨rfl, hb⟩
theorem strings_cut_miss (s : List UInt8) (hx : (32 : UInt8) ∉ s) (w : World) :
    Calls Tryd.prog 99 #[.string ⟨s.toArray⟩, .string ⟨#[32]⟩] w fun e w' => e = .returned (.tuple #[.string ⟨s.toArray⟩, .string ⟨#[]⟩, .bool false]) ∧ Below w.heap.size w w' := by
  have HC := Lib.hid (lite_cut_miss s hx)
  go_enter Tryd.func99, Tryd.ntmps99
  go_wp2_with (go_at_call 123; refine (HC.out _).mono ?_; rintro e w1 ⟨rfl, hb⟩)
  exact bodyPost_ret (results_tmp3 (t := 4) (u := 5) (v := 6) rfl _ _ _) rfl ⟨rfl, hb⟩

end Go.Proofs.YtjcnjnonhncelaaDoor
