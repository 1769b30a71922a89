/-
  strings.Cut and strings.Split at a separator of one byte.
-/
import Derived.Test.YtpofbhaipeiegaaGreatDoorShelf
import Derived.Test.YtpofbhaipeiegaaGreatDoorSplit
import Derived.Shelf.Strings.SplitCore
namespace Go.Proofs.YtpofbhaipeiegaaGreatDoor
set_option linter.unusedSimpArgs false
set_option linter.unusedVariables false
open Go.RowKit Go.Sort

/-- What stands ahead of a byte, what stands behind it, and whether it is there. -/
def cutA (c : UInt8) : List UInt8 → List UInt8 × List UInt8 × Bool
  | [] => ([], [], false)
  | x :: r => if x = c then ([], r, true) else (x :: (cutA c r).1, (cutA c r).2.1, (cutA c r).2.2)
theorem cutA_miss {c : UInt8} : ∀ {s : List UInt8}, c ∉ s → cutA c s = (s, [], false)
  | [], _ => rfl
  | x :: r, h => by
    have h1 : ¬ x = c := fun e => h (by simp [e])
    have h2 : c ∉ r := fun e => h (by simp [e])
    rw [cutA, if_neg h1, cutA_miss h2]
theorem cutA_hit {c : UInt8} {y : List UInt8} : ∀ {x : List UInt8}, c ∉ x → cutA c (x ++ c :: y) = (x, y, true)
  | [], _ => by simp [cutA]
  | a :: r, h => by
    have h1 : ¬ a = c := fun e => h (by simp [e])
    have h2 : c ∉ r := fun e => h (by simp [e])
    rw [List.cons_append, cutA, if_neg h1, cutA_hit h2]
theorem cutA_len (c : UInt8) : ∀ s, (cutA c s).1.length ≤ s.length
  | [] => Nat.le_refl _
  | x :: r => by
    have := cutA_len c r
    unfold cutA
    split
    · simp
    · simp; omega
theorem cutA_len2 (c : UInt8) : ∀ s, (cutA c s).2.1.length ≤ s.length
  | [] => Nat.le_refl _
  | x :: r => by
    have := cutA_len2 c r
    unfold cutA
    split
    · simp
    · simp; omega
theorem ext_rest (x y : List UInt8) (c : UInt8) : (⟨(x ++ c :: y).toArray⟩ : ByteArray).extract (x.length + 1) (x ++ c :: y).length = ⟨y.toArray⟩ := by
  apply ByteArray.ext
  simp [ByteArray.data_extract]
  rw [show x.length + (y.length + 1) - (x.length + 1) = y.length by omega, List.take_length]

set_option maxHeartbeats 2000000 in
set_option maxRecDepth 100000 in
theorem slite_Cut1 (c : UInt8) (s : List UInt8) (hs : s.length ≤ 1000000) (w : World) :
    Calls Tryz.prog 86 #[.string ⟨s.toArray⟩, .string ⟨#[c]⟩] w fun e w' => e = .returned (.tuple #[.string ⟨(cutA c s).1.toArray⟩, .string ⟨(cutA c s).2.1.toArray⟩, .bool (cutA c s).2.2]) ∧ Below w.heap.size w w' := by
  by_cases hc : c ∈ s
  · obtain ⟨x, y, rfl, hx⟩ := indexByte_some hc
    rw [cutA_hit hx]
    have HI : Hid (∀ w', Calls Tryz.prog 103 #[.string ⟨(x ++ c :: y).toArray⟩, .string ⟨#[c]⟩] w' fun e w'' => e = .returned (.int .i64 (x.length : Int)) ∧ w'' = w') := Lib.hid fun w' => by
      have h := Tryz.stringslite_Index_one ⟨(x ++ c :: y).toArray⟩ c w'
      rw [show (⟨(x ++ c :: y).toArray⟩ : ByteArray).data.toList = x ++ c :: y by simp, indexByte_at hx] at h
      exact h
    have E1 := ext_front x (c :: y)
    have E2 := ext_rest x y c
    obtain ⟨l, hl⟩ : ∃ l, l = x ++ c :: y := ⟨_, rfl⟩
    have hll : x.length + 1 ≤ l.length := by rw [hl]; simp
    rw [← hl] at HI E1 E2 hs ⊢
    have h1 : (x.length : Int) ≤ (l.length : Int) := by omega
    have h2 : (x.length : Int) + 1 ≤ (l.length : Int) := by omega
    clear hl hc hx hll
    go_enter Tryz.func86, Tryz.ntmps86
    go_wp2_with (go_at_call 103; refine (HI.out _).mono ?_; rintro e w1 ⟨rfl, rfl⟩)
    go_region
    go_wp2
    go_ret3
    exact ⟨rfl, ⟨rfl, rfl, rfl, Nat.le_refl _, fun _ _ => rfl⟩⟩
  · rw [cutA_miss hc]
    have HI : Hid (∀ w', Calls Tryz.prog 103 #[.string ⟨s.toArray⟩, .string ⟨#[c]⟩] w' fun e w'' => e = .returned (.int .i64 (-1)) ∧ w'' = w') := Lib.hid fun w' => by
      have h := Tryz.stringslite_Index_one ⟨s.toArray⟩ c w'
      rw [show (⟨s.toArray⟩ : ByteArray).data.toList = s by simp, indexByte_none hc] at h
      exact h
    clear hc
    go_enter Tryz.func86, Tryz.ntmps86
    go_wp2_with (go_at_call 103; refine (HI.out _).mono ?_; rintro e w1 ⟨rfl, rfl⟩)
    go_ret3
    exact ⟨rfl, Below.refl _ _⟩
set_option maxHeartbeats 2000000 in
set_option maxRecDepth 100000 in
theorem strings_Cut1 (c : UInt8) (s : List UInt8) (hs : s.length ≤ 1000000) (w : World) :
    Calls Tryz.prog 53 #[.string ⟨s.toArray⟩, .string ⟨#[c]⟩] w fun e w' => e = .returned (.tuple #[.string ⟨(cutA c s).1.toArray⟩, .string ⟨(cutA c s).2.1.toArray⟩, .bool (cutA c s).2.2]) ∧ Below w.heap.size w w' := by
  have HC := Lib.hid (slite_Cut1 c s hs w)
  generalize (cutA c s).1 = a at *
  generalize (cutA c s).2.1 = b at *
  generalize (cutA c s).2.2 = d at *
  go_enter Tryz.func53, Tryz.ntmps53
  go_wp2_with (go_at_call 86; refine HC.out.mono ?_; rintro e w1 ⟨rfl, hb⟩)
  have HB := Lib.hid hb
  go_ret3
  exact ⟨rfl, HB.out⟩
theorem splitB_one (c : UInt8) : ∀ (n : Nat) (s : List UInt8), s.length ≤ n → Lib.splitB ⟨#[c]⟩ 0 (Lib.countB ⟨s.toArray⟩ ⟨#[c]⟩) ⟨s.toArray⟩ = (splitK c [] s).map fun l => (⟨l.toArray⟩ : ByteArray) := by
  intro n
  induction n with
  | zero =>
    intro s hs
    obtain rfl : s = [] := List.eq_nil_of_length_eq_zero (by omega)
    rw [Lib.splitB_miss _ _ _ _ (by show Lib.index _ _ = _; rw [Lib.index_one]; rfl)]
    rfl
  | succ n ih =>
    intro s hs
    by_cases hc : c ∈ s
    · obtain ⟨x, y, rfl, hx⟩ := indexByte_some hc
      have hi : Lib.indexB (⟨(x ++ c :: y).toArray⟩ : ByteArray) ⟨#[c]⟩ = (x.length : Int) := by
        show Lib.index _ _ = _
        rw [Lib.index_one]
        simpa using indexByte_at (y := y) hx
      have h2 : (⟨(x ++ c :: y).toArray⟩ : ByteArray).extract (x.length + 1) (⟨(x ++ c :: y).toArray⟩ : ByteArray).size = ⟨y.toArray⟩ := by
        have := ext_rest x y c
        simpa [ByteArray.size] using this
      rw [Lib.countB_hit _ _ x.length (by simp [ByteArray.size]) hi, Nat.add_comm 1, Lib.splitB_hit _ _ _ _ _ hi, splitK_hit hx]
      rw [show (⟨#[c]⟩ : ByteArray).size = 1 from rfl, h2, ih y (by simp at hs; omega), Nat.add_zero, ext_front]
      simp
    · have hi : Lib.indexB (⟨s.toArray⟩ : ByteArray) ⟨#[c]⟩ = -1 := by
        show Lib.index _ _ = _
        rw [Lib.index_one]
        simpa using indexByte_none hc
      rw [Lib.splitB_miss _ _ _ _ hi, splitK_miss hc]
      rfl

set_option maxHeartbeats 2000000 in
set_option maxRecDepth 100000 in
theorem strings_Split1 (c : UInt8) (s : List UInt8) (hs : s.length ≤ 1000000) (w : World) :
    Calls Tryz.prog 12 #[.string ⟨s.toArray⟩, .string ⟨#[c]⟩] w fun e w' => e = .returned (.slice (some ⟨w.heap.size, 0, none⟩) (splitK c [] s).length (splitK c [] s).length) ∧ w' = w.alloc (.cells ((splitK c [] s).map fun l => Value.string ⟨l.toArray⟩).toArray 9) := by
  have hss : (⟨s.toArray⟩ : ByteArray).size = s.length := by simp [ByteArray.size]
  have h1 : 1 ≤ (⟨#[c]⟩ : ByteArray).size := by simp [ByteArray.size]
  have hle := Lib.countB_le ⟨#[c]⟩ h1 _ (⟨s.toArray⟩ : ByteArray) (Nat.le_refl _)
  have hlen := Lib.splitB_all ⟨#[c]⟩ h1 0 _ (⟨s.toArray⟩ : ByteArray) rfl
  have hb := splitB_one c _ s (Nat.le_refl _)
  have C := Any.strings_genSplit_core Tryz.lays221 (by kernel_rfl) ⟨s.toArray⟩ ⟨#[c]⟩ 0 (-1) (Lib.countB ⟨s.toArray⟩ ⟨#[c]⟩ + 1) w (by omega) h1 (Nat.zero_le _)
    (fun x cs _ => (Tryz.strings_Index_one x c _).mono fun e w' h => ⟨by rw [h.1]; show _ = Ending.returned (Value.int .i64 (Lib.index x.data.toList [c])); rw [Lib.index_one], h.2⟩)
    ((Tryz.strings_Count_one ⟨s.toArray⟩ c w).mono fun e w' h => ⟨by rw [h.1]; show _ = Ending.returned (Value.int .i64 ((Lib.count s [c] : Nat) : Int)); rw [Lib.count_one]; rfl, h.2⟩)
    (by decide) (by decide) (by rw [if_pos (by decide)]; omega)
  rw [Nat.add_sub_cancel] at C
  have e2 : Lib.cellsOf (Lib.splitB ⟨#[c]⟩ 0 (Lib.countB ⟨s.toArray⟩ ⟨#[c]⟩) ⟨s.toArray⟩) (Lib.countB ⟨s.toArray⟩ ⟨#[c]⟩ + 1) = ((Lib.splitB ⟨#[c]⟩ 0 (Lib.countB ⟨s.toArray⟩ ⟨#[c]⟩) ⟨s.toArray⟩).map Value.string).toArray := by rw [← hlen]; exact Lib.cellsOf_full _
  have e3 : Lib.countB ⟨s.toArray⟩ ⟨#[c]⟩ + 1 = (splitK c [] s).length := by rw [← hlen, hb, List.length_map]
  rw [e2, hlen, e3, hb, List.map_map] at C
  have HC := Lib.hid C
  clear C
  generalize (splitK c [] s).length = n at *
  clear e2 e3 hlen hle h1 hss hb
  go_enter Tryz.func12, Tryz.ntmps12
  go_wp2_with (go_at_call 28; refine HC.out.mono ?_; rintro e w1 ⟨rfl, rfl⟩)
  go_ret
  exact ⟨rfl, rfl⟩

end Go.Proofs.YtpofbhaipeiegaaGreatDoor
