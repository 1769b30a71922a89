/-
  waypointref09.digits, Number, Value: what each returns.
-/
import Derived.Test.YtpofbhaipeiegaaGreatDoorBase
import Derived.Test.YtpofbhaipeiegaaGreatDoorNum
import Derived.Laws.Concat
import Derived.Laws.IdiomStrings
import Derived.Deep.RegionHeld3
import Derived.IntWalk
namespace Go.Proofs.YtpofbhaipeiegaaGreatDoor
open Go.RowKit Go.Sort

/-- A string of one byte. -/
theorem conv_one (d : Nat) (c : UInt8) (hc : c.toNat = 48 + d) (w : World) (g : Nat) (h : w.cell? ⟨g, 0, none⟩ = some (.int .u8 (48 + (d : Int)))) : (convert 45 9 (.slice (some ⟨g, 0, none⟩) 1 1)).run Tryz.prog w = .ok (.string ⟨#[c]⟩) w := by
  refine run_convert_bytes_back w 45 9 5 ⟨g, 0, none⟩ 1 [c] Tryz.underlying45 Tryz.underlying5 Tryz.underlying9 ?_
  intro j hj
  obtain rfl : j = 0 := by simpa using hj
  rw [show ((⟨g, 0, none⟩ : Addr).add 0) = ⟨g, 0, none⟩ from rfl, h]
  simp only [List.getElem_cons_zero]
  rw [hc]
  congr 2

theorem one_drew (w : World) (v : Value) (T : TypeId) : ((w.alloc (.cells #[v] T)).drew).cell? ⟨w.heap.size, 0, none⟩ = some v := by simp

set_option maxHeartbeats 4000000 in
set_option maxRecDepth 100000 in
theorem ref09_digits : ∀ (u : Nat), u < 18446744073709551616 → ∀ w : World,
    Calls Tryz.prog 23 #[.int .u64 u] w fun e w' => e = .returned (.string ⟨(Lib.decDigits u).toArray⟩) ∧ Below w.heap.size w w' := by
  intro u
  induction u using Nat.strongRecOn with
  | _ u ih =>
    intro hu w
    by_cases h : u < 10
    · obtain ⟨c, hc⟩ : ∃ c, c = UInt8.ofNat (48 + u) := ⟨_, rfl⟩
      have HR : Hid (Lib.decDigits u = [c]) := Lib.hid (by rw [hc]; exact dec_small h)
      have h' : (u : Int) < 10 := by omega
      have hcv := conv_one u c (by rw [hc]; exact digit_toNat h) (w.alloc (.cells #[.int .u8 (48 + (u : Int))] 5)) w.heap.size (by simp)
      clear ih hc
      go_enter Tryz.func23, Tryz.ntmps23
      go_wp2_with fail
      go_ret
      exact ⟨by rw [HR.out]; rfl, below_box w _⟩
    · obtain ⟨q, hq⟩ : ∃ q, q = u / 10 := ⟨_, rfl⟩
      obtain ⟨d, hd⟩ : ∃ d, d = u % 10 := ⟨_, rfl⟩
      have hd10 : d < 10 := by omega
      obtain ⟨c, hc⟩ : ∃ c, c = UInt8.ofNat (48 + d) := ⟨_, rfl⟩
      have HI := Lib.hid (ih q (by omega) (by omega))
      have hlen : (Lib.decDigits q).length ≤ 20 := by have := dec_len 19 q (by omega); omega
      have ca : ∀ w', (Op.stringOp .add ⟨(Lib.decDigits q).toArray⟩ ⟨#[c]⟩).run Tryz.prog w' = .ok (.string ⟨(Lib.decDigits u).toArray⟩) w' := fun w' => by
        rw [dec_big h, ← hq, ← hd, ← hc]
        exact run_string_add_lists w' (Lib.decDigits q) [c] (by omega) (by simp)
      have hcv := conv_one d c (by rw [hc]; exact digit_toNat hd10)
      have h' : ¬ (u : Int) < 10 := by omega
      have e1 : (u : Int).tdiv 10 = (q : Int) := by rw [Int.tdiv_eq_ediv_of_nonneg (by omega)]; omega
      have e2 : (u : Int).tmod 10 = (d : Int) := by rw [Int.tmod_eq_emod_of_nonneg (by omega)]; omega
      have e3 : (u : Int) / 10 = (q : Int) := by omega
      have e4 : (u : Int) % 10 = (d : Int) := by omega
      have y1 : IntKind.u64.wrap (48 + (d : Int)) = 48 + (d : Int) := IntWalk.u64_in _ (by omega)
      have y2 : IntKind.u8.wrap (48 + (d : Int)) = 48 + (d : Int) := IntWalk.u8_in _ (by omega)
      have y3 : IntKind.u64.wrap (q : Int) = (q : Int) := IntWalk.u64_in _ (by omega)
      have y4 : IntKind.u64.wrap (d : Int) = (d : Int) := IntWalk.u64_in _ (by omega)
      clear ih hq hd hc
      go_enter Tryz.func23, Tryz.ntmps23
      go_wp2_with fail
      go_region_with (first | (go_at_call 23; refine (HI.out _).mono ?_; rintro e w1 ⟨rfl, hb⟩; have hk := cell_up hb (one_drew w (.int .u8 (48 + (d : Int))) 5)) | (go_at_call 23; refine (HI.out _).mono ?_; rintro e w1 ⟨rfl, hb⟩))
      all_goals (go_wp2_with fail; go_ret)
      · exact ⟨rfl, (⟨hb.os, hb.tape, hb.output, hb.size, hb.block⟩ : Below w.heap.size w w1).alloc hb.size _⟩
      · exact ⟨rfl, ((below_box w _).drew).trans (hb.mono (by simp))⟩
      · exact ⟨rfl, ((below_box w _).drew).trans (hb.mono (by simp))⟩

set_option maxHeartbeats 1000000 in
set_option maxRecDepth 100000 in
theorem ref09_Number (n : Int) (h0 : -9223372036854775808 ≤ n) (h1 : n ≤ 9223372036854775807) (w : World) :
    Calls Tryz.prog 10 #[.int .i64 n] w fun e w' => e = .returned (.string ⟨(Lib.itoa n).toArray⟩) ∧ Below w.heap.size w w' := by
  by_cases h : n < 0
  · obtain ⟨u, hu⟩ : ∃ u : Nat, u = n.natAbs := ⟨_, rfl⟩
    have hu64 : u < 18446744073709551616 := by omega
    have HD := Lib.hid (ref09_digits u hu64)
    have hlen : (Lib.decDigits u).length ≤ 20 := by have := dec_len 19 u (by omega); omega
    have ca : ∀ w', (Op.stringOp .add ⟨#[45]⟩ ⟨(Lib.decDigits u).toArray⟩).run Tryz.prog w' = .ok (.string ⟨(Lib.itoa n).toArray⟩) w' := fun w' => by
      have : Lib.itoa n = [45] ++ Lib.decDigits u := by unfold Lib.itoa; rw [if_pos h, hu]; rfl
      rw [this]
      exact run_string_add_lists w' [45] (Lib.decDigits u) (by simp) (by omega)
    have e1 : -(n + 1) + 1 = (u : Int) := by omega
    have y0 : IntKind.i64.wrap (n + 1) = n + 1 := IntWalk.i64_in _ (by omega)
    have y1 : IntKind.i64.wrap (-(n + 1)) = -(n + 1) := IntWalk.i64_in _ (by omega)
    have y2 : IntKind.u64.wrap (-(n + 1)) = -(n + 1) := IntWalk.u64_in _ (by omega)
    have y3 : IntKind.u64.wrap (-(n + 1) + 1) = (u : Int) := by rw [e1]; exact IntWalk.u64_in _ (by omega)
    clear hu e1
    go_enter Tryz.func10, Tryz.ntmps10
    go_wp2_with (go_at_call 23; refine (HD.out _).mono ?_; rintro e w1 ⟨rfl, hb⟩)
    go_ret
    exact ⟨rfl, hb⟩
  · obtain ⟨u, rfl⟩ : ∃ u : Nat, n = (u : Int) := ⟨n.toNat, by omega⟩
    have hu64 : u < 18446744073709551616 := by omega
    have HD := Lib.hid (ref09_digits u hu64)
    have HR : Hid (Lib.itoa (u : Int) = Lib.decDigits u) := Lib.hid (by unfold Lib.itoa; rw [if_neg h]; simp)
    have y2 : IntKind.u64.wrap (u : Int) = (u : Int) := IntWalk.u64_in _ (by omega)
    go_enter Tryz.func10, Tryz.ntmps10
    go_wp2_with (go_at_call 23; refine (HD.out _).mono ?_; rintro e w1 ⟨rfl, hb⟩)
    go_ret
    exact ⟨by rw [HR.out]; rfl, hb⟩

/-- How great a loosely read number may be. -/
def valB : Nat → Int
  | 0 => 0
  | k + 1 => 10 * valB k + 207
theorem valB_mono : ∀ k, 0 ≤ valB k ∧ valB k ≤ valB (k + 1)
  | 0 => by simp [valB]
  | k + 1 => by
    have := valB_mono k
    have e : valB (k + 1 + 1) = 10 * valB (k + 1) + 207 := rfl
    omega
theorem val_bound : ∀ (l : List UInt8) (k : Nat) (n : Int), -valB k ≤ n → n ≤ valB k → -valB (k + l.length) ≤ l.foldl valF n ∧ l.foldl valF n ≤ valB (k + l.length)
  | [], k, n, h0, h1 => ⟨h0, h1⟩
  | b :: r, k, n, h0, h1 => by
    have hb : b.toNat < 256 := b.toNat_lt
    have e : valB (k + 1) = 10 * valB k + 207 := rfl
    have ih := val_bound r (k + 1) (valF n b) (by unfold valF; omega) (by unfold valF; omega)
    rw [show k + (b :: r).length = k + 1 + r.length by simp; omega]
    exact ih
theorem val9 : valB 9 = 22999999977 := by decide
theorem valB_le {k : Nat} (h : k ≤ 9) : valB k ≤ 22999999977 := by
  rw [← val9]
  have : ∀ d j, valB j ≤ valB (j + d) := by
    intro d
    induction d with
    | zero => intro j; exact Int.le_refl _
    | succ d ih => intro j; exact Int.le_trans (ih j) (valB_mono (j + d)).2
  have := this (9 - k) k
  rwa [show k + (9 - k) = 9 by omega] at this
theorem val_take {l : List UInt8} {k : Nat} (h : k ≤ 9) : -22999999977 ≤ (l.take k).foldl valF 0 ∧ (l.take k).foldl valF 0 ≤ 22999999977 := by
  have h1 := val_bound (l.take k) 0 0 (by simp [valB]) (by simp [valB])
  have h2 := valB_le (k := 0 + (l.take k).length) (by rw [List.length_take]; omega)
  omega
theorem val_next {l : List UInt8} {k : Nat} {b : UInt8} (h : l[k]? = some b) : (l.take (k + 1)).foldl valF 0 = 10 * (l.take k).foldl valF 0 + (b.toNat : Int) - 48 := by
  obtain ⟨hk, rfl⟩ := List.getElem?_eq_some_iff.1 h
  rw [List.take_succ_eq_append_getElem hk, List.foldl_append]
  rfl

end Go.Proofs.YtpofbhaipeiegaaGreatDoor
