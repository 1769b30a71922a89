/-
  waypointref10.Text and Parse: what each returns. The variables of strconv's errors, from a row's list.
-/
import Derived.Test.YtibennndjfhieaaDoorCParse
import Derived.Test.YtibennndjfhieaaDoorNumber
import Derived.Stop.LaidErr
import Derived.ChangeMaps5
import Derived.MakeChecks
import Derived.RowKitTokens
namespace Go.Proofs.YtibennndjfhieaaDoor
open Go.RowKit Go.Sort

theorem add_word (p : List UInt8) (k m : Int) (hk : compT k m = p ++ Lib.itoa m) (hp : p.length ≤ 10) (h0 : 0 ≤ m) (h1 : m ≤ 999999999) (w : World) : (Op.stringOp .add ⟨p.toArray⟩ ⟨(Lib.itoa m).toArray⟩).run Tryd.prog w = .ok (.string ⟨(compT k m).toArray⟩) w := by
  rw [hk]
  exact run_string_add_lists w p (Lib.itoa m) (by omega) (by have := Lib.itoa_length_le m (by omega) (by omega); omega)
theorem compT_in {k m : Int} (h0 : 0 ≤ m) (h1 : m ≤ 999999999) (hw : cword k ≠ []) : compT k m = cword k ++ ([32] ++ Lib.itoa m) := by
  unfold compT
  rw [if_neg]
  rintro (h | h | h)
  · exact hw h
  · omega
  · omega
theorem compT_no {k m : Int} (h : k ≠ 1 ∧ k ≠ 2 ∧ k ≠ 3) : compT k m = [] := by
  unfold compT
  rw [if_pos]
  left
  simp [cword, h.1, h.2.1, h.2.2]
theorem compT_len (k m : Int) : (compT k m).length ≤ 30 := by
  unfold compT
  split
  · simp
  · rename_i h
    have := cword_len k
    have := Lib.itoa_length_le m (by omega) (by omega)
    simp; omega

set_option maxHeartbeats 1000000 in
theorem ref10_Text (k m : Int) (w : World) :
    Calls Tryd.prog 29 #[.agg #[.int .i64 k, .int .i64 m]] w fun e w' => e = .returned (.string ⟨(compT k m).toArray⟩) ∧ Below w.heap.size w w' := by
  have HB := below_box w (.cells #[.int .i64 k, .int .i64 m] 31)
  have s0 : (w.alloc (.cells #[.int .i64 k, .int .i64 m] 31)).cell? ⟨w.heap.size, 0, none⟩ = some (.int .i64 k) := by simp
  have s1 : (w.alloc (.cells #[.int .i64 k, .int .i64 m] 31)).cell? ⟨w.heap.size, 1, none⟩ = some (.int .i64 m) := by simp
  by_cases h0 : m < 0
  · have HR : Hid (compT k m = []) := Lib.hid (by simp [compT, h0])
    go_enter Tryd.func29, Tryd.ntmps29
    go_wp2_with fail
    go_ret
    exact ⟨by rw [HR.out]; rfl, HB⟩
  by_cases h1 : 999999999 < m
  · have HR : Hid (compT k m = []) := Lib.hid (by simp [compT, h1])
    go_enter Tryd.func29, Tryd.ntmps29
    go_wp2_with fail
    go_ret
    exact ⟨by rw [HR.out]; rfl, HB⟩
  have HN := Lib.hid (ref09_Number m (by omega) (by omega))
  by_cases k1 : k = 1
  · subst k1
    have ca : ∀ w', (Op.stringOp .add ⟨#[108, 105, 110, 107, 32]⟩ ⟨(Lib.itoa m).toArray⟩).run Tryd.prog w' = .ok (.string ⟨(compT 1 m).toArray⟩) w' := add_word [108, 105, 110, 107, 32] 1 m (compT_in (by omega) (by omega) (by simp [cword])) (by simp) (by omega) (by omega)
    generalize compT 1 m = T at *
    go_enter Tryd.func29, Tryd.ntmps29
    go_wp2_with (go_at_call 42; refine (HN.out _).mono ?_; rintro e w1 ⟨rfl, hb⟩)
    go_ret
    exact ⟨rfl, below_next HB hb⟩
  by_cases k2 : k = 2
  · subst k2
    have ca : ∀ w', (Op.stringOp .add ⟨#[110, 111, 100, 101, 32]⟩ ⟨(Lib.itoa m).toArray⟩).run Tryd.prog w' = .ok (.string ⟨(compT 2 m).toArray⟩) w' := add_word [110, 111, 100, 101, 32] 2 m (compT_in (by omega) (by omega) (by simp [cword])) (by simp) (by omega) (by omega)
    generalize compT 2 m = T at *
    go_enter Tryd.func29, Tryd.ntmps29
    go_wp2_with (go_at_call 42; refine (HN.out _).mono ?_; rintro e w1 ⟨rfl, hb⟩)
    go_ret
    exact ⟨rfl, below_next HB hb⟩
  by_cases k3 : k = 3
  · subst k3
    have ca : ∀ w', (Op.stringOp .add ⟨#[103, 114, 111, 117, 112, 32]⟩ ⟨(Lib.itoa m).toArray⟩).run Tryd.prog w' = .ok (.string ⟨(compT 3 m).toArray⟩) w' := add_word [103, 114, 111, 117, 112, 32] 3 m (compT_in (by omega) (by omega) (by simp [cword])) (by simp) (by omega) (by omega)
    generalize compT 3 m = T at *
    go_enter Tryd.func29, Tryd.ntmps29
    go_wp2_with (go_at_call 42; refine (HN.out _).mono ?_; rintro e w1 ⟨rfl, hb⟩)
    go_ret
    exact ⟨rfl, below_next HB hb⟩
  have HR : Hid (compT k m = []) := Lib.hid (compT_no ⟨k1, k2, k3⟩)
  go_enter Tryd.func29, Tryd.ntmps29
  go_wp2_with fail
  go_ret
  exact ⟨by rw [HR.out]; rfl, HB⟩

/-- Nothing found for any kind and place: there is no component with the text. -/
theorem parse_none2 {s : List UInt8} (h : ∀ k : Int, 1 ≤ k → k < 4 → ∀ i, i < s.length → compT k (valN (s.drop i)) ≠ s) : ∀ k m, compT k m = s → s = [] := by
  intro k m hc
  by_cases hs : s = []
  · exact hs
  obtain ⟨e, hw, a, b⟩ := compT_open (k := k) (m := m) (by rw [hc]; exact hs)
  rw [hc] at e
  have hd : s.drop ((cword k).length + 1) = Lib.itoa m := by
    rw [e, show (cword k).length + 1 = (cword k ++ [32]).length by simp, show cword k ++ 32 :: Lib.itoa m = (cword k ++ [32]) ++ Lib.itoa m by simp]
    exact List.drop_left
  have hn : Lib.itoa m ≠ [] := by rw [itoa_dec a]; exact dec_ne _
  have hl : (cword k).length + 1 < s.length := by
    have := List.length_pos_iff.2 hn
    rw [e]; simp; omega
  have hk := compT_kind hw
  refine absurd ?_ (h k (by omega) (by omega) _ hl)
  rw [hd, val_itoa a b, hc]
theorem extract_drop (s : List UInt8) (i : Nat) : (⟨s.toArray⟩ : ByteArray).extract i s.length = ⟨(s.drop i).toArray⟩ := by
  apply ByteArray.ext
  simp [ByteArray.data_extract]
  exact List.take_of_length_le (by rw [List.length_drop]; omega)
theorem comp_cell0 (w : World) (k m : Int) : (w.alloc (.cells #[.int .i64 k, .int .i64 m] 31)).cell? ⟨w.heap.size, 0, none⟩ = some (.int .i64 k) := by simp
theorem comp_cell1 (w : World) (k m : Int) : (w.alloc (.cells #[.int .i64 k, .int .i64 m] 31)).cell? ⟨w.heap.size, 1, none⟩ = some (.int .i64 m) := by simp

set_option maxHeartbeats 4000000 in
set_option maxRecDepth 100000 in
theorem ref10_Parse (s : List UInt8) (hs : s.length ≤ 1000) (w : World) :
    Calls Tryd.prog 30 #[.string ⟨s.toArray⟩] w (RetParse s w) := by
  have HZ := Lib.hid (comp_box w)
  have HB := Lib.hid (below_box w (.cells #[.int .i64 0, .int .i64 0] 31))
  go_enter Tryd.func30, Tryd.ntmps30
  go_wp2_with fail
  go_loopw [4] (fun kv wr => ∃ kk : Nat, 1 ≤ kk ∧ kk ≤ 4 ∧ kv = .int .i64 kk ∧ Hid (∀ k : Int, 1 ≤ k → k < kk → ∀ i, i < s.length → compT k (valN (s.drop i)) ≠ s) ∧ Hid (wr.heap[w.heap.size]? = some (.cells #[.int .i64 0, .int .i64 0] 31 (0, 0))) ∧ Hid (Below w.heap.size w wr)) (fun kv _ => 4 - (intOf kv).toNat)
  case atStart => exact ⟨1, Nat.le_refl _, by omega, rfl, Lib.hid (fun k h1 h2 => by omega), HZ, HB⟩
  case round =>
    clear HZ HB
    obtain ⟨kk, hk1, hk4, rfl, HK, HZ, HB⟩ := hrel
    by_cases hk3 : kk ≤ 3
    · have hk3' : (kk : Int) ≤ 3 := by omega
      go_wp2_with fail
      go_loopw [5] (fun iv wi => ∃ i : Nat, i ≤ s.length ∧ iv = .int .i64 i ∧ Hid (∀ j, j < i → compT kk (valN (s.drop j)) ≠ s) ∧ Hid (wi.heap[w.heap.size]? = some (.cells #[.int .i64 0, .int .i64 0] 31 (0, 0))) ∧ Hid (Below w.heap.size w wi)) (fun iv _ => s.length - (intOf iv).toNat)
      case atStart => exact ⟨0, Nat.zero_le _, rfl, Lib.hid (fun j h => by omega), HZ, HB⟩
      case round =>
        clear HZ HB
        rename_i wo
        obtain ⟨i, hi, rfl, HI, HZ, HB⟩ := hrel
        by_cases hlt : i < s.length
        · have hlt' : (i : Int) < (s.length : Int) := by omega
          have hle' : (i : Int) ≤ (s.length : Int) := by omega
          obtain ⟨v, hv⟩ : ∃ v, v = valN (s.drop i) := ⟨_, rfl⟩
          have HV : Hid (∀ w', Calls Tryd.prog 43 #[.string ((⟨s.toArray⟩ : ByteArray).extract i s.length)] w' fun e w'' => e = .returned (.int .i64 v) ∧ w'' = w') := Lib.hid fun w' => by
            rw [extract_drop, hv]
            exact ref09_Value (s.drop i) (by rw [List.length_drop]; omega) w'
          obtain ⟨T, hT⟩ : ∃ T, T = compT (kk : Int) v := ⟨_, rfl⟩
          have HT : Hid (∀ w', Calls Tryd.prog 29 #[.agg #[.int .i64 kk, .int .i64 v]] w' fun e w'' => e = .returned (.string ⟨T.toArray⟩) ∧ Below w'.heap.size w' w'') := Lib.hid fun w' => by rw [hT]; exact ref10_Text kk v w'
          have hBr : w.heap.size < wr.heap.size := lt_of_heap HZ.out
          have HQ := Lib.hid (below_box wr (.cells #[.int .i64 kk, .int .i64 v] 31))
          have u0 := comp_cell0 wr kk v
          have u1 := comp_cell1 wr kk v
          by_cases hTs : T = s
          · have HP : Hid (ParseR s kk v 0) := Lib.hid (.inl ⟨rfl, by rintro rfl; simp at hlt, by rw [← hT, hTs]⟩)
            subst hTs
            clear hT hv
            go_wp2_with (first | (go_at_call 43; refine (HV.out _).mono ?_; rintro e w3 ⟨rfl, rfl⟩) | (go_at_call 29; refine (HT.out _).mono ?_; rintro e w4 ⟨rfl, hb⟩; replace u0 := cell_up hb u0; replace u1 := cell_up hb u1; replace HQ := Lib.hid (below_next HQ.out hb); clear hb; replace HZ := Lib.hid ((HQ.out.block _ hBr).trans HZ.out); have z0 := (Lib.cell_of_heap HZ.out (j := 0)); have z1 := (Lib.cell_of_heap HZ.out (j := 1)); have zf0 : w4.frozen? ⟨w.heap.size, 0, none⟩ = false := Lib.frozen_of_heap HZ.out _; have zf1 : w4.frozen? ⟨w.heap.size, 1, none⟩ = false := Lib.frozen_of_heap HZ.out _))
            clear u0 u1 z0 z1
            have hz := box_set (x := .int .i64 kk) (y := .int .i64 v) HZ.out
            have hz0 := Lib.cell_of_heap hz (j := 0)
            have hz1 := Lib.cell_of_heap hz (j := 1)
            exact bodyPost_ret (v := .tuple #[.agg #[.int .i64 kk, .int .i64 v], .int .i64 0]) (by simp [results, Tryd.results30, go_sem, hz0, hz1]) rfl ⟨kk, v, 0, rfl, HP.out, below_set2 (below_next HB.out HQ.out) _ _⟩
          · have HI2 : Hid (∀ j, j < i + 1 → compT kk (valN (s.drop j)) ≠ s) := Lib.hid (by
              intro j hj
              by_cases e : j = i
              · subst e; rw [← hv, ← hT]; exact hTs
              · exact HI.out j (by omega))
            have hTb : (T == s) = false := by simpa using hTs
            clear hT hv hTs
            go_wp2_with (first | (go_at_call 43; refine (HV.out _).mono ?_; rintro e w3 ⟨rfl, rfl⟩) | (go_at_call 29; refine (HT.out _).mono ?_; rintro e w4 ⟨rfl, hb⟩; replace u0 := cell_up hb u0; replace u1 := cell_up hb u1; replace HQ := Lib.hid (below_next HQ.out hb); clear hb; replace HZ := Lib.hid ((HQ.out.block _ hBr).trans HZ.out)))
            refine ⟨⟨i + 1, by omega, by simp, HI2, HZ, Lib.hid (below_next HB.out HQ.out)⟩, by simp [intOf]; omega⟩
        · obtain rfl : i = s.length := by omega
          have HK2 : Hid (∀ k : Int, 1 ≤ k → k < ((kk + 1 : Nat) : Int) → ∀ i, i < s.length → compT k (valN (s.drop i)) ≠ s) := Lib.hid (by
            intro k h1 h2
            by_cases e : k = kk
            · subst e; exact HI.out
            · exact HK.out k h1 (by omega))
          go_wp2_with fail
          refine ⟨⟨kk + 1, by omega, by omega, by simp, HK2, HZ, HB⟩, by simp [intOf]; omega⟩
    · obtain rfl : kk = 4 := by omega
      have HP : Hid (∀ k m, compT k m = s → s = []) := Lib.hid (parse_none2 fun k h1 h2 => HK.out k h1 (by simpa using h2))
      have z0 := Lib.cell_of_heap HZ.out (j := 0)
      have z1 := Lib.cell_of_heap HZ.out (j := 1)
      have zf0 : wr.frozen? ⟨w.heap.size, 0, none⟩ = false := Lib.frozen_of_heap HZ.out _
      have zf1 : wr.frozen? ⟨w.heap.size, 1, none⟩ = false := Lib.frozen_of_heap HZ.out _
      go_wp2_with fail
      have hz := box_set (x := .int .i64 0) (y := .int .i64 0) HZ.out
      have hz0 := Lib.cell_of_heap hz (j := 0)
      have hz1 := Lib.cell_of_heap hz (j := 1)
      exact bodyPost_ret (v := .tuple #[.agg #[.int .i64 0, .int .i64 0], .int .i64 3]) (by simp [results, Tryd.results30, go_sem, hz0, hz1]) rfl ⟨0, 0, 3, rfl, .inr ⟨rfl, rfl, rfl, HP.out⟩, below_set2 HB.out _ _⟩

end Go.Proofs.YtibennndjfhieaaDoor
