/-
  segment.Parse, waypointref18.Text and Parse: what each returns.
-/
import Derived.Test.YtdjgpjejidajlaaDoorSegR
import Derived.Test.YtdjgpjejidajlaaDoorAtoi
import Derived.Test.YtdjgpjejidajlaaDoorNumber
import Derived.Test.YtdjgpjejidajlaaDoorBuilder
import Derived.Test.YtdjgpjejidajlaaDoorOut
namespace Go.Proofs.YtdjgpjejidajlaaDoor
open Go.RowKit Go.Sort

def RetSeg (s : List UInt8) (w : World) (e : Ending) (w' : World) : Prop :=
  ∃ k m er, e = .returned (.tuple #[.agg #[.int .i64 k, .int .i64 m], .int .i64 er]) ∧ SegR s k m er ∧ Below w.heap.size w w'
theorem seg_box (w : World) : (w.alloc (.cells #[.int .i64 0, .int .i64 0] 23)).heap[w.heap.size]? = some (.cells #[.int .i64 0, .int .i64 0] 23 (0, 0)) := heap_alloc_new _ _
theorem seg_cell0 (w : World) (k m : Int) : (w.alloc (.cells #[.int .i64 k, .int .i64 m] 23)).cell? ⟨w.heap.size, 0, none⟩ = some (.int .i64 k) := by simp
theorem seg_cell1 (w : World) (k m : Int) : (w.alloc (.cells #[.int .i64 k, .int .i64 m] 23)).cell? ⟨w.heap.size, 1, none⟩ = some (.int .i64 m) := by simp
theorem ext_one (c : UInt8) (y : List UInt8) : (⟨(c :: y).toArray⟩ : ByteArray).extract 1 (y.length + 1) = ⟨y.toArray⟩ := by
  apply ByteArray.ext
  simp [ByteArray.data_extract]

set_option maxHeartbeats 4000000 in
set_option maxRecDepth 100000 in
theorem segment_Parse (s : List UInt8) (hs : s.length ≤ 100000) (w : World) (hE : Errs w) (ht : Tab w.heap.size w) :
    Calls Tryd.prog 11 #[.string ⟨s.toArray⟩] w (RetSeg s w) := by
  have HE := Lib.hid hE
  have HTb := Lib.hid ht
  clear hE ht
  have HB := below_box w (.cells #[.int .i64 0, .int .i64 0] 23)
  have z0 := seg_cell0 w 0 0
  have z1 := seg_cell1 w 0 0
  have HZ := Lib.hid (seg_box w)
  cases s with
  | nil =>
    go_enter Tryd.func11, Tryd.ntmps11
    go_wp2_with fail
    exact bodyPost_ret (v := .tuple #[.agg #[.int .i64 0, .int .i64 0], .int .i64 3]) (by simp [results, Tryd.results11, go_sem]) rfl ⟨0, 0, 3, rfl, .inr ⟨rfl, rfl, rfl, fun _ _ h => rfl⟩, HB⟩
  | cons c y =>
    have hyl : y.length ≤ 1000000 := by simp at hs; omega
    obtain ⟨s, hse⟩ : ∃ s, s = c :: y := ⟨_, rfl⟩
    have E1 : (⟨s.toArray⟩ : ByteArray).extract 1 s.length = ⟨y.toArray⟩ := by rw [hse]; exact ext_one c y
    have hs0 : 0 < s.length := by rw [hse]; simp
    have hs1 : (1 : Int) ≤ (s.length : Int) := by omega
    have hne : (s == []) = false := by rw [hse]; rfl
    have hne2 : s.isEmpty = false := by rw [hse]; rfl
    have hb0 : (⟨s.toArray⟩ : ByteArray)[0]'(by simpa [ByteArray.size] using hs0) = c := by subst hse; rfl
    rw [← hse] at hs ⊢
    by_cases hv : ∃ v, Lib.atoiAll y = .ok v
    · obtain ⟨v, hv⟩ := hv
      have HA : Hid (∀ w', Calls Tryd.prog 30 #[.string ((⟨s.toArray⟩ : ByteArray).extract 1 s.length)] w' fun e w'' => e = .returned (.tuple #[.int .i64 v, .nilIface]) ∧ Below w'.heap.size w' w'') := Lib.hid fun w' => by rw [E1]; exact atoi_ok y v hv hyl w'
      have HV := Lib.hid hv
      have HSE := Lib.hid hse
      obtain ⟨kk, hkk⟩ : ∃ kk, kk = kindL (c.toNat : Int) := ⟨_, rfl⟩
      have HK : Hid (∀ w', Calls Tryd.prog 28 #[.int .i32 (wrap32 (c.toNat : Int))] w' fun e w'' => e = .returned (.int .i64 kk) ∧ Below w'.heap.size w' w'') := Lib.hid fun w' => by
        rw [show wrap32 (c.toNat : Int) = (c.toNat : Int) from IntWalk.wrap32_in _ (by have := c.toNat_lt; omega), hkk]; exact segment_kindOf (c.toNat : Int) w'
      obtain ⟨T, hT⟩ : ∃ T, T = segT kk v := ⟨_, rfl⟩
      have HT : Hid (∀ w', Tab w'.heap.size w' → Calls Tryd.prog 10 #[.agg #[.int .i64 kk, .int .i64 v]] w' fun e w'' => e = .returned (.string ⟨T.toArray⟩) ∧ Below w'.heap.size w' w'') := Lib.hid fun w' ht => by rw [hT]; exact segment_Text kk v w' ht
      have HKT := Lib.hid (And.intro hkk hT)
      clear hv E1 hse hkk hT
      by_cases hTs : T = s
      · have HP : Hid (SegR s kk v 0) := Lib.hid (.inl ⟨rfl, by rw [HSE.out]; simp, by rw [← HKT.out.2, hTs]⟩)
        subst hTs
        go_enter Tryd.func11, Tryd.ntmps11
        go_wp2_with (first | (go_at_call 30; refine (HA.out _).mono ?_; rintro e w2 ⟨rfl, hb⟩; replace z0 := cell_up hb z0; replace z1 := cell_up hb z1; replace HZ := Lib.hid ((hb.block _ (lt_of_heap HZ.out)).trans HZ.out); replace HB := below_next HB hb; clear hb) | (go_at_call 28; refine (HK.out _).mono ?_; rintro e w3 ⟨rfl, hb⟩; replace z0 := cell_up hb z0; replace z1 := cell_up hb z1; replace HZ := Lib.hid ((hb.block _ (lt_of_heap HZ.out)).trans HZ.out); replace HB := below_next HB hb; clear hb; have u0 := seg_cell0 w3 kk v; have u1 := seg_cell1 w3 kk v; have HQ := Lib.hid (below_box w3 (.cells #[.int .i64 kk, .int .i64 v] 23)); have hBr := lt_of_heap HZ.out; clear z0 z1) | (go_at_call 10; refine (HT.out _ (tab_up HTb.out (below_next HB HQ.out) (below_next HB HQ.out).size)).mono ?_; rintro e w4 ⟨rfl, hb⟩; replace u0 := cell_up hb u0; replace u1 := cell_up hb u1; replace HQ := Lib.hid (below_next HQ.out hb); clear hb; replace HZ := Lib.hid ((HQ.out.block _ hBr).trans HZ.out); have z0 := (Lib.cell_of_heap HZ.out (j := 0)); have z1 := (Lib.cell_of_heap HZ.out (j := 1)); have zf0 : w4.frozen? ⟨w.heap.size, 0, none⟩ = false := Lib.frozen_of_heap HZ.out _; have zf1 : w4.frozen? ⟨w.heap.size, 1, none⟩ = false := Lib.frozen_of_heap HZ.out _))
        clear u0 u1 z0 z1
        have hz := box_set (x := .int .i64 kk) (y := .int .i64 v) HZ.out
        have hz0 := Lib.cell_of_heap hz (j := 0)
        have hz1 := Lib.cell_of_heap hz (j := 1)
        exact bodyPost_ret (v := .tuple #[.agg #[.int .i64 kk, .int .i64 v], .int .i64 0]) (by simp [results, Tryd.results11, go_sem, hz0, hz1]) rfl ⟨kk, v, 0, rfl, HP.out, below_set2 (below_next HB HQ.out) _ _⟩
      · have HP : Hid (∀ k m, segT k m = s → s = []) := Lib.hid (by rw [HSE.out]; exact seg_none_text HV.out (by rw [← HKT.out.1, ← HKT.out.2, ← HSE.out]; exact hTs))
        have hTb : (T == s) = false := by simpa using hTs
        clear hTs
        go_enter Tryd.func11, Tryd.ntmps11
        go_wp2_with (first | (go_at_call 30; refine (HA.out _).mono ?_; rintro e w2 ⟨rfl, hb⟩; replace z0 := cell_up hb z0; replace z1 := cell_up hb z1; replace HZ := Lib.hid ((hb.block _ (lt_of_heap HZ.out)).trans HZ.out); replace HB := below_next HB hb; clear hb) | (go_at_call 28; refine (HK.out _).mono ?_; rintro e w3 ⟨rfl, hb⟩; replace z0 := cell_up hb z0; replace z1 := cell_up hb z1; replace HZ := Lib.hid ((hb.block _ (lt_of_heap HZ.out)).trans HZ.out); replace HB := below_next HB hb; clear hb; have u0 := seg_cell0 w3 kk v; have u1 := seg_cell1 w3 kk v; have HQ := Lib.hid (below_box w3 (.cells #[.int .i64 kk, .int .i64 v] 23)); have hBr := lt_of_heap HZ.out; clear z0 z1) | (go_at_call 10; refine (HT.out _ (tab_up HTb.out (below_next HB HQ.out) (below_next HB HQ.out).size)).mono ?_; rintro e w4 ⟨rfl, hb⟩; replace u0 := cell_up hb u0; replace u1 := cell_up hb u1; replace HQ := Lib.hid (below_next HQ.out hb); clear hb; replace HZ := Lib.hid ((HQ.out.block _ hBr).trans HZ.out); have z0 := (Lib.cell_of_heap HZ.out (j := 0)); have z1 := (Lib.cell_of_heap HZ.out (j := 1)); have zf0 : w4.frozen? ⟨w.heap.size, 0, none⟩ = false := Lib.frozen_of_heap HZ.out _; have zf1 : w4.frozen? ⟨w.heap.size, 1, none⟩ = false := Lib.frozen_of_heap HZ.out _))
        clear u0 u1 z0 z1
        have hz := box_set (x := .int .i64 0) (y := .int .i64 0) HZ.out
        have hz0 := Lib.cell_of_heap hz (j := 0)
        have hz1 := Lib.cell_of_heap hz (j := 1)
        exact bodyPost_ret (v := .tuple #[.agg #[.int .i64 0, .int .i64 0], .int .i64 3]) (by simp [results, Tryd.results11, go_sem, hz0, hz1]) rfl ⟨0, 0, 3, rfl, .inr ⟨rfl, rfl, rfl, HP.out⟩, below_set2 (below_next HB HQ.out) _ _⟩
    · have HN := Lib.hid (fun v h => hv ⟨v, h⟩ : ∀ v, Lib.atoiAll y ≠ .ok v)
      have HP : Hid (∀ k m, segT k m = s → s = []) := Lib.hid (by rw [hse]; exact seg_none_num HN.out)
      have HA : Hid (∀ w', Errs w' → Calls Tryd.prog 30 #[.string ((⟨s.toArray⟩ : ByteArray).extract 1 s.length)] w' fun e w'' => ∃ n t p, e = .returned (.tuple #[.int .i64 n, .iface t p]) ∧ Below w'.heap.size w' w'') := Lib.hid fun w' h => by rw [E1]; exact atoi_bad y HN.out hyl w' h
      obtain ⟨kk, hkk⟩ : ∃ kk, kk = kindL (c.toNat : Int) := ⟨_, rfl⟩
      have HK : Hid (∀ w', Calls Tryd.prog 28 #[.int .i32 (wrap32 (c.toNat : Int))] w' fun e w'' => e = .returned (.int .i64 kk) ∧ Below w'.heap.size w' w'') := Lib.hid fun w' => by
        rw [show wrap32 (c.toNat : Int) = (c.toNat : Int) from IntWalk.wrap32_in _ (by have := c.toNat_lt; omega), hkk]; exact segment_kindOf (c.toNat : Int) w'
      clear hv E1 hse hkk
      go_enter Tryd.func11, Tryd.ntmps11
      go_wp2_with (first | (go_at_call 30; refine (HA.out _ (HE.out.up HB)).mono ?_; rintro e w2 ⟨n, tp, p, rfl, hb⟩; replace z0 := cell_up hb z0; replace z1 := cell_up hb z1; replace HZ := Lib.hid ((hb.block _ (lt_of_heap HZ.out)).trans HZ.out); replace HB := below_next HB hb; clear hb) | (go_at_call 28; refine (HK.out _).mono ?_; rintro e w3 ⟨rfl, hb⟩; replace z0 := cell_up hb z0; replace z1 := cell_up hb z1; replace HZ := Lib.hid ((hb.block _ (lt_of_heap HZ.out)).trans HZ.out); replace HB := below_next HB hb; clear hb; have HQ := Lib.hid (below_box w3 (.cells #[.int .i64 kk, .int .i64 n] 23)); replace HZ := Lib.hid ((HQ.out.block _ (lt_of_heap HZ.out)).trans HZ.out); replace z0 := cell_up HQ.out z0; replace z1 := cell_up HQ.out z1; have zf0 : (w3.alloc (.cells #[.int .i64 kk, .int .i64 n] 23)).frozen? ⟨w.heap.size, 0, none⟩ = false := Lib.frozen_of_heap HZ.out _; have zf1 : (w3.alloc (.cells #[.int .i64 kk, .int .i64 n] 23)).frozen? ⟨w.heap.size, 1, none⟩ = false := Lib.frozen_of_heap HZ.out _))
      clear z0 z1
      have hz := box_set (x := .int .i64 0) (y := .int .i64 0) HZ.out
      have hz0 := Lib.cell_of_heap hz (j := 0)
      have hz1 := Lib.cell_of_heap hz (j := 1)
      exact bodyPost_ret (v := .tuple #[.agg #[.int .i64 0, .int .i64 0], .int .i64 3]) (by simp [results, Tryd.results11, go_sem, hz0, hz1]) rfl ⟨0, 0, 3, rfl, .inr ⟨rfl, rfl, rfl, HP.out⟩, below_set2 (below_next HB HQ.out) _ _⟩

set_option maxHeartbeats 1000000 in
theorem ref18_Text (k m : Int) (w : World) :
    Calls Tryd.prog 12 #[.agg #[.int .i64 k, .int .i64 m]] w fun e w' => e = .returned (.string ⟨(segT k m).toArray⟩) ∧ Below w.heap.size w w' := by
  have HB := below_box w (.cells #[.int .i64 k, .int .i64 m] 23)
  have s0 := seg_cell0 w k m
  have s1 := seg_cell1 w k m
  by_cases hk0 : k < 1
  · have HR : Hid (segT k m = []) := Lib.hid (segT_no (by omega) (by omega) (by omega) (by omega))
    go_enter Tryd.func12, Tryd.ntmps12
    go_wp2_with fail
    go_ret
    exact ⟨by rw [HR.out]; rfl, HB⟩
  by_cases hk4 : 4 < k
  · have HR : Hid (segT k m = []) := Lib.hid (segT_no (by omega) (by omega) (by omega) (by omega))
    go_enter Tryd.func12, Tryd.ntmps12
    go_wp2_with fail
    go_ret
    exact ⟨by rw [HR.out]; rfl, HB⟩
  by_cases h0 : m < 0
  · have HR : Hid (segT k m = []) := Lib.hid (segT_bad (by omega))
    go_enter Tryd.func12, Tryd.ntmps12
    go_wp2_with fail
    go_ret
    exact ⟨by rw [HR.out]; rfl, HB⟩
  by_cases h1 : 999999999 < m
  · have HR : Hid (segT k m = []) := Lib.hid (segT_bad (by omega))
    go_enter Tryd.func12, Tryd.ntmps12
    go_wp2_with fail
    go_ret
    exact ⟨by rw [HR.out]; rfl, HB⟩
  have HN := Lib.hid (ref09_Number m (by omega) (by omega))
  by_cases k1 : k = 1
  · subst k1
    have ca : ∀ w', (Op.stringOp .add ⟨#[110]⟩ ⟨(Lib.itoa m).toArray⟩).run Tryd.prog w' = .ok (.string ⟨(segT 1 m).toArray⟩) w' := fun w' => by
      rw [segT_1 (by omega) (by omega)]
      exact run_string_add_lists w' [110] (Lib.itoa m) (by simp) (by have := Lib.itoa_length_le m (by omega) (by omega); omega)
    generalize segT 1 m = T at *
    have s2 : ((w.alloc (.cells #[.int .i64 1, .int .i64 m] 23)).alloc (.cells #[.string ⟨#[]⟩, .string ⟨#[110]⟩, .string ⟨#[97]⟩, .string ⟨#[103]⟩, .string ⟨#[98]⟩] 57)).cell? ⟨w.heap.size + 1, 1, none⟩ = some (.string ⟨#[110]⟩) := by simp
    have hb1 := below_box (w.alloc (.cells #[.int .i64 1, .int .i64 m] 23)) (.cells #[.string ⟨#[]⟩, .string ⟨#[110]⟩, .string ⟨#[97]⟩, .string ⟨#[103]⟩, .string ⟨#[98]⟩] 57)
    replace s0 := cell_up hb1 s0
    replace s1 := cell_up hb1 s1
    replace HB := below_next HB hb1
    clear hb1
    go_enter Tryd.func12, Tryd.ntmps12
    go_wp2_with fail
    obtain ⟨W, hW⟩ : ∃ W, (w.alloc (.cells #[.int .i64 1, .int .i64 m] 23)).alloc (.cells #[.string ⟨#[]⟩, .string ⟨#[110]⟩, .string ⟨#[97]⟩, .string ⟨#[103]⟩, .string ⟨#[98]⟩] 57) = W := ⟨_, rfl⟩
    rw [hW] at s0 s1 s2 HB ⊢
    clear hW
    have HcN : Hid (∀ d os, Calls Tryd.prog 31 #[.int .i64 m] (grow (redrawn W d) os) fun e w'' => e = .returned (.string ⟨(Lib.itoa m).toArray⟩) ∧ ∃ p : Regrown, w'' = grow (redrawn W p.d) p.os) := Lib.hid fun d os => Calls.regrown_of (HN.out _)
    have kq_s0 := cell_regrown s0
    have kq_s1 := cell_regrown s1
    have kq_s2 := cell_regrown s2
    refine wp_region_quiet_below (by kernel_rfl) (by kernel_rfl) ?_
    repeat (go_big_quiet_step (exact HcN.out _ _))
    refine wpQuiet_nil ?_
    intro w2 hb2
    replace hb2 := below_of_regrown hb2
    clear kq_s0 kq_s1 kq_s2
    replace s0 := cell_up hb2 s0
    replace s1 := cell_up hb2 s1
    replace s2 := cell_up hb2 s2
    replace HB := below_next HB hb2
    go_wp2_with fail
    go_ret
    exact ⟨rfl, HB⟩
  by_cases k2 : k = 2
  · subst k2
    have ca : ∀ w', (Op.stringOp .add ⟨#[97]⟩ ⟨(Lib.itoa m).toArray⟩).run Tryd.prog w' = .ok (.string ⟨(segT 2 m).toArray⟩) w' := fun w' => by
      rw [segT_2 (by omega) (by omega)]
      exact run_string_add_lists w' [97] (Lib.itoa m) (by simp) (by have := Lib.itoa_length_le m (by omega) (by omega); omega)
    generalize segT 2 m = T at *
    have s2 : ((w.alloc (.cells #[.int .i64 2, .int .i64 m] 23)).alloc (.cells #[.string ⟨#[]⟩, .string ⟨#[110]⟩, .string ⟨#[97]⟩, .string ⟨#[103]⟩, .string ⟨#[98]⟩] 57)).cell? ⟨w.heap.size + 1, 2, none⟩ = some (.string ⟨#[97]⟩) := by simp
    have hb1 := below_box (w.alloc (.cells #[.int .i64 2, .int .i64 m] 23)) (.cells #[.string ⟨#[]⟩, .string ⟨#[110]⟩, .string ⟨#[97]⟩, .string ⟨#[103]⟩, .string ⟨#[98]⟩] 57)
    replace s0 := cell_up hb1 s0
    replace s1 := cell_up hb1 s1
    replace HB := below_next HB hb1
    clear hb1
    go_enter Tryd.func12, Tryd.ntmps12
    go_wp2_with fail
    obtain ⟨W, hW⟩ : ∃ W, (w.alloc (.cells #[.int .i64 2, .int .i64 m] 23)).alloc (.cells #[.string ⟨#[]⟩, .string ⟨#[110]⟩, .string ⟨#[97]⟩, .string ⟨#[103]⟩, .string ⟨#[98]⟩] 57) = W := ⟨_, rfl⟩
    rw [hW] at s0 s1 s2 HB ⊢
    clear hW
    have HcN : Hid (∀ d os, Calls Tryd.prog 31 #[.int .i64 m] (grow (redrawn W d) os) fun e w'' => e = .returned (.string ⟨(Lib.itoa m).toArray⟩) ∧ ∃ p : Regrown, w'' = grow (redrawn W p.d) p.os) := Lib.hid fun d os => Calls.regrown_of (HN.out _)
    have kq_s0 := cell_regrown s0
    have kq_s1 := cell_regrown s1
    have kq_s2 := cell_regrown s2
    refine wp_region_quiet_below (by kernel_rfl) (by kernel_rfl) ?_
    repeat (go_big_quiet_step (exact HcN.out _ _))
    refine wpQuiet_nil ?_
    intro w2 hb2
    replace hb2 := below_of_regrown hb2
    clear kq_s0 kq_s1 kq_s2
    replace s0 := cell_up hb2 s0
    replace s1 := cell_up hb2 s1
    replace s2 := cell_up hb2 s2
    replace HB := below_next HB hb2
    go_wp2_with fail
    go_ret
    exact ⟨rfl, HB⟩
  by_cases k3 : k = 3
  · subst k3
    have ca : ∀ w', (Op.stringOp .add ⟨#[103]⟩ ⟨(Lib.itoa m).toArray⟩).run Tryd.prog w' = .ok (.string ⟨(segT 3 m).toArray⟩) w' := fun w' => by
      rw [segT_3 (by omega) (by omega)]
      exact run_string_add_lists w' [103] (Lib.itoa m) (by simp) (by have := Lib.itoa_length_le m (by omega) (by omega); omega)
    generalize segT 3 m = T at *
    have s2 : ((w.alloc (.cells #[.int .i64 3, .int .i64 m] 23)).alloc (.cells #[.string ⟨#[]⟩, .string ⟨#[110]⟩, .string ⟨#[97]⟩, .string ⟨#[103]⟩, .string ⟨#[98]⟩] 57)).cell? ⟨w.heap.size + 1, 3, none⟩ = some (.string ⟨#[103]⟩) := by simp
    have hb1 := below_box (w.alloc (.cells #[.int .i64 3, .int .i64 m] 23)) (.cells #[.string ⟨#[]⟩, .string ⟨#[110]⟩, .string ⟨#[97]⟩, .string ⟨#[103]⟩, .string ⟨#[98]⟩] 57)
    replace s0 := cell_up hb1 s0
    replace s1 := cell_up hb1 s1
    replace HB := below_next HB hb1
    clear hb1
    go_enter Tryd.func12, Tryd.ntmps12
    go_wp2_with fail
    obtain ⟨W, hW⟩ : ∃ W, (w.alloc (.cells #[.int .i64 3, .int .i64 m] 23)).alloc (.cells #[.string ⟨#[]⟩, .string ⟨#[110]⟩, .string ⟨#[97]⟩, .string ⟨#[103]⟩, .string ⟨#[98]⟩] 57) = W := ⟨_, rfl⟩
    rw [hW] at s0 s1 s2 HB ⊢
    clear hW
    have HcN : Hid (∀ d os, Calls Tryd.prog 31 #[.int .i64 m] (grow (redrawn W d) os) fun e w'' => e = .returned (.string ⟨(Lib.itoa m).toArray⟩) ∧ ∃ p : Regrown, w'' = grow (redrawn W p.d) p.os) := Lib.hid fun d os => Calls.regrown_of (HN.out _)
    have kq_s0 := cell_regrown s0
    have kq_s1 := cell_regrown s1
    have kq_s2 := cell_regrown s2
    refine wp_region_quiet_below (by kernel_rfl) (by kernel_rfl) ?_
    repeat (go_big_quiet_step (exact HcN.out _ _))
    refine wpQuiet_nil ?_
    intro w2 hb2
    replace hb2 := below_of_regrown hb2
    clear kq_s0 kq_s1 kq_s2
    replace s0 := cell_up hb2 s0
    replace s1 := cell_up hb2 s1
    replace s2 := cell_up hb2 s2
    replace HB := below_next HB hb2
    go_wp2_with fail
    go_ret
    exact ⟨rfl, HB⟩
  by_cases k4 : k = 4
  · subst k4
    have ca : ∀ w', (Op.stringOp .add ⟨#[98]⟩ ⟨(Lib.itoa m).toArray⟩).run Tryd.prog w' = .ok (.string ⟨(segT 4 m).toArray⟩) w' := fun w' => by
      rw [segT_4 (by omega) (by omega)]
      exact run_string_add_lists w' [98] (Lib.itoa m) (by simp) (by have := Lib.itoa_length_le m (by omega) (by omega); omega)
    generalize segT 4 m = T at *
    have s2 : ((w.alloc (.cells #[.int .i64 4, .int .i64 m] 23)).alloc (.cells #[.string ⟨#[]⟩, .string ⟨#[110]⟩, .string ⟨#[97]⟩, .string ⟨#[103]⟩, .string ⟨#[98]⟩] 57)).cell? ⟨w.heap.size + 1, 4, none⟩ = some (.string ⟨#[98]⟩) := by simp
    have hb1 := below_box (w.alloc (.cells #[.int .i64 4, .int .i64 m] 23)) (.cells #[.string ⟨#[]⟩, .string ⟨#[110]⟩, .string ⟨#[97]⟩, .string ⟨#[103]⟩, .string ⟨#[98]⟩] 57)
    replace s0 := cell_up hb1 s0
    replace s1 := cell_up hb1 s1
    replace HB := below_next HB hb1
    clear hb1
    go_enter Tryd.func12, Tryd.ntmps12
    go_wp2_with fail
    obtain ⟨W, hW⟩ : ∃ W, (w.alloc (.cells #[.int .i64 4, .int .i64 m] 23)).alloc (.cells #[.string ⟨#[]⟩, .string ⟨#[110]⟩, .string ⟨#[97]⟩, .string ⟨#[103]⟩, .string ⟨#[98]⟩] 57) = W := ⟨_, rfl⟩
    rw [hW] at s0 s1 s2 HB ⊢
    clear hW
    have HcN : Hid (∀ d os, Calls Tryd.prog 31 #[.int .i64 m] (grow (redrawn W d) os) fun e w'' => e = .returned (.string ⟨(Lib.itoa m).toArray⟩) ∧ ∃ p : Regrown, w'' = grow (redrawn W p.d) p.os) := Lib.hid fun d os => Calls.regrown_of (HN.out _)
    have kq_s0 := cell_regrown s0
    have kq_s1 := cell_regrown s1
    have kq_s2 := cell_regrown s2
    refine wp_region_quiet_below (by kernel_rfl) (by kernel_rfl) ?_
    repeat (go_big_quiet_step (exact HcN.out _ _))
    refine wpQuiet_nil ?_
    intro w2 hb2
    replace hb2 := below_of_regrown hb2
    clear kq_s0 kq_s1 kq_s2
    replace s0 := cell_up hb2 s0
    replace s1 := cell_up hb2 s1
    replace s2 := cell_up hb2 s2
    replace HB := below_next HB hb2
    go_wp2_with fail
    go_ret
    exact ⟨rfl, HB⟩
  omega

theorem extract_drop1 (s : List UInt8) : (⟨s.toArray⟩ : ByteArray).extract 1 s.length = ⟨(s.drop 1).toArray⟩ := by
  apply ByteArray.ext
  simp [ByteArray.data_extract]
  exact List.take_of_length_le (by simp)

set_option maxHeartbeats 4000000 in
set_option maxRecDepth 100000 in
theorem ref18_Parse (s : List UInt8) (hs : s.length ≤ 100000) (w : World) :
    Calls Tryd.prog 13 #[.string ⟨s.toArray⟩] w (RetSeg s w) := by
  have HZ := Lib.hid (seg_box w)
  have HB := Lib.hid (below_box w (.cells #[.int .i64 0, .int .i64 0] 23))
  by_cases hl1 : s.length ≤ 1
  · have HP : Hid (∀ k m, segT k m = s → s = []) := Lib.hid (seg_none_short hl1)
    have hl1' : (s.length : Int) ≤ 1 := by omega
    go_enter Tryd.func13, Tryd.ntmps13
    go_wp2_with fail
    go_loopw [4] (fun kv wr => kv = .int .i64 1 ∧ wr = w.alloc (.cells #[.int .i64 0, .int .i64 0] 23)) (fun _ _ => 0)
    case atStart => exact ⟨rfl, rfl⟩
    case round =>
      obtain ⟨rfl, rfl⟩ := hrel
      go_wp2_with fail
      exact bodyPost_ret (v := .tuple #[.agg #[.int .i64 0, .int .i64 0], .int .i64 3]) (by simp [results, Tryd.results13, go_sem]) rfl ⟨0, 0, 3, rfl, .inr ⟨rfl, rfl, rfl, HP.out⟩, HB.out⟩
  have hl2 : (1 : Int) < (s.length : Int) := by omega
  have hl3 : (1 : Int) ≤ (s.length : Int) := by omega
  obtain ⟨v, hv⟩ : ∃ v, v = valN (s.drop 1) := ⟨_, rfl⟩
  have HV : Hid (∀ w', Calls Tryd.prog 32 #[.string ((⟨s.toArray⟩ : ByteArray).extract 1 s.length)] w' fun e w'' => e = .returned (.int .i64 v) ∧ w'' = w') := Lib.hid fun w' => by
    rw [extract_drop1, hv]
    exact ref09_Value (s.drop 1) (by rw [List.length_drop]; omega) w'
  have HVN := Lib.hid hv
  clear hv hl1
  go_enter Tryd.func13, Tryd.ntmps13
  go_wp2_with fail
  go_loopw [4] (fun kv wr => ∃ kk : Nat, 1 ≤ kk ∧ kk ≤ 5 ∧ kv = .int .i64 kk ∧ Hid (∀ k : Int, 1 ≤ k → k < kk → segT k v ≠ s) ∧ Hid (wr.heap[w.heap.size]? = some (.cells #[.int .i64 0, .int .i64 0] 23 (0, 0))) ∧ Hid (Below w.heap.size w wr)) (fun kv _ => 5 - (intOf kv).toNat)
  case atStart => exact ⟨1, Nat.le_refl _, by omega, rfl, Lib.hid (fun k h1 h2 => by omega), HZ, HB⟩
  case round =>
    clear HZ HB
    obtain ⟨kk, hk1, hk4, rfl, HK, HZ, HB⟩ := hrel
    by_cases hk3 : kk ≤ 4
    · have hk3' : (kk : Int) ≤ 4 := by omega
      obtain ⟨T, hT⟩ : ∃ T, T = segT (kk : Int) v := ⟨_, rfl⟩
      have HT : Hid (∀ w', Calls Tryd.prog 12 #[.agg #[.int .i64 kk, .int .i64 v]] w' fun e w'' => e = .returned (.string ⟨T.toArray⟩) ∧ Below w'.heap.size w' w'') := Lib.hid fun w' => by rw [hT]; exact ref18_Text kk v w'
      have hBr : w.heap.size < wr.heap.size := lt_of_heap HZ.out
      have HQ := Lib.hid (below_box wr (.cells #[.int .i64 kk, .int .i64 v] 23))
      have u0 := seg_cell0 wr kk v
      have u1 := seg_cell1 wr kk v
      by_cases hTs : T = s
      · have HP : Hid (SegR s kk v 0) := Lib.hid (.inl ⟨rfl, by rintro rfl; simp at hl2, by rw [← hT, hTs]⟩)
        subst hTs
        clear hT
        go_wp2_with (first | (go_at_call 32; refine (HV.out _).mono ?_; rintro e w3 ⟨rfl, rfl⟩) | (go_at_call 12; refine (HT.out _).mono ?_; rintro e w4 ⟨rfl, hb⟩; replace u0 := cell_up hb u0; replace u1 := cell_up hb u1; replace HQ := Lib.hid (below_next HQ.out hb); clear hb; replace HZ := Lib.hid ((HQ.out.block _ hBr).trans HZ.out); have z0 := (Lib.cell_of_heap HZ.out (j := 0)); have z1 := (Lib.cell_of_heap HZ.out (j := 1)); have zf0 : w4.frozen? ⟨w.heap.size, 0, none⟩ = false := Lib.frozen_of_heap HZ.out _; have zf1 : w4.frozen? ⟨w.heap.size, 1, none⟩ = false := Lib.frozen_of_heap HZ.out _))
        clear u0 u1 z0 z1
        have hz := box_set (x := .int .i64 kk) (y := .int .i64 v) HZ.out
        have hz0 := Lib.cell_of_heap hz (j := 0)
        have hz1 := Lib.cell_of_heap hz (j := 1)
        exact bodyPost_ret (v := .tuple #[.agg #[.int .i64 kk, .int .i64 v], .int .i64 0]) (by simp [results, Tryd.results13, go_sem, hz0, hz1]) rfl ⟨kk, v, 0, rfl, HP.out, below_set2 (below_next HB.out HQ.out) _ _⟩
      · have HK2 : Hid (∀ k : Int, 1 ≤ k → k < ((kk + 1 : Nat) : Int) → segT k v ≠ s) := Lib.hid (by
          intro k h1 h2
          by_cases e : k = kk
          · subst e; rw [← hT]; exact hTs
          · exact HK.out k h1 (by omega))
        have hTb : (T == s) = false := by simpa using hTs
        clear hT hTs
        go_wp2_with (first | (go_at_call 32; refine (HV.out _).mono ?_; rintro e w3 ⟨rfl, rfl⟩) | (go_at_call 12; refine (HT.out _).mono ?_; rintro e w4 ⟨rfl, hb⟩; replace u0 := cell_up hb u0; replace u1 := cell_up hb u1; replace HQ := Lib.hid (below_next HQ.out hb); clear hb; replace HZ := Lib.hid ((HQ.out.block _ hBr).trans HZ.out)))
        refine ⟨⟨kk + 1, by omega, by omega, by simp, HK2, HZ, Lib.hid (below_next HB.out HQ.out)⟩, by simp [intOf]; omega⟩
    · obtain rfl : kk = 5 := by omega
      have HP : Hid (∀ k m, segT k m = s → s = []) := Lib.hid (seg_none_val fun k h1 h2 => by rw [← HVN.out]; exact HK.out k h1 (by simpa using h2))
      have z0 := Lib.cell_of_heap HZ.out (j := 0)
      have z1 := Lib.cell_of_heap HZ.out (j := 1)
      have zf0 : wr.frozen? ⟨w.heap.size, 0, none⟩ = false := Lib.frozen_of_heap HZ.out _
      have zf1 : wr.frozen? ⟨w.heap.size, 1, none⟩ = false := Lib.frozen_of_heap HZ.out _
      go_wp2_with fail
      have hz := box_set (x := .int .i64 0) (y := .int .i64 0) HZ.out
      have hz0 := Lib.cell_of_heap hz (j := 0)
      have hz1 := Lib.cell_of_heap hz (j := 1)
      exact bodyPost_ret (v := .tuple #[.agg #[.int .i64 0, .int .i64 0], .int .i64 3]) (by simp [results, Tryd.results13, go_sem, hz0, hz1]) rfl ⟨0, 0, 3, rfl, .inr ⟨rfl, rfl, rfl, HP.out⟩, below_set2 HB.out _ _⟩

end Go.Proofs.YtdjgpjejidajlaaDoor
