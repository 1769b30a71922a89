/-
  trace.Text, Count, Last and waypointref55.Valid, Text, Same: what each returns.
-/
import Derived.Test.YtjcnjnonhncelaaDoorSel
import Derived.Test.YtjcnjnonhncelaaDoorEventO
import Derived.Test.YtjcnjnonhncelaaDoorTxt
import Derived.Test.YtjcnjnonhncelaaDoorLineA
import Derived.Test.YtjcnjnonhncelaaDoorLineB
import Derived.Test.YtjcnjnonhncelaaDoorLineC
import Derived.Test.YtjcnjnonhncelaaDoorLineD
namespace Go.Proofs.YtjcnjnonhncelaaDoor
set_option linter.unusedSimpArgs false
set_option linter.unusedVariables false
open Go.RowKit Go.Sort

theorem evOk_kind {e : Ev} (h : evOk e = true) : 1 ≤ e.k ∧ e.k ≤ 9 := by
  have h1 : evK e.k e.n e.a e.p e.r = true := by unfold evOk at h; simp only [Bool.and_eq_true] at h; exact h.2
  by_cases h2 : 1 ≤ e.k ∧ e.k ≤ 9
  · exact h2
  · rw [evK_no (by omega)] at h1; cases h1
theorem trace_text (e : Ev) (h : evOk e = true) (w : World) (ht : Tab w.heap.size w) : Calls Tryd.prog 28 #[.agg #[.int .i64 e.t, .int .i64 e.k, .int .i64 e.n, .int .i64 e.a, .int .i64 e.p, .int .i64 e.r]] w fun x w' => x = .returned (.string ⟨(evT e).toArray⟩) ∧ Below w.heap.size w w' := by
  have hk := evOk_kind h
  obtain ⟨t, k, n, a, p, r⟩ := e
  simp only at hk
  obtain rfl | rfl | rfl | rfl | rfl | rfl | rfl | rfl | rfl : k = 1 ∨ k = 2 ∨ k = 3 ∨ k = 4 ∨ k = 5 ∨ k = 6 ∨ k = 7 ∨ k = 8 ∨ k = 9 := by omega
  · exact text_1 t n a p r h w ht
  · exact text_2 t n a p r h w ht
  · exact text_3 t n a p r h w ht
  · exact text_4 t n a p r h w ht
  · exact text_5 t n a p r h w ht
  · exact text_6 t n a p r h w ht
  · exact text_7 t n a p r h w ht
  · exact text_8 t n a p r h w ht
  · exact text_9 t n a p r h w ht
theorem ref55_Line (e : Ev) (h : evOk e = true) (w : World) : Calls Tryd.prog 33 #[.agg #[.int .i64 e.t, .int .i64 e.k, .int .i64 e.n, .int .i64 e.a, .int .i64 e.p, .int .i64 e.r]] w fun x w' => x = .returned (.string ⟨(evT e).toArray⟩) ∧ Below w.heap.size w w' := by
  have hk := evOk_kind h
  obtain ⟨t, k, n, a, p, r⟩ := e
  simp only at hk
  obtain rfl | rfl | rfl | rfl | rfl | rfl | rfl | rfl | rfl : k = 1 ∨ k = 2 ∨ k = 3 ∨ k = 4 ∨ k = 5 ∨ k = 6 ∨ k = 7 ∨ k = 8 ∨ k = 9 := by omega
  · exact line_1 t n a p r h w
  · exact line_2 t n a p r h w
  · exact line_3 t n a p r h w
  · exact line_4 t n a p r h w
  · exact line_5 t n a p r h w
  · exact line_6 t n a p r h w
  · have := evOk_7 h
    obtain rfl | rfl : r = 1 ∨ r = 2 := by omega
    · exact line_7_1 t n a p h w
    · exact line_7_2 t n a p h w
  · exact line_8 t n a p r h w
  · exact line_9 t n a p r h w

theorem sizeB (l : List UInt8) : (ByteArray.mk l.toArray).size = l.length := by simp [ByteArray.size]
theorem nmL_len (l : List (List UInt8)) (hl : l.all (fun x => decide (x.length ≤ 20)) = true) (i : Int) : (nmL l i).length ≤ 20 := by
  unfold nmL
  rw [List.getD_eq_getElem?_getD]
  cases h : l[i.toNat]? with
  | none => simp
  | some x => exact nm_len l hl h
theorem evT_len {e : Ev} (h : evOk e = true) : (evT e).length ≤ 160 := by
  obtain ⟨bt0, bt1, bn0, bn1, ba0, ba1, bp0, bp1, br0, br1⟩ := evOk_bd h
  have h1 := Lib.itoa_length_le e.t (by omega) (by omega)
  have h2 := Lib.itoa_length_le e.n (by omega) (by omega)
  have h3 := Lib.itoa_length_le e.a (by omega) (by omega)
  have h4 := Lib.itoa_length_le e.p (by omega) (by omega)
  have h5 := Lib.itoa_length_le e.r (by omega) (by omega)
  have g1 := nmL_len verbsL (by decide) e.k
  have g2 := nmL_len reasonsL (by decide) e.r
  have g3 := nmL_len componentsL (by decide) e.a
  have g4 := nmL_len changesL (by decide) e.r
  have g5 := nmL_len statesL (by decide) e.r
  unfold evT evWs wsT
  repeat' split
  all_goals simp only [List.length_append, List.flatMap_cons, List.flatMap_nil, List.length_cons, List.length_nil, List.cons_append, List.nil_append]
  all_goals omega
/-- The text of a trace. -/
def trT (l : List Ev) : List UInt8 := l.flatMap fun e => evT e ++ [10]
theorem trT_snoc {l : List Ev} {k : Nat} {e : Ev} (h : l[k]? = some e) : trT (l.take (k + 1)) = trT (l.take k) ++ (evT e ++ [10]) := by
  obtain ⟨hk, rfl⟩ := List.getElem?_eq_some_iff.1 h
  unfold trT
  rw [List.take_succ_eq_append_getElem hk, List.flatMap_append]
  simp
theorem trOk_ev {l : List Ev} (h : trOk l = true) {k : Nat} {e : Ev} (he : l[k]? = some e) : evOk e = true := by
  have h1 := trOk_at h (List.getElem?_eq_some_iff.1 he).1
  rw [goodE, getD_at he] at h1
  simp only [Bool.and_eq_true] at h1
  exact h1.1
theorem trT_len {l : List Ev} (h : trOk l = true) : ∀ k, k ≤ l.length → (trT (l.take k)).length ≤ 161 * k
  | 0, _ => by simp [trT]
  | k + 1, hk => by
    have he : l[k]? = some l[k] := List.getElem?_eq_getElem (by omega)
    rw [trT_snoc he, List.length_append, List.length_append]
    have h1 := trT_len h k (by omega)
    have h2 := evT_len (trOk_ev h he)
    simp only [List.length_cons, List.length_nil]
    omega

set_option maxRecDepth 100000 in
set_option maxHeartbeats 4000000 in
theorem trace_Text_ok (A : Option Addr) (c : Nat) (l : List Ev) (w : World) (hA : RdE w A l) (hm : l.length ≤ 100000) (hok : trOk l = true) (ht : Tab w.heap.size w) :
    Calls Tryd.prog 10 #[.slice A l.length c] w fun e w' => e = .returned (.tuple #[.string ⟨(trT l).toArray⟩, .int .i64 0]) ∧ Below w.heap.size w w' := by
  have HA := Lib.hid hA
  have HT := Lib.hid ht
  have HC : Hid (∀ W, RdE W A l → Calls Tryd.prog 11 #[.slice A l.length c] W fun e w' => e = .returned (.bool true) ∧ Below W.heap.size W w') := Lib.hid fun W h => by
    have := trace_Valid A c l W h (by omega)
    rwa [hok] at this
  have HK := Lib.hid hok
  clear hA ht hok
  go_enter Tryd.func10, Tryd.ntmps10
  go_wp2_with (go_at_call 11; refine (HC.out _ HA.out).mono ?_; rintro e W ⟨rfl, hb⟩; have HB := Lib.hid hb; clear hb)
  have HBX := Lib.hid (Lib.fresh_isBuilder 55 5 W)
  have hbb := Lib.hid (below_box W (.cells #[.pointer none, .slice none 0 0] 55))
  have hWs : w.heap.size ≤ W.heap.size := HB.out.size
  obtain ⟨b, hbe⟩ : ∃ b, b = W.heap.size := ⟨_, rfl⟩
  have HBE := Lib.hid hbe
  rw [← hbe] at HBX ⊢
  have hwb : w.heap.size ≤ b := by rw [hbe]; exact hWs
  clear hbe
  go_loopw [12] (fun i wr => ∃ k : Nat, k ≤ l.length ∧ i = .int .i64 k ∧ Hid (Lib.IsBuilder 55 5 b b (Lib.byteCells (trT (l.take k))) wr) ∧ Hid (Below b W wr)) (fun i _ => l.length - (intOf i).toNat)
  case atStart => exact ⟨0, Nat.zero_le _, rfl, HBX, Lib.hid (by rw [HBE.out]; exact hbb.out)⟩
  case round =>
    clear HBX hbb
    obtain ⟨k, hk, rfl, HX, HW⟩ := hrel
    have hsz : b ≤ wr.heap.size := by have := HW.out.size; rw [HBE.out]; exact this
    have HWw : Hid (Below w.heap.size w wr) := Lib.hid (HB.out.trans (HW.out.mono (by rw [HBE.out]; exact hWs)))
    have hlen := trT_len HK.out k hk
    by_cases hlt : k < l.length
    · obtain ⟨b', o, e, rfl, he, hc⟩ := (HA.out.below HWw.out).at_ hlt
      obtain ⟨q0, q1, q2, q3, q4, q5⟩ := hc
      have hel := evT_len (trOk_ev HK.out he)
      have HN := Lib.hid (trT_snoc he)
      have HO := Lib.hid (trOk_ev HK.out he)
      clear he
      generalize trT (l.take k) = u at *
      have HW2 : Hid (Below b W (wr.alloc (.cells #[.int .i64 e.t, .int .i64 e.k, .int .i64 e.n, .int .i64 e.a, .int .i64 e.p, .int .i64 e.r] 40))) := Lib.hid (HW.out.alloc (by omega) _)
      have HX2 := Lib.hid (IsBuilder.up HX.out (below_box wr (.cells #[.int .i64 e.t, .int .i64 e.k, .int .i64 e.n, .int .i64 e.a, .int .i64 e.p, .int .i64 e.r] 40)))
      have HT2 : Hid (Tab (wr.alloc (.cells #[.int .i64 e.t, .int .i64 e.k, .int .i64 e.n, .int .i64 e.a, .int .i64 e.p, .int .i64 e.r] 40)).heap.size (wr.alloc (.cells #[.int .i64 e.t, .int .i64 e.k, .int .i64 e.n, .int .i64 e.a, .int .i64 e.p, .int .i64 e.r] 40))) := Lib.hid (tab_up HT.out (below_next HWw.out (below_box wr (.cells #[.int .i64 e.t, .int .i64 e.k, .int .i64 e.n, .int .i64 e.a, .int .i64 e.p, .int .i64 e.r] 40))) (by have := HWw.out.size; simp; omega))
      have hbx : b ≤ (wr.alloc (.cells #[.int .i64 e.t, .int .i64 e.k, .int .i64 e.n, .int .i64 e.a, .int .i64 e.p, .int .i64 e.r] 40)).heap.size := by rw [World.size_alloc]; omega
      go_wp2_with (first
        | (go_at_call 28; refine (trace_text e HO.out _ HT2.out).mono ?_; rintro e1 w3 ⟨rfl, hb⟩; have HX3 := Lib.hid (IsBuilder.up HX2.out hb); have HW3 := Lib.hid (HW2.out.trans (hb.mono hbx)); have hs3 : b ≤ w3.heap.size := Nat.le_trans hbx hb.size; clear hb)
        | (go_at_call 27; refine (builder_WriteString b b _ _ _ HX3.out (by rw [Lib.byteCells_length, sizeB]; omega) hs3).mono ?_; rintro e1 w4 ⟨rfl, h4, hb4, _⟩; rw [bc_str] at h4; have HX4 := Lib.hid h4; have HW4 := Lib.hid (HW3.out.trans hb4); have hs4 : b ≤ w4.heap.size := Nat.le_trans hs3 hb4.size; clear h4 hb4)
        | (go_at_call 29; refine (builder_WriteByte b b _ 10 _ HX4.out (by rw [Lib.byteCells_length]; simp only [List.length_append]; omega) hs4).mono ?_; rintro e1 w5 ⟨rfl, h5, hb5, _⟩; rw [show (10 : Int) = ((10 : UInt8).toNat : Int) from rfl, bc_one] at h5; have HX5 := Lib.hid h5; have HW5 := Lib.hid (HW4.out.trans hb5); clear h5 hb5))
      go_roundw
      case rel => exact ⟨k + 1, by omega, by go_num, Lib.hid (by rw [HN.out, ← List.append_assoc]; exact HX5.out), HW5⟩
      case measure => simp [intOf]; omega
    · obtain rfl : k = l.length := by omega
      rw [List.take_length] at HX
      go_wp2_with (go_at_call 30; refine (Tryd.Builder_String_any b b _ _ HX.out hsz).mono ?_; rintro e1 wz ⟨rfl, hz⟩; have HZ := Lib.hid hz; clear hz)
      go_ret2
      exact ⟨rfl, HWw.out.trans (HZ.out.mono (by omega))⟩

theorem trace_Text_bad (A : Option Addr) (c : Nat) (l : List Ev) (w : World) (hA : RdE w A l) (hm : l.length ≤ 100000) (hok : trOk l = false) :
    Calls Tryd.prog 10 #[.slice A l.length c] w fun e w' => e = .returned (.tuple #[.string ⟨#[]⟩, .int .i64 1]) ∧ Below w.heap.size w w' := by
  have HC : Hid (∀ W, RdE W A l → Calls Tryd.prog 11 #[.slice A l.length c] W fun e w' => e = .returned (.bool false) ∧ Below W.heap.size W w') := Lib.hid fun W h => by
    have := trace_Valid A c l W h (by omega)
    rwa [hok] at this
  have HA := Lib.hid hA
  clear hA hok
  go_enter Tryd.func10, Tryd.ntmps10
  go_wp2_with (go_at_call 11; refine (HC.out _ HA.out).mono ?_; rintro e W ⟨rfl, hb⟩; have HB := Lib.hid hb; clear hb)
  go_ret2
  exact ⟨rfl, HB.out⟩

set_option maxRecDepth 100000 in
set_option maxHeartbeats 4000000 in
theorem ref55_Text (A : Option Addr) (c : Nat) (l : List Ev) (w : World) (hA : RdE w A l) (hm : l.length ≤ 10000) (hok : trOk l = true) :
    Calls Tryd.prog 13 #[.slice A l.length c] w fun e w' => e = .returned (.string ⟨(trT l).toArray⟩) ∧ Below w.heap.size w w' := by
  have HA := Lib.hid hA
  have HK := Lib.hid hok
  clear hA hok
  go_enter Tryd.func13, Tryd.ntmps13
  go_wp2_with fail
  go_loopw [3, 4] (fun s i wr => ∃ k : Nat, k ≤ l.length ∧ i = .int .i64 k ∧ s = .string ⟨(trT (l.take k)).toArray⟩ ∧ Hid (Below w.heap.size w wr)) (fun _ i _ => l.length - (intOf i).toNat)
  case atStart => exact ⟨0, Nat.zero_le _, rfl, rfl, Lib.hid (Below.refl _ _)⟩
  case round =>
    obtain ⟨k, hk, rfl, rfl, HW⟩ := hrel
    have hlen := trT_len HK.out k hk
    by_cases hlt : k < l.length
    · obtain ⟨b', o, e, rfl, he, hc⟩ := (HA.out.below HW.out).at_ hlt
      obtain ⟨q0, q1, q2, q3, q4, q5⟩ := hc
      have hel := evT_len (trOk_ev HK.out he)
      have HN := Lib.hid (trT_snoc he)
      have HO := Lib.hid (trOk_ev HK.out he)
      clear he
      generalize trT (l.take k) = u at *
      obtain ⟨u2, hu2⟩ : ∃ u2, u2 = u ++ evT e := ⟨_, rfl⟩
      have hl2 : u2.length ≤ 161 * k + 160 := by rw [hu2, List.length_append]; omega
      have a1 : ∀ w', (Op.stringOp .add ⟨u.toArray⟩ ⟨(evT e).toArray⟩).run Tryd.prog w' = .ok (.string ⟨u2.toArray⟩) w' := fun w' => by rw [hu2]; exact run_string_add_lists w' u (evT e) (by omega) (by omega)
      obtain ⟨u3, hu3⟩ : ∃ u3, u3 = u2 ++ [10] := ⟨_, rfl⟩
      have a2 : ∀ w', (Op.stringOp .add ⟨u2.toArray⟩ ⟨#[10]⟩).run Tryd.prog w' = .ok (.string ⟨u3.toArray⟩) w' := fun w' => by rw [hu3]; exact run_string_add_lists w' u2 [10] (by omega) (by simp)
      have H3 : Hid (trT (l.take (k + 1)) = u3) := Lib.hid (by rw [HN.out, hu3, hu2, List.append_assoc])
      clear hu2 hu3
      go_wp2_with (go_at_call 33; refine (ref55_Line e HO.out _).mono ?_; rintro e1 w3 ⟨rfl, hb⟩; replace HW := Lib.hid (below_next HW.out hb); clear hb)
      go_roundw
      case rel => exact ⟨k + 1, by omega, by go_num, by rw [H3.out], HW⟩
      case measure => simp [intOf]; omega
    · obtain rfl : k = l.length := by omega
      rw [List.take_length]
      go_wp2_with fail
      go_ret
      exact ⟨rfl, HW.out⟩

set_option maxRecDepth 100000 in
set_option maxHeartbeats 2000000 in
theorem ref55_Valid (A : Option Addr) (c : Nat) (l : List Ev) (w : World) (hA : RdE w A l) (hm : l.length ≤ 4611686018427387904) :
    Calls Tryd.prog 12 #[.slice A l.length c] w fun e w' => e = .returned (.bool (trOk l)) ∧ Below w.heap.size w w' := by
  obtain ⟨V, hV⟩ : ∃ V, V = trOk l := ⟨_, rfl⟩
  rw [← hV]
  have HV := Lib.hid hV
  have HA := Lib.hid hA
  clear hV hA
  go_enter Tryd.func12, Tryd.ntmps12
  go_wp2_with fail
  go_loopw [3] (fun i wr => ∃ k : Nat, k ≤ l.length ∧ i = .int .i64 k ∧ Hid (∀ j, j < k → goodE l j = true) ∧ Hid (Below w.heap.size w wr)) (fun i _ => l.length - (intOf i).toNat)
  case atStart => exact ⟨0, Nat.zero_le _, rfl, Lib.hid (fun j hj => absurd hj (Nat.not_lt_zero _)), Lib.hid (Below.refl _ _)⟩
  case round =>
    obtain ⟨k, hk, rfl, HJ, HW⟩ := hrel
    by_cases hlt : k < l.length
    · by_cases hk0 : k = 0
      · subst hk0
        obtain ⟨b, o, e, rfl, he, hc⟩ := (HA.out.below HW.out).at_ hlt
        obtain ⟨q0, q1, q2, q3, q4, q5⟩ := hc
        simp only [Nat.zero_mul, Nat.add_zero] at q0 q1 q2 q3 q4 q5
        have HE := Lib.hid he
        clear he hk
        have hlt' : decide (0 < l.length) = true := by simpa using hlt
        cases hok : evOk e with
        | false =>
          have HR : Hid (V = false) := Lib.hid (by rw [HV.out]; exact trOk_bad hlt (good_ev HE.out hok))
          go_wp2_with fail
          have kq_q0 := cell_regrown q0
          have kq_q1 := cell_regrown q1
          have kq_q2 := cell_regrown q2
          have kq_q3 := cell_regrown q3
          have kq_q4 := cell_regrown q4
          have kq_q5 := cell_regrown q5
          refine wp_region_quiet_below (by kernel_rfl) (by kernel_rfl) ?_
          repeat (go_big_quiet_step ((first | exact Calls.regrown_of (hok ▸ ref55_Event e _))))
          refine wpQuiet_nil ?_
          intro w2 hb2
          replace hb2 := below_of_regrown hb2
          clear kq_q0 kq_q1 kq_q2 kq_q3 kq_q4 kq_q5
          replace q0 := cell_up hb2 q0
          replace q1 := cell_up hb2 q1
          replace q2 := cell_up hb2 q2
          replace q3 := cell_up hb2 q3
          replace q4 := cell_up hb2 q4
          replace q5 := cell_up hb2 q5
          go_wp2_with fail
          go_ret
          exact ⟨by rw [HR.out]; rfl, below_next HW.out hb2⟩
        | true =>
          have HG := Lib.hid (good_next HJ.out (good_0 HE.out hok))
          go_wp2_with fail
          have kq_q0 := cell_regrown q0
          have kq_q1 := cell_regrown q1
          have kq_q2 := cell_regrown q2
          have kq_q3 := cell_regrown q3
          have kq_q4 := cell_regrown q4
          have kq_q5 := cell_regrown q5
          refine wp_region_quiet_below (by kernel_rfl) (by kernel_rfl) ?_
          repeat (go_big_quiet_step ((first | exact Calls.regrown_of (hok ▸ ref55_Event e _))))
          refine wpQuiet_nil ?_
          intro w2 hb2
          replace hb2 := below_of_regrown hb2
          clear kq_q0 kq_q1 kq_q2 kq_q3 kq_q4 kq_q5
          replace q0 := cell_up hb2 q0
          replace q1 := cell_up hb2 q1
          replace q2 := cell_up hb2 q2
          replace q3 := cell_up hb2 q3
          replace q4 := cell_up hb2 q4
          replace q5 := cell_up hb2 q5
          go_wp2_with fail
          go_roundw
          case rel => exact ⟨1, by omega, by go_num, HG, Lib.hid (below_next HW.out hb2)⟩
          case measure => simp [intOf]; omega
      · obtain ⟨j, rfl⟩ : ∃ j, k = j + 1 := ⟨k - 1, by omega⟩
        obtain ⟨b, o, d, e, rfl, hd, he, hcd, hc⟩ := (HA.out.below HW.out).two hlt
        obtain ⟨q0, q1, q2, q3, q4, q5⟩ := hc
        have d0 := hcd.q0
        have HD := Lib.hid hd
        have HE := Lib.hid he
        have hj2 : (j : Int) < (l.length : Int) := by omega
        have hj3 : (j : Int) + 1 < (l.length : Int) := by omega
        clear he hk hk0 hd hcd
        cases hok : evOk e with
        | false =>
          have HR : Hid (V = false) := Lib.hid (by rw [HV.out]; exact trOk_bad hlt (good_ev HE.out hok))
          go_wp2_with fail
          have kq_q0 := cell_regrown q0
          have kq_q1 := cell_regrown q1
          have kq_q2 := cell_regrown q2
          have kq_q3 := cell_regrown q3
          have kq_q4 := cell_regrown q4
          have kq_q5 := cell_regrown q5
          have kq_d0 := cell_regrown d0
          refine wp_region_quiet_below (by kernel_rfl) (by kernel_rfl) ?_
          repeat (go_big_quiet_step ((first | exact Calls.regrown_of (hok ▸ ref55_Event e _))))
          refine wpQuiet_nil ?_
          intro w2 hb2
          replace hb2 := below_of_regrown hb2
          clear kq_q0 kq_q1 kq_q2 kq_q3 kq_q4 kq_q5 kq_d0
          replace q0 := cell_up hb2 q0
          replace q1 := cell_up hb2 q1
          replace q2 := cell_up hb2 q2
          replace q3 := cell_up hb2 q3
          replace q4 := cell_up hb2 q4
          replace q5 := cell_up hb2 q5
          replace d0 := cell_up hb2 d0
          go_wp2_with fail
          go_ret
          exact ⟨by rw [HR.out]; rfl, below_next HW.out hb2⟩
        | true =>
          have HG := Lib.hid (good_s HD.out HE.out hok)
          by_cases hlate : e.t < d.t
          · have HR : Hid (V = false) := Lib.hid (by rw [HV.out]; exact trOk_bad hlt (by rw [HG.out]; simpa using hlate))
            go_wp2_with fail
            have kq_q0 := cell_regrown q0
            have kq_q1 := cell_regrown q1
            have kq_q2 := cell_regrown q2
            have kq_q3 := cell_regrown q3
            have kq_q4 := cell_regrown q4
            have kq_q5 := cell_regrown q5
            have kq_d0 := cell_regrown d0
            refine wp_region_quiet_below (by kernel_rfl) (by kernel_rfl) ?_
            repeat (go_big_quiet_step ((first | exact Calls.regrown_of (hok ▸ ref55_Event e _))))
            refine wpQuiet_nil ?_
            intro w2 hb2
            replace hb2 := below_of_regrown hb2
            clear kq_q0 kq_q1 kq_q2 kq_q3 kq_q4 kq_q5 kq_d0
            replace q0 := cell_up hb2 q0
            replace q1 := cell_up hb2 q1
            replace q2 := cell_up hb2 q2
            replace q3 := cell_up hb2 q3
            replace q4 := cell_up hb2 q4
            replace q5 := cell_up hb2 q5
            replace d0 := cell_up hb2 d0
            go_wp2_with fail
            go_ret
            exact ⟨by rw [HR.out]; rfl, below_next HW.out hb2⟩
          · have HG' := Lib.hid (good_next HJ.out (by rw [HG.out]; simpa using hlate))
            go_wp2_with fail
            have kq_q0 := cell_regrown q0
            have kq_q1 := cell_regrown q1
            have kq_q2 := cell_regrown q2
            have kq_q3 := cell_regrown q3
            have kq_q4 := cell_regrown q4
            have kq_q5 := cell_regrown q5
            have kq_d0 := cell_regrown d0
            refine wp_region_quiet_below (by kernel_rfl) (by kernel_rfl) ?_
            repeat (go_big_quiet_step ((first | exact Calls.regrown_of (hok ▸ ref55_Event e _))))
            refine wpQuiet_nil ?_
            intro w2 hb2
            replace hb2 := below_of_regrown hb2
            clear kq_q0 kq_q1 kq_q2 kq_q3 kq_q4 kq_q5 kq_d0
            replace q0 := cell_up hb2 q0
            replace q1 := cell_up hb2 q1
            replace q2 := cell_up hb2 q2
            replace q3 := cell_up hb2 q3
            replace q4 := cell_up hb2 q4
            replace q5 := cell_up hb2 q5
            replace d0 := cell_up hb2 d0
            go_wp2_with fail
            go_roundw
            case rel => exact ⟨j + 1 + 1, by omega, by go_num, HG', Lib.hid (below_next HW.out hb2)⟩
            case measure => simp [intOf]; omega
    · obtain rfl : k = l.length := by omega
      have HR : Hid (V = true) := Lib.hid (by rw [HV.out]; exact trOk_of HJ.out)
      go_wp2_with fail
      go_ret
      exact ⟨by rw [HR.out]; rfl, HW.out⟩

end Go.Proofs.YtjcnjnonhncelaaDoor
