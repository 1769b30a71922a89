/-
  waypointref57.Text: what it returns for every list of events and every cause.
-/
import Derived.Test.YtjcnjnonhncelaaDoorExplT
namespace Go.Proofs.YtjcnjnonhncelaaDoor
open Go.RowKit Go.Sort
set_option linter.unusedSimpArgs false
set_option linter.unusedVariables false

set_option maxRecDepth 100000 in
set_option maxHeartbeats 8000000 in
theorem ref57_Text (A : Option Addr) (c : Nat) (l : List Ev) (r e v : Int) (w : World) (hA : RdE w A l) (hm : l.length ≤ 1000) :
    Calls Tryd.prog 25 #[.slice A l.length c, .agg #[.int .i64 r, .int .i64 e, .int .i64 v]] w fun x w' => x = .returned (.string ⟨(expT l r e v).toArray⟩) ∧ Below w.heap.size w w' := by
  obtain ⟨V, hV⟩ : ∃ V, V = expT l r e v := ⟨_, rfl⟩
  rw [← hV]
  have HV := Lib.hid hV
  clear hV
  have HA := Lib.hid hA
  have HW1 := Lib.hid (below_box w (.cells #[.int .i64 r, .int .i64 e, .int .i64 v] 46))
  have HC1 : Hid ((w.alloc (.cells #[.int .i64 r, .int .i64 e, .int .i64 v] 46)).heap[w.heap.size]? = some (.cells #[.int .i64 r, .int .i64 e, .int .i64 v] 46 (0, 0))) := Lib.hid (heap_alloc_new _ _)
  have hsz1 : (w.alloc (.cells #[.int .i64 r, .int .i64 e, .int .i64 v] 46)).heap.size = w.heap.size + 1 := by simp
  have HCV : Hid (∀ W, RdE W A l → Calls Tryd.prog 12 #[.slice A l.length c] W fun e w' => e = .returned (.bool (trOk l)) ∧ Below W.heap.size W w') := Lib.hid fun W h => ref55_Valid A c l W h (by omega)
  clear hA
  go_enter Tryd.func25, Tryd.ntmps25
  go_upto_region 1 with fail
  generalize w.alloc (.cells #[.int .i64 r, .int .i64 e, .int .i64 v] 46) = W1 at *
  go_upto_region 2 with fail
  have HN : Hid (0 ≤ r → r ≤ 11 → (W1.alloc (.cells #[.string ⟨#[]⟩, .string ⟨#[119, 97, 121]⟩, .string ⟨#[97, 114, 114, 105, 118, 101, 100]⟩, .string ⟨#[114, 101, 112, 97, 105, 114, 101, 100]⟩, .string ⟨#[100, 101, 116, 111, 117, 114, 101, 100]⟩, .string ⟨#[100, 111, 119, 110]⟩, .string ⟨#[99, 104, 97, 110, 110, 101, 108]⟩, .string ⟨#[113, 117, 101, 117, 101]⟩, .string ⟨#[114, 111, 117, 116, 101]⟩, .string ⟨#[108, 111, 111, 112]⟩, .string ⟨#[115, 101, 103, 109, 101, 110, 116]⟩, .string ⟨#[110, 111, 100, 101]⟩] 87)).cell? ⟨W1.heap.size, r.toNat, none⟩ = some (.string ⟨(nmL nmE r).toArray⟩)) := Lib.hid (nmE_cell W1)
  have HB := Lib.hid (below_next HW1.out (below_box W1 (.cells #[.string ⟨#[]⟩, .string ⟨#[119, 97, 121]⟩, .string ⟨#[97, 114, 114, 105, 118, 101, 100]⟩, .string ⟨#[114, 101, 112, 97, 105, 114, 101, 100]⟩, .string ⟨#[100, 101, 116, 111, 117, 114, 101, 100]⟩, .string ⟨#[100, 111, 119, 110]⟩, .string ⟨#[99, 104, 97, 110, 110, 101, 108]⟩, .string ⟨#[113, 117, 101, 117, 101]⟩, .string ⟨#[114, 111, 117, 116, 101]⟩, .string ⟨#[108, 111, 111, 112]⟩, .string ⟨#[115, 101, 103, 109, 101, 110, 116]⟩, .string ⟨#[110, 111, 100, 101]⟩] 87)))
  have HC2 : Hid ((W1.alloc (.cells #[.string ⟨#[]⟩, .string ⟨#[119, 97, 121]⟩, .string ⟨#[97, 114, 114, 105, 118, 101, 100]⟩, .string ⟨#[114, 101, 112, 97, 105, 114, 101, 100]⟩, .string ⟨#[100, 101, 116, 111, 117, 114, 101, 100]⟩, .string ⟨#[100, 111, 119, 110]⟩, .string ⟨#[99, 104, 97, 110, 110, 101, 108]⟩, .string ⟨#[113, 117, 101, 117, 101]⟩, .string ⟨#[114, 111, 117, 116, 101]⟩, .string ⟨#[108, 111, 111, 112]⟩, .string ⟨#[115, 101, 103, 109, 101, 110, 116]⟩, .string ⟨#[110, 111, 100, 101]⟩] 87)).heap[w.heap.size]? = some (.cells #[.int .i64 r, .int .i64 e, .int .i64 v] 46 (0, 0))) := Lib.hid (((below_box W1 _).block _ (lt_of_heap HC1.out)).trans HC1.out)
  generalize (W1.alloc (.cells #[.string ⟨#[]⟩, .string ⟨#[119, 97, 121]⟩, .string ⟨#[97, 114, 114, 105, 118, 101, 100]⟩, .string ⟨#[114, 101, 112, 97, 105, 114, 101, 100]⟩, .string ⟨#[100, 101, 116, 111, 117, 114, 101, 100]⟩, .string ⟨#[100, 111, 119, 110]⟩, .string ⟨#[99, 104, 97, 110, 110, 101, 108]⟩, .string ⟨#[113, 117, 101, 117, 101]⟩, .string ⟨#[114, 111, 117, 116, 101]⟩, .string ⟨#[108, 111, 111, 112]⟩, .string ⟨#[115, 101, 103, 109, 101, 110, 116]⟩, .string ⟨#[110, 111, 100, 101]⟩] 87)) = W2 at *
  clear HW1 HC1
  have hk0 : W2.cell? ⟨w.heap.size, 0, none⟩ = some (.int .i64 r) := by rw [Lib.cell_of_heap HC2.out]; rfl
  have hk1 : W2.cell? ⟨w.heap.size, 1, none⟩ = some (.int .i64 e) := by rw [Lib.cell_of_heap HC2.out]; rfl
  have hk2 : W2.cell? ⟨w.heap.size, 2, none⟩ = some (.int .i64 v) := by rw [Lib.cell_of_heap HC2.out]; rfl
  clear HC2
  by_cases h1 : 1 ≤ r
  · by_cases h2 : r ≤ 11
    · have hb1 : ¬ r < 1 := by omega
      have hb2 : ¬ 11 < r := by omega
      have hr12 : r < 12 := by omega
      have hr0 : 0 ≤ r := by omega
      have q9 := HN.out (by omega) h2
      rw [hsz1] at q9
      clear HN
      cases hok : trOk l with
      | false =>
        have HVV : Hid (V = []) := Lib.hid (by rw [HV.out]; exact expT_bad (by simp [hok]))
        rw [hok] at HCV
        clear hok
        go_wp2_with (go_at_call 12; (with_reducible refine (HCV.out _ (HA.out.below HB.out)).mono ?_); rintro x w3 ⟨rfl, hb⟩; replace HB := Lib.hid (below_next HB.out hb); clear hb)
        go_ret
        exact ⟨by rw [HVV.out]; rfl, HB.out⟩
      | true =>
        rw [hok] at HCV
        have HVV : Hid (V = nmL nmE r ++ prtE l e ++ (if e = v then [] else prtE l v)) := Lib.hid (by rw [HV.out, expT, if_pos ⟨hok, h1, h2⟩])
        have HOK := Lib.hid hok
        clear hok h1 h2
        have hSl := nmE_len r
        generalize nmL nmE r = S at *
        go_upto_region 5 with (go_at_call 12; (with_reducible refine (HCV.out _ (HA.out.below HB.out)).mono ?_); rintro x w3 ⟨rfl, hb⟩; replace HB := Lib.hid (below_next HB.out hb); replace hk0 := cell_up hb hk0; replace hk1 := cell_up hb hk1; replace hk2 := cell_up hb hk2; replace q9 := cell_up hb q9; clear hb)
        replace HA := Lib.hid (HA.out.below HB.out)
        by_cases he : 0 ≤ e ∧ e < (l.length : Int)
        · obtain ⟨e0, e1⟩ := he
          obtain ⟨j, rfl⟩ : ∃ n : Nat, e = (n : Int) := ⟨e.toNat, by omega⟩
          obtain ⟨b, o, x, rfl, hx, hcx⟩ := HA.out.at_ (k := j) (by omega)
          have hokx := ev_ok HOK.out hx
          have HLx : Hid (∀ W, Calls Tryd.prog 33 #[.agg #[.int .i64 x.t, .int .i64 x.k, .int .i64 x.n, .int .i64 x.a, .int .i64 x.p, .int .i64 x.r]] W fun e w' => e = .returned (.string ⟨(evT x).toArray⟩) ∧ Below W.heap.size W w') := Lib.hid (ref55_Line x hokx)
          have hlx := evT_len hokx
          have HPx := Lib.hid (prtE_in hx)
          obtain ⟨qx0, qx1, qx2, qx3, qx4, qx5⟩ := hcx
          clear hx hokx
          by_cases hv : 0 ≤ v ∧ v < (l.length : Int)
          · obtain ⟨v0, v1⟩ := hv
            by_cases hev : v = (j : Int)
            · subst hev
              have HE9 : Hid (V = S ++ [58, 32] ++ evT x) := Lib.hid (by rw [HVV.out, if_pos rfl, HPx.out]; simp)
              generalize evT x = X at *
              have ca1 : ∀ w', (Op.stringOp .add ⟨(S).toArray⟩ ⟨#[58, 32]⟩).run Tryd.prog w' = .ok (.string ⟨(S ++ [58, 32]).toArray⟩) w' := fun w' => run_string_add_lists w' (S) [58, 32] (by first | omega | (simp only [List.length_append, List.length_cons, List.length_nil]; omega)) (by simp)
              have ca2 : ∀ w', (Op.stringOp .add ⟨(S ++ [58, 32]).toArray⟩ ⟨(X).toArray⟩).run Tryd.prog w' = .ok (.string ⟨(S ++ [58, 32] ++ X).toArray⟩) w' := fun w' => run_string_add_lists w' (S ++ [58, 32]) (X) (by first | omega | (simp only [List.length_append, List.length_cons, List.length_nil]; omega)) (by first | omega | (simp only [List.length_append, List.length_cons, List.length_nil]; omega))
              go_wp2_with (go_at_call 33; (with_reducible refine (HLx.out _).mono ?_); rintro x2 w5 ⟨rfl, hb⟩; replace HB := Lib.hid (below_next HB.out hb); replace hk1 := cell_up hb hk1; replace hk2 := cell_up hb hk2; clear hb)
              go_ret
              exact ⟨by rw [HE9.out]; first | rfl | (simp; done) | (simp; apply ByteArray.ext; simp), HB.out⟩
            · have HVW : Hid (V = S ++ prtE l j ++ prtE l v) := Lib.hid (by rw [HVV.out, if_neg (fun e9 => hev e9.symm)])
              obtain ⟨m, rfl⟩ : ∃ n : Nat, v = (n : Int) := ⟨v.toNat, by omega⟩
              obtain ⟨b', o', y, hA2, hy, hcy⟩ := HA.out.at_ (k := m) (by omega)
              injection hA2 with hA2
              injection hA2 with e8 e9
              subst e8 e9
              have hoky := ev_ok HOK.out hy
              have HLy : Hid (∀ W, Calls Tryd.prog 33 #[.agg #[.int .i64 y.t, .int .i64 y.k, .int .i64 y.n, .int .i64 y.a, .int .i64 y.p, .int .i64 y.r]] W fun e w' => e = .returned (.string ⟨(evT y).toArray⟩) ∧ Below W.heap.size W w') := Lib.hid (ref55_Line y hoky)
              have hly := evT_len hoky
              have HPy := Lib.hid (prtE_in hy)
              obtain ⟨qy0, qy1, qy2, qy3, qy4, qy5⟩ := hcy
              clear hy hoky
              have hne : ((m : Int) != (j : Int)) = true := by rw [bne_iff_ne]; exact hev
              have HE9 : Hid (V = S ++ [58, 32] ++ evT x ++ [58, 32] ++ evT y) := Lib.hid (by rw [HVW.out, HPx.out, HPy.out]; simp)
              generalize evT x = X at *
              generalize evT y = Y at *
              clear HVV HVW hev
              have ca1 : ∀ w', (Op.stringOp .add ⟨(S).toArray⟩ ⟨#[58, 32]⟩).run Tryd.prog w' = .ok (.string ⟨(S ++ [58, 32]).toArray⟩) w' := fun w' => run_string_add_lists w' (S) [58, 32] (by first | omega | (simp only [List.length_append, List.length_cons, List.length_nil]; omega)) (by simp)
              have ca2 : ∀ w', (Op.stringOp .add ⟨(S ++ [58, 32]).toArray⟩ ⟨(X).toArray⟩).run Tryd.prog w' = .ok (.string ⟨(S ++ [58, 32] ++ X).toArray⟩) w' := fun w' => run_string_add_lists w' (S ++ [58, 32]) (X) (by first | omega | (simp only [List.length_append, List.length_cons, List.length_nil]; omega)) (by first | omega | (simp only [List.length_append, List.length_cons, List.length_nil]; omega))
              have ca3 : ∀ w', (Op.stringOp .add ⟨(S ++ [58, 32] ++ X).toArray⟩ ⟨#[58, 32]⟩).run Tryd.prog w' = .ok (.string ⟨(S ++ [58, 32] ++ X ++ [58, 32]).toArray⟩) w' := fun w' => run_string_add_lists w' (S ++ [58, 32] ++ X) [58, 32] (by first | omega | (simp only [List.length_append, List.length_cons, List.length_nil]; omega)) (by simp)
              have ca4 : ∀ w', (Op.stringOp .add ⟨(S ++ [58, 32] ++ X ++ [58, 32]).toArray⟩ ⟨(Y).toArray⟩).run Tryd.prog w' = .ok (.string ⟨(S ++ [58, 32] ++ X ++ [58, 32] ++ Y).toArray⟩) w' := fun w' => run_string_add_lists w' (S ++ [58, 32] ++ X ++ [58, 32]) (Y) (by first | omega | (simp only [List.length_append, List.length_cons, List.length_nil]; omega)) (by first | omega | (simp only [List.length_append, List.length_cons, List.length_nil]; omega))
              go_wp2_with (first | (go_at_call 33; (with_reducible refine (HLx.out _).mono ?_); rintro x2 w5 ⟨rfl, hb⟩; replace HB := Lib.hid (below_next HB.out hb); replace hk1 := cell_up hb hk1; replace hk2 := cell_up hb hk2; replace qy0 := cell_up hb qy0; replace qy1 := cell_up hb qy1; replace qy2 := cell_up hb qy2; replace qy3 := cell_up hb qy3; replace qy4 := cell_up hb qy4; replace qy5 := cell_up hb qy5; clear hb) | (go_at_call 33; (with_reducible refine (HLy.out _).mono ?_); rintro x2 w5 ⟨rfl, hb⟩; replace HB := Lib.hid (below_next HB.out hb); replace hk1 := cell_up hb hk1; clear hb))
              go_ret
              exact ⟨by rw [HE9.out]; first | rfl | (simp; done) | (simp; apply ByteArray.ext; simp), HB.out⟩
          · have HVW : Hid (V = S ++ prtE l j) := Lib.hid (by rw [HVV.out, prtE_out hv]; simp)
            have HE9 : Hid (V = S ++ [58, 32] ++ evT x) := Lib.hid (by rw [HVW.out, HPx.out]; simp)
            generalize evT x = X at *
            have ca1 : ∀ w', (Op.stringOp .add ⟨(S).toArray⟩ ⟨#[58, 32]⟩).run Tryd.prog w' = .ok (.string ⟨(S ++ [58, 32]).toArray⟩) w' := fun w' => run_string_add_lists w' (S) [58, 32] (by first | omega | (simp only [List.length_append, List.length_cons, List.length_nil]; omega)) (by simp)
            have ca2 : ∀ w', (Op.stringOp .add ⟨(S ++ [58, 32]).toArray⟩ ⟨(X).toArray⟩).run Tryd.prog w' = .ok (.string ⟨(S ++ [58, 32] ++ X).toArray⟩) w' := fun w' => run_string_add_lists w' (S ++ [58, 32]) (X) (by first | omega | (simp only [List.length_append, List.length_cons, List.length_nil]; omega)) (by first | omega | (simp only [List.length_append, List.length_cons, List.length_nil]; omega))
            clear HVV HVW
            by_cases v0 : v < 0
            · clear hv
              go_wp2_with (go_at_call 33; (with_reducible refine (HLx.out _).mono ?_); rintro x2 w5 ⟨rfl, hb⟩; replace HB := Lib.hid (below_next HB.out hb); replace hk1 := cell_up hb hk1; replace hk2 := cell_up hb hk2; clear hb)
              go_ret
              exact ⟨by rw [HE9.out]; first | rfl | (simp; done) | (simp; apply ByteArray.ext; simp), HB.out⟩
            · have v0c : 0 ≤ v := by omega
              have v1c : (l.length : Int) ≤ v := by omega
              clear hv
              go_wp2_with (go_at_call 33; (with_reducible refine (HLx.out _).mono ?_); rintro x2 w5 ⟨rfl, hb⟩; replace HB := Lib.hid (below_next HB.out hb); replace hk1 := cell_up hb hk1; replace hk2 := cell_up hb hk2; clear hb)
              go_ret
              exact ⟨by rw [HE9.out]; first | rfl | (simp; done) | (simp; apply ByteArray.ext; simp), HB.out⟩
        · have HPe := Lib.hid (prtE_out he)
          by_cases e0 : e < 0
          · clear he
            by_cases hv : 0 ≤ v ∧ v < (l.length : Int)
            · obtain ⟨v0, v1⟩ := hv
              have hev : ¬ v = e := by omega
              have HVW : Hid (V = S ++ prtE l v) := Lib.hid (by rw [HVV.out, if_neg (fun e9 => hev e9.symm), HPe.out, List.append_nil])
              obtain ⟨m, rfl⟩ : ∃ n : Nat, v = (n : Int) := ⟨v.toNat, by omega⟩
              obtain ⟨b, o, y, rfl, hy, hcy⟩ := HA.out.at_ (k := m) (by omega)
              have hoky := ev_ok HOK.out hy
              have HLy : Hid (∀ W, Calls Tryd.prog 33 #[.agg #[.int .i64 y.t, .int .i64 y.k, .int .i64 y.n, .int .i64 y.a, .int .i64 y.p, .int .i64 y.r]] W fun e w' => e = .returned (.string ⟨(evT y).toArray⟩) ∧ Below W.heap.size W w') := Lib.hid (ref55_Line y hoky)
              have hly := evT_len hoky
              have HPy := Lib.hid (prtE_in hy)
              obtain ⟨qy0, qy1, qy2, qy3, qy4, qy5⟩ := hcy
              clear hy hoky
              have hne : ((m : Int) != e) = true := by rw [bne_iff_ne]; exact hev
              have HE9 : Hid (V = S ++ [58, 32] ++ evT y) := Lib.hid (by rw [HVW.out, HPy.out]; simp)
              generalize evT y = Y at *
              clear HVV HVW hev
              have ca1 : ∀ w', (Op.stringOp .add ⟨(S).toArray⟩ ⟨#[58, 32]⟩).run Tryd.prog w' = .ok (.string ⟨(S ++ [58, 32]).toArray⟩) w' := fun w' => run_string_add_lists w' (S) [58, 32] (by first | omega | (simp only [List.length_append, List.length_cons, List.length_nil]; omega)) (by simp)
              have ca2 : ∀ w', (Op.stringOp .add ⟨(S ++ [58, 32]).toArray⟩ ⟨(Y).toArray⟩).run Tryd.prog w' = .ok (.string ⟨(S ++ [58, 32] ++ Y).toArray⟩) w' := fun w' => run_string_add_lists w' (S ++ [58, 32]) (Y) (by first | omega | (simp only [List.length_append, List.length_cons, List.length_nil]; omega)) (by first | omega | (simp only [List.length_append, List.length_cons, List.length_nil]; omega))
              go_wp2_with (go_at_call 33; (with_reducible refine (HLy.out _).mono ?_); rintro x2 w5 ⟨rfl, hb⟩; replace HB := Lib.hid (below_next HB.out hb); replace hk1 := cell_up hb hk1; clear hb)
              go_ret
              exact ⟨by rw [HE9.out]; first | rfl | (simp; done) | (simp; apply ByteArray.ext; simp), HB.out⟩
            · have HVW : Hid (V = S ++ prtE l e) := Lib.hid (by rw [HVV.out, prtE_out hv]; simp)
              have HE9 : Hid (V = S) := Lib.hid (by rw [HVW.out, HPe.out]; simp)
              clear HVV HVW
              by_cases v0 : v < 0
              · clear hv
                go_wp2_with fail
                go_ret
                exact ⟨by rw [HE9.out]; first | rfl | (simp; done) | (simp; apply ByteArray.ext; simp), HB.out⟩
              · have v0c : 0 ≤ v := by omega
                have v1c : (l.length : Int) ≤ v := by omega
                clear hv
                go_wp2_with fail
                go_ret
                exact ⟨by rw [HE9.out]; first | rfl | (simp; done) | (simp; apply ByteArray.ext; simp), HB.out⟩
          · have e0c : 0 ≤ e := by omega
            have e1c : (l.length : Int) ≤ e := by omega
            clear he e0
            by_cases hv : 0 ≤ v ∧ v < (l.length : Int)
            · obtain ⟨v0, v1⟩ := hv
              have hev : ¬ v = e := by omega
              have HVW : Hid (V = S ++ prtE l v) := Lib.hid (by rw [HVV.out, if_neg (fun e9 => hev e9.symm), HPe.out, List.append_nil])
              obtain ⟨m, rfl⟩ : ∃ n : Nat, v = (n : Int) := ⟨v.toNat, by omega⟩
              obtain ⟨b, o, y, rfl, hy, hcy⟩ := HA.out.at_ (k := m) (by omega)
              have hoky := ev_ok HOK.out hy
              have HLy : Hid (∀ W, Calls Tryd.prog 33 #[.agg #[.int .i64 y.t, .int .i64 y.k, .int .i64 y.n, .int .i64 y.a, .int .i64 y.p, .int .i64 y.r]] W fun e w' => e = .returned (.string ⟨(evT y).toArray⟩) ∧ Below W.heap.size W w') := Lib.hid (ref55_Line y hoky)
              have hly := evT_len hoky
              have HPy := Lib.hid (prtE_in hy)
              obtain ⟨qy0, qy1, qy2, qy3, qy4, qy5⟩ := hcy
              clear hy hoky
              have hne : ((m : Int) != e) = true := by rw [bne_iff_ne]; exact hev
              have HE9 : Hid (V = S ++ [58, 32] ++ evT y) := Lib.hid (by rw [HVW.out, HPy.out]; simp)
              generalize evT y = Y at *
              clear HVV HVW hev
              have ca1 : ∀ w', (Op.stringOp .add ⟨(S).toArray⟩ ⟨#[58, 32]⟩).run Tryd.prog w' = .ok (.string ⟨(S ++ [58, 32]).toArray⟩) w' := fun w' => run_string_add_lists w' (S) [58, 32] (by first | omega | (simp only [List.length_append, List.length_cons, List.length_nil]; omega)) (by simp)
              have ca2 : ∀ w', (Op.stringOp .add ⟨(S ++ [58, 32]).toArray⟩ ⟨(Y).toArray⟩).run Tryd.prog w' = .ok (.string ⟨(S ++ [58, 32] ++ Y).toArray⟩) w' := fun w' => run_string_add_lists w' (S ++ [58, 32]) (Y) (by first | omega | (simp only [List.length_append, List.length_cons, List.length_nil]; omega)) (by first | omega | (simp only [List.length_append, List.length_cons, List.length_nil]; omega))
              go_wp2_with (go_at_call 33; (with_reducible refine (HLy.out _).mono ?_); rintro x2 w5 ⟨rfl, hb⟩; replace HB := Lib.hid (below_next HB.out hb); replace hk1 := cell_up hb hk1; clear hb)
              go_ret
              exact ⟨by rw [HE9.out]; first | rfl | (simp; done) | (simp; apply ByteArray.ext; simp), HB.out⟩
            · have HVW : Hid (V = S ++ prtE l e) := Lib.hid (by rw [HVV.out, prtE_out hv]; simp)
              have HE9 : Hid (V = S) := Lib.hid (by rw [HVW.out, HPe.out]; simp)
              clear HVV HVW
              by_cases v0 : v < 0
              · clear hv
                go_wp2_with fail
                go_ret
                exact ⟨by rw [HE9.out]; first | rfl | (simp; done) | (simp; apply ByteArray.ext; simp), HB.out⟩
              · have v0c : 0 ≤ v := by omega
                have v1c : (l.length : Int) ≤ v := by omega
                clear hv
                go_wp2_with fail
                go_ret
                exact ⟨by rw [HE9.out]; first | rfl | (simp; done) | (simp; apply ByteArray.ext; simp), HB.out⟩
    · have HVV : Hid (V = []) := Lib.hid (by rw [HV.out]; exact expT_bad (by omega))
      have h2' : 11 < r := by omega
      have hb1 : ¬ r < 1 := by omega
      go_wp2_with fail
      go_ret
      exact ⟨by rw [HVV.out]; rfl, HB.out⟩
  · have HVV : Hid (V = []) := Lib.hid (by rw [HV.out]; exact expT_bad (by omega))
    have h1' : r < 1 := by omega
    go_wp2_with fail
    go_ret
    exact ⟨by rw [HVV.out]; rfl, HB.out⟩

end Go.Proofs.YtjcnjnonhncelaaDoor
