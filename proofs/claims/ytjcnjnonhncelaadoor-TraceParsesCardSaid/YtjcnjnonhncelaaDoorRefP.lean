/-
  waypointref55.Parse: what it returns for every text.
-/
import Derived.Test.YtjcnjnonhncelaaDoorRefRd
import Derived.Test.YtjcnjnonhncelaaDoorParT
import Derived.Test.YtjcnjnonhncelaaDoorSel
import Derived.BigQuiet
namespace Go.Proofs.YtjcnjnonhncelaaDoor
open Go.RowKit Go.Sort
set_option linter.unusedSimpArgs false
set_option linter.unusedVariables false

def RetRP (w : World) (r : List Ev × Int × Int) (e : Ending) (w' : World) : Prop :=
  ∃ A c, e = .returned (.tuple #[.slice A r.1.length c, .int .i64 r.2.1]) ∧ RdE w' A r.1 ∧ Below w.heap.size w w'
def strL : Value → Nat
  | .string x => x.size
  | _ => 0
theorem retRP_of {w w' : World} {base : Nat} {E : TypeId} {A : Option Addr} {ca : Nat} {l : List Ev} (h : w'.ownsRow base E 6 (.slice A l.length ca) l.length (evL l)) (hb : Below w.heap.size w w') : RetRP w (l, 0, 0) (.returned (.tuple #[.slice A l.length ca, .int .i64 0])) w' := by
  obtain ⟨A', c', he, h1, h2, h3⟩ := rde_of_own h
  injection he with e1 _ e2
  subst e1 e2
  exact ⟨A, ca, rfl, h3, hb⟩
theorem retRP_nil {w w' : World} {k : Int} (hb : Below w.heap.size w w') : RetRP w ([], k, 3) (.returned (.tuple #[.slice none 0 0, .int .i64 k])) w' :=
  ⟨none, 0, rfl, .inl rfl, hb⟩
theorem no10_of {r : List UInt8} (h : ∀ j : Nat, j < r.length → r[j]? ≠ some 10) : (10 : UInt8) ∉ r := by
  intro hm
  obtain ⟨j, hj, he⟩ := List.getElem_of_mem hm
  exact h j hj (by rw [List.getElem?_eq_getElem hj, he])
theorem cut10 {r : List UInt8} {k : Nat} (hk : r[k]? = some 10) (h : ∀ j : Nat, j < k → r[j]? ≠ some 10) : r = r.take k ++ 10 :: r.drop (k + 1) ∧ (10 : UInt8) ∉ r.take k := by
  obtain ⟨hl, he⟩ := List.getElem?_eq_some_iff.1 hk
  refine ⟨by conv => lhs; rw [← List.take_append_drop k r, List.drop_eq_getElem_cons hl, he], no10_of fun j hj => ?_⟩
  rw [List.length_take] at hj
  rw [List.getElem?_take_of_lt (by omega)]
  exact h j (by omega)
theorem goT_none {r : List UInt8} {l : List Ev} (h0 : r ≠ []) (h : (10 : UInt8) ∉ r) : goT (splitK 10 [10] r) l = ([], (l.length : Int) + 1, 3) := by
  rw [splitK_miss h]; exact goT_bad h0 (stepT_no (suff_miss h))
theorem goT_bad10 {x y : List UInt8} {l : List Ev} (h : (10 : UInt8) ∉ x) (hr : rdE x = none) : goT (splitK 10 [10] (x ++ 10 :: y)) l = ([], (l.length : Int) + 1, 3) := by
  rw [splitK_hit h]; exact goT_bad (by simp) (stepT_bad (by rw [(suff_hit x).2]; exact hr))
theorem goT_late10 {x y : List UInt8} {l : List Ev} {e : Ev} (h : (10 : UInt8) ∉ x) (hr : rdE x = some e) (hl : late l e = true) : goT (splitK 10 [10] (x ++ 10 :: y)) l = ([], (l.length : Int) + 1, 3) := by
  rw [splitK_hit h]; exact goT_bad (by simp) (stepT_late (by rw [(suff_hit x).2]; exact hr) hl)
theorem goT_good10 {x y : List UInt8} {l : List Ev} {e : Ev} (h : (10 : UInt8) ∉ x) (hr : rdE x = some e) (hl : late l e = false) : goT (splitK 10 [10] (x ++ 10 :: y)) l = goT (splitK 10 [10] y) (l ++ [e]) := by
  rw [splitK_hit h]; exact goT_good (by simp) (stepT_good (suff_hit x).1 (by rw [(suff_hit x).2]; exact hr) hl)

theorem own_slice {w : World} {base : Nat} {E : TypeId} {v : Value} {m : Nat} {l : List Ev} (h : w.ownsRow base E 6 v m (evL l)) (hl : l.length = m) : ∃ A c, v = .slice A m c := by
  subst hl
  obtain ⟨A, c, he, _⟩ := rde_of_own h
  exact ⟨A, c, he⟩
theorem last_of_own {w : World} {base : Nat} {E : TypeId} {A : Option Addr} {c j : Nat} {l : List Ev} (h : w.ownsRow base E 6 (.slice A (j + 1) c) (j + 1) (evL l)) (hl : l.length = j + 1) :
    ∃ b o d, A = some ⟨b, o, none⟩ ∧ l[j]? = some d ∧ EvO w b (o + j * 6) d := by
  rw [← hl] at h
  obtain ⟨A', c', he, _, _, h3⟩ := rde_of_own h
  injection he with e1 _ e2
  subst e1
  exact h3.at_ (by omega)

set_option maxRecDepth 100000 in
set_option maxHeartbeats 8000000 in
theorem ref55_Parse (s : List UInt8) (hs : s.length ≤ 100000) (w : World) :
    Calls Tryd.prog 15 #[.string ⟨s.toArray⟩] w (RetRP w (parseT s)) := by
  obtain ⟨i0, hi, hz0, hz1, hz2⟩ := info_parts evInfo
  obtain ⟨V, hV⟩ : ∃ V, V = parseT s := ⟨_, rfl⟩
  rw [← hV]
  have HV : Hid (goT (splitK 10 [10] s) [] = V) := Lib.hid hV.symm
  clear hV
  go_enter Tryd.func15, Tryd.ntmps15
  go_wp2_with fail
  go_loopw [0, 4, 5] (fun sv v lv wr => ∃ (r : List UInt8) (l : List Ev) (m : Nat), sv = .string ⟨r.toArray⟩ ∧ lv = .int .i64 (m : Int) ∧ r.length + m ≤ s.length ∧ Hid (l.length = m) ∧ Hid (goT (splitK 10 [10] r) l = V) ∧ (∃ A c, v = .slice A m c) ∧ Hid (wr.ownsRow w.heap.size 40 6 v m (evL l)) ∧ Hid (Below w.heap.size w wr)) (fun sv _ _ _ => strL sv)
  case atStart => exact ⟨s, [], 0, rfl, rfl, by simp, Lib.hid rfl, HV, ⟨none, 0, rfl⟩, Lib.hid (World.ownsRow_nil _ _ _ _), Lib.hid (Below.refl _ _)⟩
  case round =>
    clear HV
    obtain ⟨r, l, m, rfl, rfl, hrl, HL, HG, ⟨A, c, rfl⟩, HO, HB⟩ := hrel
    by_cases h0 : r.length = 0
    · obtain rfl : r = [] := List.eq_nil_of_length_eq_zero h0
      have HVV : Hid (V = (l, 0, 0)) := Lib.hid (by rw [← HG.out]; exact goT_stop)
      go_wp2_with fail
      go_ret2
      rw [HVV.out]
      have h9 := HO.out
      rw [← HL.out] at h9 ⊢
      exact retRP_of h9 HB.out
    have hpos : (0 : Int) < (r.length : Int) := by omega
    have H0 : Hid (r ≠ []) := Lib.hid (by rintro rfl; simp at h0)
    have hwr := HB.out.size
    clear h0
    go_upto_region 6 with fail
    obtain ⟨wo, hwo⟩ : ∃ wo : World, wo = wr := ⟨_, rfl⟩
    subst hwo
    go_loop [6] (fun i => ∃ k : Nat, k ≤ r.length ∧ i = .int .i64 k ∧ Hid (∀ j : Nat, j < k → r[j]? ≠ some 10)) (fun i => r.length - (intOf i).toNat)
    case atStart => exact ⟨0, Nat.zero_le _, rfl, Lib.hid (fun j hj => absurd hj (Nat.not_lt_zero _))⟩
    case round =>
      obtain ⟨k, hk, rfl, HN⟩ := hrel
      by_cases hlt : k < r.length
      · have hlt' : (k : Int) < (r.length : Int) := by omega
        obtain ⟨b, hb⟩ : ∃ b, r[k]? = some b := ⟨_, List.getElem?_eq_getElem hlt⟩
        obtain ⟨_, hbe⟩ := List.getElem?_eq_some_iff.1 hb
        have hb2 : (⟨r.toArray⟩ : ByteArray)[k]'(by simpa [ByteArray.size] using hlt) = b := by simpa [ByteArray.getElem_eq_getElem_data] using hbe
        have HBk := Lib.hid hb
        clear hb hbe
        by_cases hbt : b = 10
        · subst hbt
          obtain ⟨hcut, hx10⟩ := cut10 HBk.out HN.out
          obtain ⟨x, hx⟩ : ∃ x, x = r.take k := ⟨_, rfl⟩
          obtain ⟨y, hy⟩ : ∃ y, y = r.drop (k + 1) := ⟨_, rfl⟩
          rw [← hx, ← hy] at hcut
          rw [← hx] at hx10
          have hxl : x.length = k := by rw [hx, List.length_take]; omega
          have hyl : y.length + k + 1 = r.length := by rw [hy, List.length_drop]; omega
          have E1 : (⟨r.toArray⟩ : ByteArray).extract 0 k = ⟨x.toArray⟩ := by rw [hcut, ← hxl]; exact ext_front x _
          have E2 : (⟨r.toArray⟩ : ByteArray).extract (k + 1) r.length = ⟨y.toArray⟩ := by
            have e : r = (x ++ [10]) ++ y := by rw [hcut]; simp
            rw [e, show k + 1 = (x ++ [10]).length by simp [hxl]]
            exact ext_back _ y
          have HC : Hid (∀ W, Calls Tryd.prog 37 #[.string ⟨x.toArray⟩] W (RetRd W (evOr (rdE x)) (rdE x).isSome)) := Lib.hid (ref55_Read x (by omega))
          have HCut := Lib.hid hcut
          have HX10 := Lib.hid hx10
          have hne : ((k : Int) == (r.length : Int)) = false := by rw [beq_eq_false_iff_ne]; omega
          have HXL := Lib.hid hxl
          have HYL := Lib.hid hyl
          have hk1 : (k : Int) + 1 ≤ (r.length : Int) := by omega
          clear hx hy hcut hx10 hxl hyl HN
          cases hr : rdE x with
          | none =>
            have HVV : Hid (V = ([], (m : Int) + 1, 3)) := Lib.hid (by rw [← HL.out, ← HG.out, HCut.out]; exact goT_bad10 HX10.out hr)
            replace HC : Hid (∀ W, Calls Tryd.prog 37 #[.string ⟨x.toArray⟩] W (RetRd W ⟨0, 0, 0, 0, 0, 0⟩ false)) := by rw [hr] at HC; exact HC
            clear hr
            obtain ⟨e, he⟩ : ∃ e : Ev, e = ⟨0, 0, 0, 0, 0, 0⟩ := ⟨_, rfl⟩
            rw [← he] at HC
            clear he
            go_wp2_with (go_at_call 37; (with_reducible refine (HC.out _).mono ?_); rintro e2 w1 ⟨rfl, hb⟩; have HBR := Lib.hid hb; clear hb)
            replace HB := Lib.hid (below_next HB.out HBR.out)
            obtain ⟨W, hW⟩ : ∃ W, w1.alloc (.cells #[.int .i64 e.t, .int .i64 e.k, .int .i64 e.n, .int .i64 e.a, .int .i64 e.p, .int .i64 e.r] 40) = W := ⟨_, rfl⟩
            have sW := ev_box w1 e
            have hbW := below_box w1 (.cells #[.int .i64 e.t, .int .i64 e.k, .int .i64 e.n, .int .i64 e.a, .int .i64 e.p, .int .i64 e.r] 40)
            rw [hW] at sW hbW ⊢
            clear hW
            obtain ⟨s0, s1, s2, s3, s4, s5⟩ := sW
            simp only [Nat.zero_add] at s1 s2 s3 s4 s5
            replace HB := Lib.hid (below_next HB.out hbW)
            have kq_s0 := cell_regrown s0
            refine wp_region_quiet_below (by kernel_rfl) (by kernel_rfl) ?_
            repeat (go_big_quiet_step (fail))
            refine wpQuiet_nil ?_
            intro W2 hb2
            replace hb2 := below_of_regrown hb2
            clear kq_s0
            replace s0 := cell_up hb2 s0
            go_wp2_with fail
            go_ret2
            rw [HVV.out]
            exact retRP_nil (below_next HB.out hb2)
          | some e =>
            replace HC : Hid (∀ W, Calls Tryd.prog 37 #[.string ⟨x.toArray⟩] W (RetRd W e true)) := by rw [hr] at HC; exact HC
            have HR := Lib.hid hr
            clear hr
            rcases m with _ | j
            · have hl0 : l = [] := List.eq_nil_of_length_eq_zero HL.out
              have HGG : Hid (goT (splitK 10 [10] y) (l ++ [e]) = V) := Lib.hid (by rw [← HG.out, HCut.out, hl0]; exact (goT_good10 HX10.out HR.out (late_nil e)).symm)
              clear hl0
              go_wp2_with (go_at_call 37; (with_reducible refine (HC.out _).mono ?_); rintro e2 w1 ⟨rfl, hb⟩; have HBR := Lib.hid hb; clear hb)
              replace HB := Lib.hid (below_next HB.out HBR.out)
              obtain ⟨W, hW⟩ : ∃ W, w1.alloc (.cells #[.int .i64 e.t, .int .i64 e.k, .int .i64 e.n, .int .i64 e.a, .int .i64 e.p, .int .i64 e.r] 40) = W := ⟨_, rfl⟩
              have sW := ev_box w1 e
              have hbW := below_box w1 (.cells #[.int .i64 e.t, .int .i64 e.k, .int .i64 e.n, .int .i64 e.a, .int .i64 e.p, .int .i64 e.r] 40)
              rw [hW] at sW hbW ⊢
              clear hW
              obtain ⟨s0, s1, s2, s3, s4, s5⟩ := sW
              simp only [Nat.zero_add] at s1 s2 s3 s4 s5
              replace HB := Lib.hid (below_next HB.out hbW)
              have kq_s0 := cell_regrown s0
              have kq_s1 := cell_regrown s1
              have kq_s2 := cell_regrown s2
              have kq_s3 := cell_regrown s3
              have kq_s4 := cell_regrown s4
              have kq_s5 := cell_regrown s5
              refine wp_region_quiet_below (by kernel_rfl) (by kernel_rfl) ?_
              repeat (go_big_quiet_step (fail))
              refine wpQuiet_nil ?_
              intro W2 hb2
              replace hb2 := below_of_regrown hb2
              clear kq_s0 kq_s1 kq_s2 kq_s3 kq_s4 kq_s5
              replace s0 := cell_up hb2 s0
              replace s1 := cell_up hb2 s1
              replace s2 := cell_up hb2 s2
              replace s3 := cell_up hb2 s3
              replace s4 := cell_up hb2 s4
              replace s5 := cell_up hb2 s5
              have HOW := Lib.hid (own_up (own_up (own_up HO.out HBR.out) hbW) hb2)
              replace HB := Lib.hid (below_next HB.out hb2)
              have hsW := HB.out.size
              clear hbW hb2
              go_wp2_with (first | (at_builtin; refine wpList_append_own _ rfl _ _ 22 rfl w.heap.size 40 i0 (.agg #[.int .i64 0, .int .i64 0, .int .i64 0, .int .i64 0, .int .i64 0, .int .i64 0]) 6 48 Tryd.underlying22 hi hz0 hz1 hz2 rfl (by decide) _ _ _ rfl (HOW.out.alloc _) ⟨_, 0, none⟩ 1 1 [.int .i64 e.t, .int .i64 e.k, .int .i64 e.n, .int .i64 e.a, .int .i64 e.p, .int .i64 e.r] rfl rfl ?_ ?_ ?_ ?_ ?_ ?_))
              · exact cells_new _ _ _ _ (by simp)
              · intro u hu; simp at hu; rcases hu with rfl | rfl | rfl | rfl | rfl | rfl <;> rfl
              · unfold maxLen; omega
              · omega
              · simp; omega
              intro v' w3 hown' hgrow _
              have HR2 : Hid (w3.ownsRow w.heap.size 40 6 v' (0 + 1) (evL (l ++ [e])) ∧ Below w.heap.size W2 w3) := Lib.hid ⟨by rw [evL_snoc]; exact hown', ((Below.refl w.heap.size W2).alloc hsW _).grown hgrow (by simp; omega) (fun k hk => (HOW.out.lt k hk).1)⟩
              have HAv : Hid (∃ A2 c2, v' = .slice A2 (0 + 1) c2) := Lib.hid (own_slice (l := l ++ [e]) HR2.out.1 (by simp [HL.out]))
              have HB3 := Lib.hid (HB.out.trans HR2.out.2)
              have HL3 : Hid ((l ++ [e]).length = 0 + 1) := Lib.hid (by simp [HL.out])
              clear hown' hgrow HOW
              go_wp2_with fail
              go_roundw
              case rel => exact ⟨y, l ++ [e], 0 + 1, by first | rfl | rw [E2], by go_num, by have := HYL.out; omega, HL3, HGG, HAv.out, HR2.out.1 |> Lib.hid, HB3⟩
              case measure => have := HYL.out; simp [strL, ByteArray.size]; omega
            · obtain ⟨b0, o0, d, rfl, hd, hdc⟩ := last_of_own HO.out HL.out
              have HD := Lib.hid (late_last HL.out hd e)
              obtain ⟨q0, _⟩ := hdc
              have hj0 : (0 : Int) < (j : Int) + 1 := by omega
              clear hd
              cases hlt2 : decide (e.t < d.t) with
              | true =>
                have HVV : Hid (V = ([], ((j + 1 : Nat) : Int) + 1, 3)) := Lib.hid (by rw [← HL.out, ← HG.out, HCut.out]; exact goT_late10 HX10.out HR.out (HD.out.trans hlt2))
                have hlt3 : e.t < d.t := by simpa using hlt2
                go_wp2_with (go_at_call 37; (with_reducible refine (HC.out _).mono ?_); rintro e2 w1 ⟨rfl, hb⟩; have HBR := Lib.hid hb; clear hb)
                replace HB := Lib.hid (below_next HB.out HBR.out)
                obtain ⟨W, hW⟩ : ∃ W, w1.alloc (.cells #[.int .i64 e.t, .int .i64 e.k, .int .i64 e.n, .int .i64 e.a, .int .i64 e.p, .int .i64 e.r] 40) = W := ⟨_, rfl⟩
                have sW := ev_box w1 e
                have hbW := below_box w1 (.cells #[.int .i64 e.t, .int .i64 e.k, .int .i64 e.n, .int .i64 e.a, .int .i64 e.p, .int .i64 e.r] 40)
                rw [hW] at sW hbW ⊢
                clear hW
                obtain ⟨s0, s1, s2, s3, s4, s5⟩ := sW
                simp only [Nat.zero_add] at s1 s2 s3 s4 s5
                replace HB := Lib.hid (below_next HB.out hbW)
                replace q0 := cell_up hbW (cell_up HBR.out q0)
                have kq_s0 := cell_regrown s0
                have kq_q0 := cell_regrown q0
                refine wp_region_quiet_below (by kernel_rfl) (by kernel_rfl) ?_
                repeat (go_big_quiet_step (fail))
                refine wpQuiet_nil ?_
                intro W2 hb2
                replace hb2 := below_of_regrown hb2
                clear kq_s0 kq_q0
                replace s0 := cell_up hb2 s0
                replace q0 := cell_up hb2 q0
                go_wp2_with fail
                go_ret2
                rw [HVV.out]
                exact retRP_nil (below_next HB.out hb2)
              | false =>
                have HGG : Hid (goT (splitK 10 [10] y) (l ++ [e]) = V) := Lib.hid (by rw [← HG.out, HCut.out]; exact (goT_good10 HX10.out HR.out (HD.out.trans hlt2)).symm)
                go_wp2_with (go_at_call 37; (with_reducible refine (HC.out _).mono ?_); rintro e2 w1 ⟨rfl, hb⟩; have HBR := Lib.hid hb; clear hb)
                replace HB := Lib.hid (below_next HB.out HBR.out)
                obtain ⟨W, hW⟩ : ∃ W, w1.alloc (.cells #[.int .i64 e.t, .int .i64 e.k, .int .i64 e.n, .int .i64 e.a, .int .i64 e.p, .int .i64 e.r] 40) = W := ⟨_, rfl⟩
                have sW := ev_box w1 e
                have hbW := below_box w1 (.cells #[.int .i64 e.t, .int .i64 e.k, .int .i64 e.n, .int .i64 e.a, .int .i64 e.p, .int .i64 e.r] 40)
                rw [hW] at sW hbW ⊢
                clear hW
                obtain ⟨s0, s1, s2, s3, s4, s5⟩ := sW
                simp only [Nat.zero_add] at s1 s2 s3 s4 s5
                replace HB := Lib.hid (below_next HB.out hbW)
                replace q0 := cell_up hbW (cell_up HBR.out q0)
                have kq_s0 := cell_regrown s0
                have kq_s1 := cell_regrown s1
                have kq_s2 := cell_regrown s2
                have kq_s3 := cell_regrown s3
                have kq_s4 := cell_regrown s4
                have kq_s5 := cell_regrown s5
                have kq_q0 := cell_regrown q0
                refine wp_region_quiet_below (by kernel_rfl) (by kernel_rfl) ?_
                repeat (go_big_quiet_step (fail))
                refine wpQuiet_nil ?_
                intro W2 hb2
                replace hb2 := below_of_regrown hb2
                clear kq_s0 kq_s1 kq_s2 kq_s3 kq_s4 kq_s5 kq_q0
                replace s0 := cell_up hb2 s0
                replace s1 := cell_up hb2 s1
                replace s2 := cell_up hb2 s2
                replace s3 := cell_up hb2 s3
                replace s4 := cell_up hb2 s4
                replace s5 := cell_up hb2 s5
                replace q0 := cell_up hb2 q0
                have HOW := Lib.hid (own_up (own_up (own_up HO.out HBR.out) hbW) hb2)
                replace HB := Lib.hid (below_next HB.out hb2)
                have hsW := HB.out.size
                clear hbW hb2
                go_wp2_with (first | (at_builtin; refine wpList_append_own _ rfl _ _ 22 rfl w.heap.size 40 i0 (.agg #[.int .i64 0, .int .i64 0, .int .i64 0, .int .i64 0, .int .i64 0, .int .i64 0]) 6 48 Tryd.underlying22 hi hz0 hz1 hz2 rfl (by decide) _ _ _ rfl (HOW.out.alloc _) ⟨_, 0, none⟩ 1 1 [.int .i64 e.t, .int .i64 e.k, .int .i64 e.n, .int .i64 e.a, .int .i64 e.p, .int .i64 e.r] rfl rfl ?_ ?_ ?_ ?_ ?_ ?_))
                · exact cells_new _ _ _ _ (by simp)
                · intro u hu; simp at hu; rcases hu with rfl | rfl | rfl | rfl | rfl | rfl <;> rfl
                · unfold maxLen; omega
                · omega
                · simp; omega
                intro v' w3 hown' hgrow _
                have HR2 : Hid (w3.ownsRow w.heap.size 40 6 v' (j + 1 + 1) (evL (l ++ [e])) ∧ Below w.heap.size W2 w3) := Lib.hid ⟨by rw [evL_snoc]; exact hown', ((Below.refl w.heap.size W2).alloc hsW _).grown hgrow (by simp; omega) (fun k hk => (HOW.out.lt k hk).1)⟩
                have HAv : Hid (∃ A2 c2, v' = .slice A2 (j + 1 + 1) c2) := Lib.hid (own_slice (l := l ++ [e]) HR2.out.1 (by simp [HL.out]))
                have HB3 := Lib.hid (HB.out.trans HR2.out.2)
                have HL3 : Hid ((l ++ [e]).length = j + 1 + 1) := Lib.hid (by simp [HL.out])
                clear hown' hgrow HOW
                go_wp2_with fail
                go_roundw
                case rel => exact ⟨y, l ++ [e], j + 1 + 1, by first | rfl | rw [E2], by go_num, by have := HYL.out; omega, HL3, HGG, HAv.out, HR2.out.1 |> Lib.hid, HB3⟩
                case measure => have := HYL.out; simp [strL, ByteArray.size]; omega
        · have hbn : ((b.toNat : Int) != 10) = true := by
            rw [bne_iff_ne]; intro e; exact hbt (UInt8.toNat_inj.1 (by rw [show (10 : UInt8).toNat = 10 from rfl]; omega))
          have HN2 : Hid (∀ j : Nat, j < k + 1 → r[j]? ≠ some 10) := Lib.hid fun j hj => by
            by_cases hjk : j = k
            · subst hjk; rw [HBk.out]; intro e; injection e with e; exact hbt e
            · exact HN.out j (by omega)
          clear hbt
          go_wp2_with fail
          exact ⟨⟨k + 1, by omega, by go_num, HN2⟩, by simp [intOf]; omega⟩
      · obtain rfl : k = r.length := by omega
        have HVV : Hid (V = ([], (m : Int) + 1, 3)) := Lib.hid (by rw [← HL.out, ← HG.out]; exact goT_none H0.out (no10_of HN.out))
        obtain ⟨e, bb, HC⟩ : ∃ (e : Ev) (bb : Bool), Hid (∀ W, Calls Tryd.prog 37 #[.string ⟨r.toArray⟩] W (RetRd W e bb)) := ⟨_, _, Lib.hid (ref55_Read r (by omega))⟩
        have E1 : (⟨r.toArray⟩ : ByteArray).extract 0 r.length = ⟨r.toArray⟩ := by have h9 := ext_front r []; simpa using h9
        have hne : ((r.length : Int) == (r.length : Int)) = true := by simp
        go_wp2_with (go_at_call 37; (with_reducible refine (HC.out _).mono ?_); rintro e2 w1 ⟨rfl, hb⟩; have HBR := Lib.hid hb; clear hb)
        replace HB := Lib.hid (below_next HB.out HBR.out)
        obtain ⟨W, hW⟩ : ∃ W, w1.alloc (.cells #[.int .i64 e.t, .int .i64 e.k, .int .i64 e.n, .int .i64 e.a, .int .i64 e.p, .int .i64 e.r] 40) = W := ⟨_, rfl⟩
        have sW := ev_box w1 e
        have hbW := below_box w1 (.cells #[.int .i64 e.t, .int .i64 e.k, .int .i64 e.n, .int .i64 e.a, .int .i64 e.p, .int .i64 e.r] 40)
        rw [hW] at sW hbW ⊢
        clear hW
        obtain ⟨s0, s1, s2, s3, s4, s5⟩ := sW
        simp only [Nat.zero_add] at s1 s2 s3 s4 s5
        replace HB := Lib.hid (below_next HB.out hbW)
        have kq_s0 := cell_regrown s0
        refine wp_region_quiet_below (by kernel_rfl) (by kernel_rfl) ?_
        repeat (go_big_quiet_step (fail))
        refine wpQuiet_nil ?_
        intro W2 hb2
        replace hb2 := below_of_regrown hb2
        clear kq_s0
        replace s0 := cell_up hb2 s0
        go_wp2_with fail
        go_ret2
        rw [HVV.out]
        exact retRP_nil (below_next HB.out hb2)

end Go.Proofs.YtjcnjnonhncelaaDoor
