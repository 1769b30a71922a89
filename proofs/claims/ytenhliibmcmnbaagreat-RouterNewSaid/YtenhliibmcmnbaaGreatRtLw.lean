/-
  waypointlaw53.RouterNew returns true: the walk.
-/
import Derived.Test.YtenhliibmcmnbaaGreatRtZ
namespace Go.Proofs.YtenhliibmcmnbaaGreat
set_option linter.unusedSimpArgs false
set_option linter.unusedVariables false
open Go.RowKit Go.Sort

section
variable {t : Topo} {v bt h1 h2 h3 g s : Int} {A1 A2 : Option Addr} {w : World}
/-- The law's boxes. -/
structure LBox (w : World) (A1 A2 : Option Addr) (c1 c2 : Nat) (t : Topo) (v bt h1 h2 h3 g s : Int) (p q : Nat) (Y : World) : Prop where
  b : Bl 25 w.heap.size #[.int .i64 t.n, .slice A1 t.ov.length c1, .slice A2 t.ls.length c2] Y
  p : Bl 26 p #[.int .i64 v, .int .i64 bt] Y
  q : Bl 28 q #[.int .i64 h1, .int .i64 h2, .int .i64 h3, .int .i64 g, .int .i64 s] Y
  ta : TAt Y A1 A2 t
  hb : Below w.heap.size w Y
theorem LBox.up {c1 c2 p q : Nat} {Y Z : World} (h : LBox w A1 A2 c1 c2 t v bt h1 h2 h3 g s p q Y) (hb : Below Y.heap.size Y Z) : LBox w A1 A2 c1 c2 t v bt h1 h2 h3 g s p q Z :=
  ⟨h.b.up hb, h.p.up hb, h.q.up hb, h.ta.below hb, below_next h.hb hb⟩
theorem LBox.start (c1 c2 : Nat) (v bt h1 h2 h3 g s : Int) (hT : TAt w A1 A2 t) : LBox w A1 A2 c1 c2 t v bt h1 h2 h3 g s (w.heap.size + 1) (w.heap.size + 2)
    (((w.alloc (.cells #[.int .i64 t.n, .slice A1 t.ov.length c1, .slice A2 t.ls.length c2] 25)).alloc (.cells #[.int .i64 v, .int .i64 bt] 26)).alloc (.cells #[.int .i64 h1, .int .i64 h2, .int .i64 h3, .int .i64 g, .int .i64 s] 28)) := by
  have h2' := two_new w #[.int .i64 t.n, .slice A1 t.ov.length c1, .slice A2 t.ls.length c2] #[.int .i64 v, .int .i64 bt] 25 26
  have hb2 := below_two w (.cells #[.int .i64 t.n, .slice A1 t.ov.length c1, .slice A2 t.ls.length c2] 25) (.cells #[.int .i64 v, .int .i64 bt] 26)
  have hb3 := below_next hb2 (below_box _ (.cells #[.int .i64 h1, .int .i64 h2, .int .i64 h3, .int .i64 g, .int .i64 s] 28))
  exact ⟨h2'.1.up (below_box _ _), h2'.2.up (below_box _ _), by simpa using Bl.new ((w.alloc (.cells #[.int .i64 t.n, .slice A1 t.ov.length c1, .slice A2 t.ls.length c2] 25)).alloc (.cells #[.int .i64 v, .int .i64 bt] 26)) #[.int .i64 h1, .int .i64 h2, .int .i64 h3, .int .i64 g, .int .i64 s] 28, hT.below hb3, hb3⟩
theorem two_cup {b : Nat} {x y : Value} {w w' : World} (hb : Below w.heap.size w w') (h : w.cell? ⟨b, 0, none⟩ = some x ∧ w.cell? ⟨b, 1, none⟩ = some y) : w'.cell? ⟨b, 0, none⟩ = some x ∧ w'.cell? ⟨b, 1, none⟩ = some y := ⟨cell_up hb h.1, cell_up hb h.2⟩
theorem RRes.low {rp : Option Addr} {kk : Int} {n0 n1 : Nat} {w : World} (h : RRes t v bt h1 h2 h3 g s rp kk n0 w) (hn : n1 ≤ n0) : RRes t v bt h1 h2 h3 g s rp kk n1 w :=
  ⟨h.1, h.2.elim .inl fun ⟨h0, rb, h1, h2, h3⟩ => .inr ⟨h0, rb, h1, h2, Nat.le_trans hn h3⟩⟩
theorem RRes.bad1 {rp : Option Addr} {kk : Int} {n0 : Nat} {w : World} (h : RRes t v bt h1 h2 h3 g s rp kk n0 w) (hc : (valid t && inR bt 1 1073741824 && tmsOk [h1, h2, h3, g, s]) = false) : kk = 1 ∧ rp = none := by
  have h1 : kk = 1 := by rw [h.1]; simp [newK, hc]
  refine ⟨h1, h.2.elim (fun h => h.2) (fun h => ?_)⟩
  have := h.1
  omega
theorem RRes.bad2 {rp : Option Addr} {kk : Int} {n0 : Nat} {w : World} (h : RRes t v bt h1 h2 h3 g s rp kk n0 w) (hc : (valid t && inR bt 1 1073741824 && tmsOk [h1, h2, h3, g, s]) = true) (hn : isN t.n v = false) : kk = 2 ∧ rp = none := by
  have h1 : kk = 2 := by rw [h.1]; simp only [newK, hc, hn]; rfl
  refine ⟨h1, h.2.elim (fun h => h.2) (fun h => ?_)⟩
  have := h.1
  omega
theorem RRes.good {rp : Option Addr} {kk : Int} {n0 : Nat} {w : World} (h : RRes t v bt h1 h2 h3 g s rp kk n0 w) (hc : (valid t && inR bt 1 1073741824 && tmsOk [h1, h2, h3, g, s]) = true) (hn : isN t.n v = true) : kk = 0 ∧ ∃ rb, rp = some ⟨rb, 0, none⟩ ∧ RouAt t v rb w ∧ n0 ≤ rb := by
  have h1 : kk = 0 := by rw [h.1]; simp only [newK, hc, hn]; rfl
  refine ⟨h1, h.2.elim (fun h => ?_) (fun h => h.2)⟩
  have := h.1
  omega
theorem fld_T0 (x y z : Value) (w : World) : (Instr.field 52 (.agg #[x, y, z]) 0).run Tryz.prog w = .ok x w := by kernel_rfl
theorem fld_T1 (x y z : Value) (w : World) : (Instr.field 52 (.agg #[x, y, z]) 1).run Tryz.prog w = .ok y w := by kernel_rfl
set_option maxRecDepth 100000 in
set_option maxHeartbeats 4000000 in
theorem law_RouterNew (t : Topo) (A1 A2 : Option Addr) (c1 c2 : Nat) (v bt h1 h2 h3 g s : Int) (w : World) (hT : TAt w A1 A2 t) :
    Calls Tryz.prog 3 #[.agg #[.int .i64 t.n, .slice A1 t.ov.length c1, .slice A2 t.ls.length c2], .agg #[.int .i64 v, .int .i64 bt], .agg #[.int .i64 h1, .int .i64 h2, .int .i64 h3, .int .i64 g, .int .i64 s]] w fun e w' => e = .returned (.bool true) ∧ Below w.heap.size w w' := by
  have HL0 := Lib.hid (LBox.start c1 c2 v bt h1 h2 h3 g s hT)
  clear hT
  have f0 := fld_T0
  have f1 := fld_T1
  go_enter Tryz.func3, Tryz.ntmps3
  go_upto_region 1 with fail
  refine wp_named2 (fun Y => ∃ p q, p = w.heap.size + 1 ∧ q = w.heap.size + 1 + 1 ∧ LBox w A1 A2 c1 c2 t v bt h1 h2 h3 g s p q Y) ⟨_, _, rfl, rfl, HL0.out⟩ ?_
  rintro Y ⟨p, q, hp, hq, hL⟩
  rw [← hq, ← hp]
  have HL := Lib.hid hL
  clear hp hq hL HL0
  go_upto_region 3 with (go_at_call 5; refine law_named.mono ?_; rintro e w1 ⟨rfl, hb⟩; replace HL := Lib.hid (HL.out.up hb); clear hb)
  obtain ⟨b0, b1, b2, fb⟩ := HL.out.b.c3
  by_cases hA : 70 < t.n
  · go_wp2_with fail
    go_ret
    exact ⟨rfl, HL.out.hb⟩
  by_cases hB : 70 < (t.ov.length : Int)
  · go_wp2_with fail
    go_ret
    exact ⟨rfl, HL.out.hb⟩
  by_cases hC : 300 < (t.ls.length : Int)
  · go_wp2_with fail
    go_ret
    exact ⟨rfl, HL.out.hb⟩
  go_upto_region 5 with fail
  obtain ⟨p0, p1, fp⟩ := HL.out.p.c2
  clear b0 b1 b2 fb
  go_region_held3 (fun w' => w'.cell? ⟨p, 0, none⟩ = some (.int .i64 v) ∧ w'.cell? ⟨p, 1, none⟩ = some (.int .i64 bt))
    (first | with_reducible exact hHeld | exact two_cup (Bdrw (Below.refl _ _)) ⟨p0, p1⟩)
    (fail)
  clear p0 p1 fp
  replace HL := Lib.hid (HL.out.up (Bdrw (Below.refl _ _)))
  obtain ⟨b0, b1, b2, fb⟩ := HL.out.b.c3
  obtain ⟨q0, q1, q2, q3, q4, fq⟩ := HL.out.q.c5
  go_upto_region 7 with (go_at_call 6; (with_reducible refine (router_New_all c1 c2 HL.out.ta).mono ?_); rintro e w6 ⟨rp, kk, rfl, hr, hb⟩; have HR := Lib.hid (hr.low HL.out.hb.size); replace HL := Lib.hid (HL.out.up hb); clear hr hb b0 b1 b2 fb q0 q1 q2 q3 q4 fq)
  go_upto_region 10 with (first | (go_at_call 7; (with_reducible refine nil_Receive.mono ?_); rintro e wn ⟨rfl, hb⟩; replace HL := Lib.hid (HL.out.up hb); replace HR := Lib.hid (HR.out.up hb); clear hb) | (go_at_call 8; (with_reducible refine (nil_Forward v).mono ?_); rintro e w9 ⟨rfl, hb⟩; replace HL := Lib.hid (HL.out.up hb); replace HR := Lib.hid (HR.out.up hb); clear hb))
  refine wp_named2 (fun Y => ∃ r, r = w9.heap.size ∧ Bl 39 r #[.int .i64 v, .int .i64 0, .int .i64 0, .int .i64 0, .slice none 0 0, .int .i64 0] Y ∧ LBox w A1 A2 c1 c2 t v bt h1 h2 h3 g s p q Y ∧ RRes t v bt h1 h2 h3 g s rp kk w.heap.size Y) ⟨_, rfl, Bl.new w9 _ _, HL.out.up (below_box _ _), HR.out.up (below_box _ _)⟩ ?_
  rintro Y ⟨r, hr, hK, hL, hR⟩
  rw [← hr]
  replace HL := Lib.hid hL
  replace HR := Lib.hid hR
  have HK := Lib.hid hK
  obtain ⟨k0, k1, k2, k3, k4, k5, fk⟩ := hK.c6
  clear hr hL hR hK
  go_upto_region 12 with (first | (go_at_call 9; (with_reducible refine nil_Fail.mono ?_); rintro e wn ⟨rfl, hb⟩; replace HL := Lib.hid (HL.out.up hb); replace HR := Lib.hid (HR.out.up hb); replace HK := Lib.hid (HK.out.up hb); clear hb k0 k1 k2 k3 k4 k5 fk; obtain ⟨k0, k1, k2, k3, k4, k5, fk⟩ := HK.out.c6) | (go_at_call 10; (with_reducible refine nil_SetOverload.mono ?_); rintro e wn ⟨rfl, hb⟩; replace HL := Lib.hid (HL.out.up hb); replace HR := Lib.hid (HR.out.up hb); replace HK := Lib.hid (HK.out.up hb); clear hb k0 k1 k2 k3 k4 k5 fk; obtain ⟨k0, k1, k2, k3, k4, k5, fk⟩ := HK.out.c6) | (go_at_call 11; (with_reducible refine nil_SetCost.mono ?_); rintro e wn ⟨rfl, hb⟩; replace HL := Lib.hid (HL.out.up hb); replace HR := Lib.hid (HR.out.up hb); replace HK := Lib.hid (HK.out.up hb); clear hb k0 k1 k2 k3 k4 k5 fk; obtain ⟨k0, k1, k2, k3, k4, k5, fk⟩ := HK.out.c6) | (go_at_call 12; (with_reducible refine nil_State.mono ?_); rintro e wn ⟨rfl, hb⟩; replace HL := Lib.hid (HL.out.up hb); replace HR := Lib.hid (HR.out.up hb); replace HK := Lib.hid (HK.out.up hb); clear hb k0 k1 k2 k3 k4 k5 fk; obtain ⟨k0, k1, k2, k3, k4, k5, fk⟩ := HK.out.c6) | (go_at_call 13; (with_reducible refine nil_Tick.mono ?_); rintro e wn ⟨rfl, hb⟩; replace HL := Lib.hid (HL.out.up hb); replace HR := Lib.hid (HR.out.up hb); replace HK := Lib.hid (HK.out.up hb); clear hb k0 k1 k2 k3 k4 k5 fk; obtain ⟨k0, k1, k2, k3, k4, k5, fk⟩ := HK.out.c6) | (go_at_call 14; (with_reducible refine nil_Database.mono ?_); rintro e wn ⟨rfl, hb⟩; replace HL := Lib.hid (HL.out.up hb); replace HR := Lib.hid (HR.out.up hb); replace HK := Lib.hid (HK.out.up hb); clear hb k0 k1 k2 k3 k4 k5 fk; obtain ⟨k0, k1, k2, k3, k4, k5, fk⟩ := HK.out.c6) | (go_at_call 15; (with_reducible refine nil_Table.mono ?_); rintro e wn ⟨rfl, hb⟩; replace HL := Lib.hid (HL.out.up hb); replace HR := Lib.hid (HR.out.up hb); replace HK := Lib.hid (HK.out.up hb); clear hb k0 k1 k2 k3 k4 k5 fk; obtain ⟨k0, k1, k2, k3, k4, k5, fk⟩ := HK.out.c6))
  clear k0 k1 k2 k3 k4 k5 fk HK
  obtain ⟨b0, b1, b2, fb⟩ := HL.out.b.c3
  obtain ⟨q0, q1, q2, q3, q4, fq⟩ := HL.out.q.c5
  cases hv : valid t with
  | false =>
    have HV := Lib.hid hv
    obtain ⟨rfl, rfl⟩ := HR.out.bad1 (by simp [hv])
    clear hv HR
    go_wp2_with ((go_at_call 16; (with_reducible refine (ref09_Valid t A1 A2 c1 c2 _ HL.out.ta.2).mono ?_); rintro e wn ⟨rfl, hb⟩; rw [HV.out]; replace HL := Lib.hid (HL.out.up hb); skip; clear hb b0 b1 b2 fb q0 q1 q2 q3 q4 fq; obtain ⟨q0, q1, q2, q3, q4, fq⟩ := HL.out.q.c5; obtain ⟨b0, b1, b2, fb⟩ := HL.out.b.c3))
    go_ret
    exact ⟨rfl, HL.out.hb⟩
  | true =>
    have HV := Lib.hid hv
    cases ht : tmsOk [h1, h2, h3, g, s] with
    | false =>
      have HT := Lib.hid ht
      obtain ⟨rfl, rfl⟩ := HR.out.bad1 (by simp [ht])
      clear hv ht HR
      go_wp2_with (first | (go_at_call 16; (with_reducible refine (ref09_Valid t A1 A2 c1 c2 _ HL.out.ta.2).mono ?_); rintro e wn ⟨rfl, hb⟩; rw [HV.out]; replace HL := Lib.hid (HL.out.up hb); skip; clear hb b0 b1 b2 fb q0 q1 q2 q3 q4 fq; obtain ⟨q0, q1, q2, q3, q4, fq⟩ := HL.out.q.c5; obtain ⟨b0, b1, b2, fb⟩ := HL.out.b.c3) | (go_at_call 17; (with_reducible refine (law_timed h1 h2 h3 g s).mono ?_); rintro e wn ⟨rfl, hb⟩; rw [HT.out]; replace HL := Lib.hid (HL.out.up hb); skip; clear hb b0 b1 b2 fb q0 q1 q2 q3 q4 fq; obtain ⟨b0, b1, b2, fb⟩ := HL.out.b.c3))
      go_ret
      exact ⟨rfl, HL.out.hb⟩
    | true =>
      have HT := Lib.hid ht
      by_cases hb1 : bt < 1
      · obtain ⟨rfl, rfl⟩ := HR.out.bad1 (by have : inR bt 1 1073741824 = false := inR_false.2 (by omega); simp [this])
        clear hv ht HR
        go_wp2_with (first | (go_at_call 16; (with_reducible refine (ref09_Valid t A1 A2 c1 c2 _ HL.out.ta.2).mono ?_); rintro e wn ⟨rfl, hb⟩; rw [HV.out]; replace HL := Lib.hid (HL.out.up hb); skip; clear hb b0 b1 b2 fb q0 q1 q2 q3 q4 fq; obtain ⟨q0, q1, q2, q3, q4, fq⟩ := HL.out.q.c5; obtain ⟨b0, b1, b2, fb⟩ := HL.out.b.c3) | (go_at_call 17; (with_reducible refine (law_timed h1 h2 h3 g s).mono ?_); rintro e wn ⟨rfl, hb⟩; rw [HT.out]; replace HL := Lib.hid (HL.out.up hb); skip; clear hb b0 b1 b2 fb q0 q1 q2 q3 q4 fq; obtain ⟨b0, b1, b2, fb⟩ := HL.out.b.c3))
        go_ret
        exact ⟨rfl, HL.out.hb⟩
      by_cases hb2 : 1073741824 < bt
      · obtain ⟨rfl, rfl⟩ := HR.out.bad1 (by have : inR bt 1 1073741824 = false := inR_false.2 (by omega); simp [this])
        clear hv ht HR
        go_wp2_with (first | (go_at_call 16; (with_reducible refine (ref09_Valid t A1 A2 c1 c2 _ HL.out.ta.2).mono ?_); rintro e wn ⟨rfl, hb⟩; rw [HV.out]; replace HL := Lib.hid (HL.out.up hb); skip; clear hb b0 b1 b2 fb q0 q1 q2 q3 q4 fq; obtain ⟨q0, q1, q2, q3, q4, fq⟩ := HL.out.q.c5; obtain ⟨b0, b1, b2, fb⟩ := HL.out.b.c3) | (go_at_call 17; (with_reducible refine (law_timed h1 h2 h3 g s).mono ?_); rintro e wn ⟨rfl, hb⟩; rw [HT.out]; replace HL := Lib.hid (HL.out.up hb); skip; clear hb b0 b1 b2 fb q0 q1 q2 q3 q4 fq; obtain ⟨b0, b1, b2, fb⟩ := HL.out.b.c3))
        go_ret
        exact ⟨rfl, HL.out.hb⟩
      have hc : (valid t && inR bt 1 1073741824 && tmsOk [h1, h2, h3, g, s]) = true := by rw [hv, ht, inR_true.2 (by omega)]; rfl
      clear hv ht
      go_upto_region 14 with (first | (go_at_call 16; (with_reducible refine (ref09_Valid t A1 A2 c1 c2 _ HL.out.ta.2).mono ?_); rintro e wn ⟨rfl, hb⟩; rw [HV.out]; replace HL := Lib.hid (HL.out.up hb); replace HR := Lib.hid (HR.out.up hb); clear hb b0 b1 b2 fb q0 q1 q2 q3 q4 fq; obtain ⟨q0, q1, q2, q3, q4, fq⟩ := HL.out.q.c5; obtain ⟨b0, b1, b2, fb⟩ := HL.out.b.c3) | (go_at_call 17; (with_reducible refine (law_timed h1 h2 h3 g s).mono ?_); rintro e wn ⟨rfl, hb⟩; rw [HT.out]; replace HL := Lib.hid (HL.out.up hb); replace HR := Lib.hid (HR.out.up hb); clear hb b0 b1 b2 fb q0 q1 q2 q3 q4 fq; obtain ⟨b0, b1, b2, fb⟩ := HL.out.b.c3))
      cases hn : isN t.n v with
      | false =>
        obtain ⟨rfl, rfl⟩ := HR.out.bad2 hc hn
        have hn2 : ¬ (0 ≤ v ∧ v < t.n) := fun h => by rw [isN_true.2 h] at hn; cases hn
        clear hn hc
        by_cases hv0 : v < 0
        · go_wp2_with fail
          go_ret
          exact ⟨rfl, HL.out.hb⟩
        · have hv1 : t.n ≤ v := by omega
          clear hn2
          go_wp2_with fail
          go_ret
          exact ⟨rfl, HL.out.hb⟩
      | true =>
        obtain ⟨rfl, rb, rfl, hro, hrb⟩ := HR.out.good hc hn
        have HO := Lib.hid hro
        have HRB := Lib.hid hrb
        have HN := Lib.hid hn
        obtain ⟨hv0, hv1⟩ := isN_true.1 hn
        have hv2 : ¬ v < 0 := by omega
        have hv3 : ¬ t.n ≤ v := by omega
        clear hro hrb hn hc
        go_wp2_with (first | (go_at_call 12; (with_reducible refine (rou_State HV.out HO.out).mono ?_); rintro e wn ⟨rfl, hb⟩; replace HL := Lib.hid (HL.out.up hb); replace HO := Lib.hid (HO.out.up hb); clear hb b0 b1 b2 fb) | (go_at_call 15; (with_reducible refine (rou_Table HV.out HN.out HO.out).mono ?_); rintro e wt ⟨⟨tx, ty, rfl⟩, hk⟩; have HE := Lib.hid (hk.below HL.out.hb HL.out.hb.size (fun b hb => by simp at hb; subst hb; exact HRB.out)); clear hk))
        go_ret
        exact ⟨rfl, HE.out⟩
end
end Go.Proofs.YtenhliibmcmnbaaGreat
