/-
  router.New: the router of a fresh node.
-/
import Derived.Test.YtenhliibmcmnbaaGreatRtP
namespace Go.Proofs.YtenhliibmcmnbaaGreat
set_option linter.unusedSimpArgs false
set_option linter.unusedVariables false
open Go.RowKit Go.Sort

/-- A router that has just been made. -/
def RouAt (t : Topo) (v : Int) (rb : Nat) (w : World) : Prop :=
  ∃ (sb : Nat) (C1 C2 B1 B2 D : Option Addr) (e1 e2 d1 d2 : Nat) (g s : Int), Bl 99 rb #[.int .i64 t.n, .slice C1 t.ov.length e1, .slice C2 t.ls.length e2, .int .i64 v, .int .i64 g, .int .i64 s, .pointer (some ⟨sb, 0, none⟩), .int .i64 3, .int .i64 0, .int .i64 t.n, .slice B1 (viewT t v).ov.length d1, .slice B2 t.ls.length d2, .slice D (2 * t.ls.length) (2 * t.ls.length), .int .i64 t.n, .slice B1 (viewT t v).ov.length d1, .slice B2 t.ls.length d2, .slice D (2 * t.ls.length) (2 * t.ls.length), .int .i64 0, .slice none 0 0, .slice none 0 0, .bool false] w ∧
    TAt w C1 C2 t ∧ Vw t v (rb + 1) B1 B2 D w ∧ SpkAt t v sb w
theorem RouAt.up {t : Topo} {v : Int} {rb : Nat} {w w' : World} (h : RouAt t v rb w) (hb : Below w.heap.size w w') : RouAt t v rb w' := by
  obtain ⟨sb, C1, C2, B1, B2, D, e1, e2, d1, d2, g, s, h1, h2, h3, h4⟩ := h
  exact ⟨sb, C1, C2, B1, B2, D, e1, e2, d1, d2, g, s, h1.up hb, h2.below hb, h3.up hb, h4.up hb⟩
section
variable {w : World} {A1 A2 : Option Addr} {t : Topo}
theorem q5_up {b p : Nat} {x0 x1 x2 x3 x4 : Value} {w w' : World} (hb : Below w.heap.size w w') (h : w.cell? ⟨b, 0, none⟩ = some x0 ∧ w.cell? ⟨b, 1, none⟩ = some x1 ∧ w.cell? ⟨b, 2, none⟩ = some x2 ∧ w.cell? ⟨p, 0, none⟩ = some x3 ∧ w.cell? ⟨p, 1, none⟩ = some x4) :
    w'.cell? ⟨b, 0, none⟩ = some x0 ∧ w'.cell? ⟨b, 1, none⟩ = some x1 ∧ w'.cell? ⟨b, 2, none⟩ = some x2 ∧ w'.cell? ⟨p, 0, none⟩ = some x3 ∧ w'.cell? ⟨p, 1, none⟩ = some x4 := ⟨cell_up hb h.1, cell_up hb h.2.1, cell_up hb h.2.2.1, cell_up hb h.2.2.2.1, cell_up hb h.2.2.2.2⟩
set_option maxRecDepth 100000 in
set_option maxHeartbeats 4000000 in
theorem router_New_ok (c1 c2 : Nat) (v bt h1 h2 h3 g s : Int) (hT : TAt w A1 A2 t) (hv : valid t = true) (hn : isN t.n v = true) (hx : (inR g 1 65536 && inR s 1 65536) = true)
    (hS : ∀ (W : World) (c1 c2 : Nat), TAt W A1 A2 t → Calls Tryz.prog 33 #[.agg #[.int .i64 t.n, .slice A1 t.ov.length c1, .slice A2 t.ls.length c2], .int .i64 v, .int .i64 bt, .agg #[.int .i64 h1, .int .i64 h2, .int .i64 h3]] W fun e w' => (∃ sb, e = .returned (.tuple #[.pointer (some ⟨sb, 0, none⟩), .int .i64 0]) ∧ SpkAt t v sb w') ∧ Below W.heap.size W w') :
    Calls Tryz.prog 6 #[.agg #[.int .i64 t.n, .slice A1 t.ov.length c1, .slice A2 t.ls.length c2], .int .i64 v, .int .i64 bt, .agg #[.int .i64 h1, .int .i64 h2, .int .i64 h3, .int .i64 g, .int .i64 s]] w fun e w' => (∃ rb, e = .returned (.tuple #[.pointer (some ⟨rb, 0, none⟩), .int .i64 0]) ∧ RouAt t v rb w' ∧ w.heap.size ≤ rb) ∧ Below w.heap.size w w' := by
  have hR := RBox.start c1 c2 h1 h2 h3 g s hT
  obtain ⟨k0, k1, k2, k3, k4, fk⟩ := hR.k.c5
  have HR := Lib.hid hR
  have HSP := Lib.hid hS
  have HV := Lib.hid hv
  have HN := Lib.hid hn
  have HZ := Lib.hid (two_size w (.cells #[.int .i64 t.n, .slice A1 t.ov.length c1, .slice A2 t.ls.length c2] 25) (.cells #[.int .i64 h1, .int .i64 h2, .int .i64 h3, .int .i64 g, .int .i64 s] 28))
  clear hT hR hS hv hn k0 k1 k2
  go_enter Tryz.func6, Tryz.ntmps6
  go_upto_region 2 with fail
  refine wp_named (fun Y => (∃ p, p = w.heap.size + 2 ∧ Bl 85 p #[.int .i64 g, .int .i64 s] Y) ∧ RBox w A1 A2 c1 c2 t h1 h2 h3 g s Y) ⟨⟨_, rfl, HZ.out ▸ Bl.new _ _ _⟩, HR.out.up (below_box _ _)⟩ ?_
  rintro Y ⟨⟨p, hp, hb1⟩, hb2⟩
  have HPB := Lib.hid hb1
  obtain ⟨z0, z1, fz⟩ := hb1.c2
  rw [← hp]
  clear hb1 hp fz k3 k4 fk HR HZ
  have HR := Lib.hid hb2
  clear hb2
  have kq_z0 := cell_regrown z0
  have kq_z1 := cell_regrown z1
  refine wp_region_quiet_below (by kernel_rfl) (by kernel_rfl) ?_
  repeat (go_big_quiet_step (first | with_reducible exact Calls.regrown_of (stages_Start _) | with_reducible exact Calls.regrown_of (stages_Valid0 _ _ _)))
  refine wpQuiet_nil ?_
  intro w2 hb2
  replace hb2 := below_of_regrown hb2
  clear kq_z0 kq_z1
  replace z0 := cell_up hb2 z0
  replace z1 := cell_up hb2 z1
  rw [hx]
  replace HR := Lib.hid (HR.out.up hb2)
  replace HPB := Lib.hid (HPB.out.up hb2)
  obtain ⟨b0, b1, b2⟩ := HR.out.b.cells
  obtain ⟨k0, k1, k2, k3, k4, fk⟩ := HR.out.k.c5
  clear k3 k4 hb2 z0 z1
  go_upto_region 7 with (go_at_call 33; (with_reducible refine (HSP.out _ _ _ HR.out.b.ta).mono ?_); rintro e w3 ⟨⟨sb, rfl, hspk⟩, hb⟩; replace HR := Lib.hid (HR.out.up hb); replace HPB := Lib.hid (HPB.out.up hb); have HSK := Lib.hid hspk; clear hb hspk b0 b1 b2 k0 k1 k2 fk)
  obtain ⟨b0, b1, b2⟩ := HR.out.b.cells
  obtain ⟨z0, z1, fz⟩ := HPB.out.c2
  have HNV := Lib.hid (valid_ls HV.out)
  have hov : t.ov.length ≤ 1000 := by have := valid_n HV.out; rcases valid_ov HV.out with h | h <;> omega
  have hls : t.ls.length ≤ 1000 := by have := HNV.out; omega
  go_region_held3 (fun w' => w'.cell? ⟨w.heap.size, 0, none⟩ = some (.int .i64 t.n) ∧ w'.cell? ⟨w.heap.size, 1, none⟩ = some (.slice A1 t.ov.length c1) ∧ w'.cell? ⟨w.heap.size, 2, none⟩ = some (.slice A2 t.ls.length c2) ∧ w'.cell? ⟨p, 0, none⟩ = some (.int .i64 g) ∧ w'.cell? ⟨p, 1, none⟩ = some (.int .i64 s))
    (first | with_reducible exact q5_up HQ.out (by assumption) | with_reducible exact q5_up (below_box _ _) (by assumption) | exact q5_up (Bdrw (Below.refl _ _)) ⟨b0, b1, b2, z0, z1⟩)
    (first | (go_at_call 34; (with_reducible refine (graph_CloneF t _ _ _ _ _ (HR.out.b.ta.below (Bdrw (Below.refl _ _))) hov hls).mono ?_); rintro e w5 ⟨C1, C2, e1, e2, rfl, hc, hb, _, _⟩; have HQ := Lib.hid hb; have HC := Lib.hid hc; have HK := Lib.hid (below_next (Bdrw (Below.refl _ _)) hb (Nat.le_refl _)); clear hc hb) | (go_at_call 34; (with_reducible refine (graph_CloneF t _ _ _ _ _ (HR.out.b.ta.below HK.out) hov hls).mono ?_); rintro e w5 ⟨C1, C2, e1, e2, rfl, hc, hb, _, _⟩; have HQ := Lib.hid hb; have HC := Lib.hid hc; replace HK := Lib.hid (below_next HK.out hb (Nat.le_refl _)); clear hc hb) | (go_at_call 32; (with_reducible refine (stages_Start _).mono ?_); rintro e w5 ⟨rfl, hb⟩; have HQ := Lib.hid hb; (first | (replace HC := Lib.hid (HC.out.below hb); replace HK := Lib.hid (below_next HK.out hb (Nat.le_refl _)); clear hb) | (have HK := Lib.hid (below_next (Bdrw (Below.refl _ _)) hb (Nat.le_refl _)); clear hb))))
  all_goals
    go_upto_region 8 with fail
    refine wp_named (fun Y => (∃ rb, rb = w5.heap.size ∧ Bl 99 rb #[.int .i64 t.n, .slice C1 t.ov.length e1, .slice C2 t.ls.length e2, .int .i64 v, .int .i64 g, .int .i64 s, .pointer (some ⟨sb, 0, none⟩), .int .i64 3, .int .i64 0, .int .i64 0, .slice none 0 0, .slice none 0 0, .slice none 0 0, .int .i64 0, .slice none 0 0, .slice none 0 0, .slice none 0 0, .int .i64 0, .slice none 0 0, .slice none 0 0, .bool false] Y ∧ rb < Y.heap.size) ∧ Below w5.heap.size w5 Y) ⟨⟨_, rfl, Bl.new w5 _ _, by simp⟩, below_box w5 _⟩ ?_
    rintro Y ⟨⟨rb, hrb, hY, hlt⟩, hbY⟩
    rw [← hrb]
    have HRB := Lib.hid hrb
    have HY := Lib.hid hY
    have HBY := Lib.hid hbY
    have HLT := Lib.hid hlt
    have HSY := Lib.hid ((HSK.out.up HK.out).up hbY)
    have HC5 := Lib.hid HC.out
    have HWY := Lib.hid (below_next (HR.out.b.hb.trans (HK.out.mono HR.out.b.hb.size)) hbY)
    obtain ⟨r0, r1, r2, r3, r4, r5, r6, r7, r8, r9, r10, r11, r12, r13, r14, r15, r16, r17, r18, r19, r20, fr⟩ := hY.c21
    clear hrb hY hbY hlt r0 r1 r2 r3 r4 r5 r7 r8 r9 r10 r11 r12 r13 r14 r15 r16 r17 r18 r19 r20 fr b0 b1 b2 z0 z1 fz HC HPB
    go_upto_region 9 with (go_at_call 35; (with_reducible refine (router_look0 rb sb v t _ HV.out HN.out r6 HSY.out).mono ?_); rintro e w7 ⟨B1, B2, d1, d2, D, rfl, hvw, hb⟩; have HVW := Lib.hid hvw; have HY7 := Lib.hid (HY.out.up hb); have HB7 := Lib.hid (below_next HBY.out hb); clear r6 hvw hb; obtain ⟨r0, r1, r2, r3, r4, r5, r6, r7, r8, r9, r10, r11, r12, r13, r14, r15, r16, r17, r18, r19, r20, fr⟩ := HY7.out.c21)
    have hl7 : rb < w7.heap.size := HY7.out.lt
    go_wp2_with fail
    go_ret2
    have hn : rb < rb + 1 := Nat.lt_succ_self rb
    have hz := (((((((HY7.out.set 9 (.int .i64 t.n) rfl).set 10 (.slice B1 (viewT t v).ov.length d1) rfl).set 11 (.slice B2 t.ls.length d2) rfl).set 12 (.slice D (2 * t.ls.length) (2 * t.ls.length)) rfl).set 13 (.int .i64 t.n) rfl).set 14 (.slice B1 (viewT t v).ov.length d1) rfl).set 15 (.slice B2 t.ls.length d2) rfl).set 16 (.slice D (2 * t.ls.length) (2 * t.ls.length)) rfl
    have hv8 := ((((((((HVW.out.mono (show rb + 1 ≤ _ from HLT.out)).set hn 9 (.int .i64 t.n)).set hn 10 (.slice B1 (viewT t v).ov.length d1)).set hn 11 (.slice B2 t.ls.length d2)).set hn 12 (.slice D (2 * t.ls.length) (2 * t.ls.length))).set hn 13 (.int .i64 t.n)).set hn 14 (.slice B1 (viewT t v).ov.length d1)).set hn 15 (.slice B2 t.ls.length d2)).set hn 16 (.slice D (2 * t.ls.length) (2 * t.ls.length))
    have hrb : w5.heap.size ≤ rb := Nat.le_of_eq HRB.out.symm
    have hb8 := Bset (j := 16) (v := .slice D (2 * t.ls.length) (2 * t.ls.length)) (Bset (j := 15) (v := .slice B2 t.ls.length d2) (Bset (j := 14) (v := .slice B1 (viewT t v).ov.length d1) (Bset (j := 13) (v := .int .i64 t.n) (Bset (j := 12) (v := .slice D (2 * t.ls.length) (2 * t.ls.length)) (Bset (j := 11) (v := .slice B2 t.ls.length d2) (Bset (j := 10) (v := .slice B1 (viewT t v).ov.length d1) (Bset (j := 9) (v := .int .i64 t.n) HB7.out hrb) hrb) hrb) hrb) hrb) hrb) hrb) hrb
    exact ⟨⟨rb, rfl, ⟨sb, C1, C2, B1, B2, D, e1, e2, d1, d2, g, s, hz, HC5.out.below hb8, hv8, (HSK.out.up HK.out).up hb8⟩, Nat.le_trans (HR.out.b.hb.trans (HK.out.mono HR.out.b.hb.size)).size hrb⟩, (HR.out.b.hb.trans (HK.out.mono HR.out.b.hb.size)).trans (hb8.mono (HR.out.b.hb.trans (HK.out.mono HR.out.b.hb.size)).size)⟩
end
end Go.Proofs.YtenhliibmcmnbaaGreat
