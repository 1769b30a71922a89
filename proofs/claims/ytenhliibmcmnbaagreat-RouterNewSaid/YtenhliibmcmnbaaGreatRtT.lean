/-
  A fresh router: detected, State.
-/
import Derived.Test.YtenhliibmcmnbaaGreatRtQ
import Derived.Test.YtenhliibmcmnbaaGreatRout
import Derived.Test.YtenhliibmcmnbaaGreatRtJ
namespace Go.Proofs.YtenhliibmcmnbaaGreat
set_option linter.unusedSimpArgs false
set_option linter.unusedVariables false
open Go.RowKit Go.Sort

/-- The parts of a fresh router that its table needs. -/
structure RouR (t : Topo) (v : Int) (rb sb : Nat) (C1 C2 B1 B2 D : Option Addr) (e1 e2 d1 d2 : Nat) (g s : Int) (w : World) : Prop where
  r : Bl 99 rb #[.int .i64 t.n, .slice C1 t.ov.length e1, .slice C2 t.ls.length e2, .int .i64 v, .int .i64 g, .int .i64 s, .pointer (some ⟨sb, 0, none⟩), .int .i64 3, .int .i64 0, .int .i64 t.n, .slice B1 (viewT t v).ov.length d1, .slice B2 t.ls.length d2, .slice D (2 * t.ls.length) (2 * t.ls.length), .int .i64 t.n, .slice B1 (viewT t v).ov.length d1, .slice B2 t.ls.length d2, .slice D (2 * t.ls.length) (2 * t.ls.length), .int .i64 0, .slice none 0 0, .slice none 0 0, .bool false] w
  ct : TAt w C1 C2 t
  cv : TAt w B1 B2 (viewT t v)
  cd : Rd w D ((List.replicate (2 * t.ls.length) true).map Value.bool)
theorem RouR.up {t : Topo} {v : Int} {rb sb : Nat} {C1 C2 B1 B2 D : Option Addr} {e1 e2 d1 d2 : Nat} {g s : Int} {w w' : World} (h : RouR t v rb sb C1 C2 B1 B2 D e1 e2 d1 d2 g s w) (hb : Below w.heap.size w w') : RouR t v rb sb C1 C2 B1 B2 D e1 e2 d1 d2 g s w' :=
  ⟨h.r.up hb, h.ct.below hb, h.cv.below hb, h.cd.below hb⟩
section
variable {t : Topo} {v : Int} {rb sb : Nat} {C1 C2 B1 B2 D : Option Addr} {e1 e2 d1 d2 : Nat} {g s : Int} {w : World}
theorem p4_up {b : Nat} {x0 x1 x2 x3 : Value} {w w' : World} (hb : Below w.heap.size w w') (h : w.cell? ⟨b, 0, none⟩ = some x0 ∧ w.cell? ⟨b, 1, none⟩ = some x1 ∧ w.cell? ⟨b, 2, none⟩ = some x2 ∧ w.cell? ⟨b, 3, none⟩ = some x3) :
    w'.cell? ⟨b, 0, none⟩ = some x0 ∧ w'.cell? ⟨b, 1, none⟩ = some x1 ∧ w'.cell? ⟨b, 2, none⟩ = some x2 ∧ w'.cell? ⟨b, 3, none⟩ = some x3 := ⟨cell_up hb h.1, cell_up hb h.2.1, cell_up hb h.2.2.1, cell_up hb h.2.2.2⟩
set_option maxRecDepth 100000 in
set_option maxHeartbeats 4000000 in
theorem router_detected0 (hv : valid t = true) (h : RouR t v rb sb C1 C2 B1 B2 D e1 e2 d1 d2 g s w) :
    Calls Tryz.prog 46 #[.pointer (some ⟨rb, 0, none⟩)] w fun e w' => ∃ (vd : Value) (xs : List Int), e = .returned vd ∧ w'.ownsRow w.heap.size 3 1 vd xs.length (xs.map (Value.int .i64)) ∧ xs.length ≤ 512 ∧ Below w.heap.size w w' := by
  obtain ⟨i0, hi, hz0, hz1, hz2⟩ := info_parts intInfo
  have hL := valid_ls hv
  have HR := Lib.hid h
  have HB := Lib.hid (Below.refl w.heap.size w)
  obtain ⟨r0, r1, r2, r3, r4, r5, r6, r7, r8, r9, r10, r11, r12, r13, r14, r15, r16, r17, r18, r19, r20, fr⟩ := h.r.c21
  clear r4 r5 r6 r7 r8 r9 r10 r11 r12 r13 r14 r15 r16 r17 r18 r19 r20 fr h hv
  go_enter Tryz.func46, Tryz.ntmps46
  go_upto_region 2 with fail
  go_region_held3 (fun w' => w'.cell? ⟨rb, 0, none⟩ = some (.int .i64 t.n) ∧ w'.cell? ⟨rb, 1, none⟩ = some (.slice C1 t.ov.length e1) ∧ w'.cell? ⟨rb, 2, none⟩ = some (.slice C2 t.ls.length e2) ∧ w'.cell? ⟨rb, 3, none⟩ = some (.int .i64 v))
    (first | with_reducible exact p4_up HQ.out (by assumption) | exact p4_up (Bdrw (Below.refl _ _)) ⟨r0, r1, r2, r3⟩)
    (first | (go_at_call 75; (with_reducible refine (graph_OutO t _ _ _ _ _ _ (HR.out.ct.below (Bdrw (Below.refl _ _))) (by omega)).mono ?_); rintro e w3 ⟨vo, rfl, hvo, hb⟩; have HQ := Lib.hid hb; have HVR := Lib.hid hvo; obtain ⟨Ao, co, rfl, _, _, _⟩ := rd_of_own hvo; replace HR := Lib.hid ((HR.out.up (Bdrw (Below.refl _ _))).up hb); replace HB := Lib.hid ((Bdrw HB.out).trans hb); clear hb hvo))
  generalize hl : ups (outP t v) (2 * t.ls.length) = l at HVR ⊢
  have HLB : Hid (∀ a ∈ l, 0 ≤ a ∧ a < 2 * (t.ls.length : Int)) := Lib.hid (fun a ha => by rw [← hl] at ha; have := mem_ups.1 ha; omega)
  have hll : l.length ≤ 512 := by rw [← hl]; exact Nat.le_trans (ups_le _ _) (by omega)
  have HRDO := Lib.hid (rd_of_own HVR.out)
  clear hl
  go_wp2_with fail
  clear r0 r1 r2 r3
  go_loopg [3, 16] l.length (fun gg vs i wx => ∃ (q : Nat) (xs : List Int) (v2 : Value), v2 = vs ∧ q + gg = l.length ∧ i = .int .i64 q ∧ xs.length ≤ q ∧ Hid (Below w3.heap.size w3 wx) ∧ Hid (wx.ownsRow w3.heap.size 3 1 v2 xs.length (xs.map (Value.int .i64))))
  case atStart => exact ⟨0, [], _, rfl, by omega, rfl, Nat.le_refl _, Lib.hid (Below.refl _ _), Lib.hid (World.ownsRow_nil _ _ _ _)⟩
  case round =>
    obtain ⟨q, xs, v2, rfl, hqg, rfl, hxs, HW, HV2⟩ := hrel
    by_cases hlt : q < l.length
    · have hlt' : (q : Int) < (l.length : Int) := by omega
      obtain ⟨A', c', e1, _, _, hrd⟩ := HRDO.out
      injection e1 with e1 _ e3
      subst e1 e3
      obtain ⟨bz, oz, a, rfl, haz, caz⟩ := ints_at (hrd.below HW.out) hlt
      obtain ⟨a0, a1⟩ := HLB.out a (List.mem_of_getElem? haz)
      have HRW := Lib.hid (HR.out.up HW.out)
      have r12 := HRW.out.r.c21.2.2.2.2.2.2.2.2.2.2.2.2.1
      have hdl : ((List.replicate (2 * t.ls.length) true).map Value.bool)[a.toNat]? = some (.bool true) := by
        rw [List.getElem?_map, List.getElem?_replicate, if_pos (by omega)]; rfl
      obtain ⟨bd, od, rfl, cda⟩ := HRW.out.cd.at_ hdl
      have hai : a < ((2 * t.ls.length : Nat) : Int) := by omega
      clear haz hdl hrd
      go_upto_region 6 with fail
      have HVA := Lib.hid (HV2.out)
      clear r12 cda caz
      have HWA := Lib.hid (HW.out.alloc HW.out.size (.cells #[.int .i64 a] 3))
      go_wp2_with (at_builtin; refine wpList_append_lies _ rfl _ _ 50 rfl w3.heap.size 3 i0 (.int .i64 0) 1 8 Tryz.underlying50 hi hz0 hz1 hz2 rfl (by decide) _ _ _ rfl (HV2.out.alloc _) ⟨_, 0, none⟩ 1 1 [.int .i64 a] rfl rfl (cell_one_new _ _ _) ?c2 (by decide) ?c3 ?c4 ?c5 _ rfl ?_)
      case c2 => first | rfl | (intro u hu; simp at hu; subst hu; rfl)
      case c3 => unfold maxLen; omega
      case c4 => omega
      case c5 => have := HW.out.size; simp; omega
      intro gb cap W5 ap1 ap2 ap3 ap4
      have hvb : ∀ b, v2.ownBlock = some b → w3.heap.size ≤ b := fun b e => (HV2.out.lt b e).1
      have HB5 := Lib.hid (HWA.out.grown ap2 (by have := HW.out.size; simp; omega) (fun b e => hvb b e))
      have HO5 := Lib.hid ap1
      clear ap1 ap2 ap3 ap4 hvb
      go_wp2_with fail
      go_roundg (gk - 1)
      case measure => omega
      case rel => exact ⟨q + 1, xs ++ [a], _, rfl, by omega, by go_num, by simp; omega, HB5, Lib.hid (by rw [List.map_append, List.length_append]; exact HO5.out)⟩
    · obtain rfl : q = l.length := by omega
      have hlf : ¬ ((l.length : Int) < (l.length : Int)) := by omega
      go_wp2_with fail
      go_ret
      exact ⟨v2, rfl, xs, own_base HV2.out HB.out.size, by omega, HB.out.trans (HW.out.mono HB.out.size)⟩
set_option maxRecDepth 100000 in
set_option maxHeartbeats 4000000 in
theorem router_State0 (hv : valid t = true) (h : RouR t v rb sb C1 C2 B1 B2 D e1 e2 d1 d2 g s w) :
    Calls Tryz.prog 12 #[.pointer (some ⟨rb, 0, none⟩)] w fun e w' => e = .returned (.int .i64 3) ∧ Below w.heap.size w w' := by
  have HV := Lib.hid hv
  have HR := Lib.hid h
  have HB := Lib.hid (Below.refl w.heap.size w)
  obtain ⟨r0, r1, r2, r3, r4, r5, r6, r7, r8, r9, r10, r11, r12, r13, r14, r15, r16, r17, r18, r19, r20, fr⟩ := h.r.c21
  clear r0 r1 r2 r3 r4 r5 r6 r9 r10 r11 r12 r13 r14 r15 r16 r17 r18 r19 r20 fr h hv
  go_enter Tryz.func12, Tryz.ntmps12
  go_upto_region 3 with fail
  go_region_held3 (fun w' => w'.cell? ⟨rb, 7, none⟩ = some (.int .i64 3) ∧ w'.cell? ⟨rb, 8, none⟩ = some (.int .i64 0))
    (first | with_reducible exact ⟨cell_up HQ.out r7, cell_up HQ.out r8⟩ | exact ⟨cell_up (Bdrw (Below.refl _ _)) r7, cell_up (Bdrw (Below.refl _ _)) r8⟩)
    (first | (go_at_call 46; (with_reducible refine (router_detected0 HV.out (HR.out.up (Bdrw (Below.refl _ _)))).mono ?_); rintro e w3 ⟨vd, xs, rfl, hvd, hxl, hb⟩; have HQ := Lib.hid ((Bdrw (Below.refl w.heap.size w)).trans hb); obtain ⟨Ao, co, rfl, _, _, _⟩ := rd_of_own hvd; clear hb hvd) | (go_at_call 45; refine (stages_Effective0 _ _).mono ?_; rintro e w4 ⟨rfl, hb⟩; replace HQ := Lib.hid (HQ.out.trans (hb.mono HQ.out.size)); clear hb))
  go_wp2_with fail
  go_ret
  exact ⟨rfl, HQ.out⟩
end
end Go.Proofs.YtenhliibmcmnbaaGreat
