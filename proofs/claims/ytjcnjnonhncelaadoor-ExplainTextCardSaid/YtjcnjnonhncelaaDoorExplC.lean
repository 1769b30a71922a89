/-
  (*explain.story).cause, explain.Explain at the example of the document of layer 57.
-/
import Derived.Test.YtjcnjnonhncelaaDoorExplF
namespace Go.Proofs.YtjcnjnonhncelaaDoor
open Go.RowKit Go.Sort
set_option linter.unusedSimpArgs false
set_option linter.unusedVariables false

theorem three_facts {w : World} {b : Nat} {x0 x1 x2 : Value} {T : TypeId} (h : w.heap[b]? = some (.cells #[x0, x1, x2] T (0, 0))) :
    w.cell? ⟨b, 0, none⟩ = some x0 ∧ w.cell? ⟨b, 1, none⟩ = some x1 ∧ w.cell? ⟨b, 2, none⟩ = some x2 ∧ (∀ i, w.frozen? ⟨b, i, none⟩ = false) :=
  ⟨by rw [Lib.cell_of_heap h]; rfl, by rw [Lib.cell_of_heap h]; rfl, by rw [Lib.cell_of_heap h]; rfl, fun i => Lib.frozen_of_heap h i⟩
theorem three_set {w : World} {b : Nat} {x0 x1 x2 y0 y1 y2 : Value} {T : TypeId} (h : w.heap[b]? = some (.cells #[x0, x1, x2] T (0, 0))) :
    (((w.setCell ⟨b, 0, none⟩ y0).setCell ⟨b, 1, none⟩ y1).setCell ⟨b, 2, none⟩ y2).heap[b]? = some (.cells #[y0, y1, y2] T (0, 0)) :=
  heap_setCell_same _ _ _ _ _ _ (heap_setCell_same _ _ _ _ _ _ (heap_setCell_same _ _ _ _ _ _ h))

set_option maxRecDepth 100000 in
set_option maxHeartbeats 4000000 in
theorem story_cause57 (sb : Nat) (A2 : Option Addr) (c2 : Nat) (A : Option Addr) (cl g cv : Nat) (w : World) (h : Sty sb A2 c2 A cl g cv w) :
    Calls Tryd.prog 67 #[.pointer (some ⟨sb, 0, none⟩)] w fun e w' => e = .returned (.agg #[.int .i64 5, .int .i64 3, .int .i64 0]) ∧ Below w.heap.size w w' := by
  have HS0 := Lib.hid h
  have HB := Lib.hid (below_box w (.cells #[.int .i64 0, .int .i64 0, .int .i64 0] 48))
  have HS := Lib.hid (h.up HB.out)
  have HZ : Hid ((w.alloc (.cells #[.int .i64 0, .int .i64 0, .int .i64 0] 48)).heap[w.heap.size]? = some (.cells #[.int .i64 0, .int .i64 0, .int .i64 0] 48 (0, 0))) := Lib.hid (heap_alloc_new _ _)
  have HLT : Hid (w.heap.size < (w.alloc (.cells #[.int .i64 0, .int .i64 0, .int .i64 0] 48)).heap.size) := Lib.hid (by simp)
  clear h HS0
  go_enter Tryd.func67, Tryd.ntmps67
  go_upto_region 1 with fail
  generalize w.alloc (.cells #[.int .i64 0, .int .i64 0, .int .i64 0] 48) = W1 at *
  go_upto_region 4 with (go_at_call 82; (with_reducible refine (story_end57 sb A2 c2 A cl g cv _ HS.out).mono ?_); rintro e w2 ⟨rfl, rfl⟩)
  go_upto_region 5 with fail
  have HC := Lib.hid (below_box w2 (.cells #[.int .i64 0, .int .i64 3, .int .i64 0] 48))
  have HCh : Hid ((w2.alloc (.cells #[.int .i64 0, .int .i64 3, .int .i64 0] 48)).heap[w2.heap.size]? = some (.cells #[.int .i64 0, .int .i64 3, .int .i64 0] 48 (0, 0))) := Lib.hid (heap_alloc_new _ _)
  replace HB := Lib.hid (below_next HB.out HC.out)
  replace HS := Lib.hid (HS.out.up HC.out)
  replace HZ := Lib.hid ((HC.out.block _ (lt_of_heap HZ.out)).trans HZ.out)
  generalize w2.alloc (.cells #[.int .i64 0, .int .i64 3, .int .i64 0] 48) = W3 at *
  generalize w2.heap.size = cb at *
  clear HC
  obtain ⟨b, o, hAe, hev⟩ := ev57_at HS.out.l
  subst hAe
  have h7 := HS.out.at7
  obtain ⟨q0, q1, q2, q3, q4, q5⟩ := hev 3 _ rfl
  simp only at q0 q1 q2 q3 q4 q5
  clear hev
  go_upto_region 6 with fail
  have HX := Lib.hid (below_box W3 (.cells #[.int .i64 6, .int .i64 4, .int .i64 0, .int .i64 0, .int .i64 7, .int .i64 3] 40))
  have HXh : Hid ((W3.alloc (.cells #[.int .i64 6, .int .i64 4, .int .i64 0, .int .i64 0, .int .i64 7, .int .i64 3] 40)).heap[W3.heap.size]? = some (.cells #[.int .i64 6, .int .i64 4, .int .i64 0, .int .i64 0, .int .i64 7, .int .i64 3] 40 (0, 0))) := Lib.hid (heap_alloc_new _ _)
  replace HB := Lib.hid (below_next HB.out HX.out)
  replace HS := Lib.hid (HS.out.up HX.out)
  replace HZ := Lib.hid ((HX.out.block _ (lt_of_heap HZ.out)).trans HZ.out)
  replace HCh := Lib.hid ((HX.out.block _ (lt_of_heap HCh.out)).trans HCh.out)
  clear q0 q1 q2 q3 q4 q5 h7
  generalize W3.alloc (.cells #[.int .i64 6, .int .i64 4, .int .i64 0, .int .i64 0, .int .i64 7, .int .i64 3] 40) = W4 at *
  generalize W3.heap.size = eb at *
  clear HX
  obtain ⟨s0, s1, s2, s3, s4, s5, _⟩ := six_factsX HXh.out
  obtain ⟨c0, c1, cc2, cf⟩ := three_facts HCh.out
  have f0 := cf 0
  have f1 := cf 1
  have f2 := cf 2
  clear cf
  go_upto_region 29 with (go_at_call 88; (with_reducible refine (story_failure57 sb A2 c2 _ cl g cv _ HS.out).mono ?_); rintro e w5 ⟨rfl, hb⟩; replace HB := Lib.hid (below_next HB.out hb); replace HZ := Lib.hid ((hb.block _ (lt_of_heap HZ.out)).trans HZ.out); replace HCh := Lib.hid ((hb.block _ (lt_of_heap HCh.out)).trans HCh.out); clear c0 c1 cc2 f0 f1 f2 hb; obtain ⟨c0, c1, cc2, cf⟩ := three_facts HCh.out; have f0 := cf 0; have f1 := cf 1; have f2 := cf 2; clear cf)
  have hne : w.heap.size ≠ cb := by have := HLT.out; omega
  have HC6 : Hid (((w5.setCell ⟨cb, 0, none⟩ (.int .i64 5)).setCell ⟨cb, 2, none⟩ (.int .i64 0)).heap[cb]? = some (.cells #[.int .i64 5, .int .i64 3, .int .i64 0] 48 (0, 0))) := Lib.hid (heap_setCell_same _ _ _ _ _ _ (heap_setCell_same _ _ _ _ _ _ HCh.out))
  have HZ6 : Hid (((w5.setCell ⟨cb, 0, none⟩ (.int .i64 5)).setCell ⟨cb, 2, none⟩ (.int .i64 0)).heap[w.heap.size]? = some (.cells #[.int .i64 0, .int .i64 0, .int .i64 0] 48 (0, 0))) := Lib.hid (((Below.heap_setCell _ _ _ _ hne).trans (Below.heap_setCell _ _ _ _ hne)).trans HZ.out)
  have hle : w.heap.size ≤ cb := by have := HLT.out; omega
  have HB6 : Hid (Below w.heap.size w ((w5.setCell ⟨cb, 0, none⟩ (.int .i64 5)).setCell ⟨cb, 2, none⟩ (.int .i64 0))) := Lib.hid ((HB.out.setCell (p := ⟨cb, 0, none⟩) hle _).setCell (p := ⟨cb, 2, none⟩) hle _)
  clear c0 c1 cc2 f0 f1 f2 hne hle
  generalize ((w5.setCell ⟨cb, 0, none⟩ (.int .i64 5)).setCell ⟨cb, 2, none⟩ (.int .i64 0)) = W6 at *
  obtain ⟨c0, c1, cc2, _⟩ := three_facts HC6.out
  obtain ⟨z0, z1, z2, zf⟩ := three_facts HZ6.out
  have g0 := zf 0
  have g1 := zf 1
  have g2 := zf 2
  clear zf
  go_wp2_with fail
  obtain ⟨y0, y1, y2, _⟩ := three_facts (three_set HZ6.out (y0 := .int .i64 5) (y1 := .int .i64 3) (y2 := .int .i64 0))
  refine bodyPost_ret (v := .agg #[.int .i64 5, .int .i64 3, .int .i64 0]) (by simp [results, Tryd.results67, go_sem, y0, y1, y2]) rfl ⟨rfl, ((HB6.out.setCell (p := ⟨w.heap.size, 0, none⟩) (Nat.le_refl _) _).setCell (p := ⟨w.heap.size, 1, none⟩) (Nat.le_refl _) _).setCell (p := ⟨w.heap.size, 2, none⟩) (Nat.le_refl _) _⟩

set_option maxRecDepth 100000 in
set_option maxHeartbeats 4000000 in
theorem explain_Explain57 (A2 A : Option Addr) (c2 pb cp cl : Nat) (w : World) (hT : TAt w none A2 ex57T) (hP : PkAt w pb) (hL : RdE w A ex57L) (hc : 4 ≤ cl) :
    Calls Tryd.prog 39 #[.agg #[.int .i64 2, .slice none 0 0, .slice A2 1 c2, .int .i64 0, .int .i64 1, .int .i64 1, .slice none 0 0], .slice (some ⟨pb, 0, none⟩) 1 cp, .slice A 4 cl, .int .i64 7] w
      fun e w' => e = .returned (.tuple #[.agg #[.int .i64 5, .int .i64 3, .int .i64 0], .int .i64 0]) ∧ Below w.heap.size w w' := by
  have HT := Lib.hid hT
  have HP := Lib.hid hP
  have HL := Lib.hid hL
  have HB0 := Lib.hid (below_box w (.cells #[.int .i64 2, .slice none 0 0, .slice A2 1 c2, .int .i64 0, .int .i64 1, .int .i64 1, .slice none 0 0] 82))
  have HB1 := Lib.hid (below_box (w.alloc (.cells #[.int .i64 2, .slice none 0 0, .slice A2 1 c2, .int .i64 0, .int .i64 1, .int .i64 1, .slice none 0 0] 82)) (.cells #[.int .i64 0, .int .i64 0, .int .i64 0] 48))
  have HB := Lib.hid (below_next HB0.out HB1.out)
  have HFh : Hid (((w.alloc (.cells #[.int .i64 2, .slice none 0 0, .slice A2 1 c2, .int .i64 0, .int .i64 1, .int .i64 1, .slice none 0 0] 82)).alloc (.cells #[.int .i64 0, .int .i64 0, .int .i64 0] 48)).heap[w.heap.size]? = some (.cells #[.int .i64 2, .slice none 0 0, .slice A2 1 c2, .int .i64 0, .int .i64 1, .int .i64 1, .slice none 0 0] 82 (0, 0))) := Lib.hid ((HB1.out.block _ (by simp)).trans (heap_alloc_new _ _))
  have HZ : Hid (((w.alloc (.cells #[.int .i64 2, .slice none 0 0, .slice A2 1 c2, .int .i64 0, .int .i64 1, .int .i64 1, .slice none 0 0] 82)).alloc (.cells #[.int .i64 0, .int .i64 0, .int .i64 0] 48)).heap[w.heap.size + 1]? = some (.cells #[.int .i64 0, .int .i64 0, .int .i64 0] 48 (0, 0))) := Lib.hid (by have h9 := heap_alloc_new (w.alloc (.cells #[.int .i64 2, .slice none 0 0, .slice A2 1 c2, .int .i64 0, .int .i64 1, .int .i64 1, .slice none 0 0] 82)) (.cells #[.int .i64 0, .int .i64 0, .int .i64 0] 48); rwa [World.size_alloc] at h9)
  clear hT hP hL HB0 HB1
  go_enter Tryd.func39, Tryd.ntmps39
  go_upto_region 1 with fail
  generalize (w.alloc (.cells #[.int .i64 2, .slice none 0 0, .slice A2 1 c2, .int .i64 0, .int .i64 1, .int .i64 1, .slice none 0 0] 82)).alloc (.cells #[.int .i64 0, .int .i64 0, .int .i64 0] 48) = W1 at *
  have g0 : W1.cell? ⟨w.heap.size, 0, none⟩ = some (.int .i64 2) := by rw [Lib.cell_of_heap HFh.out]; rfl
  have g1 : W1.cell? ⟨w.heap.size, 1, none⟩ = some (.slice none 0 0) := by rw [Lib.cell_of_heap HFh.out]; rfl
  have g2 : W1.cell? ⟨w.heap.size, 2, none⟩ = some (.slice A2 1 c2) := by rw [Lib.cell_of_heap HFh.out]; rfl
  have g3 : W1.cell? ⟨w.heap.size, 3, none⟩ = some (.int .i64 0) := by rw [Lib.cell_of_heap HFh.out]; rfl
  have g4 : W1.cell? ⟨w.heap.size, 4, none⟩ = some (.int .i64 1) := by rw [Lib.cell_of_heap HFh.out]; rfl
  have g5 : W1.cell? ⟨w.heap.size, 5, none⟩ = some (.int .i64 1) := by rw [Lib.cell_of_heap HFh.out]; rfl
  have g6 : W1.cell? ⟨w.heap.size, 6, none⟩ = some (.slice none 0 0) := by rw [Lib.cell_of_heap HFh.out]; rfl
  clear HFh
  go_upto_region 2 with (go_at_call 66; (with_reducible refine (explain_read57 A2 A c2 pb cp cl _ (HT.out.below HB.out) (HP.out.up HB.out) (HL.out.below HB.out)).mono ?_); rintro e w2 ⟨sb, v, rfl, hS, hO⟩; clear g0 g1 g2 g3 g4 g5 g6)
  obtain ⟨g, cv, hSt⟩ := sty_of hS hO (HL.out.below HB.out) (HT.out.below HB.out) hc
  have HSt := Lib.hid hSt
  have HB2 := Lib.hid (below_next HB.out hS.hb)
  have HZ2 := Lib.hid ((hS.hb.block _ (lt_of_heap HZ.out)).trans HZ.out)
  clear hS hO hSt HB HZ
  obtain ⟨z0, z1, z2, zf⟩ := three_facts HZ2.out
  go_wp2_with (go_at_call 67; (with_reducible refine (story_cause57 sb A2 c2 A cl g cv _ HSt.out).mono ?_); rintro e w3 ⟨rfl, hb⟩; have HB3 := Lib.hid (below_next HB2.out hb); have HZ3 := Lib.hid ((hb.block _ (lt_of_heap HZ2.out)).trans HZ2.out); clear hb z0 z1 z2 zf; obtain ⟨z0, z1, z2, zf⟩ := three_facts HZ3.out; have u0 := zf 0; have u1 := zf 1; have u2 := zf 2; clear zf)
  obtain ⟨y0, y1, y2, _⟩ := three_facts (three_set HZ3.out (y0 := .int .i64 5) (y1 := .int .i64 3) (y2 := .int .i64 0))
  refine bodyPost_ret (v := .tuple #[.agg #[.int .i64 5, .int .i64 3, .int .i64 0], .int .i64 0]) (by simp [results, Tryd.results39, go_sem, y0, y1, y2]) rfl ⟨rfl, ((HB3.out.setCell (p := ⟨w.heap.size + 1, 0, none⟩) (by show w.heap.size ≤ w.heap.size + 1; omega) _).setCell (p := ⟨w.heap.size + 1, 1, none⟩) (by show w.heap.size ≤ w.heap.size + 1; omega) _).setCell (p := ⟨w.heap.size + 1, 2, none⟩) (by show w.heap.size ≤ w.heap.size + 1; omega) _⟩

end Go.Proofs.YtjcnjnonhncelaaDoor
