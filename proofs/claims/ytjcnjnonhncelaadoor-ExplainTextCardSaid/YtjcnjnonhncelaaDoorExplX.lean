/-
  explain.read at the example of the document of layer 57: what it returns.
-/
import Derived.Test.YtjcnjnonhncelaaDoorExplW
import Derived.Test.YtjcnjnonhncelaaDoorOut
import Derived.Deep.RegionHeld3
namespace Go.Proofs.YtjcnjnonhncelaaDoor
open Go.RowKit Go.Sort
set_option linter.unusedSimpArgs false
set_option linter.unusedVariables false

theorem explain_read1 (w : World) (ib : Nat) (h : w.cell? ⟨ib, 0, none⟩ = some (.int .i64 7)) :
    Calls Tryd.prog 81 #[.agg #[.int .i64 7, .int .i64 0, .int .i64 1, .int .i64 0, .slice none 0 0, .int .i64 0], .pointer (some ⟨ib, 0, none⟩)] w fun e w' => e = .returned (.bool true) ∧ Below w.heap.size w w' := by
  have hb0 := below_box w (.cells #[.int .i64 7, .int .i64 0, .int .i64 1, .int .i64 0, .slice none 0 0, .int .i64 0] 85)
  have h1 := cell_up hb0 h
  go_enter Tryd.func81, Tryd.ntmps81
  go_wp2_with fail
  go_ret
  exact ⟨rfl, hb0⟩

set_option maxRecDepth 100000 in
set_option maxHeartbeats 2000000 in
theorem pk_index (w : World) (pb ib cp : Nat) (hP : PkAt w pb) (h : w.cell? ⟨ib, 0, none⟩ = some (.int .i64 7)) :
    Calls Tryd.prog 105 #[.slice (some ⟨pb, 0, none⟩) 1 cp, .func (.func 81) #[] #[.pointer (some ⟨ib, 0, none⟩)]] w fun e w' => e = .returned (.int .i64 0) ∧ Below w.heap.size w w' := by
  obtain ⟨p0, p1, p2, p3, p4, p5⟩ := hP
  have H := Lib.hid h
  go_enter Tryd.func105, Tryd.ntmps105
  go_wp2_with fail
  go_loopw [5, 8] (fun _ i wr => i = .int .i64 0 ∧ wr = w) (fun _ _ _ => 0)
  case atStart => exact ⟨rfl, rfl⟩
  case round =>
    obtain ⟨rfl, rfl⟩ := hrel
    go_wp2_with (go_at_call 81; refine (explain_read1 _ _ H.out).mono ?_; rintro e w2 ⟨rfl, hb⟩)
    go_ret
    exact ⟨rfl, hb⟩

theorem pk_contains (w : World) (pb ib cp : Nat) (hP : PkAt w pb) (h : w.cell? ⟨ib, 0, none⟩ = some (.int .i64 7)) :
    Calls Tryd.prog 80 #[.slice (some ⟨pb, 0, none⟩) 1 cp, .func (.func 81) #[] #[.pointer (some ⟨ib, 0, none⟩)]] w fun e w' => e = .returned (.bool true) ∧ Below w.heap.size w w' := by
  go_enter Tryd.func80, Tryd.ntmps80
  go_wp2_with (go_at_call 105; refine (pk_index _ _ _ _ hP h).mono ?_; rintro e w2 ⟨rfl, hb⟩)
  go_ret
  exact ⟨rfl, hb⟩

theorem six_factsX {w : World} {b : Nat} {x0 x1 x2 x3 x4 x5 : Value} {T : TypeId} (h : w.heap[b]? = some (.cells #[x0, x1, x2, x3, x4, x5] T (0, 0))) :
    w.cell? ⟨b, 0, none⟩ = some x0 ∧ w.cell? ⟨b, 1, none⟩ = some x1 ∧ w.cell? ⟨b, 2, none⟩ = some x2 ∧ w.cell? ⟨b, 3, none⟩ = some x3 ∧ w.cell? ⟨b, 4, none⟩ = some x4 ∧ w.cell? ⟨b, 5, none⟩ = some x5 ∧
    (∀ i, w.frozen? ⟨b, i, none⟩ = false) :=
  ⟨by rw [Lib.cell_of_heap h]; rfl, by rw [Lib.cell_of_heap h]; rfl, by rw [Lib.cell_of_heap h]; rfl, by rw [Lib.cell_of_heap h]; rfl, by rw [Lib.cell_of_heap h]; rfl, by rw [Lib.cell_of_heap h]; rfl, fun i => Lib.frozen_of_heap h i⟩
theorem cell_setCell_otherX {w : World} {p q : Addr} {v : Value} (h : p.block ≠ q.block) : (w.setCell p v).cell? q = w.cell? q :=
  World.cell?_setCell_other w _ _ _ (fun e => h (by rw [e]))
def evs57 (k : Nat) : List Int := ([1, 2, 3] : List Int).take (k - 1)
theorem own_setX {w : World} {B : Nat} {E : TypeId} {size : Nat} {v : Value} {n : Nat} {xs : List Value} {g j : Nat} (h : w.ownsRow B E size v n xs) (hg : g < B) (u : Value) : (w.setCell ⟨g, j, none⟩ u).ownsRow B E size v n xs := by
  rcases h with ⟨hl, h0 | ⟨g', cap, cur, rfl, hB, hg', rest⟩⟩
  · exact ⟨hl, .inl h0⟩
  · refine ⟨hl, .inr ⟨g', cap, cur, rfl, hB, ?_, rest⟩⟩
    rw [Below.heap_setCell w ⟨g, j, none⟩ u g' (fun e => by have e' : g' = g := e; omega)]
    exact hg'
/-- The story's box. -/
structure St (w0 : World) (sb : Nat) (A2 : Option Addr) (c2 : Nat) (A : Option Addr) (cl : Nat) (v : Value) (w : World) : Prop where
  st : w.heap[sb]? = some (.cells #[.int .i64 2, .slice none 0 0, .slice A2 1 c2, .int .i64 0, .int .i64 1, .int .i64 1, .slice none 0 0, .slice A 4 cl, v] 120 (0, 0))
  hb : Below w0.heap.size w0 w
  le : w0.heap.size ≤ sb
theorem St.up {w0 w w' : World} {sb : Nat} {A2 : Option Addr} {c2 : Nat} {A : Option Addr} {cl : Nat} {v : Value} (h : St w0 sb A2 c2 A cl v w) (hb : Below w.heap.size w w') : St w0 sb A2 c2 A cl v w' := ⟨(hb.block _ (lt_of_heap h.st)).trans h.st, below_next h.hb hb, h.le⟩
theorem St.up1 {w0 w w' : World} {sb : Nat} {A2 : Option Addr} {c2 : Nat} {A : Option Addr} {cl : Nat} {v : Value} (h : St w0 sb A2 c2 A cl v w) (hb : Below (sb + 1) w w') : St w0 sb A2 c2 A cl v w' := ⟨(hb.block _ (by omega)).trans h.st, h.hb.trans (hb.mono (by have := h.le; omega)), h.le⟩
theorem St.set {w0 w : World} {sb : Nat} {A2 : Option Addr} {c2 : Nat} {A : Option Addr} {cl : Nat} {v : Value} (h : St w0 sb A2 c2 A cl v w) (u : Value) : St w0 sb A2 c2 A cl u (w.setCell ⟨sb, 8, none⟩ u) :=
  ⟨heap_setCell_same _ _ _ _ _ _ h.st, h.hb.setCell (p := ⟨sb, 8, none⟩) h.le _, h.le⟩
theorem St.cells {w0 w : World} {sb : Nat} {A2 : Option Addr} {c2 : Nat} {A : Option Addr} {cl : Nat} {v : Value} (h : St w0 sb A2 c2 A cl v w) : w.cell? ⟨sb, 7, none⟩ = some (.slice A 4 cl) ∧ w.cell? ⟨sb, 8, none⟩ = some v ∧ w.frozen? ⟨sb, 8, none⟩ = false :=
  ⟨by rw [Lib.cell_of_heap h.st]; rfl, by rw [Lib.cell_of_heap h.st]; rfl, Lib.frozen_of_heap h.st _⟩
/-- What read returns at the example. -/
def RetSt (w : World) (A2 : Option Addr) (c2 : Nat) (A : Option Addr) (cl : Nat) (e : Ending) (w' : World) : Prop :=
  ∃ sb v, e = .returned (.tuple #[.pointer (some ⟨sb, 0, none⟩), .int .i64 0]) ∧ St w sb A2 c2 A cl v w' ∧ w'.ownsRow (sb + 1) 3 1 v 3 ([1, 2, 3].map (Value.int .i64))

set_option maxRecDepth 100000 in
set_option maxHeartbeats 8000000 in
theorem explain_read57 (A2 A : Option Addr) (c2 pb cp cl : Nat) (w : World) (hT : TAt w none A2 ex57T) (hP : PkAt w pb) (hL : RdE w A ex57L) :
    Calls Tryd.prog 66 #[.agg #[.int .i64 2, .slice none 0 0, .slice A2 1 c2, .int .i64 0, .int .i64 1, .int .i64 1, .slice none 0 0], .slice (some ⟨pb, 0, none⟩) 1 cp, .slice A 4 cl, .int .i64 7] w (RetSt w A2 c2 A cl) := by
  obtain ⟨i0, hi, hz0, hz1, hz2⟩ := info_parts intInfo
  have HT := Lib.hid hT
  have HP := Lib.hid hP
  have HL := Lib.hid hL
  clear hT hP hL
  have HB0 := Lib.hid (below_box w (.cells #[.int .i64 2, .slice none 0 0, .slice A2 1 c2, .int .i64 0, .int .i64 1, .int .i64 1, .slice none 0 0] 82))
  have HB1 := Lib.hid (below_box (w.alloc (.cells #[.int .i64 2, .slice none 0 0, .slice A2 1 c2, .int .i64 0, .int .i64 1, .int .i64 1, .slice none 0 0] 82)) (.cells #[.int .i64 7] 3))
  have HB := Lib.hid (below_next HB0.out HB1.out)
  have HFh : Hid (((w.alloc (.cells #[.int .i64 2, .slice none 0 0, .slice A2 1 c2, .int .i64 0, .int .i64 1, .int .i64 1, .slice none 0 0] 82)).alloc (.cells #[.int .i64 7] 3)).heap[w.heap.size]? = some (.cells #[.int .i64 2, .slice none 0 0, .slice A2 1 c2, .int .i64 0, .int .i64 1, .int .i64 1, .slice none 0 0] 82 (0, 0))) := Lib.hid ((HB1.out.block _ (by simp)).trans (heap_alloc_new _ _))
  have HIh : Hid (((w.alloc (.cells #[.int .i64 2, .slice none 0 0, .slice A2 1 c2, .int .i64 0, .int .i64 1, .int .i64 1, .slice none 0 0] 82)).alloc (.cells #[.int .i64 7] 3)).cell? ⟨w.heap.size + 1, 0, none⟩ = some (.int .i64 7)) := Lib.hid (by have h9 := cell_one_new (w.alloc (.cells #[.int .i64 2, .slice none 0 0, .slice A2 1 c2, .int .i64 0, .int .i64 1, .int .i64 1, .slice none 0 0] 82)) (.int .i64 7) 3; simp)
  clear HB0 HB1
  go_enter Tryd.func66, Tryd.ntmps66
  go_upto_region 1 with fail
  generalize (w.alloc (.cells #[.int .i64 2, .slice none 0 0, .slice A2 1 c2, .int .i64 0, .int .i64 1, .int .i64 1, .slice none 0 0] 82)).alloc (.cells #[.int .i64 7] 3) = W1 at *
  have g0 : W1.cell? ⟨w.heap.size, 0, none⟩ = some (.int .i64 2) := by rw [Lib.cell_of_heap HFh.out]; rfl
  have g1 : W1.cell? ⟨w.heap.size, 1, none⟩ = some (.slice none 0 0) := by rw [Lib.cell_of_heap HFh.out]; rfl
  have g2 : W1.cell? ⟨w.heap.size, 2, none⟩ = some (.slice A2 1 c2) := by rw [Lib.cell_of_heap HFh.out]; rfl
  have g3 : W1.cell? ⟨w.heap.size, 3, none⟩ = some (.int .i64 0) := by rw [Lib.cell_of_heap HFh.out]; rfl
  have g4 : W1.cell? ⟨w.heap.size, 4, none⟩ = some (.int .i64 1) := by rw [Lib.cell_of_heap HFh.out]; rfl
  have g5 : W1.cell? ⟨w.heap.size, 5, none⟩ = some (.int .i64 1) := by rw [Lib.cell_of_heap HFh.out]; rfl
  have g6 : W1.cell? ⟨w.heap.size, 6, none⟩ = some (.slice none 0 0) := by rw [Lib.cell_of_heap HFh.out]; rfl
  have i7 := HIh.out
  clear HFh HIh
  go_upto_region 6 with (first | (go_at_call 79; (with_reducible refine (verify_Valid57 A2 A c2 pb cp cl _ (HT.out.below HB.out) (HP.out.up HB.out) (HL.out.below HB.out)).mono ?_); rintro e w2 ⟨rfl, hb⟩; replace HB := Lib.hid (below_next HB.out hb); replace g0 := cell_up hb g0; replace g1 := cell_up hb g1; replace g2 := cell_up hb g2; replace g3 := cell_up hb g3; replace g4 := cell_up hb g4; replace g5 := cell_up hb g5; replace g6 := cell_up hb g6; replace i7 := cell_up hb i7; clear hb) | (go_at_call 80; (with_reducible refine (pk_contains _ pb _ cp (HP.out.up HB.out) i7).mono ?_); rintro e w3 ⟨rfl, hb⟩; replace HB := Lib.hid (below_next HB.out hb); replace g0 := cell_up hb g0; replace g1 := cell_up hb g1; replace g2 := cell_up hb g2; replace g3 := cell_up hb g3; replace g4 := cell_up hb g4; replace g5 := cell_up hb g5; replace g6 := cell_up hb g6; replace i7 := cell_up hb i7; clear hb))
  have HS : Hid (St w w3.heap.size A2 c2 A cl (.slice none 0 0) (w3.alloc (.cells #[.int .i64 2, .slice none 0 0, .slice A2 1 c2, .int .i64 0, .int .i64 1, .int .i64 1, .slice none 0 0, .slice A 4 cl, .slice none 0 0] 120))) := Lib.hid ⟨heap_alloc_new _ _, below_next HB.out (below_box _ _), HB.out.size⟩
  have HW3 := Lib.hid (below_box w3 (.cells #[.int .i64 2, .slice none 0 0, .slice A2 1 c2, .int .i64 0, .int .i64 1, .int .i64 1, .slice none 0 0, .slice A 4 cl, .slice none 0 0] 120))
  have hib := block_lt_of_cell i7
  replace i7 := cell_up HW3.out i7
  clear g0 g1 g2 g3 g4 g5 g6 HB HW3
  generalize w3.alloc (.cells #[.int .i64 2, .slice none 0 0, .slice A2 1 c2, .int .i64 0, .int .i64 1, .int .i64 1, .slice none 0 0, .slice A 4 cl, .slice none 0 0] 120) = W4 at *
  generalize w3.heap.size = sb at *
  have HI7 := Lib.hid i7
  have HIB : Hid (w.heap.size + 1 < sb) := Lib.hid hib
  clear i7 hib
  go_upto_region 8 with fail
  go_loopw [11, 29] (fun snt i wr => ∃ k : Nat, k ≤ 4 ∧ i = .int .i64 (k : Int) ∧ snt = .bool (decide (2 ≤ k)) ∧ Hid (∃ v, St w sb A2 c2 A cl v wr ∧ wr.ownsRow (sb + 1) 3 1 v (evs57 k).length ((evs57 k).map (Value.int .i64))) ∧ Hid (wr.cell? ⟨w.heap.size + 1, 0, none⟩ = some (.int .i64 7))) (fun _ i _ => 4 - (intOf i).toNat)
  case atStart => exact ⟨0, by omega, rfl, rfl, Lib.hid ⟨_, HS.out, World.ownsRow_nil _ _ _ _⟩, HI7⟩
  case round =>
    clear HS HI7
    obtain ⟨k, hk, rfl, rfl, HR, HI7⟩ := hrel
    obtain ⟨v, hS, hO⟩ := HR.out
    clear HR
    have HS := Lib.hid hS
    have HO := Lib.hid hO
    clear hS hO
    have hcase : k = 0 ∨ k = 1 ∨ k = 2 ∨ k = 3 ∨ k = 4 := by omega
    rcases hcase with rfl | rfl | rfl | rfl | rfl
    · obtain ⟨b, o, x, rfl, hx, hxo⟩ := (HL.out.below HS.out.hb).at_ (k := 0) (by decide)
      obtain rfl : x = ⟨5, 5, 0, 1, 0, 0⟩ := by simpa [ex57L] using hx.symm
      clear hx
      obtain ⟨q0, q1, q2, q3, q4, q5⟩ := hxo
      simp only [Nat.zero_mul, Nat.add_zero, Nat.one_mul] at q0 q1 q2 q3 q4 q5
      go_upto_region 10 with fail
      have HX := Lib.hid (below_box wr (.cells #[.int .i64 5, .int .i64 5, .int .i64 0, .int .i64 1, .int .i64 0, .int .i64 0] 40))
      have HXh : Hid ((wr.alloc (.cells #[.int .i64 5, .int .i64 5, .int .i64 0, .int .i64 1, .int .i64 0, .int .i64 0] 40)).heap[wr.heap.size]? = some (.cells #[.int .i64 5, .int .i64 5, .int .i64 0, .int .i64 1, .int .i64 0, .int .i64 0] 40 (0, 0))) := Lib.hid (heap_alloc_new _ _)
      have HW5 : Hid ((wr.alloc (.cells #[.int .i64 5, .int .i64 5, .int .i64 0, .int .i64 1, .int .i64 0, .int .i64 0] 40)).heap.size = wr.heap.size + 1) := Lib.hid (by simp)
      have HOl := Lib.hid (fun g hg => (HO.out.lt g hg).2)
      have HSE := Lib.hid (lt_of_heap HS.out.st)
      have HO5 := Lib.hid (own_up HO.out HX.out)
      replace HS := Lib.hid (HS.out.up HX.out)
      have i7 := cell_up HX.out HI7.out
      clear q0 q1 q2 q3 q4 q5 HX HI7 HO
      generalize wr.alloc (.cells #[.int .i64 5, .int .i64 5, .int .i64 0, .int .i64 1, .int .i64 0, .int .i64 0] 40) = W5 at *
      generalize wr.heap.size = eb at *
      obtain ⟨s0, s1, s2, s3, s4, s5, _⟩ := six_factsX HXh.out
      go_wp2_with fail
      go_roundw
      case rel => exact ⟨1, by omega, by go_num, rfl, Lib.hid ⟨_, HS.out, HO5.out⟩, Lib.hid i7⟩
      case measure => simp [intOf]
    · obtain ⟨b, o, x, rfl, hx, hxo⟩ := (HL.out.below HS.out.hb).at_ (k := 1) (by decide)
      obtain rfl : x = ⟨6, 1, 0, 0, 7, 0⟩ := by simpa [ex57L] using hx.symm
      clear hx
      obtain ⟨q0, q1, q2, q3, q4, q5⟩ := hxo
      simp only [Nat.zero_mul, Nat.add_zero, Nat.one_mul] at q0 q1 q2 q3 q4 q5
      go_upto_region 10 with fail
      have HX := Lib.hid (below_box wr (.cells #[.int .i64 6, .int .i64 1, .int .i64 0, .int .i64 0, .int .i64 7, .int .i64 0] 40))
      have HXh : Hid ((wr.alloc (.cells #[.int .i64 6, .int .i64 1, .int .i64 0, .int .i64 0, .int .i64 7, .int .i64 0] 40)).heap[wr.heap.size]? = some (.cells #[.int .i64 6, .int .i64 1, .int .i64 0, .int .i64 0, .int .i64 7, .int .i64 0] 40 (0, 0))) := Lib.hid (heap_alloc_new _ _)
      have HW5 : Hid ((wr.alloc (.cells #[.int .i64 6, .int .i64 1, .int .i64 0, .int .i64 0, .int .i64 7, .int .i64 0] 40)).heap.size = wr.heap.size + 1) := Lib.hid (by simp)
      have HOl := Lib.hid (fun g hg => (HO.out.lt g hg).2)
      have HSE := Lib.hid (lt_of_heap HS.out.st)
      have HO5 := Lib.hid (own_up HO.out HX.out)
      replace HS := Lib.hid (HS.out.up HX.out)
      have i7 := cell_up HX.out HI7.out
      clear q0 q1 q2 q3 q4 q5 HX HI7 HO
      generalize wr.alloc (.cells #[.int .i64 6, .int .i64 1, .int .i64 0, .int .i64 0, .int .i64 7, .int .i64 0] 40) = W5 at *
      generalize wr.heap.size = eb at *
      obtain ⟨s0, s1, s2, s3, s4, s5, _⟩ := six_factsX HXh.out
      obtain ⟨d7, d8, df⟩ := HS.out.cells
      have hsz := lt_of_heap HS.out.st
      go_wp2_with (at_builtin; refine wpList_append_own _ rfl _ _ 88 rfl (sb + 1) 3 i0 (.int .i64 0) 1 8 Tryd.underlying88 hi hz0 hz1 hz2 rfl (by decide) _ _ _ rfl (HO5.out.alloc _) ⟨_, 0, none⟩ 1 1 [.int .i64 1] rfl rfl (cell_one_new _ _ _) ?_ ?_ ?_ ?_ ?_)
      · intro u hu; simp at hu; subst hu; rfl
      · unfold maxLen; decide
      · decide
      · simp; omega
      intro v' w2 hown' hgrow _
      have HR2 := Lib.hid (own_next (xs := evs57 1) (x := 1) HO5.out hsz hown' hgrow)
      obtain ⟨A', c', rfl, _⟩ := rd_of_own hown'
      have HE2 : Hid (w2.heap[eb]? = W5.heap[eb]?) := Lib.hid ((hgrow.block eb (by have := HW5.out; simp; omega) (fun e9 => by have := HOl.out eb e9.symm; omega)).trans (Lib.alloc_old _ _ _ (by have := HW5.out; omega)))
      clear hown' hgrow d7 d8 df s0 s1 s2 s3 s4 s5
      obtain ⟨s0, s1, s2, s3, s4, s5, _⟩ := six_factsX (HE2.out.trans HXh.out)
      have HS2 := Lib.hid (HS.out.up1 HR2.out.2)
      obtain ⟨d7, d8, df⟩ := HS2.out.cells
      have hse : sb ≠ eb := by have := HSE.out; omega
      have HI2 := Lib.hid ((HR2.out.2.cell (p := ⟨w.heap.size + 1, 0, none⟩) (by have := HIB.out; show w.heap.size + 1 < sb + 1; omega)).trans i7)
      clear i7
      go_wp2_with fail
      go_roundw
      case rel => exact ⟨2, by omega, by go_num, rfl, Lib.hid ⟨_, HS2.out.set _, own_setX HR2.out.1 (by omega) _⟩, Lib.hid ((cell_setCell_otherX (by have := HIB.out; show sb ≠ w.heap.size + 1; omega)).trans HI2.out)⟩
      case measure => simp [intOf]
    · obtain ⟨b, o, x, rfl, hx, hxo⟩ := (HL.out.below HS.out.hb).at_ (k := 2) (by decide)
      obtain rfl : x = ⟨6, 2, 0, 0, 7, 0⟩ := by simpa [ex57L] using hx.symm
      clear hx
      obtain ⟨q0, q1, q2, q3, q4, q5⟩ := hxo
      simp only [Nat.zero_mul, Nat.add_zero, Nat.one_mul] at q0 q1 q2 q3 q4 q5
      go_upto_region 10 with fail
      have HX := Lib.hid (below_box wr (.cells #[.int .i64 6, .int .i64 2, .int .i64 0, .int .i64 0, .int .i64 7, .int .i64 0] 40))
      have HXh : Hid ((wr.alloc (.cells #[.int .i64 6, .int .i64 2, .int .i64 0, .int .i64 0, .int .i64 7, .int .i64 0] 40)).heap[wr.heap.size]? = some (.cells #[.int .i64 6, .int .i64 2, .int .i64 0, .int .i64 0, .int .i64 7, .int .i64 0] 40 (0, 0))) := Lib.hid (heap_alloc_new _ _)
      have HW5 : Hid ((wr.alloc (.cells #[.int .i64 6, .int .i64 2, .int .i64 0, .int .i64 0, .int .i64 7, .int .i64 0] 40)).heap.size = wr.heap.size + 1) := Lib.hid (by simp)
      have HOl := Lib.hid (fun g hg => (HO.out.lt g hg).2)
      have HSE := Lib.hid (lt_of_heap HS.out.st)
      have HO5 := Lib.hid (own_up HO.out HX.out)
      replace HS := Lib.hid (HS.out.up HX.out)
      have i7 := cell_up HX.out HI7.out
      clear q0 q1 q2 q3 q4 q5 HX HI7 HO
      generalize wr.alloc (.cells #[.int .i64 6, .int .i64 2, .int .i64 0, .int .i64 0, .int .i64 7, .int .i64 0] 40) = W5 at *
      generalize wr.heap.size = eb at *
      obtain ⟨s0, s1, s2, s3, s4, s5, _⟩ := six_factsX HXh.out
      obtain ⟨d7, d8, df⟩ := HS.out.cells
      have hsz := lt_of_heap HS.out.st
      go_wp2_with (at_builtin; refine wpList_append_own _ rfl _ _ 88 rfl (sb + 1) 3 i0 (.int .i64 0) 1 8 Tryd.underlying88 hi hz0 hz1 hz2 rfl (by decide) _ _ _ rfl (HO5.out.alloc _) ⟨_, 0, none⟩ 1 1 [.int .i64 2] rfl rfl (cell_one_new _ _ _) ?_ ?_ ?_ ?_ ?_)
      · intro u hu; simp at hu; subst hu; rfl
      · unfold maxLen; decide
      · decide
      · simp; omega
      intro v' w2 hown' hgrow _
      have HR2 := Lib.hid (own_next (xs := evs57 2) (x := 2) HO5.out hsz hown' hgrow)
      obtain ⟨A', c', rfl, _⟩ := rd_of_own hown'
      have HE2 : Hid (w2.heap[eb]? = W5.heap[eb]?) := Lib.hid ((hgrow.block eb (by have := HW5.out; simp; omega) (fun e9 => by have := HOl.out eb e9.symm; omega)).trans (Lib.alloc_old _ _ _ (by have := HW5.out; omega)))
      clear hown' hgrow d7 d8 df s0 s1 s2 s3 s4 s5
      obtain ⟨s0, s1, s2, s3, s4, s5, _⟩ := six_factsX (HE2.out.trans HXh.out)
      have HS2 := Lib.hid (HS.out.up1 HR2.out.2)
      obtain ⟨d7, d8, df⟩ := HS2.out.cells
      have hse : sb ≠ eb := by have := HSE.out; omega
      have HI2 := Lib.hid ((HR2.out.2.cell (p := ⟨w.heap.size + 1, 0, none⟩) (by have := HIB.out; show w.heap.size + 1 < sb + 1; omega)).trans i7)
      clear i7
      go_wp2_with fail
      go_roundw
      case rel => exact ⟨3, by omega, by go_num, rfl, Lib.hid ⟨_, HS2.out.set _, own_setX HR2.out.1 (by omega) _⟩, Lib.hid ((cell_setCell_otherX (by have := HIB.out; show sb ≠ w.heap.size + 1; omega)).trans HI2.out)⟩
      case measure => simp [intOf]
    · obtain ⟨b, o, x, rfl, hx, hxo⟩ := (HL.out.below HS.out.hb).at_ (k := 3) (by decide)
      obtain rfl : x = ⟨6, 4, 0, 0, 7, 3⟩ := by simpa [ex57L] using hx.symm
      clear hx
      obtain ⟨q0, q1, q2, q3, q4, q5⟩ := hxo
      simp only [Nat.zero_mul, Nat.add_zero, Nat.one_mul] at q0 q1 q2 q3 q4 q5
      go_upto_region 10 with fail
      have HX := Lib.hid (below_box wr (.cells #[.int .i64 6, .int .i64 4, .int .i64 0, .int .i64 0, .int .i64 7, .int .i64 3] 40))
      have HXh : Hid ((wr.alloc (.cells #[.int .i64 6, .int .i64 4, .int .i64 0, .int .i64 0, .int .i64 7, .int .i64 3] 40)).heap[wr.heap.size]? = some (.cells #[.int .i64 6, .int .i64 4, .int .i64 0, .int .i64 0, .int .i64 7, .int .i64 3] 40 (0, 0))) := Lib.hid (heap_alloc_new _ _)
      have HW5 : Hid ((wr.alloc (.cells #[.int .i64 6, .int .i64 4, .int .i64 0, .int .i64 0, .int .i64 7, .int .i64 3] 40)).heap.size = wr.heap.size + 1) := Lib.hid (by simp)
      have HOl := Lib.hid (fun g hg => (HO.out.lt g hg).2)
      have HSE := Lib.hid (lt_of_heap HS.out.st)
      have HO5 := Lib.hid (own_up HO.out HX.out)
      replace HS := Lib.hid (HS.out.up HX.out)
      have i7 := cell_up HX.out HI7.out
      clear q0 q1 q2 q3 q4 q5 HX HI7 HO
      generalize wr.alloc (.cells #[.int .i64 6, .int .i64 4, .int .i64 0, .int .i64 0, .int .i64 7, .int .i64 3] 40) = W5 at *
      generalize wr.heap.size = eb at *
      obtain ⟨s0, s1, s2, s3, s4, s5, _⟩ := six_factsX HXh.out
      obtain ⟨d7, d8, df⟩ := HS.out.cells
      have hsz := lt_of_heap HS.out.st
      go_wp2_with (at_builtin; refine wpList_append_own _ rfl _ _ 88 rfl (sb + 1) 3 i0 (.int .i64 0) 1 8 Tryd.underlying88 hi hz0 hz1 hz2 rfl (by decide) _ _ _ rfl (HO5.out.alloc _) ⟨_, 0, none⟩ 1 1 [.int .i64 3] rfl rfl (cell_one_new _ _ _) ?_ ?_ ?_ ?_ ?_)
      · intro u hu; simp at hu; subst hu; rfl
      · unfold maxLen; decide
      · decide
      · simp; omega
      intro v' w2 hown' hgrow _
      have HR2 := Lib.hid (own_next (xs := evs57 3) (x := 3) HO5.out hsz hown' hgrow)
      obtain ⟨A', c', rfl, _⟩ := rd_of_own hown'
      have HE2 : Hid (w2.heap[eb]? = W5.heap[eb]?) := Lib.hid ((hgrow.block eb (by have := HW5.out; simp; omega) (fun e9 => by have := HOl.out eb e9.symm; omega)).trans (Lib.alloc_old _ _ _ (by have := HW5.out; omega)))
      clear hown' hgrow d7 d8 df s0 s1 s2 s3 s4 s5
      obtain ⟨s0, s1, s2, s3, s4, s5, _⟩ := six_factsX (HE2.out.trans HXh.out)
      have HS2 := Lib.hid (HS.out.up1 HR2.out.2)
      obtain ⟨d7, d8, df⟩ := HS2.out.cells
      have hse : sb ≠ eb := by have := HSE.out; omega
      have HI2 := Lib.hid ((HR2.out.2.cell (p := ⟨w.heap.size + 1, 0, none⟩) (by have := HIB.out; show w.heap.size + 1 < sb + 1; omega)).trans i7)
      clear i7
      go_wp2_with fail
      go_roundw
      case rel => exact ⟨4, by omega, by go_num, rfl, Lib.hid ⟨_, HS2.out.set _, own_setX HR2.out.1 (by omega) _⟩, Lib.hid ((cell_setCell_otherX (by have := HIB.out; show sb ≠ w.heap.size + 1; omega)).trans HI2.out)⟩
      case measure => simp [intOf]
    · go_wp2_with fail
      go_ret2
      exact ⟨sb, v, rfl, HS.out, HO.out⟩

end Go.Proofs.YtjcnjnonhncelaaDoor
