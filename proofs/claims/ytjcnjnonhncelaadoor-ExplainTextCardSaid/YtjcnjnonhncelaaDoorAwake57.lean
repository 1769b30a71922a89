/-
  waypointlaw57.awake: the example of the document holds.
-/
import Derived.Test.YtjcnjnonhncelaaDoorExplC
import Derived.Test.YtjcnjnonhncelaaDoorExplT
namespace Go.Proofs.YtjcnjnonhncelaaDoor
set_option linter.unusedSimpArgs false
set_option linter.unusedVariables false
open Go.RowKit Go.Sort

theorem itoa_oneX (u : Nat) (h : u < 10) : Lib.itoa (u : Int) = [UInt8.ofNat (48 + u)] := by
  rw [itoa_dec (by omega), Int.toNat_natCast, dec_small h]
theorem exp57 : expT ex57L 5 3 0 = [100, 111, 119, 110, 58, 32, 54, 32, 100, 114, 111, 112, 112, 101, 100, 32, 48, 32, 55, 32, 100, 111, 119, 110, 32, 48, 58, 32, 53, 32, 100, 111, 119, 110, 32, 108, 105, 110, 107, 32, 48] := by
  have h0 : Lib.itoa 0 = [48] := itoa_oneX 0 (by decide)
  have h5 : Lib.itoa 5 = [53] := itoa_oneX 5 (by decide)
  have h6 : Lib.itoa 6 = [54] := itoa_oneX 6 (by decide)
  have h7 : Lib.itoa 7 = [55] := itoa_oneX 7 (by decide)
  rw [expT, if_pos ⟨by decide, by decide, by decide⟩]
  simp [prtE, ex57L, evT, evWs, wsT, h0, h5, h6, h7, nmL, nmE, verbsL, reasonsL, componentsL, onArcB]
theorem rd_link57 (w : World) {b : Nat} (h : w.heap[b]? = some (.cells #[.int .i64 0, .int .i64 1, .int .i64 1, .int .i64 1, .int .i64 1, .int .i64 2, .int .i64 0] 73 (0, 0))) : TAt w none (some ⟨b, 0, none⟩) ex57T :=
  ⟨.inl rfl, .inr ⟨b, 0, rfl, fun k l hk => by
    match k, hk with
    | 0, hk => simp [ex57T] at hk; subst hk; exact ⟨by rw [Lib.cell_of_heap h]; rfl, by rw [Lib.cell_of_heap h]; rfl, by rw [Lib.cell_of_heap h]; rfl, by rw [Lib.cell_of_heap h]; rfl, by rw [Lib.cell_of_heap h]; rfl, by rw [Lib.cell_of_heap h]; rfl, by rw [Lib.cell_of_heap h]; rfl⟩
    | k + 1, hk => simp [ex57T] at hk⟩⟩
theorem rd_evs57 (w : World) {b : Nat} (h : w.heap[b]? = some (.cells #[.int .i64 5, .int .i64 5, .int .i64 0, .int .i64 1, .int .i64 0, .int .i64 0, .int .i64 6, .int .i64 1, .int .i64 0, .int .i64 0, .int .i64 7, .int .i64 0, .int .i64 6, .int .i64 2, .int .i64 0, .int .i64 0, .int .i64 7, .int .i64 0, .int .i64 6, .int .i64 4, .int .i64 0, .int .i64 0, .int .i64 7, .int .i64 3] 40 (0, 0))) : RdE w (some ⟨b, 0, none⟩) ex57L :=
  .inr ⟨b, 0, rfl, fun k e he => evO_of fun j v hj => by
    rw [Nat.zero_add, Lib.cell_of_heap h]
    rw [show (#[.int .i64 5, .int .i64 5, .int .i64 0, .int .i64 1, .int .i64 0, .int .i64 0, .int .i64 6, .int .i64 1, .int .i64 0, .int .i64 0, .int .i64 7, .int .i64 0, .int .i64 6, .int .i64 2, .int .i64 0, .int .i64 0, .int .i64 7, .int .i64 0, .int .i64 6, .int .i64 4, .int .i64 0, .int .i64 0, .int .i64 7, .int .i64 3] : Array Value) = (evL ex57L).toArray from rfl, List.getElem?_toArray]
    exact evL_at ex57L k e he j v hj⟩
theorem rd_pk57 (w : World) {b : Nat} (h : w.heap[b]? = some (.cells #[.int .i64 7, .int .i64 0, .int .i64 1, .int .i64 0, .slice none 0 0, .int .i64 0] 85 (0, 0))) : PkAt w b :=
  ⟨by rw [Lib.cell_of_heap h]; rfl, by rw [Lib.cell_of_heap h]; rfl, by rw [Lib.cell_of_heap h]; rfl, by rw [Lib.cell_of_heap h]; rfl, by rw [Lib.cell_of_heap h]; rfl, by rw [Lib.cell_of_heap h]; rfl⟩

set_option maxRecDepth 100000 in
set_option maxHeartbeats 4000000 in
theorem law57_awake (w : World) (ht : Tab w.heap.size w) : Calls Tryd.prog 23 #[] w fun e w' => e = .returned (.bool true) ∧ Below w.heap.size w w' := by
  have HT := Lib.hid ht
  clear ht
  have HTX : Hid (∀ A c W, RdE W A ex57L → 4 ≤ c → c ≤ maxLen → Tab W.heap.size W → Calls Tryd.prog 24 #[.slice A 4 c, .agg #[.int .i64 5, .int .i64 3, .int .i64 0]] W fun e w' => e = .returned (.string ⟨#[100, 111, 119, 110, 58, 32, 54, 32, 100, 114, 111, 112, 112, 101, 100, 32, 48, 32, 55, 32, 100, 111, 119, 110, 32, 48, 58, 32, 53, 32, 100, 111, 119, 110, 32, 108, 105, 110, 107, 32, 48]⟩) ∧ Below W.heap.size W w') := Lib.hid fun A c W h1 h2 h3 h4 => by
    have := explain_Text A c ex57L 5 3 0 W h1 (by decide) h2 h3 h4
    rw [exp57] at this
    exact this
  have heq : ∀ w', (binOp .eql 48 (.agg #[.int .i64 5, .int .i64 3, .int .i64 0]) (.agg #[.int .i64 5, .int .i64 3, .int .i64 0])).run Tryd.prog w' = .ok (.bool true) w' := fun w' => by kernel_rfl
  have H1 := Lib.hid (below_box w (.cells #[.int .i64 0, .int .i64 1, .int .i64 1, .int .i64 1, .int .i64 1, .int .i64 2, .int .i64 0] 73))
  have H1h : Hid ((w.alloc (.cells #[.int .i64 0, .int .i64 1, .int .i64 1, .int .i64 1, .int .i64 1, .int .i64 2, .int .i64 0] 73)).heap[w.heap.size]? = some (.cells #[.int .i64 0, .int .i64 1, .int .i64 1, .int .i64 1, .int .i64 1, .int .i64 2, .int .i64 0] 73 (0, 0))) := Lib.hid (heap_alloc_new _ _)
  go_enter Tryd.func23, Tryd.ntmps23
  go_upto_region 2 with fail
  have H2 := Lib.hid (below_box (w.alloc (.cells #[.int .i64 0, .int .i64 1, .int .i64 1, .int .i64 1, .int .i64 1, .int .i64 2, .int .i64 0] 73)) (.cells #[.int .i64 2, .slice none 0 0, .slice (some ⟨w.heap.size, 0, none⟩) 1 1] 77))
  have H2h : Hid (((w.alloc (.cells #[.int .i64 0, .int .i64 1, .int .i64 1, .int .i64 1, .int .i64 1, .int .i64 2, .int .i64 0] 73)).alloc (.cells #[.int .i64 2, .slice none 0 0, .slice (some ⟨w.heap.size, 0, none⟩) 1 1] 77)).heap[w.heap.size + 1]? = some (.cells #[.int .i64 2, .slice none 0 0, .slice (some ⟨w.heap.size, 0, none⟩) 1 1] 77 (0, 0))) := Lib.hid (by have h9 := heap_alloc_new (w.alloc (.cells #[.int .i64 0, .int .i64 1, .int .i64 1, .int .i64 1, .int .i64 1, .int .i64 2, .int .i64 0] 73)) (.cells #[.int .i64 2, .slice none 0 0, .slice (some ⟨w.heap.size, 0, none⟩) 1 1] 77); rwa [World.size_alloc] at h9)
  have HTA := Lib.hid ((rd_link57 _ H1h.out).below H2.out)
  have HB := Lib.hid (below_next H1.out H2.out)
  clear H1 H1h H2
  generalize (w.alloc (.cells #[.int .i64 0, .int .i64 1, .int .i64 1, .int .i64 1, .int .i64 1, .int .i64 2, .int .i64 0] 73)).alloc (.cells #[.int .i64 2, .slice none 0 0, .slice (some ⟨w.heap.size, 0, none⟩) 1 1] 77) = W2 at *
  go_upto_region 3 with fail
  have H3 := Lib.hid (below_box W2 (.cells #[.int .i64 5, .int .i64 5, .int .i64 0, .int .i64 1, .int .i64 0, .int .i64 0, .int .i64 6, .int .i64 1, .int .i64 0, .int .i64 0, .int .i64 7, .int .i64 0, .int .i64 6, .int .i64 2, .int .i64 0, .int .i64 0, .int .i64 7, .int .i64 0, .int .i64 6, .int .i64 4, .int .i64 0, .int .i64 0, .int .i64 7, .int .i64 3] 40))
  have H3h : Hid ((W2.alloc (.cells #[.int .i64 5, .int .i64 5, .int .i64 0, .int .i64 1, .int .i64 0, .int .i64 0, .int .i64 6, .int .i64 1, .int .i64 0, .int .i64 0, .int .i64 7, .int .i64 0, .int .i64 6, .int .i64 2, .int .i64 0, .int .i64 0, .int .i64 7, .int .i64 0, .int .i64 6, .int .i64 4, .int .i64 0, .int .i64 0, .int .i64 7, .int .i64 3] 40)).heap[W2.heap.size]? = some (.cells #[.int .i64 5, .int .i64 5, .int .i64 0, .int .i64 1, .int .i64 0, .int .i64 0, .int .i64 6, .int .i64 1, .int .i64 0, .int .i64 0, .int .i64 7, .int .i64 0, .int .i64 6, .int .i64 2, .int .i64 0, .int .i64 0, .int .i64 7, .int .i64 0, .int .i64 6, .int .i64 4, .int .i64 0, .int .i64 0, .int .i64 7, .int .i64 3] 40 (0, 0))) := Lib.hid (heap_alloc_new _ _)
  replace HB := Lib.hid (below_next HB.out H3.out)
  replace HTA := Lib.hid (HTA.out.below H3.out)
  replace H2h := Lib.hid ((H3.out.block _ (lt_of_heap H2h.out)).trans H2h.out)
  have HE := Lib.hid (rd_evs57 _ H3h.out)
  clear H3 H3h
  generalize W2.alloc (.cells #[.int .i64 5, .int .i64 5, .int .i64 0, .int .i64 1, .int .i64 0, .int .i64 0, .int .i64 6, .int .i64 1, .int .i64 0, .int .i64 0, .int .i64 7, .int .i64 0, .int .i64 6, .int .i64 2, .int .i64 0, .int .i64 0, .int .i64 7, .int .i64 0, .int .i64 6, .int .i64 4, .int .i64 0, .int .i64 0, .int .i64 7, .int .i64 3] 40) = W3 at *
  generalize W2.heap.size = eb at *
  obtain ⟨t0, t1, t2, _⟩ := three_facts H2h.out
  have H4 := Lib.hid (below_box W3 (.cells #[.int .i64 7, .int .i64 0, .int .i64 1, .int .i64 0, .slice none 0 0, .int .i64 0] 85))
  have HP := Lib.hid (rd_pk57 (W3.alloc (.cells #[.int .i64 7, .int .i64 0, .int .i64 1, .int .i64 0, .slice none 0 0, .int .i64 0] 85)) (heap_alloc_new _ _))
  replace HB := Lib.hid (below_next HB.out H4.out)
  replace HTA := Lib.hid (HTA.out.below H4.out)
  replace HE := Lib.hid (HE.out.below H4.out)
  clear H4
  go_upto_region 4 with (go_at_call 39; (with_reducible refine (explain_Explain57 (some ⟨w.heap.size, 0, none⟩) (some ⟨eb, 0, none⟩) 1 W3.heap.size 1 4 _ HTA.out HP.out HE.out (Nat.le_refl _)).mono ?_); rintro e w5 ⟨rfl, hb⟩; replace HB := Lib.hid (below_next HB.out hb); replace HE := Lib.hid (HE.out.below hb); clear hb)
  have H6 := Lib.hid (below_box w5 (.cells #[.int .i64 5, .int .i64 3, .int .i64 0] 48))
  have H6h : Hid ((w5.alloc (.cells #[.int .i64 5, .int .i64 3, .int .i64 0] 48)).heap[w5.heap.size]? = some (.cells #[.int .i64 5, .int .i64 3, .int .i64 0] 48 (0, 0))) := Lib.hid (heap_alloc_new _ _)
  replace HB := Lib.hid (below_next HB.out H6.out)
  replace HE := Lib.hid (HE.out.below H6.out)
  clear H6 t0 t1 t2 H2h HTA HP
  generalize w5.alloc (.cells #[.int .i64 5, .int .i64 3, .int .i64 0] 48) = W6 at *
  generalize w5.heap.size = cb at *
  obtain ⟨c0, c1, c2, _⟩ := three_facts H6h.out
  go_wp2_with (go_at_call 24; (with_reducible refine (HTX.out _ _ _ HE.out (by decide) (by decide) (tab_up HT.out HB.out HB.out.size)).mono ?_); rintro e w7 ⟨rfl, hb⟩; replace HB := Lib.hid (below_next HB.out hb); clear hb)
  go_ret
  exact ⟨rfl, HB.out⟩

end Go.Proofs.YtjcnjnonhncelaaDoor
