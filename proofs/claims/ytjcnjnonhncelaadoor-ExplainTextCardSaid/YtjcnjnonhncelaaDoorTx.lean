/-
  trace.verbs, reasons, components, changes, states; the closures of trace.text: what each does.
-/
import Derived.Test.YtjcnjnonhncelaaDoorEvP
import Derived.Test.YtjcnjnonhncelaaDoorText
import Derived.Deep.RegionHeld3
namespace Go.Proofs.YtjcnjnonhncelaaDoor
open Go.RowKit Go.Sort

theorem trace_verbs (w : World) : Calls Tryd.prog 45 #[] w (RetStrs w verbsL) := by
  go_enter Tryd.func45, Tryd.ntmps45
  go_wp2_with fail
  go_ret
  exact ⟨rfl, fun i x h => strs_cell w verbsL i x h, below_box _ _⟩
theorem trace_reasons (w : World) : Calls Tryd.prog 46 #[] w (RetStrs w reasonsL) := by
  go_enter Tryd.func46, Tryd.ntmps46
  go_wp2_with fail
  go_ret
  exact ⟨rfl, fun i x h => strs_cell w reasonsL i x h, below_box _ _⟩
theorem trace_components (w : World) : Calls Tryd.prog 48 #[] w (RetStrs w componentsL) := by
  go_enter Tryd.func48, Tryd.ntmps48
  go_wp2_with fail
  go_ret
  exact ⟨rfl, fun i x h => strs_cell w componentsL i x h, below_box _ _⟩
theorem trace_changes (w : World) : Calls Tryd.prog 49 #[] w (RetStrs w changesL) := by
  go_enter Tryd.func49, Tryd.ntmps49
  go_wp2_with fail
  go_ret
  exact ⟨rfl, fun i x h => strs_cell w changesL i x h, below_box _ _⟩
theorem trace_states (w : World) : Calls Tryd.prog 50 #[] w (RetStrs w statesL) := by
  go_enter Tryd.func50, Tryd.ntmps50
  go_wp2_with fail
  go_ret
  exact ⟨rfl, fun i x h => strs_cell w statesL i x h, below_box _ _⟩

set_option maxHeartbeats 1000000 in
theorem text_word (B b : Nat) (l x : List UInt8) (w : World) (h : Lib.IsBuilder 55 5 B b (Lib.byteCells l) w) (hlen : l.length + x.length ≤ 1000000) (hBw : B ≤ w.heap.size) :
    Calls Tryd.prog 43 #[.string ⟨x.toArray⟩, .pointer (some ⟨b, 0, none⟩)] w fun e w' => e = .returned (.tuple #[]) ∧ (Lib.IsBuilder 55 5 B b (Lib.byteCells (l ++ 32 :: x)) w' ∧ Below B w w' ∧ KeepT 55 5 w w') := by
  go_enter Tryd.func43, Tryd.ntmps43
  go_wp2_with fail
  refine (builder_WriteByte B b _ 32 _ h (by rw [Lib.byteCells_length]; omega) hBw).mono ?_
  rintro e w3 ⟨rfl, h3, hb3, hk3⟩
  have hsz3 := hb3.size
  rw [show (32 : Int) = ((32 : UInt8).toNat : Int) from rfl, bc_one] at h3
  go_wp2_with fail
  refine (builder_WriteString B b _ _ _ h3 (by rw [Lib.byteCells_length]; simp only [List.length_append, List.length_cons, List.length_nil, ByteArray.size, List.size_toArray]; omega) (by omega)).mono ?_
  rintro e w5 ⟨rfl, h5, hb5, hk5⟩
  rw [bc_str] at h5
  go_wp2_with fail
  go_end0
  exact ⟨rfl, by simpa using h5, hb3.trans hb5, hk3.trans hk5⟩

theorem func_cell {w : World} {g : Nat} {v : Value} {T : TypeId} (h : w.heap[g]? = some (.cells #[v] T (0, 0))) : w.cell? ⟨g, 0, none⟩ = some v := by rw [Lib.cell_of_heap h]; rfl

set_option maxHeartbeats 1000000 in
theorem text_number (B b g : Nat) (l : List UInt8) (n : Int) (w : World) (h : Lib.IsBuilder 55 5 B b (Lib.byteCells l) w) (hg : w.heap[g]? = some (.cells #[.func (.func 43) #[] #[.pointer (some ⟨b, 0, none⟩)]] 91 (0, 0)))
    (h0 : -9223372036854775808 ≤ n) (h1 : n ≤ 9223372036854775807) (hlen : l.length ≤ 900000) (hBw : B ≤ w.heap.size) (ht : Tab B w) :
    Calls Tryd.prog 44 #[.int .i64 n, .pointer (some ⟨g, 0, none⟩)] w fun e w' => e = .returned (.tuple #[]) ∧ (Lib.IsBuilder 55 5 B b (Lib.byteCells (l ++ 32 :: Lib.itoa n)) w' ∧ Below B w w' ∧ KeepT 55 5 w w') := by
  have hc := func_cell hg
  have HG := Lib.hid hg
  have HH := Lib.hid h
  have HT := Lib.hid ht
  have hil := Lib.itoa_length_le n h0 h1
  clear h hg ht
  go_enter Tryd.func44, Tryd.ntmps44
  go_wp2_with fail
  go_region_with (first | (go_at_call 42; refine (strconv_Itoa n h0 h1 B _ (HT.out.on ((Below.refl B w).drew))).mono ?_; rintro e w4 ⟨rfl, hb4⟩; have HB4 := Lib.hid (((Below.refl w.heap.size w).drew).trans (hb4.mono (Nat.le_refl _))); have hc4 := cell_up HB4.out hc; have hs4 := HB4.out.size; clear hb4) | (go_at_call 43; refine (text_word B b l (Lib.itoa n) _ (IsBuilder.up HH.out HB4.out) (by omega) (by omega)).mono ?_; rintro e w5 ⟨rfl, h5, hb5, hk5⟩; have H5 := Lib.hid (And.intro h5 (And.intro hb5 hk5)); clear h5 hb5 hk5))
  all_goals (go_wp2_with fail; go_end0; exact ⟨rfl, H5.out.1, (HB4.out.mono hBw).trans H5.out.2.1, (KeepT.of_below HB4.out).trans H5.out.2.2⟩)

end Go.Proofs.YtjcnjnonhncelaaDoor
