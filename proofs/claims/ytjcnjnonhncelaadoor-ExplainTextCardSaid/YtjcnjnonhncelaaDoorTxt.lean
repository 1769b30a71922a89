/-
  trace.text: what it returns for a valid event.
-/
import Derived.Test.YtjcnjnonhncelaaDoorTx
import Derived.Laws.EntriesVeiled
import Derived.Test.YtjcnjnonhncelaaDoorReg
namespace Go.Proofs.YtjcnjnonhncelaaDoor
open Go.RowKit Go.Sort

/-- Where the text stands: the builder b, the closure's box g, the event. -/
structure TxS (w0 : World) (b g : Nat) (l : List UInt8) (t k n a p r : Int) (w : World) : Prop where
  bd : Lib.IsBuilder 55 5 b b (Lib.byteCells l) w
  gf : w.heap[g]? = some (.cells #[.func (.func 43) #[] #[.pointer (some ⟨b, 0, none⟩)]] 91 (0, 0))
  ev : EvAt w w0.heap.size t k n a p r
  hb : Below w0.heap.size w0 w
  lt : w0.heap.size < b
  sz : b ≤ w.heap.size
theorem TxS.step {w0 w w' : World} {b g : Nat} {l l' : List UInt8} {t k n a p r : Int} (h : TxS w0 b g l t k n a p r w)
    (h' : Lib.IsBuilder 55 5 b b (Lib.byteCells l') w' ∧ Below b w w' ∧ KeepT 55 5 w w') : TxS w0 b g l' t k n a p r w' := by
  obtain ⟨h1, h2, h3⟩ := h'
  have c : ∀ o, w'.cell? ⟨w0.heap.size, o, none⟩ = w.cell? ⟨w0.heap.size, o, none⟩ := fun o => h2.cell (p := ⟨w0.heap.size, o, none⟩) h.lt
  exact ⟨h1, h3 _ _ _ _ h.gf (by decide) (by decide), ⟨(c 0).trans h.ev.s0, (c 1).trans h.ev.s1, (c 2).trans h.ev.s2, (c 3).trans h.ev.s3, (c 4).trans h.ev.s4, (c 5).trans h.ev.s5⟩, h.hb.trans (h2.mono (Nat.le_of_lt h.lt)), h.lt, Nat.le_trans h.sz h2.size⟩
theorem TxS.up {w0 w w' : World} {b g : Nat} {l : List UInt8} {t k n a p r : Int} (h : TxS w0 b g l t k n a p r w) (hb : Below w.heap.size w w') : TxS w0 b g l t k n a p r w' :=
  ⟨IsBuilder.up h.bd hb, (hb.block _ (lt_of_heap h.gf)).trans h.gf, h.ev.up hb, below_next h.hb hb, h.lt, Nat.le_trans h.sz hb.size⟩
theorem TxS.re {w0 w : World} {b g : Nat} {l l' : List UInt8} {t k n a p r : Int} (h : TxS w0 b g l t k n a p r w) (e : l = l') : TxS w0 b g l' t k n a p r w := e ▸ h

set_option maxRecDepth 100000 in
set_option maxHeartbeats 4000000 in
theorem text_1 (t n a p r : Int) (hok : evOk ⟨t, 1, n, a, p, r⟩ = true) (w : World) (ht : Tab w.heap.size w) : Calls Tryd.prog 28 #[.agg #[.int .i64 t, .int .i64 1, .int .i64 n, .int .i64 a, .int .i64 p, .int .i64 r]] w fun e w' => e = .returned (.string ⟨(evT ⟨t, 1, n, a, p, r⟩).toArray⟩) ∧ Below w.heap.size w w' := by
  have HTb := Lib.hid ht
  have HOK := Lib.hid hok
  obtain ⟨bt0, bt1, bn0, bn1, ba0, ba1, bp0, bp1, br0, br1⟩ := evOk_bd hok
  simp only at bt0 bt1 bn0 bn1 ba0 ba1 bp0 bp1 br0 br1
  have hin := Lib.itoa_length_le n (by omega) (by omega)
  have hia := Lib.itoa_length_le a (by omega) (by omega)
  have hip := Lib.itoa_length_le p (by omega) (by omega)
  have hir := Lib.itoa_length_le r (by omega) (by omega)
  clear ht hok
  have HB := below_box w (.cells #[.int .i64 t, .int .i64 1, .int .i64 n, .int .i64 a, .int .i64 p, .int .i64 r] 40)
  have HE : Hid (EvAt (w.alloc (.cells #[.int .i64 t, .int .i64 1, .int .i64 n, .int .i64 a, .int .i64 p, .int .i64 r] 40)) w.heap.size t 1 n a p r) := Lib.hid ⟨by simp, by simp, by simp, by simp, by simp, by simp⟩
  have s0 := HE.out.s0
  go_enter Tryd.func28, Tryd.ntmps28
  go_wp2_with fail
  obtain ⟨W, hW⟩ : ∃ W, w.alloc (.cells #[.int .i64 t, .int .i64 1, .int .i64 n, .int .i64 a, .int .i64 p, .int .i64 r] 40) = W := ⟨_, rfl⟩
  have hWs : W.heap.size = w.heap.size + 1 := by rw [← hW]; simp
  rw [hW] at HB HE s0 ⊢
  rw [← hWs]
  have hWl : w.heap.size < W.heap.size := by omega
  clear hW hWs
  have HBX := Lib.fresh_isBuilder 55 5 W
  have hbb := below_box W (.cells #[.pointer none, .slice none 0 0] 55)
  have ht1 := tab_up HTb.out HB HB.size
  refine (strconv_Itoa t (by omega) (by omega) W.heap.size _ (tab_up ht1 hbb (Nat.le_refl _))).mono ?_
  rintro e w2 ⟨rfl, hb2⟩
  have hs2 := hb2.size
  have hB2 : Below W.heap.size W w2 := hbb.trans (hb2.mono (by simp))
  go_wp2_with fail
  refine (builder_WriteString W.heap.size W.heap.size _ _ _ (IsBuilder.up HBX hb2) (by have := Lib.itoa_length_le t (by omega) (by omega); simp only [List.length_nil, ByteArray.size, List.size_toArray]; omega) hB2.size).mono ?_
  rintro e w3 ⟨rfl, h3, hb3, hk3⟩
  have hB3 := hB2.trans hb3
  have h3 : Lib.IsBuilder 55 5 W.heap.size W.heap.size (Lib.byteCells (Lib.itoa t)) w3 := by simpa [Lib.strCells_eq] using h3
  have HS : Hid (TxS w W.heap.size w3.heap.size (Lib.itoa t) t 1 n a p r (w3.alloc (.cells #[.func (.func 43) #[] #[.pointer (some ⟨W.heap.size, 0, none⟩)]] 91))) := Lib.hid ⟨IsBuilder.up h3 (below_box _ _), heap_alloc_new _ _, (HE.out.up hB3).up (below_box _ _), below_next (below_next HB hB3) (below_box _ _), by omega, by have := hB3.size; simp; omega⟩
  have hit := Lib.itoa_length_le t (by omega) (by omega)
  clear hb2 hs2 hB2 h3 hb3 hk3 hB3 HBX hbb ht1 s0 HE HB
  go_upto_region 5 with fail
  generalize w3.alloc (.cells #[.func (.func 43) #[] #[.pointer (some ⟨W.heap.size, 0, none⟩)]] 91) = W5 at *
  generalize w3.heap.size = g at *
  have hWl2 := hWl
  generalize W.heap.size = b at *
  obtain ⟨vb, hvb⟩ : ∃ vb, verbsL[1]? = some vb := ⟨_, rfl⟩
  have hvl : vb.length ≤ 20 := nm_len verbsL (by decide) hvb
  have HVN : Hid (nmL verbsL 1 = vb) := Lib.hid (nmL_at hvb)
  have HV := Lib.hid hvb
  clear hvb
  obtain ⟨s0, s1, s2, s3, s4, s5⟩ := HS.out.ev
  have sg := func_cell HS.out.gf
  have HU0 : Hid (Below W5.heap.size W5 W5.drew) := Lib.hid (below_drawn _)
  have d1 := cell_up HU0.out s1
  have dg := cell_up HU0.out sg
  refine wp_region_held_drew (S := (fun w' => w'.cell? ⟨w.heap.size, 1, none⟩ = some (.int .i64 1) ∧ w'.cell? ⟨g, 0, none⟩ = some (.func (.func 43) #[] #[.pointer (some ⟨b, 0, none⟩)]))) (by kernel_rfl) ?_ (fun hHeld => ?_)
  · exact ⟨by assumption, by assumption⟩
  repeat' (first | ((first | (refine takeL (i := 0) (v := ?_) rfl (by kernel_rfl) (by decide +kernel) (by decide +kernel) (fun _ _ _ h => h) (Or.inl ⟨by rfl, ?_⟩) (by assumption) ?_; rotate_left; (focus (intro w9 hS9; (try dsimp only at hS9); go_simp; (try with_reducible rfl); done))) | (refine takeL (i := 1) (v := ?_) rfl (by kernel_rfl) (by decide +kernel) (by decide +kernel) (fun _ _ _ h => h) (Or.inl ⟨by rfl, ?_⟩) (by assumption) ?_; rotate_left; (focus (intro w9 hS9; (try dsimp only at hS9); go_simp; (try with_reducible rfl); done))) | (refine takeL (i := 2) (v := ?_) rfl (by kernel_rfl) (by decide +kernel) (by decide +kernel) (fun _ _ _ h => h) (Or.inl ⟨by rfl, ?_⟩) (by assumption) ?_; rotate_left; (focus (intro w9 hS9; (try dsimp only at hS9); go_simp; (try with_reducible rfl); done))) | (refine takeL (i := 3) (v := ?_) rfl (by kernel_rfl) (by decide +kernel) (by decide +kernel) (fun _ _ _ h => h) (Or.inl ⟨by rfl, ?_⟩) (by assumption) ?_; rotate_left; (focus (intro w9 hS9; (try dsimp only at hS9); go_simp; (try with_reducible rfl); done))) | (refine takeL (i := 4) (v := ?_) rfl (by kernel_rfl) (by decide +kernel) (by decide +kernel) (fun _ _ _ h => h) (Or.inl ⟨by rfl, ?_⟩) (by assumption) ?_; rotate_left; (focus (intro w9 hS9; (try dsimp only at hS9); go_simp; (try with_reducible rfl); done))) | (refine takeL (i := 5) (v := ?_) rfl (by kernel_rfl) (by decide +kernel) (by decide +kernel) (fun _ _ _ h => h) (Or.inl ⟨by rfl, ?_⟩) (by assumption) ?_; rotate_left; (focus (intro w9 hS9; (try dsimp only at hS9); go_simp; (try with_reducible rfl); done))) | (refine takeL (i := 6) (v := ?_) rfl (by kernel_rfl) (by decide +kernel) (by decide +kernel) (fun _ _ _ h => h) (Or.inl ⟨by rfl, ?_⟩) (by assumption) ?_; rotate_left; (focus (intro w9 hS9; (try dsimp only at hS9); go_simp; (try with_reducible rfl); done))) | fail); (try simp only [Act.put, List.setIfInBounds_toArray, List.set_cons_zero, List.set_cons_succ])) | ((first | (refine wpAnyH_ready (rs := [1]) (by decide +kernel) (by simp) ?_; refine consL rfl (fun K hK => ?_) ?_; rotate_left; exact AllReadyH.nil) | (refine wpAnyH_ready (rs := [4]) (by decide +kernel) (by simp) ?_; refine consL rfl (fun K hK => ?_) ?_; rotate_left; exact AllReadyH.nil) | (refine wpAnyH_ready (rs := [5]) (by decide +kernel) (by simp) ?_; refine consL rfl (fun K hK => ?_) ?_; rotate_left; exact AllReadyH.nil) | (refine wpAnyH_ready (rs := [6]) (by decide +kernel) (by simp) ?_; refine consL rfl (fun K hK => ?_) ?_; rotate_left; exact AllReadyH.nil) | fail); all_goals ((first | (go_at_call 45; refine (trace_verbs _).mono ?_; rintro e w4 ⟨rfl, hc4, hb4⟩; have HU := Lib.hid (HU0.out.trans (hb4.mono (Nat.le_refl _))); have cv := hc4 1 vb HV.out; (try simp only [heap_drawn] at cv); clear hc4 hb4; have s1d := cell_up HU.out s1; have sgd := cell_up HU.out sg) | (go_at_call 43; refine (text_word b b _ vb _ (HS.out.up HU.out).bd (by first | omega | (simp only [List.length_append, List.length_cons]; omega)) (HS.out.up HU.out).sz).mono ?_; rintro e w5 ⟨rfl, h5⟩; have H5 := Lib.hid ((HS.out.up HU.out).step h5); clear h5; have s1e := H5.out.ev.s1; have sge := func_cell H5.out.gf) | (go_simp; first | done | (first | (go_at_call 45; refine (trace_verbs _).mono ?_; rintro e w4 ⟨rfl, hc4, hb4⟩; have HU := Lib.hid (HU0.out.trans (hb4.mono (Nat.le_refl _))); have cv := hc4 1 vb HV.out; (try simp only [heap_drawn] at cv); clear hc4 hb4; have s1d := cell_up HU.out s1; have sgd := cell_up HU.out sg) | (go_at_call 43; refine (text_word b b _ vb _ (HS.out.up HU.out).bd (by first | omega | (simp only [List.length_append, List.length_cons]; omega)) (HS.out.up HU.out).sz).mono ?_; rintro e w5 ⟨rfl, h5⟩; have H5 := Lib.hid ((HS.out.up HU.out).step h5); clear h5; have s1e := H5.out.ev.s1; have sge := func_cell H5.out.gf))) | go_simp); (first | (with_reducible refine hK.out _ _ ?_ ?_) | (go_wp2_with fail; refine hK.out _ _ ?_ ?_)); (focus (exact ⟨by assumption, by assumption⟩)); clear hK K hHeld; intro hHeld; (try simp only [Act.put, List.setIfInBounds_toArray, List.set_cons_zero, List.set_cons_succ]))) | (refine wpAnyH_done (by decide +kernel) ?_ _) | fail)
  clear hHeld
  replace HS := H5
  clear H5 HU HU0 cv s1d sgd s0 s1 s2 s3 s4 s5 sg d1 dg
  try clear s1e sge
  obtain ⟨s0, s1, s2, s3, s4, s5⟩ := HS.out.ev
  have sg := func_cell HS.out.gf
  go_wp2_with (first | (go_at_call 44; refine (text_number b b g _ _ _ HS.out.bd HS.out.gf (by omega) (by omega) (by simp only [List.length_append, List.length_cons]; omega) HS.out.sz (tab_up HTb.out HS.out.hb (Nat.le_of_lt HS.out.lt))).mono ?_; rintro e wy ⟨rfl, h5⟩; replace HS := Lib.hid (HS.out.step h5); clear h5 s0 s1 s2 s3 s4 s5 sg; obtain ⟨s0, s1, s2, s3, s4, s5⟩ := HS.out.ev; have sg := func_cell HS.out.gf) | (go_at_call 47; refine (trace_onArc _ _).mono ?_; rintro e wy ⟨rfl, rfl⟩) | (go_at_call 30; refine (Tryd.Builder_String_any b b _ _ HS.out.bd HS.out.sz).mono ?_; rintro e wz ⟨rfl, hz⟩))
  go_ret
  exact ⟨by simp [evT, evWs, wsT, HVN.out], HS.out.hb.trans (hz.mono (Nat.le_of_lt HS.out.lt))⟩
set_option maxRecDepth 100000 in
set_option maxHeartbeats 4000000 in
theorem text_2 (t n a p r : Int) (hok : evOk ⟨t, 2, n, a, p, r⟩ = true) (w : World) (ht : Tab w.heap.size w) : Calls Tryd.prog 28 #[.agg #[.int .i64 t, .int .i64 2, .int .i64 n, .int .i64 a, .int .i64 p, .int .i64 r]] w fun e w' => e = .returned (.string ⟨(evT ⟨t, 2, n, a, p, r⟩).toArray⟩) ∧ Below w.heap.size w w' := by
  have HTb := Lib.hid ht
  have HOK := Lib.hid hok
  obtain ⟨bt0, bt1, bn0, bn1, ba0, ba1, bp0, bp1, br0, br1⟩ := evOk_bd hok
  simp only at bt0 bt1 bn0 bn1 ba0 ba1 bp0 bp1 br0 br1
  have hin := Lib.itoa_length_le n (by omega) (by omega)
  have hia := Lib.itoa_length_le a (by omega) (by omega)
  have hip := Lib.itoa_length_le p (by omega) (by omega)
  have hir := Lib.itoa_length_le r (by omega) (by omega)
  clear ht hok
  have HB := below_box w (.cells #[.int .i64 t, .int .i64 2, .int .i64 n, .int .i64 a, .int .i64 p, .int .i64 r] 40)
  have HE : Hid (EvAt (w.alloc (.cells #[.int .i64 t, .int .i64 2, .int .i64 n, .int .i64 a, .int .i64 p, .int .i64 r] 40)) w.heap.size t 2 n a p r) := Lib.hid ⟨by simp, by simp, by simp, by simp, by simp, by simp⟩
  have s0 := HE.out.s0
  go_enter Tryd.func28, Tryd.ntmps28
  go_wp2_with fail
  obtain ⟨W, hW⟩ : ∃ W, w.alloc (.cells #[.int .i64 t, .int .i64 2, .int .i64 n, .int .i64 a, .int .i64 p, .int .i64 r] 40) = W := ⟨_, rfl⟩
  have hWs : W.heap.size = w.heap.size + 1 := by rw [← hW]; simp
  rw [hW] at HB HE s0 ⊢
  rw [← hWs]
  have hWl : w.heap.size < W.heap.size := by omega
  clear hW hWs
  have HBX := Lib.fresh_isBuilder 55 5 W
  have hbb := below_box W (.cells #[.pointer none, .slice none 0 0] 55)
  have ht1 := tab_up HTb.out HB HB.size
  refine (strconv_Itoa t (by omega) (by omega) W.heap.size _ (tab_up ht1 hbb (Nat.le_refl _))).mono ?_
  rintro e w2 ⟨rfl, hb2⟩
  have hs2 := hb2.size
  have hB2 : Below W.heap.size W w2 := hbb.trans (hb2.mono (by simp))
  go_wp2_with fail
  refine (builder_WriteString W.heap.size W.heap.size _ _ _ (IsBuilder.up HBX hb2) (by have := Lib.itoa_length_le t (by omega) (by omega); simp only [List.length_nil, ByteArray.size, List.size_toArray]; omega) hB2.size).mono ?_
  rintro e w3 ⟨rfl, h3, hb3, hk3⟩
  have hB3 := hB2.trans hb3
  have h3 : Lib.IsBuilder 55 5 W.heap.size W.heap.size (Lib.byteCells (Lib.itoa t)) w3 := by simpa [Lib.strCells_eq] using h3
  have HS : Hid (TxS w W.heap.size w3.heap.size (Lib.itoa t) t 2 n a p r (w3.alloc (.cells #[.func (.func 43) #[] #[.pointer (some ⟨W.heap.size, 0, none⟩)]] 91))) := Lib.hid ⟨IsBuilder.up h3 (below_box _ _), heap_alloc_new _ _, (HE.out.up hB3).up (below_box _ _), below_next (below_next HB hB3) (below_box _ _), by omega, by have := hB3.size; simp; omega⟩
  have hit := Lib.itoa_length_le t (by omega) (by omega)
  clear hb2 hs2 hB2 h3 hb3 hk3 hB3 HBX hbb ht1 s0 HE HB
  go_upto_region 5 with fail
  generalize w3.alloc (.cells #[.func (.func 43) #[] #[.pointer (some ⟨W.heap.size, 0, none⟩)]] 91) = W5 at *
  generalize w3.heap.size = g at *
  have hWl2 := hWl
  generalize W.heap.size = b at *
  obtain ⟨vb, hvb⟩ : ∃ vb, verbsL[2]? = some vb := ⟨_, rfl⟩
  have hvl : vb.length ≤ 20 := nm_len verbsL (by decide) hvb
  have HVN : Hid (nmL verbsL 2 = vb) := Lib.hid (nmL_at hvb)
  have HV := Lib.hid hvb
  clear hvb
  obtain ⟨s0, s1, s2, s3, s4, s5⟩ := HS.out.ev
  have sg := func_cell HS.out.gf
  have HU0 : Hid (Below W5.heap.size W5 W5.drew) := Lib.hid (below_drawn _)
  have d1 := cell_up HU0.out s1
  have dg := cell_up HU0.out sg
  refine wp_region_held_drew (S := (fun w' => w'.cell? ⟨w.heap.size, 1, none⟩ = some (.int .i64 2) ∧ w'.cell? ⟨g, 0, none⟩ = some (.func (.func 43) #[] #[.pointer (some ⟨b, 0, none⟩)]))) (by kernel_rfl) ?_ (fun hHeld => ?_)
  · exact ⟨by assumption, by assumption⟩
  repeat' (first | ((first | (refine takeL (i := 0) (v := ?_) rfl (by kernel_rfl) (by decide +kernel) (by decide +kernel) (fun _ _ _ h => h) (Or.inl ⟨by rfl, ?_⟩) (by assumption) ?_; rotate_left; (focus (intro w9 hS9; (try dsimp only at hS9); go_simp; (try with_reducible rfl); done))) | (refine takeL (i := 1) (v := ?_) rfl (by kernel_rfl) (by decide +kernel) (by decide +kernel) (fun _ _ _ h => h) (Or.inl ⟨by rfl, ?_⟩) (by assumption) ?_; rotate_left; (focus (intro w9 hS9; (try dsimp only at hS9); go_simp; (try with_reducible rfl); done))) | (refine takeL (i := 2) (v := ?_) rfl (by kernel_rfl) (by decide +kernel) (by decide +kernel) (fun _ _ _ h => h) (Or.inl ⟨by rfl, ?_⟩) (by assumption) ?_; rotate_left; (focus (intro w9 hS9; (try dsimp only at hS9); go_simp; (try with_reducible rfl); done))) | (refine takeL (i := 3) (v := ?_) rfl (by kernel_rfl) (by decide +kernel) (by decide +kernel) (fun _ _ _ h => h) (Or.inl ⟨by rfl, ?_⟩) (by assumption) ?_; rotate_left; (focus (intro w9 hS9; (try dsimp only at hS9); go_simp; (try with_reducible rfl); done))) | (refine takeL (i := 4) (v := ?_) rfl (by kernel_rfl) (by decide +kernel) (by decide +kernel) (fun _ _ _ h => h) (Or.inl ⟨by rfl, ?_⟩) (by assumption) ?_; rotate_left; (focus (intro w9 hS9; (try dsimp only at hS9); go_simp; (try with_reducible rfl); done))) | (refine takeL (i := 5) (v := ?_) rfl (by kernel_rfl) (by decide +kernel) (by decide +kernel) (fun _ _ _ h => h) (Or.inl ⟨by rfl, ?_⟩) (by assumption) ?_; rotate_left; (focus (intro w9 hS9; (try dsimp only at hS9); go_simp; (try with_reducible rfl); done))) | (refine takeL (i := 6) (v := ?_) rfl (by kernel_rfl) (by decide +kernel) (by decide +kernel) (fun _ _ _ h => h) (Or.inl ⟨by rfl, ?_⟩) (by assumption) ?_; rotate_left; (focus (intro w9 hS9; (try dsimp only at hS9); go_simp; (try with_reducible rfl); done))) | fail); (try simp only [Act.put, List.setIfInBounds_toArray, List.set_cons_zero, List.set_cons_succ])) | ((first | (refine wpAnyH_ready (rs := [1]) (by decide +kernel) (by simp) ?_; refine consL rfl (fun K hK => ?_) ?_; rotate_left; exact AllReadyH.nil) | (refine wpAnyH_ready (rs := [4]) (by decide +kernel) (by simp) ?_; refine consL rfl (fun K hK => ?_) ?_; rotate_left; exact AllReadyH.nil) | (refine wpAnyH_ready (rs := [5]) (by decide +kernel) (by simp) ?_; refine consL rfl (fun K hK => ?_) ?_; rotate_left; exact AllReadyH.nil) | (refine wpAnyH_ready (rs := [6]) (by decide +kernel) (by simp) ?_; refine consL rfl (fun K hK => ?_) ?_; rotate_left; exact AllReadyH.nil) | fail); all_goals ((first | (go_at_call 45; refine (trace_verbs _).mono ?_; rintro e w4 ⟨rfl, hc4, hb4⟩; have HU := Lib.hid (HU0.out.trans (hb4.mono (Nat.le_refl _))); have cv := hc4 2 vb HV.out; (try simp only [heap_drawn] at cv); clear hc4 hb4; have s1d := cell_up HU.out s1; have sgd := cell_up HU.out sg) | (go_at_call 43; refine (text_word b b _ vb _ (HS.out.up HU.out).bd (by first | omega | (simp only [List.length_append, List.length_cons]; omega)) (HS.out.up HU.out).sz).mono ?_; rintro e w5 ⟨rfl, h5⟩; have H5 := Lib.hid ((HS.out.up HU.out).step h5); clear h5; have s1e := H5.out.ev.s1; have sge := func_cell H5.out.gf) | (go_simp; first | done | (first | (go_at_call 45; refine (trace_verbs _).mono ?_; rintro e w4 ⟨rfl, hc4, hb4⟩; have HU := Lib.hid (HU0.out.trans (hb4.mono (Nat.le_refl _))); have cv := hc4 2 vb HV.out; (try simp only [heap_drawn] at cv); clear hc4 hb4; have s1d := cell_up HU.out s1; have sgd := cell_up HU.out sg) | (go_at_call 43; refine (text_word b b _ vb _ (HS.out.up HU.out).bd (by first | omega | (simp only [List.length_append, List.length_cons]; omega)) (HS.out.up HU.out).sz).mono ?_; rintro e w5 ⟨rfl, h5⟩; have H5 := Lib.hid ((HS.out.up HU.out).step h5); clear h5; have s1e := H5.out.ev.s1; have sge := func_cell H5.out.gf))) | go_simp); (first | (with_reducible refine hK.out _ _ ?_ ?_) | (go_wp2_with fail; refine hK.out _ _ ?_ ?_)); (focus (exact ⟨by assumption, by assumption⟩)); clear hK K hHeld; intro hHeld; (try simp only [Act.put, List.setIfInBounds_toArray, List.set_cons_zero, List.set_cons_succ]))) | (refine wpAnyH_done (by decide +kernel) ?_ _) | fail)
  clear hHeld
  replace HS := H5
  clear H5 HU HU0 cv s1d sgd s0 s1 s2 s3 s4 s5 sg d1 dg
  try clear s1e sge
  obtain ⟨s0, s1, s2, s3, s4, s5⟩ := HS.out.ev
  have sg := func_cell HS.out.gf
  go_wp2_with (first | (go_at_call 44; refine (text_number b b g _ _ _ HS.out.bd HS.out.gf (by omega) (by omega) (by simp only [List.length_append, List.length_cons]; omega) HS.out.sz (tab_up HTb.out HS.out.hb (Nat.le_of_lt HS.out.lt))).mono ?_; rintro e wy ⟨rfl, h5⟩; replace HS := Lib.hid (HS.out.step h5); clear h5 s0 s1 s2 s3 s4 s5 sg; obtain ⟨s0, s1, s2, s3, s4, s5⟩ := HS.out.ev; have sg := func_cell HS.out.gf) | (go_at_call 47; refine (trace_onArc _ _).mono ?_; rintro e wy ⟨rfl, rfl⟩) | (go_at_call 30; refine (Tryd.Builder_String_any b b _ _ HS.out.bd HS.out.sz).mono ?_; rintro e wz ⟨rfl, hz⟩))
  go_ret
  exact ⟨by simp [evT, evWs, wsT, HVN.out], HS.out.hb.trans (hz.mono (Nat.le_of_lt HS.out.lt))⟩
set_option maxRecDepth 100000 in
set_option maxHeartbeats 4000000 in
theorem text_3 (t n a p r : Int) (hok : evOk ⟨t, 3, n, a, p, r⟩ = true) (w : World) (ht : Tab w.heap.size w) : Calls Tryd.prog 28 #[.agg #[.int .i64 t, .int .i64 3, .int .i64 n, .int .i64 a, .int .i64 p, .int .i64 r]] w fun e w' => e = .returned (.string ⟨(evT ⟨t, 3, n, a, p, r⟩).toArray⟩) ∧ Below w.heap.size w w' := by
  have HTb := Lib.hid ht
  have HOK := Lib.hid hok
  obtain ⟨bt0, bt1, bn0, bn1, ba0, ba1, bp0, bp1, br0, br1⟩ := evOk_bd hok
  simp only at bt0 bt1 bn0 bn1 ba0 ba1 bp0 bp1 br0 br1
  have hin := Lib.itoa_length_le n (by omega) (by omega)
  have hia := Lib.itoa_length_le a (by omega) (by omega)
  have hip := Lib.itoa_length_le p (by omega) (by omega)
  have hir := Lib.itoa_length_le r (by omega) (by omega)
  clear ht hok
  have HB := below_box w (.cells #[.int .i64 t, .int .i64 3, .int .i64 n, .int .i64 a, .int .i64 p, .int .i64 r] 40)
  have HE : Hid (EvAt (w.alloc (.cells #[.int .i64 t, .int .i64 3, .int .i64 n, .int .i64 a, .int .i64 p, .int .i64 r] 40)) w.heap.size t 3 n a p r) := Lib.hid ⟨by simp, by simp, by simp, by simp, by simp, by simp⟩
  have s0 := HE.out.s0
  go_enter Tryd.func28, Tryd.ntmps28
  go_wp2_with fail
  obtain ⟨W, hW⟩ : ∃ W, w.alloc (.cells #[.int .i64 t, .int .i64 3, .int .i64 n, .int .i64 a, .int .i64 p, .int .i64 r] 40) = W := ⟨_, rfl⟩
  have hWs : W.heap.size = w.heap.size + 1 := by rw [← hW]; simp
  rw [hW] at HB HE s0 ⊢
  rw [← hWs]
  have hWl : w.heap.size < W.heap.size := by omega
  clear hW hWs
  have HBX := Lib.fresh_isBuilder 55 5 W
  have hbb := below_box W (.cells #[.pointer none, .slice none 0 0] 55)
  have ht1 := tab_up HTb.out HB HB.size
  refine (strconv_Itoa t (by omega) (by omega) W.heap.size _ (tab_up ht1 hbb (Nat.le_refl _))).mono ?_
  rintro e w2 ⟨rfl, hb2⟩
  have hs2 := hb2.size
  have hB2 : Below W.heap.size W w2 := hbb.trans (hb2.mono (by simp))
  go_wp2_with fail
  refine (builder_WriteString W.heap.size W.heap.size _ _ _ (IsBuilder.up HBX hb2) (by have := Lib.itoa_length_le t (by omega) (by omega); simp only [List.length_nil, ByteArray.size, List.size_toArray]; omega) hB2.size).mono ?_
  rintro e w3 ⟨rfl, h3, hb3, hk3⟩
  have hB3 := hB2.trans hb3
  have h3 : Lib.IsBuilder 55 5 W.heap.size W.heap.size (Lib.byteCells (Lib.itoa t)) w3 := by simpa [Lib.strCells_eq] using h3
  have HS : Hid (TxS w W.heap.size w3.heap.size (Lib.itoa t) t 3 n a p r (w3.alloc (.cells #[.func (.func 43) #[] #[.pointer (some ⟨W.heap.size, 0, none⟩)]] 91))) := Lib.hid ⟨IsBuilder.up h3 (below_box _ _), heap_alloc_new _ _, (HE.out.up hB3).up (below_box _ _), below_next (below_next HB hB3) (below_box _ _), by omega, by have := hB3.size; simp; omega⟩
  have hit := Lib.itoa_length_le t (by omega) (by omega)
  clear hb2 hs2 hB2 h3 hb3 hk3 hB3 HBX hbb ht1 s0 HE HB
  go_upto_region 5 with fail
  generalize w3.alloc (.cells #[.func (.func 43) #[] #[.pointer (some ⟨W.heap.size, 0, none⟩)]] 91) = W5 at *
  generalize w3.heap.size = g at *
  have hWl2 := hWl
  generalize W.heap.size = b at *
  obtain ⟨vb, hvb⟩ : ∃ vb, verbsL[3]? = some vb := ⟨_, rfl⟩
  have hvl : vb.length ≤ 20 := nm_len verbsL (by decide) hvb
  have HVN : Hid (nmL verbsL 3 = vb) := Lib.hid (nmL_at hvb)
  have HV := Lib.hid hvb
  clear hvb
  obtain ⟨s0, s1, s2, s3, s4, s5⟩ := HS.out.ev
  have sg := func_cell HS.out.gf
  have HU0 : Hid (Below W5.heap.size W5 W5.drew) := Lib.hid (below_drawn _)
  have d1 := cell_up HU0.out s1
  have dg := cell_up HU0.out sg
  refine wp_region_held_drew (S := (fun w' => w'.cell? ⟨w.heap.size, 1, none⟩ = some (.int .i64 3) ∧ w'.cell? ⟨g, 0, none⟩ = some (.func (.func 43) #[] #[.pointer (some ⟨b, 0, none⟩)]))) (by kernel_rfl) ?_ (fun hHeld => ?_)
  · exact ⟨by assumption, by assumption⟩
  repeat' (first | ((first | (refine takeL (i := 0) (v := ?_) rfl (by kernel_rfl) (by decide +kernel) (by decide +kernel) (fun _ _ _ h => h) (Or.inl ⟨by rfl, ?_⟩) (by assumption) ?_; rotate_left; (focus (intro w9 hS9; (try dsimp only at hS9); go_simp; (try with_reducible rfl); done))) | (refine takeL (i := 1) (v := ?_) rfl (by kernel_rfl) (by decide +kernel) (by decide +kernel) (fun _ _ _ h => h) (Or.inl ⟨by rfl, ?_⟩) (by assumption) ?_; rotate_left; (focus (intro w9 hS9; (try dsimp only at hS9); go_simp; (try with_reducible rfl); done))) | (refine takeL (i := 2) (v := ?_) rfl (by kernel_rfl) (by decide +kernel) (by decide +kernel) (fun _ _ _ h => h) (Or.inl ⟨by rfl, ?_⟩) (by assumption) ?_; rotate_left; (focus (intro w9 hS9; (try dsimp only at hS9); go_simp; (try with_reducible rfl); done))) | (refine takeL (i := 3) (v := ?_) rfl (by kernel_rfl) (by decide +kernel) (by decide +kernel) (fun _ _ _ h => h) (Or.inl ⟨by rfl, ?_⟩) (by assumption) ?_; rotate_left; (focus (intro w9 hS9; (try dsimp only at hS9); go_simp; (try with_reducible rfl); done))) | (refine takeL (i := 4) (v := ?_) rfl (by kernel_rfl) (by decide +kernel) (by decide +kernel) (fun _ _ _ h => h) (Or.inl ⟨by rfl, ?_⟩) (by assumption) ?_; rotate_left; (focus (intro w9 hS9; (try dsimp only at hS9); go_simp; (try with_reducible rfl); done))) | (refine takeL (i := 5) (v := ?_) rfl (by kernel_rfl) (by decide +kernel) (by decide +kernel) (fun _ _ _ h => h) (Or.inl ⟨by rfl, ?_⟩) (by assumption) ?_; rotate_left; (focus (intro w9 hS9; (try dsimp only at hS9); go_simp; (try with_reducible rfl); done))) | (refine takeL (i := 6) (v := ?_) rfl (by kernel_rfl) (by decide +kernel) (by decide +kernel) (fun _ _ _ h => h) (Or.inl ⟨by rfl, ?_⟩) (by assumption) ?_; rotate_left; (focus (intro w9 hS9; (try dsimp only at hS9); go_simp; (try with_reducible rfl); done))) | fail); (try simp only [Act.put, List.setIfInBounds_toArray, List.set_cons_zero, List.set_cons_succ])) | ((first | (refine wpAnyH_ready (rs := [1]) (by decide +kernel) (by simp) ?_; refine consL rfl (fun K hK => ?_) ?_; rotate_left; exact AllReadyH.nil) | (refine wpAnyH_ready (rs := [4]) (by decide +kernel) (by simp) ?_; refine consL rfl (fun K hK => ?_) ?_; rotate_left; exact AllReadyH.nil) | (refine wpAnyH_ready (rs := [5]) (by decide +kernel) (by simp) ?_; refine consL rfl (fun K hK => ?_) ?_; rotate_left; exact AllReadyH.nil) | (refine wpAnyH_ready (rs := [6]) (by decide +kernel) (by simp) ?_; refine consL rfl (fun K hK => ?_) ?_; rotate_left; exact AllReadyH.nil) | fail); all_goals ((first | (go_at_call 45; refine (trace_verbs _).mono ?_; rintro e w4 ⟨rfl, hc4, hb4⟩; have HU := Lib.hid (HU0.out.trans (hb4.mono (Nat.le_refl _))); have cv := hc4 3 vb HV.out; (try simp only [heap_drawn] at cv); clear hc4 hb4; have s1d := cell_up HU.out s1; have sgd := cell_up HU.out sg) | (go_at_call 43; refine (text_word b b _ vb _ (HS.out.up HU.out).bd (by first | omega | (simp only [List.length_append, List.length_cons]; omega)) (HS.out.up HU.out).sz).mono ?_; rintro e w5 ⟨rfl, h5⟩; have H5 := Lib.hid ((HS.out.up HU.out).step h5); clear h5; have s1e := H5.out.ev.s1; have sge := func_cell H5.out.gf) | (go_simp; first | done | (first | (go_at_call 45; refine (trace_verbs _).mono ?_; rintro e w4 ⟨rfl, hc4, hb4⟩; have HU := Lib.hid (HU0.out.trans (hb4.mono (Nat.le_refl _))); have cv := hc4 3 vb HV.out; (try simp only [heap_drawn] at cv); clear hc4 hb4; have s1d := cell_up HU.out s1; have sgd := cell_up HU.out sg) | (go_at_call 43; refine (text_word b b _ vb _ (HS.out.up HU.out).bd (by first | omega | (simp only [List.length_append, List.length_cons]; omega)) (HS.out.up HU.out).sz).mono ?_; rintro e w5 ⟨rfl, h5⟩; have H5 := Lib.hid ((HS.out.up HU.out).step h5); clear h5; have s1e := H5.out.ev.s1; have sge := func_cell H5.out.gf))) | go_simp); (first | (with_reducible refine hK.out _ _ ?_ ?_) | (go_wp2_with fail; refine hK.out _ _ ?_ ?_)); (focus (exact ⟨by assumption, by assumption⟩)); clear hK K hHeld; intro hHeld; (try simp only [Act.put, List.setIfInBounds_toArray, List.set_cons_zero, List.set_cons_succ]))) | (refine wpAnyH_done (by decide +kernel) ?_ _) | fail)
  clear hHeld
  replace HS := H5
  clear H5 HU HU0 cv s1d sgd s0 s1 s2 s3 s4 s5 sg d1 dg
  try clear s1e sge
  obtain ⟨s0, s1, s2, s3, s4, s5⟩ := HS.out.ev
  have sg := func_cell HS.out.gf
  go_wp2_with (first | (go_at_call 44; refine (text_number b b g _ _ _ HS.out.bd HS.out.gf (by omega) (by omega) (by simp only [List.length_append, List.length_cons]; omega) HS.out.sz (tab_up HTb.out HS.out.hb (Nat.le_of_lt HS.out.lt))).mono ?_; rintro e wy ⟨rfl, h5⟩; replace HS := Lib.hid (HS.out.step h5); clear h5 s0 s1 s2 s3 s4 s5 sg; obtain ⟨s0, s1, s2, s3, s4, s5⟩ := HS.out.ev; have sg := func_cell HS.out.gf) | (go_at_call 47; refine (trace_onArc _ _).mono ?_; rintro e wy ⟨rfl, rfl⟩) | (go_at_call 30; refine (Tryd.Builder_String_any b b _ _ HS.out.bd HS.out.sz).mono ?_; rintro e wz ⟨rfl, hz⟩))
  go_ret
  exact ⟨by simp [evT, evWs, wsT, HVN.out], HS.out.hb.trans (hz.mono (Nat.le_of_lt HS.out.lt))⟩
set_option maxRecDepth 100000 in
set_option maxHeartbeats 4000000 in
theorem text_4 (t n a p r : Int) (hok : evOk ⟨t, 4, n, a, p, r⟩ = true) (w : World) (ht : Tab w.heap.size w) : Calls Tryd.prog 28 #[.agg #[.int .i64 t, .int .i64 4, .int .i64 n, .int .i64 a, .int .i64 p, .int .i64 r]] w fun e w' => e = .returned (.string ⟨(evT ⟨t, 4, n, a, p, r⟩).toArray⟩) ∧ Below w.heap.size w w' := by
  obtain ⟨br2, br3⟩ := evOk_4 hok
  have br4 : r < 9 := by omega
  have HTb := Lib.hid ht
  have HOK := Lib.hid hok
  obtain ⟨bt0, bt1, bn0, bn1, ba0, ba1, bp0, bp1, br0, br1⟩ := evOk_bd hok
  simp only at bt0 bt1 bn0 bn1 ba0 ba1 bp0 bp1 br0 br1
  have hin := Lib.itoa_length_le n (by omega) (by omega)
  have hia := Lib.itoa_length_le a (by omega) (by omega)
  have hip := Lib.itoa_length_le p (by omega) (by omega)
  have hir := Lib.itoa_length_le r (by omega) (by omega)
  clear ht hok
  have HB := below_box w (.cells #[.int .i64 t, .int .i64 4, .int .i64 n, .int .i64 a, .int .i64 p, .int .i64 r] 40)
  have HE : Hid (EvAt (w.alloc (.cells #[.int .i64 t, .int .i64 4, .int .i64 n, .int .i64 a, .int .i64 p, .int .i64 r] 40)) w.heap.size t 4 n a p r) := Lib.hid ⟨by simp, by simp, by simp, by simp, by simp, by simp⟩
  have s0 := HE.out.s0
  go_enter Tryd.func28, Tryd.ntmps28
  go_wp2_with fail
  obtain ⟨W, hW⟩ : ∃ W, w.alloc (.cells #[.int .i64 t, .int .i64 4, .int .i64 n, .int .i64 a, .int .i64 p, .int .i64 r] 40) = W := ⟨_, rfl⟩
  have hWs : W.heap.size = w.heap.size + 1 := by rw [← hW]; simp
  rw [hW] at HB HE s0 ⊢
  rw [← hWs]
  have hWl : w.heap.size < W.heap.size := by omega
  clear hW hWs
  have HBX := Lib.fresh_isBuilder 55 5 W
  have hbb := below_box W (.cells #[.pointer none, .slice none 0 0] 55)
  have ht1 := tab_up HTb.out HB HB.size
  refine (strconv_Itoa t (by omega) (by omega) W.heap.size _ (tab_up ht1 hbb (Nat.le_refl _))).mono ?_
  rintro e w2 ⟨rfl, hb2⟩
  have hs2 := hb2.size
  have hB2 : Below W.heap.size W w2 := hbb.trans (hb2.mono (by simp))
  go_wp2_with fail
  refine (builder_WriteString W.heap.size W.heap.size _ _ _ (IsBuilder.up HBX hb2) (by have := Lib.itoa_length_le t (by omega) (by omega); simp only [List.length_nil, ByteArray.size, List.size_toArray]; omega) hB2.size).mono ?_
  rintro e w3 ⟨rfl, h3, hb3, hk3⟩
  have hB3 := hB2.trans hb3
  have h3 : Lib.IsBuilder 55 5 W.heap.size W.heap.size (Lib.byteCells (Lib.itoa t)) w3 := by simpa [Lib.strCells_eq] using h3
  have HS : Hid (TxS w W.heap.size w3.heap.size (Lib.itoa t) t 4 n a p r (w3.alloc (.cells #[.func (.func 43) #[] #[.pointer (some ⟨W.heap.size, 0, none⟩)]] 91))) := Lib.hid ⟨IsBuilder.up h3 (below_box _ _), heap_alloc_new _ _, (HE.out.up hB3).up (below_box _ _), below_next (below_next HB hB3) (below_box _ _), by omega, by have := hB3.size; simp; omega⟩
  have hit := Lib.itoa_length_le t (by omega) (by omega)
  clear hb2 hs2 hB2 h3 hb3 hk3 hB3 HBX hbb ht1 s0 HE HB
  go_upto_region 5 with fail
  generalize w3.alloc (.cells #[.func (.func 43) #[] #[.pointer (some ⟨W.heap.size, 0, none⟩)]] 91) = W5 at *
  generalize w3.heap.size = g at *
  have hWl2 := hWl
  generalize W.heap.size = b at *
  obtain ⟨vb, hvb⟩ : ∃ vb, verbsL[4]? = some vb := ⟨_, rfl⟩
  have hvl : vb.length ≤ 20 := nm_len verbsL (by decide) hvb
  have HVN : Hid (nmL verbsL 4 = vb) := Lib.hid (nmL_at hvb)
  have HV := Lib.hid hvb
  clear hvb
  obtain ⟨s0, s1, s2, s3, s4, s5⟩ := HS.out.ev
  have sg := func_cell HS.out.gf
  have HU0 : Hid (Below W5.heap.size W5 W5.drew) := Lib.hid (below_drawn _)
  have d1 := cell_up HU0.out s1
  have dg := cell_up HU0.out sg
  refine wp_region_held_drew (S := (fun w' => w'.cell? ⟨w.heap.size, 1, none⟩ = some (.int .i64 4) ∧ w'.cell? ⟨g, 0, none⟩ = some (.func (.func 43) #[] #[.pointer (some ⟨b, 0, none⟩)]))) (by kernel_rfl) ?_ (fun hHeld => ?_)
  · exact ⟨by assumption, by assumption⟩
  repeat' (first | ((first | (refine takeL (i := 0) (v := ?_) rfl (by kernel_rfl) (by decide +kernel) (by decide +kernel) (fun _ _ _ h => h) (Or.inl ⟨by rfl, ?_⟩) (by assumption) ?_; rotate_left; (focus (intro w9 hS9; (try dsimp only at hS9); go_simp; (try with_reducible rfl); done))) | (refine takeL (i := 1) (v := ?_) rfl (by kernel_rfl) (by decide +kernel) (by decide +kernel) (fun _ _ _ h => h) (Or.inl ⟨by rfl, ?_⟩) (by assumption) ?_; rotate_left; (focus (intro w9 hS9; (try dsimp only at hS9); go_simp; (try with_reducible rfl); done))) | (refine takeL (i := 2) (v := ?_) rfl (by kernel_rfl) (by decide +kernel) (by decide +kernel) (fun _ _ _ h => h) (Or.inl ⟨by rfl, ?_⟩) (by assumption) ?_; rotate_left; (focus (intro w9 hS9; (try dsimp only at hS9); go_simp; (try with_reducible rfl); done))) | (refine takeL (i := 3) (v := ?_) rfl (by kernel_rfl) (by decide +kernel) (by decide +kernel) (fun _ _ _ h => h) (Or.inl ⟨by rfl, ?_⟩) (by assumption) ?_; rotate_left; (focus (intro w9 hS9; (try dsimp only at hS9); go_simp; (try with_reducible rfl); done))) | (refine takeL (i := 4) (v := ?_) rfl (by kernel_rfl) (by decide +kernel) (by decide +kernel) (fun _ _ _ h => h) (Or.inl ⟨by rfl, ?_⟩) (by assumption) ?_; rotate_left; (focus (intro w9 hS9; (try dsimp only at hS9); go_simp; (try with_reducible rfl); done))) | (refine takeL (i := 5) (v := ?_) rfl (by kernel_rfl) (by decide +kernel) (by decide +kernel) (fun _ _ _ h => h) (Or.inl ⟨by rfl, ?_⟩) (by assumption) ?_; rotate_left; (focus (intro w9 hS9; (try dsimp only at hS9); go_simp; (try with_reducible rfl); done))) | (refine takeL (i := 6) (v := ?_) rfl (by kernel_rfl) (by decide +kernel) (by decide +kernel) (fun _ _ _ h => h) (Or.inl ⟨by rfl, ?_⟩) (by assumption) ?_; rotate_left; (focus (intro w9 hS9; (try dsimp only at hS9); go_simp; (try with_reducible rfl); done))) | fail); (try simp only [Act.put, List.setIfInBounds_toArray, List.set_cons_zero, List.set_cons_succ])) | ((first | (refine wpAnyH_ready (rs := [1]) (by decide +kernel) (by simp) ?_; refine consL rfl (fun K hK => ?_) ?_; rotate_left; exact AllReadyH.nil) | (refine wpAnyH_ready (rs := [4]) (by decide +kernel) (by simp) ?_; refine consL rfl (fun K hK => ?_) ?_; rotate_left; exact AllReadyH.nil) | (refine wpAnyH_ready (rs := [5]) (by decide +kernel) (by simp) ?_; refine consL rfl (fun K hK => ?_) ?_; rotate_left; exact AllReadyH.nil) | (refine wpAnyH_ready (rs := [6]) (by decide +kernel) (by simp) ?_; refine consL rfl (fun K hK => ?_) ?_; rotate_left; exact AllReadyH.nil) | fail); all_goals ((first | (go_at_call 45; refine (trace_verbs _).mono ?_; rintro e w4 ⟨rfl, hc4, hb4⟩; have HU := Lib.hid (HU0.out.trans (hb4.mono (Nat.le_refl _))); have cv := hc4 4 vb HV.out; (try simp only [heap_drawn] at cv); clear hc4 hb4; have s1d := cell_up HU.out s1; have sgd := cell_up HU.out sg) | (go_at_call 43; refine (text_word b b _ vb _ (HS.out.up HU.out).bd (by first | omega | (simp only [List.length_append, List.length_cons]; omega)) (HS.out.up HU.out).sz).mono ?_; rintro e w5 ⟨rfl, h5⟩; have H5 := Lib.hid ((HS.out.up HU.out).step h5); clear h5; have s1e := H5.out.ev.s1; have sge := func_cell H5.out.gf) | (go_simp; first | done | (first | (go_at_call 45; refine (trace_verbs _).mono ?_; rintro e w4 ⟨rfl, hc4, hb4⟩; have HU := Lib.hid (HU0.out.trans (hb4.mono (Nat.le_refl _))); have cv := hc4 4 vb HV.out; (try simp only [heap_drawn] at cv); clear hc4 hb4; have s1d := cell_up HU.out s1; have sgd := cell_up HU.out sg) | (go_at_call 43; refine (text_word b b _ vb _ (HS.out.up HU.out).bd (by first | omega | (simp only [List.length_append, List.length_cons]; omega)) (HS.out.up HU.out).sz).mono ?_; rintro e w5 ⟨rfl, h5⟩; have H5 := Lib.hid ((HS.out.up HU.out).step h5); clear h5; have s1e := H5.out.ev.s1; have sge := func_cell H5.out.gf))) | go_simp); (first | (with_reducible refine hK.out _ _ ?_ ?_) | (go_wp2_with fail; refine hK.out _ _ ?_ ?_)); (focus (exact ⟨by assumption, by assumption⟩)); clear hK K hHeld; intro hHeld; (try simp only [Act.put, List.setIfInBounds_toArray, List.set_cons_zero, List.set_cons_succ]))) | (refine wpAnyH_done (by decide +kernel) ?_ _) | fail)
  clear hHeld
  replace HS := H5
  clear H5 HU HU0 cv s1d sgd s0 s1 s2 s3 s4 s5 sg d1 dg
  try clear s1e sge
  obtain ⟨s0, s1, s2, s3, s4, s5⟩ := HS.out.ev
  have sg := func_cell HS.out.gf
  clear HV
  obtain ⟨vx, hvx⟩ : ∃ vx, reasonsL[r.toNat]? = some vx := ⟨_, List.getElem?_eq_getElem (by simp [reasonsL]; omega)⟩
  have hvxl : vx.length ≤ 20 := nm_len reasonsL (by decide) hvx
  have HVM := Lib.hid (nmL_at hvx)
  have HV := Lib.hid hvx
  clear hvx
  go_wp2_with (go_at_call 44; refine (text_number b b g _ _ _ HS.out.bd HS.out.gf (by omega) (by omega) (by simp only [List.length_append, List.length_cons]; omega) HS.out.sz (tab_up HTb.out HS.out.hb (Nat.le_of_lt HS.out.lt))).mono ?_; rintro e wy ⟨rfl, h5⟩; replace HS := Lib.hid (HS.out.step h5); clear h5 s0 s1 s2 s3 s4 s5 sg; obtain ⟨s0, s1, s2, s3, s4, s5⟩ := HS.out.ev; have sg := func_cell HS.out.gf)
  have HU0 : Hid (Below wy.heap.size wy wy.drew) := Lib.hid (below_drawn _)
  have d1 := cell_up HU0.out s5
  have dg := cell_up HU0.out sg
  refine wp_region_held_drew (S := (fun w' => w'.cell? ⟨w.heap.size, 5, none⟩ = some (.int .i64 r) ∧ w'.cell? ⟨g, 0, none⟩ = some (.func (.func 43) #[] #[.pointer (some ⟨b, 0, none⟩)]))) (by kernel_rfl) ?_ (fun hHeld => ?_)
  · exact ⟨by assumption, by assumption⟩
  repeat' (first | ((first | (refine takeL (i := 0) (v := ?_) rfl (by kernel_rfl) (by decide +kernel) (by decide +kernel) (fun _ _ _ h => h) (Or.inl ⟨by rfl, ?_⟩) (by assumption) ?_; rotate_left; (focus (intro w9 hS9; (try dsimp only at hS9); go_simp; (try with_reducible rfl); done))) | (refine takeL (i := 1) (v := ?_) rfl (by kernel_rfl) (by decide +kernel) (by decide +kernel) (fun _ _ _ h => h) (Or.inl ⟨by rfl, ?_⟩) (by assumption) ?_; rotate_left; (focus (intro w9 hS9; (try dsimp only at hS9); go_simp; (try with_reducible rfl); done))) | (refine takeL (i := 2) (v := ?_) rfl (by kernel_rfl) (by decide +kernel) (by decide +kernel) (fun _ _ _ h => h) (Or.inl ⟨by rfl, ?_⟩) (by assumption) ?_; rotate_left; (focus (intro w9 hS9; (try dsimp only at hS9); go_simp; (try with_reducible rfl); done))) | (refine takeL (i := 3) (v := ?_) rfl (by kernel_rfl) (by decide +kernel) (by decide +kernel) (fun _ _ _ h => h) (Or.inl ⟨by rfl, ?_⟩) (by assumption) ?_; rotate_left; (focus (intro w9 hS9; (try dsimp only at hS9); go_simp; (try with_reducible rfl); done))) | (refine takeL (i := 4) (v := ?_) rfl (by kernel_rfl) (by decide +kernel) (by decide +kernel) (fun _ _ _ h => h) (Or.inl ⟨by rfl, ?_⟩) (by assumption) ?_; rotate_left; (focus (intro w9 hS9; (try dsimp only at hS9); go_simp; (try with_reducible rfl); done))) | (refine takeL (i := 5) (v := ?_) rfl (by kernel_rfl) (by decide +kernel) (by decide +kernel) (fun _ _ _ h => h) (Or.inl ⟨by rfl, ?_⟩) (by assumption) ?_; rotate_left; (focus (intro w9 hS9; (try dsimp only at hS9); go_simp; (try with_reducible rfl); done))) | (refine takeL (i := 6) (v := ?_) rfl (by kernel_rfl) (by decide +kernel) (by decide +kernel) (fun _ _ _ h => h) (Or.inl ⟨by rfl, ?_⟩) (by assumption) ?_; rotate_left; (focus (intro w9 hS9; (try dsimp only at hS9); go_simp; (try with_reducible rfl); done))) | fail); (try simp only [Act.put, List.setIfInBounds_toArray, List.set_cons_zero, List.set_cons_succ])) | ((first | (refine wpAnyH_ready (rs := [1]) (by decide +kernel) (by simp) ?_; refine consL rfl (fun K hK => ?_) ?_; rotate_left; exact AllReadyH.nil) | (refine wpAnyH_ready (rs := [4]) (by decide +kernel) (by simp) ?_; refine consL rfl (fun K hK => ?_) ?_; rotate_left; exact AllReadyH.nil) | (refine wpAnyH_ready (rs := [5]) (by decide +kernel) (by simp) ?_; refine consL rfl (fun K hK => ?_) ?_; rotate_left; exact AllReadyH.nil) | (refine wpAnyH_ready (rs := [6]) (by decide +kernel) (by simp) ?_; refine consL rfl (fun K hK => ?_) ?_; rotate_left; exact AllReadyH.nil) | fail); all_goals ((first | (go_at_call 46; refine (trace_reasons _).mono ?_; rintro e w4 ⟨rfl, hc4, hb4⟩; have HU := Lib.hid (HU0.out.trans (hb4.mono (Nat.le_refl _))); have cv := hc4 r.toNat vx HV.out; (try simp only [heap_drawn] at cv); clear hc4 hb4; have s1d := cell_up HU.out s5; have sgd := cell_up HU.out sg) | (go_at_call 43; refine (text_word b b _ vx _ (HS.out.up HU.out).bd (by first | omega | (simp only [List.length_append, List.length_cons]; omega)) (HS.out.up HU.out).sz).mono ?_; rintro e w5 ⟨rfl, h5⟩; have H5 := Lib.hid ((HS.out.up HU.out).step h5); clear h5; have s1e := H5.out.ev.s5; have sge := func_cell H5.out.gf) | (go_simp; first | done | (first | (go_at_call 46; refine (trace_reasons _).mono ?_; rintro e w4 ⟨rfl, hc4, hb4⟩; have HU := Lib.hid (HU0.out.trans (hb4.mono (Nat.le_refl _))); have cv := hc4 r.toNat vx HV.out; (try simp only [heap_drawn] at cv); clear hc4 hb4; have s1d := cell_up HU.out s5; have sgd := cell_up HU.out sg) | (go_at_call 43; refine (text_word b b _ vx _ (HS.out.up HU.out).bd (by first | omega | (simp only [List.length_append, List.length_cons]; omega)) (HS.out.up HU.out).sz).mono ?_; rintro e w5 ⟨rfl, h5⟩; have H5 := Lib.hid ((HS.out.up HU.out).step h5); clear h5; have s1e := H5.out.ev.s5; have sge := func_cell H5.out.gf))) | go_simp); (first | (with_reducible refine hK.out _ _ ?_ ?_) | (go_wp2_with fail; refine hK.out _ _ ?_ ?_)); (focus (exact ⟨by assumption, by assumption⟩)); clear hK K hHeld; intro hHeld; (try simp only [Act.put, List.setIfInBounds_toArray, List.set_cons_zero, List.set_cons_succ]))) | (refine wpAnyH_done (by decide +kernel) ?_ _) | fail)
  clear hHeld
  replace HS := H5
  clear H5 HU HU0 cv s1d sgd s0 s1 s2 s3 s4 s5 sg d1 dg
  try clear s1e sge
  obtain ⟨s0, s1, s2, s3, s4, s5⟩ := HS.out.ev
  have sg := func_cell HS.out.gf
  cases ho : onArcB r with
  | true =>
    go_wp2_with (first | (go_at_call 44; refine (text_number b b g _ _ _ HS.out.bd HS.out.gf (by omega) (by omega) (by simp only [List.length_append, List.length_cons]; omega) HS.out.sz (tab_up HTb.out HS.out.hb (Nat.le_of_lt HS.out.lt))).mono ?_; rintro e wy ⟨rfl, h5⟩; replace HS := Lib.hid (HS.out.step h5); clear h5 s0 s1 s2 s3 s4 s5 sg; obtain ⟨s0, s1, s2, s3, s4, s5⟩ := HS.out.ev; have sg := func_cell HS.out.gf) | (go_at_call 47; refine (trace_onArc _ _).mono ?_; rintro e wy ⟨rfl, rfl⟩) | (go_at_call 30; refine (Tryd.Builder_String_any b b _ _ HS.out.bd HS.out.sz).mono ?_; rintro e wz ⟨rfl, hz⟩))
    go_ret
    exact ⟨by simp [evT, evWs, wsT, HVN.out, HVM.out, ho], HS.out.hb.trans (hz.mono (Nat.le_of_lt HS.out.lt))⟩
  | false =>
    go_wp2_with (first | (go_at_call 44; refine (text_number b b g _ _ _ HS.out.bd HS.out.gf (by omega) (by omega) (by simp only [List.length_append, List.length_cons]; omega) HS.out.sz (tab_up HTb.out HS.out.hb (Nat.le_of_lt HS.out.lt))).mono ?_; rintro e wy ⟨rfl, h5⟩; replace HS := Lib.hid (HS.out.step h5); clear h5 s0 s1 s2 s3 s4 s5 sg; obtain ⟨s0, s1, s2, s3, s4, s5⟩ := HS.out.ev; have sg := func_cell HS.out.gf) | (go_at_call 47; refine (trace_onArc _ _).mono ?_; rintro e wy ⟨rfl, rfl⟩) | (go_at_call 30; refine (Tryd.Builder_String_any b b _ _ HS.out.bd HS.out.sz).mono ?_; rintro e wz ⟨rfl, hz⟩))
    go_ret
    exact ⟨by simp [evT, evWs, wsT, HVN.out, HVM.out, ho], HS.out.hb.trans (hz.mono (Nat.le_of_lt HS.out.lt))⟩
set_option maxRecDepth 100000 in
set_option maxHeartbeats 4000000 in
theorem text_5 (t n a p r : Int) (hok : evOk ⟨t, 5, n, a, p, r⟩ = true) (w : World) (ht : Tab w.heap.size w) : Calls Tryd.prog 28 #[.agg #[.int .i64 t, .int .i64 5, .int .i64 n, .int .i64 a, .int .i64 p, .int .i64 r]] w fun e w' => e = .returned (.string ⟨(evT ⟨t, 5, n, a, p, r⟩).toArray⟩) ∧ Below w.heap.size w w' := by
  obtain ⟨ba2, ba3⟩ := evOk_5 hok
  have ba4 : a < 4 := by omega
  have HTb := Lib.hid ht
  have HOK := Lib.hid hok
  obtain ⟨bt0, bt1, bn0, bn1, ba0, ba1, bp0, bp1, br0, br1⟩ := evOk_bd hok
  simp only at bt0 bt1 bn0 bn1 ba0 ba1 bp0 bp1 br0 br1
  have hin := Lib.itoa_length_le n (by omega) (by omega)
  have hia := Lib.itoa_length_le a (by omega) (by omega)
  have hip := Lib.itoa_length_le p (by omega) (by omega)
  have hir := Lib.itoa_length_le r (by omega) (by omega)
  clear ht hok
  have HB := below_box w (.cells #[.int .i64 t, .int .i64 5, .int .i64 n, .int .i64 a, .int .i64 p, .int .i64 r] 40)
  have HE : Hid (EvAt (w.alloc (.cells #[.int .i64 t, .int .i64 5, .int .i64 n, .int .i64 a, .int .i64 p, .int .i64 r] 40)) w.heap.size t 5 n a p r) := Lib.hid ⟨by simp, by simp, by simp, by simp, by simp, by simp⟩
  have s0 := HE.out.s0
  go_enter Tryd.func28, Tryd.ntmps28
  go_wp2_with fail
  obtain ⟨W, hW⟩ : ∃ W, w.alloc (.cells #[.int .i64 t, .int .i64 5, .int .i64 n, .int .i64 a, .int .i64 p, .int .i64 r] 40) = W := ⟨_, rfl⟩
  have hWs : W.heap.size = w.heap.size + 1 := by rw [← hW]; simp
  rw [hW] at HB HE s0 ⊢
  rw [← hWs]
  have hWl : w.heap.size < W.heap.size := by omega
  clear hW hWs
  have HBX := Lib.fresh_isBuilder 55 5 W
  have hbb := below_box W (.cells #[.pointer none, .slice none 0 0] 55)
  have ht1 := tab_up HTb.out HB HB.size
  refine (strconv_Itoa t (by omega) (by omega) W.heap.size _ (tab_up ht1 hbb (Nat.le_refl _))).mono ?_
  rintro e w2 ⟨rfl, hb2⟩
  have hs2 := hb2.size
  have hB2 : Below W.heap.size W w2 := hbb.trans (hb2.mono (by simp))
  go_wp2_with fail
  refine (builder_WriteString W.heap.size W.heap.size _ _ _ (IsBuilder.up HBX hb2) (by have := Lib.itoa_length_le t (by omega) (by omega); simp only [List.length_nil, ByteArray.size, List.size_toArray]; omega) hB2.size).mono ?_
  rintro e w3 ⟨rfl, h3, hb3, hk3⟩
  have hB3 := hB2.trans hb3
  have h3 : Lib.IsBuilder 55 5 W.heap.size W.heap.size (Lib.byteCells (Lib.itoa t)) w3 := by simpa [Lib.strCells_eq] using h3
  have HS : Hid (TxS w W.heap.size w3.heap.size (Lib.itoa t) t 5 n a p r (w3.alloc (.cells #[.func (.func 43) #[] #[.pointer (some ⟨W.heap.size, 0, none⟩)]] 91))) := Lib.hid ⟨IsBuilder.up h3 (below_box _ _), heap_alloc_new _ _, (HE.out.up hB3).up (below_box _ _), below_next (below_next HB hB3) (below_box _ _), by omega, by have := hB3.size; simp; omega⟩
  have hit := Lib.itoa_length_le t (by omega) (by omega)
  clear hb2 hs2 hB2 h3 hb3 hk3 hB3 HBX hbb ht1 s0 HE HB
  go_upto_region 5 with fail
  generalize w3.alloc (.cells #[.func (.func 43) #[] #[.pointer (some ⟨W.heap.size, 0, none⟩)]] 91) = W5 at *
  generalize w3.heap.size = g at *
  have hWl2 := hWl
  generalize W.heap.size = b at *
  obtain ⟨vb, hvb⟩ : ∃ vb, verbsL[5]? = some vb := ⟨_, rfl⟩
  have hvl : vb.length ≤ 20 := nm_len verbsL (by decide) hvb
  have HVN : Hid (nmL verbsL 5 = vb) := Lib.hid (nmL_at hvb)
  have HV := Lib.hid hvb
  clear hvb
  obtain ⟨s0, s1, s2, s3, s4, s5⟩ := HS.out.ev
  have sg := func_cell HS.out.gf
  have HU0 : Hid (Below W5.heap.size W5 W5.drew) := Lib.hid (below_drawn _)
  have d1 := cell_up HU0.out s1
  have dg := cell_up HU0.out sg
  refine wp_region_held_drew (S := (fun w' => w'.cell? ⟨w.heap.size, 1, none⟩ = some (.int .i64 5) ∧ w'.cell? ⟨g, 0, none⟩ = some (.func (.func 43) #[] #[.pointer (some ⟨b, 0, none⟩)]))) (by kernel_rfl) ?_ (fun hHeld => ?_)
  · exact ⟨by assumption, by assumption⟩
  repeat' (first | ((first | (refine takeL (i := 0) (v := ?_) rfl (by kernel_rfl) (by decide +kernel) (by decide +kernel) (fun _ _ _ h => h) (Or.inl ⟨by rfl, ?_⟩) (by assumption) ?_; rotate_left; (focus (intro w9 hS9; (try dsimp only at hS9); go_simp; (try with_reducible rfl); done))) | (refine takeL (i := 1) (v := ?_) rfl (by kernel_rfl) (by decide +kernel) (by decide +kernel) (fun _ _ _ h => h) (Or.inl ⟨by rfl, ?_⟩) (by assumption) ?_; rotate_left; (focus (intro w9 hS9; (try dsimp only at hS9); go_simp; (try with_reducible rfl); done))) | (refine takeL (i := 2) (v := ?_) rfl (by kernel_rfl) (by decide +kernel) (by decide +kernel) (fun _ _ _ h => h) (Or.inl ⟨by rfl, ?_⟩) (by assumption) ?_; rotate_left; (focus (intro w9 hS9; (try dsimp only at hS9); go_simp; (try with_reducible rfl); done))) | (refine takeL (i := 3) (v := ?_) rfl (by kernel_rfl) (by decide +kernel) (by decide +kernel) (fun _ _ _ h => h) (Or.inl ⟨by rfl, ?_⟩) (by assumption) ?_; rotate_left; (focus (intro w9 hS9; (try dsimp only at hS9); go_simp; (try with_reducible rfl); done))) | (refine takeL (i := 4) (v := ?_) rfl (by kernel_rfl) (by decide +kernel) (by decide +kernel) (fun _ _ _ h => h) (Or.inl ⟨by rfl, ?_⟩) (by assumption) ?_; rotate_left; (focus (intro w9 hS9; (try dsimp only at hS9); go_simp; (try with_reducible rfl); done))) | (refine takeL (i := 5) (v := ?_) rfl (by kernel_rfl) (by decide +kernel) (by decide +kernel) (fun _ _ _ h => h) (Or.inl ⟨by rfl, ?_⟩) (by assumption) ?_; rotate_left; (focus (intro w9 hS9; (try dsimp only at hS9); go_simp; (try with_reducible rfl); done))) | (refine takeL (i := 6) (v := ?_) rfl (by kernel_rfl) (by decide +kernel) (by decide +kernel) (fun _ _ _ h => h) (Or.inl ⟨by rfl, ?_⟩) (by assumption) ?_; rotate_left; (focus (intro w9 hS9; (try dsimp only at hS9); go_simp; (try with_reducible rfl); done))) | fail); (try simp only [Act.put, List.setIfInBounds_toArray, List.set_cons_zero, List.set_cons_succ])) | ((first | (refine wpAnyH_ready (rs := [1]) (by decide +kernel) (by simp) ?_; refine consL rfl (fun K hK => ?_) ?_; rotate_left; exact AllReadyH.nil) | (refine wpAnyH_ready (rs := [4]) (by decide +kernel) (by simp) ?_; refine consL rfl (fun K hK => ?_) ?_; rotate_left; exact AllReadyH.nil) | (refine wpAnyH_ready (rs := [5]) (by decide +kernel) (by simp) ?_; refine consL rfl (fun K hK => ?_) ?_; rotate_left; exact AllReadyH.nil) | (refine wpAnyH_ready (rs := [6]) (by decide +kernel) (by simp) ?_; refine consL rfl (fun K hK => ?_) ?_; rotate_left; exact AllReadyH.nil) | fail); all_goals ((first | (go_at_call 45; refine (trace_verbs _).mono ?_; rintro e w4 ⟨rfl, hc4, hb4⟩; have HU := Lib.hid (HU0.out.trans (hb4.mono (Nat.le_refl _))); have cv := hc4 5 vb HV.out; (try simp only [heap_drawn] at cv); clear hc4 hb4; have s1d := cell_up HU.out s1; have sgd := cell_up HU.out sg) | (go_at_call 43; refine (text_word b b _ vb _ (HS.out.up HU.out).bd (by first | omega | (simp only [List.length_append, List.length_cons]; omega)) (HS.out.up HU.out).sz).mono ?_; rintro e w5 ⟨rfl, h5⟩; have H5 := Lib.hid ((HS.out.up HU.out).step h5); clear h5; have s1e := H5.out.ev.s1; have sge := func_cell H5.out.gf) | (go_simp; first | done | (first | (go_at_call 45; refine (trace_verbs _).mono ?_; rintro e w4 ⟨rfl, hc4, hb4⟩; have HU := Lib.hid (HU0.out.trans (hb4.mono (Nat.le_refl _))); have cv := hc4 5 vb HV.out; (try simp only [heap_drawn] at cv); clear hc4 hb4; have s1d := cell_up HU.out s1; have sgd := cell_up HU.out sg) | (go_at_call 43; refine (text_word b b _ vb _ (HS.out.up HU.out).bd (by first | omega | (simp only [List.length_append, List.length_cons]; omega)) (HS.out.up HU.out).sz).mono ?_; rintro e w5 ⟨rfl, h5⟩; have H5 := Lib.hid ((HS.out.up HU.out).step h5); clear h5; have s1e := H5.out.ev.s1; have sge := func_cell H5.out.gf))) | go_simp); (first | (with_reducible refine hK.out _ _ ?_ ?_) | (go_wp2_with fail; refine hK.out _ _ ?_ ?_)); (focus (exact ⟨by assumption, by assumption⟩)); clear hK K hHeld; intro hHeld; (try simp only [Act.put, List.setIfInBounds_toArray, List.set_cons_zero, List.set_cons_succ]))) | (refine wpAnyH_done (by decide +kernel) ?_ _) | fail)
  clear hHeld
  replace HS := H5
  clear H5 HU HU0 cv s1d sgd s0 s1 s2 s3 s4 s5 sg d1 dg
  try clear s1e sge
  obtain ⟨s0, s1, s2, s3, s4, s5⟩ := HS.out.ev
  have sg := func_cell HS.out.gf
  clear HV
  obtain ⟨vx, hvx⟩ : ∃ vx, componentsL[a.toNat]? = some vx := ⟨_, List.getElem?_eq_getElem (by simp [componentsL]; omega)⟩
  have hvxl : vx.length ≤ 20 := nm_len componentsL (by decide) hvx
  have HVM := Lib.hid (nmL_at hvx)
  have HV := Lib.hid hvx
  clear hvx
  go_wp2_with (go_at_call 44; refine (text_number b b g _ _ _ HS.out.bd HS.out.gf (by omega) (by omega) (by simp only [List.length_append, List.length_cons]; omega) HS.out.sz (tab_up HTb.out HS.out.hb (Nat.le_of_lt HS.out.lt))).mono ?_; rintro e wy ⟨rfl, h5⟩; replace HS := Lib.hid (HS.out.step h5); clear h5 s0 s1 s2 s3 s4 s5 sg; obtain ⟨s0, s1, s2, s3, s4, s5⟩ := HS.out.ev; have sg := func_cell HS.out.gf)
  have HU0 : Hid (Below w5.heap.size w5 w5.drew) := Lib.hid (below_drawn _)
  have d1 := cell_up HU0.out s3
  have dg := cell_up HU0.out sg
  refine wp_region_held_drew (S := (fun w' => w'.cell? ⟨w.heap.size, 3, none⟩ = some (.int .i64 a) ∧ w'.cell? ⟨g, 0, none⟩ = some (.func (.func 43) #[] #[.pointer (some ⟨b, 0, none⟩)]))) (by kernel_rfl) ?_ (fun hHeld => ?_)
  · exact ⟨by assumption, by assumption⟩
  repeat' (first | ((first | (refine takeL (i := 0) (v := ?_) rfl (by kernel_rfl) (by decide +kernel) (by decide +kernel) (fun _ _ _ h => h) (Or.inl ⟨by rfl, ?_⟩) (by assumption) ?_; rotate_left; (focus (intro w9 hS9; (try dsimp only at hS9); go_simp; (try with_reducible rfl); done))) | (refine takeL (i := 1) (v := ?_) rfl (by kernel_rfl) (by decide +kernel) (by decide +kernel) (fun _ _ _ h => h) (Or.inl ⟨by rfl, ?_⟩) (by assumption) ?_; rotate_left; (focus (intro w9 hS9; (try dsimp only at hS9); go_simp; (try with_reducible rfl); done))) | (refine takeL (i := 2) (v := ?_) rfl (by kernel_rfl) (by decide +kernel) (by decide +kernel) (fun _ _ _ h => h) (Or.inl ⟨by rfl, ?_⟩) (by assumption) ?_; rotate_left; (focus (intro w9 hS9; (try dsimp only at hS9); go_simp; (try with_reducible rfl); done))) | (refine takeL (i := 3) (v := ?_) rfl (by kernel_rfl) (by decide +kernel) (by decide +kernel) (fun _ _ _ h => h) (Or.inl ⟨by rfl, ?_⟩) (by assumption) ?_; rotate_left; (focus (intro w9 hS9; (try dsimp only at hS9); go_simp; (try with_reducible rfl); done))) | (refine takeL (i := 4) (v := ?_) rfl (by kernel_rfl) (by decide +kernel) (by decide +kernel) (fun _ _ _ h => h) (Or.inl ⟨by rfl, ?_⟩) (by assumption) ?_; rotate_left; (focus (intro w9 hS9; (try dsimp only at hS9); go_simp; (try with_reducible rfl); done))) | (refine takeL (i := 5) (v := ?_) rfl (by kernel_rfl) (by decide +kernel) (by decide +kernel) (fun _ _ _ h => h) (Or.inl ⟨by rfl, ?_⟩) (by assumption) ?_; rotate_left; (focus (intro w9 hS9; (try dsimp only at hS9); go_simp; (try with_reducible rfl); done))) | (refine takeL (i := 6) (v := ?_) rfl (by kernel_rfl) (by decide +kernel) (by decide +kernel) (fun _ _ _ h => h) (Or.inl ⟨by rfl, ?_⟩) (by assumption) ?_; rotate_left; (focus (intro w9 hS9; (try dsimp only at hS9); go_simp; (try with_reducible rfl); done))) | fail); (try simp only [Act.put, List.setIfInBounds_toArray, List.set_cons_zero, List.set_cons_succ])) | ((first | (refine wpAnyH_ready (rs := [1]) (by decide +kernel) (by simp) ?_; refine consL rfl (fun K hK => ?_) ?_; rotate_left; exact AllReadyH.nil) | (refine wpAnyH_ready (rs := [4]) (by decide +kernel) (by simp) ?_; refine consL rfl (fun K hK => ?_) ?_; rotate_left; exact AllReadyH.nil) | (refine wpAnyH_ready (rs := [5]) (by decide +kernel) (by simp) ?_; refine consL rfl (fun K hK => ?_) ?_; rotate_left; exact AllReadyH.nil) | (refine wpAnyH_ready (rs := [6]) (by decide +kernel) (by simp) ?_; refine consL rfl (fun K hK => ?_) ?_; rotate_left; exact AllReadyH.nil) | fail); all_goals ((first | (go_at_call 48; refine (trace_components _).mono ?_; rintro e w4 ⟨rfl, hc4, hb4⟩; have HU := Lib.hid (HU0.out.trans (hb4.mono (Nat.le_refl _))); have cv := hc4 a.toNat vx HV.out; (try simp only [heap_drawn] at cv); clear hc4 hb4; have s1d := cell_up HU.out s3; have sgd := cell_up HU.out sg) | (go_at_call 43; refine (text_word b b _ vx _ (HS.out.up HU.out).bd (by first | omega | (simp only [List.length_append, List.length_cons]; omega)) (HS.out.up HU.out).sz).mono ?_; rintro e w5 ⟨rfl, h5⟩; have H5 := Lib.hid ((HS.out.up HU.out).step h5); clear h5; have s1e := H5.out.ev.s3; have sge := func_cell H5.out.gf) | (go_simp; first | done | (first | (go_at_call 48; refine (trace_components _).mono ?_; rintro e w4 ⟨rfl, hc4, hb4⟩; have HU := Lib.hid (HU0.out.trans (hb4.mono (Nat.le_refl _))); have cv := hc4 a.toNat vx HV.out; (try simp only [heap_drawn] at cv); clear hc4 hb4; have s1d := cell_up HU.out s3; have sgd := cell_up HU.out sg) | (go_at_call 43; refine (text_word b b _ vx _ (HS.out.up HU.out).bd (by first | omega | (simp only [List.length_append, List.length_cons]; omega)) (HS.out.up HU.out).sz).mono ?_; rintro e w5 ⟨rfl, h5⟩; have H5 := Lib.hid ((HS.out.up HU.out).step h5); clear h5; have s1e := H5.out.ev.s3; have sge := func_cell H5.out.gf))) | go_simp); (first | (with_reducible refine hK.out _ _ ?_ ?_) | (go_wp2_with fail; refine hK.out _ _ ?_ ?_)); (focus (exact ⟨by assumption, by assumption⟩)); clear hK K hHeld; intro hHeld; (try simp only [Act.put, List.setIfInBounds_toArray, List.set_cons_zero, List.set_cons_succ]))) | (refine wpAnyH_done (by decide +kernel) ?_ _) | fail)
  clear hHeld
  replace HS := H5
  clear H5 HU HU0 cv s1d sgd s0 s1 s2 s3 s4 s5 sg d1 dg
  try clear s1e sge
  obtain ⟨s0, s1, s2, s3, s4, s5⟩ := HS.out.ev
  have sg := func_cell HS.out.gf
  go_wp2_with (first | (go_at_call 44; refine (text_number b b g _ _ _ HS.out.bd HS.out.gf (by omega) (by omega) (by simp only [List.length_append, List.length_cons]; omega) HS.out.sz (tab_up HTb.out HS.out.hb (Nat.le_of_lt HS.out.lt))).mono ?_; rintro e wy ⟨rfl, h5⟩; replace HS := Lib.hid (HS.out.step h5); clear h5 s0 s1 s2 s3 s4 s5 sg; obtain ⟨s0, s1, s2, s3, s4, s5⟩ := HS.out.ev; have sg := func_cell HS.out.gf) | (go_at_call 47; refine (trace_onArc _ _).mono ?_; rintro e wy ⟨rfl, rfl⟩) | (go_at_call 30; refine (Tryd.Builder_String_any b b _ _ HS.out.bd HS.out.sz).mono ?_; rintro e wz ⟨rfl, hz⟩))
  go_ret
  exact ⟨by simp [evT, evWs, wsT, HVN.out, HVM.out], HS.out.hb.trans (hz.mono (Nat.le_of_lt HS.out.lt))⟩
set_option maxRecDepth 100000 in
set_option maxHeartbeats 4000000 in
theorem text_6 (t n a p r : Int) (hok : evOk ⟨t, 6, n, a, p, r⟩ = true) (w : World) (ht : Tab w.heap.size w) : Calls Tryd.prog 28 #[.agg #[.int .i64 t, .int .i64 6, .int .i64 n, .int .i64 a, .int .i64 p, .int .i64 r]] w fun e w' => e = .returned (.string ⟨(evT ⟨t, 6, n, a, p, r⟩).toArray⟩) ∧ Below w.heap.size w w' := by
  obtain ⟨ba2, ba3⟩ := evOk_6 hok
  have ba4 : a < 4 := by omega
  have HTb := Lib.hid ht
  have HOK := Lib.hid hok
  obtain ⟨bt0, bt1, bn0, bn1, ba0, ba1, bp0, bp1, br0, br1⟩ := evOk_bd hok
  simp only at bt0 bt1 bn0 bn1 ba0 ba1 bp0 bp1 br0 br1
  have hin := Lib.itoa_length_le n (by omega) (by omega)
  have hia := Lib.itoa_length_le a (by omega) (by omega)
  have hip := Lib.itoa_length_le p (by omega) (by omega)
  have hir := Lib.itoa_length_le r (by omega) (by omega)
  clear ht hok
  have HB := below_box w (.cells #[.int .i64 t, .int .i64 6, .int .i64 n, .int .i64 a, .int .i64 p, .int .i64 r] 40)
  have HE : Hid (EvAt (w.alloc (.cells #[.int .i64 t, .int .i64 6, .int .i64 n, .int .i64 a, .int .i64 p, .int .i64 r] 40)) w.heap.size t 6 n a p r) := Lib.hid ⟨by simp, by simp, by simp, by simp, by simp, by simp⟩
  have s0 := HE.out.s0
  go_enter Tryd.func28, Tryd.ntmps28
  go_wp2_with fail
  obtain ⟨W, hW⟩ : ∃ W, w.alloc (.cells #[.int .i64 t, .int .i64 6, .int .i64 n, .int .i64 a, .int .i64 p, .int .i64 r] 40) = W := ⟨_, rfl⟩
  have hWs : W.heap.size = w.heap.size + 1 := by rw [← hW]; simp
  rw [hW] at HB HE s0 ⊢
  rw [← hWs]
  have hWl : w.heap.size < W.heap.size := by omega
  clear hW hWs
  have HBX := Lib.fresh_isBuilder 55 5 W
  have hbb := below_box W (.cells #[.pointer none, .slice none 0 0] 55)
  have ht1 := tab_up HTb.out HB HB.size
  refine (strconv_Itoa t (by omega) (by omega) W.heap.size _ (tab_up ht1 hbb (Nat.le_refl _))).mono ?_
  rintro e w2 ⟨rfl, hb2⟩
  have hs2 := hb2.size
  have hB2 : Below W.heap.size W w2 := hbb.trans (hb2.mono (by simp))
  go_wp2_with fail
  refine (builder_WriteString W.heap.size W.heap.size _ _ _ (IsBuilder.up HBX hb2) (by have := Lib.itoa_length_le t (by omega) (by omega); simp only [List.length_nil, ByteArray.size, List.size_toArray]; omega) hB2.size).mono ?_
  rintro e w3 ⟨rfl, h3, hb3, hk3⟩
  have hB3 := hB2.trans hb3
  have h3 : Lib.IsBuilder 55 5 W.heap.size W.heap.size (Lib.byteCells (Lib.itoa t)) w3 := by simpa [Lib.strCells_eq] using h3
  have HS : Hid (TxS w W.heap.size w3.heap.size (Lib.itoa t) t 6 n a p r (w3.alloc (.cells #[.func (.func 43) #[] #[.pointer (some ⟨W.heap.size, 0, none⟩)]] 91))) := Lib.hid ⟨IsBuilder.up h3 (below_box _ _), heap_alloc_new _ _, (HE.out.up hB3).up (below_box _ _), below_next (below_next HB hB3) (below_box _ _), by omega, by have := hB3.size; simp; omega⟩
  have hit := Lib.itoa_length_le t (by omega) (by omega)
  clear hb2 hs2 hB2 h3 hb3 hk3 hB3 HBX hbb ht1 s0 HE HB
  go_upto_region 5 with fail
  generalize w3.alloc (.cells #[.func (.func 43) #[] #[.pointer (some ⟨W.heap.size, 0, none⟩)]] 91) = W5 at *
  generalize w3.heap.size = g at *
  have hWl2 := hWl
  generalize W.heap.size = b at *
  obtain ⟨vb, hvb⟩ : ∃ vb, verbsL[6]? = some vb := ⟨_, rfl⟩
  have hvl : vb.length ≤ 20 := nm_len verbsL (by decide) hvb
  have HVN : Hid (nmL verbsL 6 = vb) := Lib.hid (nmL_at hvb)
  have HV := Lib.hid hvb
  clear hvb
  obtain ⟨s0, s1, s2, s3, s4, s5⟩ := HS.out.ev
  have sg := func_cell HS.out.gf
  have HU0 : Hid (Below W5.heap.size W5 W5.drew) := Lib.hid (below_drawn _)
  have d1 := cell_up HU0.out s1
  have dg := cell_up HU0.out sg
  refine wp_region_held_drew (S := (fun w' => w'.cell? ⟨w.heap.size, 1, none⟩ = some (.int .i64 6) ∧ w'.cell? ⟨g, 0, none⟩ = some (.func (.func 43) #[] #[.pointer (some ⟨b, 0, none⟩)]))) (by kernel_rfl) ?_ (fun hHeld => ?_)
  · exact ⟨by assumption, by assumption⟩
  repeat' (first | ((first | (refine takeL (i := 0) (v := ?_) rfl (by kernel_rfl) (by decide +kernel) (by decide +kernel) (fun _ _ _ h => h) (Or.inl ⟨by rfl, ?_⟩) (by assumption) ?_; rotate_left; (focus (intro w9 hS9; (try dsimp only at hS9); go_simp; (try with_reducible rfl); done))) | (refine takeL (i := 1) (v := ?_) rfl (by kernel_rfl) (by decide +kernel) (by decide +kernel) (fun _ _ _ h => h) (Or.inl ⟨by rfl, ?_⟩) (by assumption) ?_; rotate_left; (focus (intro w9 hS9; (try dsimp only at hS9); go_simp; (try with_reducible rfl); done))) | (refine takeL (i := 2) (v := ?_) rfl (by kernel_rfl) (by decide +kernel) (by decide +kernel) (fun _ _ _ h => h) (Or.inl ⟨by rfl, ?_⟩) (by assumption) ?_; rotate_left; (focus (intro w9 hS9; (try dsimp only at hS9); go_simp; (try with_reducible rfl); done))) | (refine takeL (i := 3) (v := ?_) rfl (by kernel_rfl) (by decide +kernel) (by decide +kernel) (fun _ _ _ h => h) (Or.inl ⟨by rfl, ?_⟩) (by assumption) ?_; rotate_left; (focus (intro w9 hS9; (try dsimp only at hS9); go_simp; (try with_reducible rfl); done))) | (refine takeL (i := 4) (v := ?_) rfl (by kernel_rfl) (by decide +kernel) (by decide +kernel) (fun _ _ _ h => h) (Or.inl ⟨by rfl, ?_⟩) (by assumption) ?_; rotate_left; (focus (intro w9 hS9; (try dsimp only at hS9); go_simp; (try with_reducible rfl); done))) | (refine takeL (i := 5) (v := ?_) rfl (by kernel_rfl) (by decide +kernel) (by decide +kernel) (fun _ _ _ h => h) (Or.inl ⟨by rfl, ?_⟩) (by assumption) ?_; rotate_left; (focus (intro w9 hS9; (try dsimp only at hS9); go_simp; (try with_reducible rfl); done))) | (refine takeL (i := 6) (v := ?_) rfl (by kernel_rfl) (by decide +kernel) (by decide +kernel) (fun _ _ _ h => h) (Or.inl ⟨by rfl, ?_⟩) (by assumption) ?_; rotate_left; (focus (intro w9 hS9; (try dsimp only at hS9); go_simp; (try with_reducible rfl); done))) | fail); (try simp only [Act.put, List.setIfInBounds_toArray, List.set_cons_zero, List.set_cons_succ])) | ((first | (refine wpAnyH_ready (rs := [1]) (by decide +kernel) (by simp) ?_; refine consL rfl (fun K hK => ?_) ?_; rotate_left; exact AllReadyH.nil) | (refine wpAnyH_ready (rs := [4]) (by decide +kernel) (by simp) ?_; refine consL rfl (fun K hK => ?_) ?_; rotate_left; exact AllReadyH.nil) | (refine wpAnyH_ready (rs := [5]) (by decide +kernel) (by simp) ?_; refine consL rfl (fun K hK => ?_) ?_; rotate_left; exact AllReadyH.nil) | (refine wpAnyH_ready (rs := [6]) (by decide +kernel) (by simp) ?_; refine consL rfl (fun K hK => ?_) ?_; rotate_left; exact AllReadyH.nil) | fail); all_goals ((first | (go_at_call 45; refine (trace_verbs _).mono ?_; rintro e w4 ⟨rfl, hc4, hb4⟩; have HU := Lib.hid (HU0.out.trans (hb4.mono (Nat.le_refl _))); have cv := hc4 6 vb HV.out; (try simp only [heap_drawn] at cv); clear hc4 hb4; have s1d := cell_up HU.out s1; have sgd := cell_up HU.out sg) | (go_at_call 43; refine (text_word b b _ vb _ (HS.out.up HU.out).bd (by first | omega | (simp only [List.length_append, List.length_cons]; omega)) (HS.out.up HU.out).sz).mono ?_; rintro e w5 ⟨rfl, h5⟩; have H5 := Lib.hid ((HS.out.up HU.out).step h5); clear h5; have s1e := H5.out.ev.s1; have sge := func_cell H5.out.gf) | (go_simp; first | done | (first | (go_at_call 45; refine (trace_verbs _).mono ?_; rintro e w4 ⟨rfl, hc4, hb4⟩; have HU := Lib.hid (HU0.out.trans (hb4.mono (Nat.le_refl _))); have cv := hc4 6 vb HV.out; (try simp only [heap_drawn] at cv); clear hc4 hb4; have s1d := cell_up HU.out s1; have sgd := cell_up HU.out sg) | (go_at_call 43; refine (text_word b b _ vb _ (HS.out.up HU.out).bd (by first | omega | (simp only [List.length_append, List.length_cons]; omega)) (HS.out.up HU.out).sz).mono ?_; rintro e w5 ⟨rfl, h5⟩; have H5 := Lib.hid ((HS.out.up HU.out).step h5); clear h5; have s1e := H5.out.ev.s1; have sge := func_cell H5.out.gf))) | go_simp); (first | (with_reducible refine hK.out _ _ ?_ ?_) | (go_wp2_with fail; refine hK.out _ _ ?_ ?_)); (focus (exact ⟨by assumption, by assumption⟩)); clear hK K hHeld; intro hHeld; (try simp only [Act.put, List.setIfInBounds_toArray, List.set_cons_zero, List.set_cons_succ]))) | (refine wpAnyH_done (by decide +kernel) ?_ _) | fail)
  clear hHeld
  replace HS := H5
  clear H5 HU HU0 cv s1d sgd s0 s1 s2 s3 s4 s5 sg d1 dg
  try clear s1e sge
  obtain ⟨s0, s1, s2, s3, s4, s5⟩ := HS.out.ev
  have sg := func_cell HS.out.gf
  clear HV
  obtain ⟨vx, hvx⟩ : ∃ vx, componentsL[a.toNat]? = some vx := ⟨_, List.getElem?_eq_getElem (by simp [componentsL]; omega)⟩
  have hvxl : vx.length ≤ 20 := nm_len componentsL (by decide) hvx
  have HVM := Lib.hid (nmL_at hvx)
  have HV := Lib.hid hvx
  clear hvx
  go_wp2_with (go_at_call 44; refine (text_number b b g _ _ _ HS.out.bd HS.out.gf (by omega) (by omega) (by simp only [List.length_append, List.length_cons]; omega) HS.out.sz (tab_up HTb.out HS.out.hb (Nat.le_of_lt HS.out.lt))).mono ?_; rintro e wy ⟨rfl, h5⟩; replace HS := Lib.hid (HS.out.step h5); clear h5 s0 s1 s2 s3 s4 s5 sg; obtain ⟨s0, s1, s2, s3, s4, s5⟩ := HS.out.ev; have sg := func_cell HS.out.gf)
  have HU0 : Hid (Below w5.heap.size w5 w5.drew) := Lib.hid (below_drawn _)
  have d1 := cell_up HU0.out s3
  have dg := cell_up HU0.out sg
  refine wp_region_held_drew (S := (fun w' => w'.cell? ⟨w.heap.size, 3, none⟩ = some (.int .i64 a) ∧ w'.cell? ⟨g, 0, none⟩ = some (.func (.func 43) #[] #[.pointer (some ⟨b, 0, none⟩)]))) (by kernel_rfl) ?_ (fun hHeld => ?_)
  · exact ⟨by assumption, by assumption⟩
  repeat' (first | ((first | (refine takeL (i := 0) (v := ?_) rfl (by kernel_rfl) (by decide +kernel) (by decide +kernel) (fun _ _ _ h => h) (Or.inl ⟨by rfl, ?_⟩) (by assumption) ?_; rotate_left; (focus (intro w9 hS9; (try dsimp only at hS9); go_simp; (try with_reducible rfl); done))) | (refine takeL (i := 1) (v := ?_) rfl (by kernel_rfl) (by decide +kernel) (by decide +kernel) (fun _ _ _ h => h) (Or.inl ⟨by rfl, ?_⟩) (by assumption) ?_; rotate_left; (focus (intro w9 hS9; (try dsimp only at hS9); go_simp; (try with_reducible rfl); done))) | (refine takeL (i := 2) (v := ?_) rfl (by kernel_rfl) (by decide +kernel) (by decide +kernel) (fun _ _ _ h => h) (Or.inl ⟨by rfl, ?_⟩) (by assumption) ?_; rotate_left; (focus (intro w9 hS9; (try dsimp only at hS9); go_simp; (try with_reducible rfl); done))) | (refine takeL (i := 3) (v := ?_) rfl (by kernel_rfl) (by decide +kernel) (by decide +kernel) (fun _ _ _ h => h) (Or.inl ⟨by rfl, ?_⟩) (by assumption) ?_; rotate_left; (focus (intro w9 hS9; (try dsimp only at hS9); go_simp; (try with_reducible rfl); done))) | (refine takeL (i := 4) (v := ?_) rfl (by kernel_rfl) (by decide +kernel) (by decide +kernel) (fun _ _ _ h => h) (Or.inl ⟨by rfl, ?_⟩) (by assumption) ?_; rotate_left; (focus (intro w9 hS9; (try dsimp only at hS9); go_simp; (try with_reducible rfl); done))) | (refine takeL (i := 5) (v := ?_) rfl (by kernel_rfl) (by decide +kernel) (by decide +kernel) (fun _ _ _ h => h) (Or.inl ⟨by rfl, ?_⟩) (by assumption) ?_; rotate_left; (focus (intro w9 hS9; (try dsimp only at hS9); go_simp; (try with_reducible rfl); done))) | (refine takeL (i := 6) (v := ?_) rfl (by kernel_rfl) (by decide +kernel) (by decide +kernel) (fun _ _ _ h => h) (Or.inl ⟨by rfl, ?_⟩) (by assumption) ?_; rotate_left; (focus (intro w9 hS9; (try dsimp only at hS9); go_simp; (try with_reducible rfl); done))) | fail); (try simp only [Act.put, List.setIfInBounds_toArray, List.set_cons_zero, List.set_cons_succ])) | ((first | (refine wpAnyH_ready (rs := [1]) (by decide +kernel) (by simp) ?_; refine consL rfl (fun K hK => ?_) ?_; rotate_left; exact AllReadyH.nil) | (refine wpAnyH_ready (rs := [4]) (by decide +kernel) (by simp) ?_; refine consL rfl (fun K hK => ?_) ?_; rotate_left; exact AllReadyH.nil) | (refine wpAnyH_ready (rs := [5]) (by decide +kernel) (by simp) ?_; refine consL rfl (fun K hK => ?_) ?_; rotate_left; exact AllReadyH.nil) | (refine wpAnyH_ready (rs := [6]) (by decide +kernel) (by simp) ?_; refine consL rfl (fun K hK => ?_) ?_; rotate_left; exact AllReadyH.nil) | fail); all_goals ((first | (go_at_call 48; refine (trace_components _).mono ?_; rintro e w4 ⟨rfl, hc4, hb4⟩; have HU := Lib.hid (HU0.out.trans (hb4.mono (Nat.le_refl _))); have cv := hc4 a.toNat vx HV.out; (try simp only [heap_drawn] at cv); clear hc4 hb4; have s1d := cell_up HU.out s3; have sgd := cell_up HU.out sg) | (go_at_call 43; refine (text_word b b _ vx _ (HS.out.up HU.out).bd (by first | omega | (simp only [List.length_append, List.length_cons]; omega)) (HS.out.up HU.out).sz).mono ?_; rintro e w5 ⟨rfl, h5⟩; have H5 := Lib.hid ((HS.out.up HU.out).step h5); clear h5; have s1e := H5.out.ev.s3; have sge := func_cell H5.out.gf) | (go_simp; first | done | (first | (go_at_call 48; refine (trace_components _).mono ?_; rintro e w4 ⟨rfl, hc4, hb4⟩; have HU := Lib.hid (HU0.out.trans (hb4.mono (Nat.le_refl _))); have cv := hc4 a.toNat vx HV.out; (try simp only [heap_drawn] at cv); clear hc4 hb4; have s1d := cell_up HU.out s3; have sgd := cell_up HU.out sg) | (go_at_call 43; refine (text_word b b _ vx _ (HS.out.up HU.out).bd (by first | omega | (simp only [List.length_append, List.length_cons]; omega)) (HS.out.up HU.out).sz).mono ?_; rintro e w5 ⟨rfl, h5⟩; have H5 := Lib.hid ((HS.out.up HU.out).step h5); clear h5; have s1e := H5.out.ev.s3; have sge := func_cell H5.out.gf))) | go_simp); (first | (with_reducible refine hK.out _ _ ?_ ?_) | (go_wp2_with fail; refine hK.out _ _ ?_ ?_)); (focus (exact ⟨by assumption, by assumption⟩)); clear hK K hHeld; intro hHeld; (try simp only [Act.put, List.setIfInBounds_toArray, List.set_cons_zero, List.set_cons_succ]))) | (refine wpAnyH_done (by decide +kernel) ?_ _) | fail)
  clear hHeld
  replace HS := H5
  clear H5 HU HU0 cv s1d sgd s0 s1 s2 s3 s4 s5 sg d1 dg
  try clear s1e sge
  obtain ⟨s0, s1, s2, s3, s4, s5⟩ := HS.out.ev
  have sg := func_cell HS.out.gf
  go_wp2_with (first | (go_at_call 44; refine (text_number b b g _ _ _ HS.out.bd HS.out.gf (by omega) (by omega) (by simp only [List.length_append, List.length_cons]; omega) HS.out.sz (tab_up HTb.out HS.out.hb (Nat.le_of_lt HS.out.lt))).mono ?_; rintro e wy ⟨rfl, h5⟩; replace HS := Lib.hid (HS.out.step h5); clear h5 s0 s1 s2 s3 s4 s5 sg; obtain ⟨s0, s1, s2, s3, s4, s5⟩ := HS.out.ev; have sg := func_cell HS.out.gf) | (go_at_call 47; refine (trace_onArc _ _).mono ?_; rintro e wy ⟨rfl, rfl⟩) | (go_at_call 30; refine (Tryd.Builder_String_any b b _ _ HS.out.bd HS.out.sz).mono ?_; rintro e wz ⟨rfl, hz⟩))
  go_ret
  exact ⟨by simp [evT, evWs, wsT, HVN.out, HVM.out], HS.out.hb.trans (hz.mono (Nat.le_of_lt HS.out.lt))⟩
set_option maxRecDepth 100000 in
set_option maxHeartbeats 4000000 in
theorem text_7 (t n a p r : Int) (hok : evOk ⟨t, 7, n, a, p, r⟩ = true) (w : World) (ht : Tab w.heap.size w) : Calls Tryd.prog 28 #[.agg #[.int .i64 t, .int .i64 7, .int .i64 n, .int .i64 a, .int .i64 p, .int .i64 r]] w fun e w' => e = .returned (.string ⟨(evT ⟨t, 7, n, a, p, r⟩).toArray⟩) ∧ Below w.heap.size w w' := by
  obtain ⟨br2, br3⟩ := evOk_7 hok
  have br4 : r < 3 := by omega
  have HTb := Lib.hid ht
  have HOK := Lib.hid hok
  obtain ⟨bt0, bt1, bn0, bn1, ba0, ba1, bp0, bp1, br0, br1⟩ := evOk_bd hok
  simp only at bt0 bt1 bn0 bn1 ba0 ba1 bp0 bp1 br0 br1
  have hin := Lib.itoa_length_le n (by omega) (by omega)
  have hia := Lib.itoa_length_le a (by omega) (by omega)
  have hip := Lib.itoa_length_le p (by omega) (by omega)
  have hir := Lib.itoa_length_le r (by omega) (by omega)
  clear ht hok
  have HB := below_box w (.cells #[.int .i64 t, .int .i64 7, .int .i64 n, .int .i64 a, .int .i64 p, .int .i64 r] 40)
  have HE : Hid (EvAt (w.alloc (.cells #[.int .i64 t, .int .i64 7, .int .i64 n, .int .i64 a, .int .i64 p, .int .i64 r] 40)) w.heap.size t 7 n a p r) := Lib.hid ⟨by simp, by simp, by simp, by simp, by simp, by simp⟩
  have s0 := HE.out.s0
  go_enter Tryd.func28, Tryd.ntmps28
  go_wp2_with fail
  obtain ⟨W, hW⟩ : ∃ W, w.alloc (.cells #[.int .i64 t, .int .i64 7, .int .i64 n, .int .i64 a, .int .i64 p, .int .i64 r] 40) = W := ⟨_, rfl⟩
  have hWs : W.heap.size = w.heap.size + 1 := by rw [← hW]; simp
  rw [hW] at HB HE s0 ⊢
  rw [← hWs]
  have hWl : w.heap.size < W.heap.size := by omega
  clear hW hWs
  have HBX := Lib.fresh_isBuilder 55 5 W
  have hbb := below_box W (.cells #[.pointer none, .slice none 0 0] 55)
  have ht1 := tab_up HTb.out HB HB.size
  refine (strconv_Itoa t (by omega) (by omega) W.heap.size _ (tab_up ht1 hbb (Nat.le_refl _))).mono ?_
  rintro e w2 ⟨rfl, hb2⟩
  have hs2 := hb2.size
  have hB2 : Below W.heap.size W w2 := hbb.trans (hb2.mono (by simp))
  go_wp2_with fail
  refine (builder_WriteString W.heap.size W.heap.size _ _ _ (IsBuilder.up HBX hb2) (by have := Lib.itoa_length_le t (by omega) (by omega); simp only [List.length_nil, ByteArray.size, List.size_toArray]; omega) hB2.size).mono ?_
  rintro e w3 ⟨rfl, h3, hb3, hk3⟩
  have hB3 := hB2.trans hb3
  have h3 : Lib.IsBuilder 55 5 W.heap.size W.heap.size (Lib.byteCells (Lib.itoa t)) w3 := by simpa [Lib.strCells_eq] using h3
  have HS : Hid (TxS w W.heap.size w3.heap.size (Lib.itoa t) t 7 n a p r (w3.alloc (.cells #[.func (.func 43) #[] #[.pointer (some ⟨W.heap.size, 0, none⟩)]] 91))) := Lib.hid ⟨IsBuilder.up h3 (below_box _ _), heap_alloc_new _ _, (HE.out.up hB3).up (below_box _ _), below_next (below_next HB hB3) (below_box _ _), by omega, by have := hB3.size; simp; omega⟩
  have hit := Lib.itoa_length_le t (by omega) (by omega)
  clear hb2 hs2 hB2 h3 hb3 hk3 hB3 HBX hbb ht1 s0 HE HB
  go_upto_region 5 with fail
  generalize w3.alloc (.cells #[.func (.func 43) #[] #[.pointer (some ⟨W.heap.size, 0, none⟩)]] 91) = W5 at *
  generalize w3.heap.size = g at *
  have hWl2 := hWl
  generalize W.heap.size = b at *
  obtain ⟨vb, hvb⟩ : ∃ vb, verbsL[7]? = some vb := ⟨_, rfl⟩
  have hvl : vb.length ≤ 20 := nm_len verbsL (by decide) hvb
  have HVN : Hid (nmL verbsL 7 = vb) := Lib.hid (nmL_at hvb)
  have HV := Lib.hid hvb
  clear hvb
  obtain ⟨s0, s1, s2, s3, s4, s5⟩ := HS.out.ev
  have sg := func_cell HS.out.gf
  have HU0 : Hid (Below W5.heap.size W5 W5.drew) := Lib.hid (below_drawn _)
  have d1 := cell_up HU0.out s1
  have dg := cell_up HU0.out sg
  refine wp_region_held_drew (S := (fun w' => w'.cell? ⟨w.heap.size, 1, none⟩ = some (.int .i64 7) ∧ w'.cell? ⟨g, 0, none⟩ = some (.func (.func 43) #[] #[.pointer (some ⟨b, 0, none⟩)]))) (by kernel_rfl) ?_ (fun hHeld => ?_)
  · exact ⟨by assumption, by assumption⟩
  repeat' (first | ((first | (refine takeL (i := 0) (v := ?_) rfl (by kernel_rfl) (by decide +kernel) (by decide +kernel) (fun _ _ _ h => h) (Or.inl ⟨by rfl, ?_⟩) (by assumption) ?_; rotate_left; (focus (intro w9 hS9; (try dsimp only at hS9); go_simp; (try with_reducible rfl); done))) | (refine takeL (i := 1) (v := ?_) rfl (by kernel_rfl) (by decide +kernel) (by decide +kernel) (fun _ _ _ h => h) (Or.inl ⟨by rfl, ?_⟩) (by assumption) ?_; rotate_left; (focus (intro w9 hS9; (try dsimp only at hS9); go_simp; (try with_reducible rfl); done))) | (refine takeL (i := 2) (v := ?_) rfl (by kernel_rfl) (by decide +kernel) (by decide +kernel) (fun _ _ _ h => h) (Or.inl ⟨by rfl, ?_⟩) (by assumption) ?_; rotate_left; (focus (intro w9 hS9; (try dsimp only at hS9); go_simp; (try with_reducible rfl); done))) | (refine takeL (i := 3) (v := ?_) rfl (by kernel_rfl) (by decide +kernel) (by decide +kernel) (fun _ _ _ h => h) (Or.inl ⟨by rfl, ?_⟩) (by assumption) ?_; rotate_left; (focus (intro w9 hS9; (try dsimp only at hS9); go_simp; (try with_reducible rfl); done))) | (refine takeL (i := 4) (v := ?_) rfl (by kernel_rfl) (by decide +kernel) (by decide +kernel) (fun _ _ _ h => h) (Or.inl ⟨by rfl, ?_⟩) (by assumption) ?_; rotate_left; (focus (intro w9 hS9; (try dsimp only at hS9); go_simp; (try with_reducible rfl); done))) | (refine takeL (i := 5) (v := ?_) rfl (by kernel_rfl) (by decide +kernel) (by decide +kernel) (fun _ _ _ h => h) (Or.inl ⟨by rfl, ?_⟩) (by assumption) ?_; rotate_left; (focus (intro w9 hS9; (try dsimp only at hS9); go_simp; (try with_reducible rfl); done))) | (refine takeL (i := 6) (v := ?_) rfl (by kernel_rfl) (by decide +kernel) (by decide +kernel) (fun _ _ _ h => h) (Or.inl ⟨by rfl, ?_⟩) (by assumption) ?_; rotate_left; (focus (intro w9 hS9; (try dsimp only at hS9); go_simp; (try with_reducible rfl); done))) | fail); (try simp only [Act.put, List.setIfInBounds_toArray, List.set_cons_zero, List.set_cons_succ])) | ((first | (refine wpAnyH_ready (rs := [1]) (by decide +kernel) (by simp) ?_; refine consL rfl (fun K hK => ?_) ?_; rotate_left; exact AllReadyH.nil) | (refine wpAnyH_ready (rs := [4]) (by decide +kernel) (by simp) ?_; refine consL rfl (fun K hK => ?_) ?_; rotate_left; exact AllReadyH.nil) | (refine wpAnyH_ready (rs := [5]) (by decide +kernel) (by simp) ?_; refine consL rfl (fun K hK => ?_) ?_; rotate_left; exact AllReadyH.nil) | (refine wpAnyH_ready (rs := [6]) (by decide +kernel) (by simp) ?_; refine consL rfl (fun K hK => ?_) ?_; rotate_left; exact AllReadyH.nil) | fail); all_goals ((first | (go_at_call 45; refine (trace_verbs _).mono ?_; rintro e w4 ⟨rfl, hc4, hb4⟩; have HU := Lib.hid (HU0.out.trans (hb4.mono (Nat.le_refl _))); have cv := hc4 7 vb HV.out; (try simp only [heap_drawn] at cv); clear hc4 hb4; have s1d := cell_up HU.out s1; have sgd := cell_up HU.out sg) | (go_at_call 43; refine (text_word b b _ vb _ (HS.out.up HU.out).bd (by first | omega | (simp only [List.length_append, List.length_cons]; omega)) (HS.out.up HU.out).sz).mono ?_; rintro e w5 ⟨rfl, h5⟩; have H5 := Lib.hid ((HS.out.up HU.out).step h5); clear h5; have s1e := H5.out.ev.s1; have sge := func_cell H5.out.gf) | (go_simp; first | done | (first | (go_at_call 45; refine (trace_verbs _).mono ?_; rintro e w4 ⟨rfl, hc4, hb4⟩; have HU := Lib.hid (HU0.out.trans (hb4.mono (Nat.le_refl _))); have cv := hc4 7 vb HV.out; (try simp only [heap_drawn] at cv); clear hc4 hb4; have s1d := cell_up HU.out s1; have sgd := cell_up HU.out sg) | (go_at_call 43; refine (text_word b b _ vb _ (HS.out.up HU.out).bd (by first | omega | (simp only [List.length_append, List.length_cons]; omega)) (HS.out.up HU.out).sz).mono ?_; rintro e w5 ⟨rfl, h5⟩; have H5 := Lib.hid ((HS.out.up HU.out).step h5); clear h5; have s1e := H5.out.ev.s1; have sge := func_cell H5.out.gf))) | go_simp); (first | (with_reducible refine hK.out _ _ ?_ ?_) | (go_wp2_with fail; refine hK.out _ _ ?_ ?_)); (focus (exact ⟨by assumption, by assumption⟩)); clear hK K hHeld; intro hHeld; (try simp only [Act.put, List.setIfInBounds_toArray, List.set_cons_zero, List.set_cons_succ]))) | (refine wpAnyH_done (by decide +kernel) ?_ _) | fail)
  clear hHeld
  replace HS := H5
  clear H5 HU HU0 cv s1d sgd s0 s1 s2 s3 s4 s5 sg d1 dg
  try clear s1e sge
  obtain ⟨s0, s1, s2, s3, s4, s5⟩ := HS.out.ev
  have sg := func_cell HS.out.gf
  clear HV
  obtain ⟨vx, hvx⟩ : ∃ vx, changesL[r.toNat]? = some vx := ⟨_, List.getElem?_eq_getElem (by simp [changesL]; omega)⟩
  have hvxl : vx.length ≤ 20 := nm_len changesL (by decide) hvx
  have HVM := Lib.hid (nmL_at hvx)
  have HV := Lib.hid hvx
  clear hvx
  go_wp2_with (go_at_call 44; refine (text_number b b g _ _ _ HS.out.bd HS.out.gf (by omega) (by omega) (by simp only [List.length_append, List.length_cons]; omega) HS.out.sz (tab_up HTb.out HS.out.hb (Nat.le_of_lt HS.out.lt))).mono ?_; rintro e wy ⟨rfl, h5⟩; replace HS := Lib.hid (HS.out.step h5); clear h5 s0 s1 s2 s3 s4 s5 sg; obtain ⟨s0, s1, s2, s3, s4, s5⟩ := HS.out.ev; have sg := func_cell HS.out.gf)
  have HU0 : Hid (Below wy.heap.size wy wy.drew) := Lib.hid (below_drawn _)
  have d1 := cell_up HU0.out s5
  have dg := cell_up HU0.out sg
  refine wp_region_held_drew (S := (fun w' => w'.cell? ⟨w.heap.size, 5, none⟩ = some (.int .i64 r) ∧ w'.cell? ⟨g, 0, none⟩ = some (.func (.func 43) #[] #[.pointer (some ⟨b, 0, none⟩)]))) (by kernel_rfl) ?_ (fun hHeld => ?_)
  · exact ⟨by assumption, by assumption⟩
  repeat' (first | ((first | (refine takeL (i := 0) (v := ?_) rfl (by kernel_rfl) (by decide +kernel) (by decide +kernel) (fun _ _ _ h => h) (Or.inl ⟨by rfl, ?_⟩) (by assumption) ?_; rotate_left; (focus (intro w9 hS9; (try dsimp only at hS9); go_simp; (try with_reducible rfl); done))) | (refine takeL (i := 1) (v := ?_) rfl (by kernel_rfl) (by decide +kernel) (by decide +kernel) (fun _ _ _ h => h) (Or.inl ⟨by rfl, ?_⟩) (by assumption) ?_; rotate_left; (focus (intro w9 hS9; (try dsimp only at hS9); go_simp; (try with_reducible rfl); done))) | (refine takeL (i := 2) (v := ?_) rfl (by kernel_rfl) (by decide +kernel) (by decide +kernel) (fun _ _ _ h => h) (Or.inl ⟨by rfl, ?_⟩) (by assumption) ?_; rotate_left; (focus (intro w9 hS9; (try dsimp only at hS9); go_simp; (try with_reducible rfl); done))) | (refine takeL (i := 3) (v := ?_) rfl (by kernel_rfl) (by decide +kernel) (by decide +kernel) (fun _ _ _ h => h) (Or.inl ⟨by rfl, ?_⟩) (by assumption) ?_; rotate_left; (focus (intro w9 hS9; (try dsimp only at hS9); go_simp; (try with_reducible rfl); done))) | (refine takeL (i := 4) (v := ?_) rfl (by kernel_rfl) (by decide +kernel) (by decide +kernel) (fun _ _ _ h => h) (Or.inl ⟨by rfl, ?_⟩) (by assumption) ?_; rotate_left; (focus (intro w9 hS9; (try dsimp only at hS9); go_simp; (try with_reducible rfl); done))) | (refine takeL (i := 5) (v := ?_) rfl (by kernel_rfl) (by decide +kernel) (by decide +kernel) (fun _ _ _ h => h) (Or.inl ⟨by rfl, ?_⟩) (by assumption) ?_; rotate_left; (focus (intro w9 hS9; (try dsimp only at hS9); go_simp; (try with_reducible rfl); done))) | (refine takeL (i := 6) (v := ?_) rfl (by kernel_rfl) (by decide +kernel) (by decide +kernel) (fun _ _ _ h => h) (Or.inl ⟨by rfl, ?_⟩) (by assumption) ?_; rotate_left; (focus (intro w9 hS9; (try dsimp only at hS9); go_simp; (try with_reducible rfl); done))) | fail); (try simp only [Act.put, List.setIfInBounds_toArray, List.set_cons_zero, List.set_cons_succ])) | ((first | (refine wpAnyH_ready (rs := [1]) (by decide +kernel) (by simp) ?_; refine consL rfl (fun K hK => ?_) ?_; rotate_left; exact AllReadyH.nil) | (refine wpAnyH_ready (rs := [4]) (by decide +kernel) (by simp) ?_; refine consL rfl (fun K hK => ?_) ?_; rotate_left; exact AllReadyH.nil) | (refine wpAnyH_ready (rs := [5]) (by decide +kernel) (by simp) ?_; refine consL rfl (fun K hK => ?_) ?_; rotate_left; exact AllReadyH.nil) | (refine wpAnyH_ready (rs := [6]) (by decide +kernel) (by simp) ?_; refine consL rfl (fun K hK => ?_) ?_; rotate_left; exact AllReadyH.nil) | fail); all_goals ((first | (go_at_call 49; refine (trace_changes _).mono ?_; rintro e w4 ⟨rfl, hc4, hb4⟩; have HU := Lib.hid (HU0.out.trans (hb4.mono (Nat.le_refl _))); have cv := hc4 r.toNat vx HV.out; (try simp only [heap_drawn] at cv); clear hc4 hb4; have s1d := cell_up HU.out s5; have sgd := cell_up HU.out sg) | (go_at_call 43; refine (text_word b b _ vx _ (HS.out.up HU.out).bd (by first | omega | (simp only [List.length_append, List.length_cons]; omega)) (HS.out.up HU.out).sz).mono ?_; rintro e w5 ⟨rfl, h5⟩; have H5 := Lib.hid ((HS.out.up HU.out).step h5); clear h5; have s1e := H5.out.ev.s5; have sge := func_cell H5.out.gf) | (go_simp; first | done | (first | (go_at_call 49; refine (trace_changes _).mono ?_; rintro e w4 ⟨rfl, hc4, hb4⟩; have HU := Lib.hid (HU0.out.trans (hb4.mono (Nat.le_refl _))); have cv := hc4 r.toNat vx HV.out; (try simp only [heap_drawn] at cv); clear hc4 hb4; have s1d := cell_up HU.out s5; have sgd := cell_up HU.out sg) | (go_at_call 43; refine (text_word b b _ vx _ (HS.out.up HU.out).bd (by first | omega | (simp only [List.length_append, List.length_cons]; omega)) (HS.out.up HU.out).sz).mono ?_; rintro e w5 ⟨rfl, h5⟩; have H5 := Lib.hid ((HS.out.up HU.out).step h5); clear h5; have s1e := H5.out.ev.s5; have sge := func_cell H5.out.gf))) | go_simp); (first | (with_reducible refine hK.out _ _ ?_ ?_) | (go_wp2_with fail; refine hK.out _ _ ?_ ?_)); (focus (exact ⟨by assumption, by assumption⟩)); clear hK K hHeld; intro hHeld; (try simp only [Act.put, List.setIfInBounds_toArray, List.set_cons_zero, List.set_cons_succ]))) | (refine wpAnyH_done (by decide +kernel) ?_ _) | fail)
  clear hHeld
  replace HS := H5
  clear H5 HU HU0 cv s1d sgd s0 s1 s2 s3 s4 s5 sg d1 dg
  try clear s1e sge
  obtain ⟨s0, s1, s2, s3, s4, s5⟩ := HS.out.ev
  have sg := func_cell HS.out.gf
  go_wp2_with (first | (go_at_call 44; refine (text_number b b g _ _ _ HS.out.bd HS.out.gf (by omega) (by omega) (by simp only [List.length_append, List.length_cons]; omega) HS.out.sz (tab_up HTb.out HS.out.hb (Nat.le_of_lt HS.out.lt))).mono ?_; rintro e wy ⟨rfl, h5⟩; replace HS := Lib.hid (HS.out.step h5); clear h5 s0 s1 s2 s3 s4 s5 sg; obtain ⟨s0, s1, s2, s3, s4, s5⟩ := HS.out.ev; have sg := func_cell HS.out.gf) | (go_at_call 47; refine (trace_onArc _ _).mono ?_; rintro e wy ⟨rfl, rfl⟩) | (go_at_call 30; refine (Tryd.Builder_String_any b b _ _ HS.out.bd HS.out.sz).mono ?_; rintro e wz ⟨rfl, hz⟩))
  go_ret
  exact ⟨by simp [evT, evWs, wsT, HVN.out, HVM.out], HS.out.hb.trans (hz.mono (Nat.le_of_lt HS.out.lt))⟩
set_option maxRecDepth 100000 in
set_option maxHeartbeats 4000000 in
theorem text_8 (t n a p r : Int) (hok : evOk ⟨t, 8, n, a, p, r⟩ = true) (w : World) (ht : Tab w.heap.size w) : Calls Tryd.prog 28 #[.agg #[.int .i64 t, .int .i64 8, .int .i64 n, .int .i64 a, .int .i64 p, .int .i64 r]] w fun e w' => e = .returned (.string ⟨(evT ⟨t, 8, n, a, p, r⟩).toArray⟩) ∧ Below w.heap.size w w' := by
  obtain ⟨br2, br3⟩ := evOk_8 hok
  have br4 : r < 4 := by omega
  have HTb := Lib.hid ht
  have HOK := Lib.hid hok
  obtain ⟨bt0, bt1, bn0, bn1, ba0, ba1, bp0, bp1, br0, br1⟩ := evOk_bd hok
  simp only at bt0 bt1 bn0 bn1 ba0 ba1 bp0 bp1 br0 br1
  have hin := Lib.itoa_length_le n (by omega) (by omega)
  have hia := Lib.itoa_length_le a (by omega) (by omega)
  have hip := Lib.itoa_length_le p (by omega) (by omega)
  have hir := Lib.itoa_length_le r (by omega) (by omega)
  clear ht hok
  have HB := below_box w (.cells #[.int .i64 t, .int .i64 8, .int .i64 n, .int .i64 a, .int .i64 p, .int .i64 r] 40)
  have HE : Hid (EvAt (w.alloc (.cells #[.int .i64 t, .int .i64 8, .int .i64 n, .int .i64 a, .int .i64 p, .int .i64 r] 40)) w.heap.size t 8 n a p r) := Lib.hid ⟨by simp, by simp, by simp, by simp, by simp, by simp⟩
  have s0 := HE.out.s0
  go_enter Tryd.func28, Tryd.ntmps28
  go_wp2_with fail
  obtain ⟨W, hW⟩ : ∃ W, w.alloc (.cells #[.int .i64 t, .int .i64 8, .int .i64 n, .int .i64 a, .int .i64 p, .int .i64 r] 40) = W := ⟨_, rfl⟩
  have hWs : W.heap.size = w.heap.size + 1 := by rw [← hW]; simp
  rw [hW] at HB HE s0 ⊢
  rw [← hWs]
  have hWl : w.heap.size < W.heap.size := by omega
  clear hW hWs
  have HBX := Lib.fresh_isBuilder 55 5 W
  have hbb := below_box W (.cells #[.pointer none, .slice none 0 0] 55)
  have ht1 := tab_up HTb.out HB HB.size
  refine (strconv_Itoa t (by omega) (by omega) W.heap.size _ (tab_up ht1 hbb (Nat.le_refl _))).mono ?_
  rintro e w2 ⟨rfl, hb2⟩
  have hs2 := hb2.size
  have hB2 : Below W.heap.size W w2 := hbb.trans (hb2.mono (by simp))
  go_wp2_with fail
  refine (builder_WriteString W.heap.size W.heap.size _ _ _ (IsBuilder.up HBX hb2) (by have := Lib.itoa_length_le t (by omega) (by omega); simp only [List.length_nil, ByteArray.size, List.size_toArray]; omega) hB2.size).mono ?_
  rintro e w3 ⟨rfl, h3, hb3, hk3⟩
  have hB3 := hB2.trans hb3
  have h3 : Lib.IsBuilder 55 5 W.heap.size W.heap.size (Lib.byteCells (Lib.itoa t)) w3 := by simpa [Lib.strCells_eq] using h3
  have HS : Hid (TxS w W.heap.size w3.heap.size (Lib.itoa t) t 8 n a p r (w3.alloc (.cells #[.func (.func 43) #[] #[.pointer (some ⟨W.heap.size, 0, none⟩)]] 91))) := Lib.hid ⟨IsBuilder.up h3 (below_box _ _), heap_alloc_new _ _, (HE.out.up hB3).up (below_box _ _), below_next (below_next HB hB3) (below_box _ _), by omega, by have := hB3.size; simp; omega⟩
  have hit := Lib.itoa_length_le t (by omega) (by omega)
  clear hb2 hs2 hB2 h3 hb3 hk3 hB3 HBX hbb ht1 s0 HE HB
  go_upto_region 5 with fail
  generalize w3.alloc (.cells #[.func (.func 43) #[] #[.pointer (some ⟨W.heap.size, 0, none⟩)]] 91) = W5 at *
  generalize w3.heap.size = g at *
  have hWl2 := hWl
  generalize W.heap.size = b at *
  obtain ⟨vb, hvb⟩ : ∃ vb, verbsL[8]? = some vb := ⟨_, rfl⟩
  have hvl : vb.length ≤ 20 := nm_len verbsL (by decide) hvb
  have HVN : Hid (nmL verbsL 8 = vb) := Lib.hid (nmL_at hvb)
  have HV := Lib.hid hvb
  clear hvb
  obtain ⟨s0, s1, s2, s3, s4, s5⟩ := HS.out.ev
  have sg := func_cell HS.out.gf
  have HU0 : Hid (Below W5.heap.size W5 W5.drew) := Lib.hid (below_drawn _)
  have d1 := cell_up HU0.out s1
  have dg := cell_up HU0.out sg
  refine wp_region_held_drew (S := (fun w' => w'.cell? ⟨w.heap.size, 1, none⟩ = some (.int .i64 8) ∧ w'.cell? ⟨g, 0, none⟩ = some (.func (.func 43) #[] #[.pointer (some ⟨b, 0, none⟩)]))) (by kernel_rfl) ?_ (fun hHeld => ?_)
  · exact ⟨by assumption, by assumption⟩
  repeat' (first | ((first | (refine takeL (i := 0) (v := ?_) rfl (by kernel_rfl) (by decide +kernel) (by decide +kernel) (fun _ _ _ h => h) (Or.inl ⟨by rfl, ?_⟩) (by assumption) ?_; rotate_left; (focus (intro w9 hS9; (try dsimp only at hS9); go_simp; (try with_reducible rfl); done))) | (refine takeL (i := 1) (v := ?_) rfl (by kernel_rfl) (by decide +kernel) (by decide +kernel) (fun _ _ _ h => h) (Or.inl ⟨by rfl, ?_⟩) (by assumption) ?_; rotate_left; (focus (intro w9 hS9; (try dsimp only at hS9); go_simp; (try with_reducible rfl); done))) | (refine takeL (i := 2) (v := ?_) rfl (by kernel_rfl) (by decide +kernel) (by decide +kernel) (fun _ _ _ h => h) (Or.inl ⟨by rfl, ?_⟩) (by assumption) ?_; rotate_left; (focus (intro w9 hS9; (try dsimp only at hS9); go_simp; (try with_reducible rfl); done))) | (refine takeL (i := 3) (v := ?_) rfl (by kernel_rfl) (by decide +kernel) (by decide +kernel) (fun _ _ _ h => h) (Or.inl ⟨by rfl, ?_⟩) (by assumption) ?_; rotate_left; (focus (intro w9 hS9; (try dsimp only at hS9); go_simp; (try with_reducible rfl); done))) | (refine takeL (i := 4) (v := ?_) rfl (by kernel_rfl) (by decide +kernel) (by decide +kernel) (fun _ _ _ h => h) (Or.inl ⟨by rfl, ?_⟩) (by assumption) ?_; rotate_left; (focus (intro w9 hS9; (try dsimp only at hS9); go_simp; (try with_reducible rfl); done))) | (refine takeL (i := 5) (v := ?_) rfl (by kernel_rfl) (by decide +kernel) (by decide +kernel) (fun _ _ _ h => h) (Or.inl ⟨by rfl, ?_⟩) (by assumption) ?_; rotate_left; (focus (intro w9 hS9; (try dsimp only at hS9); go_simp; (try with_reducible rfl); done))) | (refine takeL (i := 6) (v := ?_) rfl (by kernel_rfl) (by decide +kernel) (by decide +kernel) (fun _ _ _ h => h) (Or.inl ⟨by rfl, ?_⟩) (by assumption) ?_; rotate_left; (focus (intro w9 hS9; (try dsimp only at hS9); go_simp; (try with_reducible rfl); done))) | fail); (try simp only [Act.put, List.setIfInBounds_toArray, List.set_cons_zero, List.set_cons_succ])) | ((first | (refine wpAnyH_ready (rs := [1]) (by decide +kernel) (by simp) ?_; refine consL rfl (fun K hK => ?_) ?_; rotate_left; exact AllReadyH.nil) | (refine wpAnyH_ready (rs := [4]) (by decide +kernel) (by simp) ?_; refine consL rfl (fun K hK => ?_) ?_; rotate_left; exact AllReadyH.nil) | (refine wpAnyH_ready (rs := [5]) (by decide +kernel) (by simp) ?_; refine consL rfl (fun K hK => ?_) ?_; rotate_left; exact AllReadyH.nil) | (refine wpAnyH_ready (rs := [6]) (by decide +kernel) (by simp) ?_; refine consL rfl (fun K hK => ?_) ?_; rotate_left; exact AllReadyH.nil) | fail); all_goals ((first | (go_at_call 45; refine (trace_verbs _).mono ?_; rintro e w4 ⟨rfl, hc4, hb4⟩; have HU := Lib.hid (HU0.out.trans (hb4.mono (Nat.le_refl _))); have cv := hc4 8 vb HV.out; (try simp only [heap_drawn] at cv); clear hc4 hb4; have s1d := cell_up HU.out s1; have sgd := cell_up HU.out sg) | (go_at_call 43; refine (text_word b b _ vb _ (HS.out.up HU.out).bd (by first | omega | (simp only [List.length_append, List.length_cons]; omega)) (HS.out.up HU.out).sz).mono ?_; rintro e w5 ⟨rfl, h5⟩; have H5 := Lib.hid ((HS.out.up HU.out).step h5); clear h5; have s1e := H5.out.ev.s1; have sge := func_cell H5.out.gf) | (go_simp; first | done | (first | (go_at_call 45; refine (trace_verbs _).mono ?_; rintro e w4 ⟨rfl, hc4, hb4⟩; have HU := Lib.hid (HU0.out.trans (hb4.mono (Nat.le_refl _))); have cv := hc4 8 vb HV.out; (try simp only [heap_drawn] at cv); clear hc4 hb4; have s1d := cell_up HU.out s1; have sgd := cell_up HU.out sg) | (go_at_call 43; refine (text_word b b _ vb _ (HS.out.up HU.out).bd (by first | omega | (simp only [List.length_append, List.length_cons]; omega)) (HS.out.up HU.out).sz).mono ?_; rintro e w5 ⟨rfl, h5⟩; have H5 := Lib.hid ((HS.out.up HU.out).step h5); clear h5; have s1e := H5.out.ev.s1; have sge := func_cell H5.out.gf))) | go_simp); (first | (with_reducible refine hK.out _ _ ?_ ?_) | (go_wp2_with fail; refine hK.out _ _ ?_ ?_)); (focus (exact ⟨by assumption, by assumption⟩)); clear hK K hHeld; intro hHeld; (try simp only [Act.put, List.setIfInBounds_toArray, List.set_cons_zero, List.set_cons_succ]))) | (refine wpAnyH_done (by decide +kernel) ?_ _) | fail)
  clear hHeld
  replace HS := H5
  clear H5 HU HU0 cv s1d sgd s0 s1 s2 s3 s4 s5 sg d1 dg
  try clear s1e sge
  obtain ⟨s0, s1, s2, s3, s4, s5⟩ := HS.out.ev
  have sg := func_cell HS.out.gf
  clear HV
  obtain ⟨vx, hvx⟩ : ∃ vx, statesL[r.toNat]? = some vx := ⟨_, List.getElem?_eq_getElem (by simp [statesL]; omega)⟩
  have hvxl : vx.length ≤ 20 := nm_len statesL (by decide) hvx
  have HVM := Lib.hid (nmL_at hvx)
  have HV := Lib.hid hvx
  clear hvx
  go_wp2_with (go_at_call 44; refine (text_number b b g _ _ _ HS.out.bd HS.out.gf (by omega) (by omega) (by simp only [List.length_append, List.length_cons]; omega) HS.out.sz (tab_up HTb.out HS.out.hb (Nat.le_of_lt HS.out.lt))).mono ?_; rintro e wy ⟨rfl, h5⟩; replace HS := Lib.hid (HS.out.step h5); clear h5 s0 s1 s2 s3 s4 s5 sg; obtain ⟨s0, s1, s2, s3, s4, s5⟩ := HS.out.ev; have sg := func_cell HS.out.gf)
  have HU0 : Hid (Below wy.heap.size wy wy.drew) := Lib.hid (below_drawn _)
  have d1 := cell_up HU0.out s5
  have dg := cell_up HU0.out sg
  refine wp_region_held_drew (S := (fun w' => w'.cell? ⟨w.heap.size, 5, none⟩ = some (.int .i64 r) ∧ w'.cell? ⟨g, 0, none⟩ = some (.func (.func 43) #[] #[.pointer (some ⟨b, 0, none⟩)]))) (by kernel_rfl) ?_ (fun hHeld => ?_)
  · exact ⟨by assumption, by assumption⟩
  repeat' (first | ((first | (refine takeL (i := 0) (v := ?_) rfl (by kernel_rfl) (by decide +kernel) (by decide +kernel) (fun _ _ _ h => h) (Or.inl ⟨by rfl, ?_⟩) (by assumption) ?_; rotate_left; (focus (intro w9 hS9; (try dsimp only at hS9); go_simp; (try with_reducible rfl); done))) | (refine takeL (i := 1) (v := ?_) rfl (by kernel_rfl) (by decide +kernel) (by decide +kernel) (fun _ _ _ h => h) (Or.inl ⟨by rfl, ?_⟩) (by assumption) ?_; rotate_left; (focus (intro w9 hS9; (try dsimp only at hS9); go_simp; (try with_reducible rfl); done))) | (refine takeL (i := 2) (v := ?_) rfl (by kernel_rfl) (by decide +kernel) (by decide +kernel) (fun _ _ _ h => h) (Or.inl ⟨by rfl, ?_⟩) (by assumption) ?_; rotate_left; (focus (intro w9 hS9; (try dsimp only at hS9); go_simp; (try with_reducible rfl); done))) | (refine takeL (i := 3) (v := ?_) rfl (by kernel_rfl) (by decide +kernel) (by decide +kernel) (fun _ _ _ h => h) (Or.inl ⟨by rfl, ?_⟩) (by assumption) ?_; rotate_left; (focus (intro w9 hS9; (try dsimp only at hS9); go_simp; (try with_reducible rfl); done))) | (refine takeL (i := 4) (v := ?_) rfl (by kernel_rfl) (by decide +kernel) (by decide +kernel) (fun _ _ _ h => h) (Or.inl ⟨by rfl, ?_⟩) (by assumption) ?_; rotate_left; (focus (intro w9 hS9; (try dsimp only at hS9); go_simp; (try with_reducible rfl); done))) | (refine takeL (i := 5) (v := ?_) rfl (by kernel_rfl) (by decide +kernel) (by decide +kernel) (fun _ _ _ h => h) (Or.inl ⟨by rfl, ?_⟩) (by assumption) ?_; rotate_left; (focus (intro w9 hS9; (try dsimp only at hS9); go_simp; (try with_reducible rfl); done))) | (refine takeL (i := 6) (v := ?_) rfl (by kernel_rfl) (by decide +kernel) (by decide +kernel) (fun _ _ _ h => h) (Or.inl ⟨by rfl, ?_⟩) (by assumption) ?_; rotate_left; (focus (intro w9 hS9; (try dsimp only at hS9); go_simp; (try with_reducible rfl); done))) | fail); (try simp only [Act.put, List.setIfInBounds_toArray, List.set_cons_zero, List.set_cons_succ])) | ((first | (refine wpAnyH_ready (rs := [1]) (by decide +kernel) (by simp) ?_; refine consL rfl (fun K hK => ?_) ?_; rotate_left; exact AllReadyH.nil) | (refine wpAnyH_ready (rs := [4]) (by decide +kernel) (by simp) ?_; refine consL rfl (fun K hK => ?_) ?_; rotate_left; exact AllReadyH.nil) | (refine wpAnyH_ready (rs := [5]) (by decide +kernel) (by simp) ?_; refine consL rfl (fun K hK => ?_) ?_; rotate_left; exact AllReadyH.nil) | (refine wpAnyH_ready (rs := [6]) (by decide +kernel) (by simp) ?_; refine consL rfl (fun K hK => ?_) ?_; rotate_left; exact AllReadyH.nil) | fail); all_goals ((first | (go_at_call 50; refine (trace_states _).mono ?_; rintro e w4 ⟨rfl, hc4, hb4⟩; have HU := Lib.hid (HU0.out.trans (hb4.mono (Nat.le_refl _))); have cv := hc4 r.toNat vx HV.out; (try simp only [heap_drawn] at cv); clear hc4 hb4; have s1d := cell_up HU.out s5; have sgd := cell_up HU.out sg) | (go_at_call 43; refine (text_word b b _ vx _ (HS.out.up HU.out).bd (by first | omega | (simp only [List.length_append, List.length_cons]; omega)) (HS.out.up HU.out).sz).mono ?_; rintro e w5 ⟨rfl, h5⟩; have H5 := Lib.hid ((HS.out.up HU.out).step h5); clear h5; have s1e := H5.out.ev.s5; have sge := func_cell H5.out.gf) | (go_simp; first | done | (first | (go_at_call 50; refine (trace_states _).mono ?_; rintro e w4 ⟨rfl, hc4, hb4⟩; have HU := Lib.hid (HU0.out.trans (hb4.mono (Nat.le_refl _))); have cv := hc4 r.toNat vx HV.out; (try simp only [heap_drawn] at cv); clear hc4 hb4; have s1d := cell_up HU.out s5; have sgd := cell_up HU.out sg) | (go_at_call 43; refine (text_word b b _ vx _ (HS.out.up HU.out).bd (by first | omega | (simp only [List.length_append, List.length_cons]; omega)) (HS.out.up HU.out).sz).mono ?_; rintro e w5 ⟨rfl, h5⟩; have H5 := Lib.hid ((HS.out.up HU.out).step h5); clear h5; have s1e := H5.out.ev.s5; have sge := func_cell H5.out.gf))) | go_simp); (first | (with_reducible refine hK.out _ _ ?_ ?_) | (go_wp2_with fail; refine hK.out _ _ ?_ ?_)); (focus (exact ⟨by assumption, by assumption⟩)); clear hK K hHeld; intro hHeld; (try simp only [Act.put, List.setIfInBounds_toArray, List.set_cons_zero, List.set_cons_succ]))) | (refine wpAnyH_done (by decide +kernel) ?_ _) | fail)
  clear hHeld
  replace HS := H5
  clear H5 HU HU0 cv s1d sgd s0 s1 s2 s3 s4 s5 sg d1 dg
  try clear s1e sge
  obtain ⟨s0, s1, s2, s3, s4, s5⟩ := HS.out.ev
  have sg := func_cell HS.out.gf
  go_wp2_with (first | (go_at_call 44; refine (text_number b b g _ _ _ HS.out.bd HS.out.gf (by omega) (by omega) (by simp only [List.length_append, List.length_cons]; omega) HS.out.sz (tab_up HTb.out HS.out.hb (Nat.le_of_lt HS.out.lt))).mono ?_; rintro e wy ⟨rfl, h5⟩; replace HS := Lib.hid (HS.out.step h5); clear h5 s0 s1 s2 s3 s4 s5 sg; obtain ⟨s0, s1, s2, s3, s4, s5⟩ := HS.out.ev; have sg := func_cell HS.out.gf) | (go_at_call 47; refine (trace_onArc _ _).mono ?_; rintro e wy ⟨rfl, rfl⟩) | (go_at_call 30; refine (Tryd.Builder_String_any b b _ _ HS.out.bd HS.out.sz).mono ?_; rintro e wz ⟨rfl, hz⟩))
  go_ret
  exact ⟨by simp [evT, evWs, wsT, HVN.out, HVM.out], HS.out.hb.trans (hz.mono (Nat.le_of_lt HS.out.lt))⟩
set_option maxRecDepth 100000 in
set_option maxHeartbeats 4000000 in
theorem text_9 (t n a p r : Int) (hok : evOk ⟨t, 9, n, a, p, r⟩ = true) (w : World) (ht : Tab w.heap.size w) : Calls Tryd.prog 28 #[.agg #[.int .i64 t, .int .i64 9, .int .i64 n, .int .i64 a, .int .i64 p, .int .i64 r]] w fun e w' => e = .returned (.string ⟨(evT ⟨t, 9, n, a, p, r⟩).toArray⟩) ∧ Below w.heap.size w w' := by
  have HTb := Lib.hid ht
  have HOK := Lib.hid hok
  obtain ⟨bt0, bt1, bn0, bn1, ba0, ba1, bp0, bp1, br0, br1⟩ := evOk_bd hok
  simp only at bt0 bt1 bn0 bn1 ba0 ba1 bp0 bp1 br0 br1
  have hin := Lib.itoa_length_le n (by omega) (by omega)
  have hia := Lib.itoa_length_le a (by omega) (by omega)
  have hip := Lib.itoa_length_le p (by omega) (by omega)
  have hir := Lib.itoa_length_le r (by omega) (by omega)
  clear ht hok
  have HB := below_box w (.cells #[.int .i64 t, .int .i64 9, .int .i64 n, .int .i64 a, .int .i64 p, .int .i64 r] 40)
  have HE : Hid (EvAt (w.alloc (.cells #[.int .i64 t, .int .i64 9, .int .i64 n, .int .i64 a, .int .i64 p, .int .i64 r] 40)) w.heap.size t 9 n a p r) := Lib.hid ⟨by simp, by simp, by simp, by simp, by simp, by simp⟩
  have s0 := HE.out.s0
  go_enter Tryd.func28, Tryd.ntmps28
  go_wp2_with fail
  obtain ⟨W, hW⟩ : ∃ W, w.alloc (.cells #[.int .i64 t, .int .i64 9, .int .i64 n, .int .i64 a, .int .i64 p, .int .i64 r] 40) = W := ⟨_, rfl⟩
  have hWs : W.heap.size = w.heap.size + 1 := by rw [← hW]; simp
  rw [hW] at HB HE s0 ⊢
  rw [← hWs]
  have hWl : w.heap.size < W.heap.size := by omega
  clear hW hWs
  have HBX := Lib.fresh_isBuilder 55 5 W
  have hbb := below_box W (.cells #[.pointer none, .slice none 0 0] 55)
  have ht1 := tab_up HTb.out HB HB.size
  refine (strconv_Itoa t (by omega) (by omega) W.heap.size _ (tab_up ht1 hbb (Nat.le_refl _))).mono ?_
  rintro e w2 ⟨rfl, hb2⟩
  have hs2 := hb2.size
  have hB2 : Below W.heap.size W w2 := hbb.trans (hb2.mono (by simp))
  go_wp2_with fail
  refine (builder_WriteString W.heap.size W.heap.size _ _ _ (IsBuilder.up HBX hb2) (by have := Lib.itoa_length_le t (by omega) (by omega); simp only [List.length_nil, ByteArray.size, List.size_toArray]; omega) hB2.size).mono ?_
  rintro e w3 ⟨rfl, h3, hb3, hk3⟩
  have hB3 := hB2.trans hb3
  have h3 : Lib.IsBuilder 55 5 W.heap.size W.heap.size (Lib.byteCells (Lib.itoa t)) w3 := by simpa [Lib.strCells_eq] using h3
  have HS : Hid (TxS w W.heap.size w3.heap.size (Lib.itoa t) t 9 n a p r (w3.alloc (.cells #[.func (.func 43) #[] #[.pointer (some ⟨W.heap.size, 0, none⟩)]] 91))) := Lib.hid ⟨IsBuilder.up h3 (below_box _ _), heap_alloc_new _ _, (HE.out.up hB3).up (below_box _ _), below_next (below_next HB hB3) (below_box _ _), by omega, by have := hB3.size; simp; omega⟩
  have hit := Lib.itoa_length_le t (by omega) (by omega)
  clear hb2 hs2 hB2 h3 hb3 hk3 hB3 HBX hbb ht1 s0 HE HB
  go_upto_region 5 with fail
  generalize w3.alloc (.cells #[.func (.func 43) #[] #[.pointer (some ⟨W.heap.size, 0, none⟩)]] 91) = W5 at *
  generalize w3.heap.size = g at *
  have hWl2 := hWl
  generalize W.heap.size = b at *
  obtain ⟨vb, hvb⟩ : ∃ vb, verbsL[9]? = some vb := ⟨_, rfl⟩
  have hvl : vb.length ≤ 20 := nm_len verbsL (by decide) hvb
  have HVN : Hid (nmL verbsL 9 = vb) := Lib.hid (nmL_at hvb)
  have HV := Lib.hid hvb
  clear hvb
  obtain ⟨s0, s1, s2, s3, s4, s5⟩ := HS.out.ev
  have sg := func_cell HS.out.gf
  have HU0 : Hid (Below W5.heap.size W5 W5.drew) := Lib.hid (below_drawn _)
  have d1 := cell_up HU0.out s1
  have dg := cell_up HU0.out sg
  refine wp_region_held_drew (S := (fun w' => w'.cell? ⟨w.heap.size, 1, none⟩ = some (.int .i64 9) ∧ w'.cell? ⟨g, 0, none⟩ = some (.func (.func 43) #[] #[.pointer (some ⟨b, 0, none⟩)]))) (by kernel_rfl) ?_ (fun hHeld => ?_)
  · exact ⟨by assumption, by assumption⟩
  repeat' (first | ((first | (refine takeL (i := 0) (v := ?_) rfl (by kernel_rfl) (by decide +kernel) (by decide +kernel) (fun _ _ _ h => h) (Or.inl ⟨by rfl, ?_⟩) (by assumption) ?_; rotate_left; (focus (intro w9 hS9; (try dsimp only at hS9); go_simp; (try with_reducible rfl); done))) | (refine takeL (i := 1) (v := ?_) rfl (by kernel_rfl) (by decide +kernel) (by decide +kernel) (fun _ _ _ h => h) (Or.inl ⟨by rfl, ?_⟩) (by assumption) ?_; rotate_left; (focus (intro w9 hS9; (try dsimp only at hS9); go_simp; (try with_reducible rfl); done))) | (refine takeL (i := 2) (v := ?_) rfl (by kernel_rfl) (by decide +kernel) (by decide +kernel) (fun _ _ _ h => h) (Or.inl ⟨by rfl, ?_⟩) (by assumption) ?_; rotate_left; (focus (intro w9 hS9; (try dsimp only at hS9); go_simp; (try with_reducible rfl); done))) | (refine takeL (i := 3) (v := ?_) rfl (by kernel_rfl) (by decide +kernel) (by decide +kernel) (fun _ _ _ h => h) (Or.inl ⟨by rfl, ?_⟩) (by assumption) ?_; rotate_left; (focus (intro w9 hS9; (try dsimp only at hS9); go_simp; (try with_reducible rfl); done))) | (refine takeL (i := 4) (v := ?_) rfl (by kernel_rfl) (by decide +kernel) (by decide +kernel) (fun _ _ _ h => h) (Or.inl ⟨by rfl, ?_⟩) (by assumption) ?_; rotate_left; (focus (intro w9 hS9; (try dsimp only at hS9); go_simp; (try with_reducible rfl); done))) | (refine takeL (i := 5) (v := ?_) rfl (by kernel_rfl) (by decide +kernel) (by decide +kernel) (fun _ _ _ h => h) (Or.inl ⟨by rfl, ?_⟩) (by assumption) ?_; rotate_left; (focus (intro w9 hS9; (try dsimp only at hS9); go_simp; (try with_reducible rfl); done))) | (refine takeL (i := 6) (v := ?_) rfl (by kernel_rfl) (by decide +kernel) (by decide +kernel) (fun _ _ _ h => h) (Or.inl ⟨by rfl, ?_⟩) (by assumption) ?_; rotate_left; (focus (intro w9 hS9; (try dsimp only at hS9); go_simp; (try with_reducible rfl); done))) | fail); (try simp only [Act.put, List.setIfInBounds_toArray, List.set_cons_zero, List.set_cons_succ])) | ((first | (refine wpAnyH_ready (rs := [1]) (by decide +kernel) (by simp) ?_; refine consL rfl (fun K hK => ?_) ?_; rotate_left; exact AllReadyH.nil) | (refine wpAnyH_ready (rs := [4]) (by decide +kernel) (by simp) ?_; refine consL rfl (fun K hK => ?_) ?_; rotate_left; exact AllReadyH.nil) | (refine wpAnyH_ready (rs := [5]) (by decide +kernel) (by simp) ?_; refine consL rfl (fun K hK => ?_) ?_; rotate_left; exact AllReadyH.nil) | (refine wpAnyH_ready (rs := [6]) (by decide +kernel) (by simp) ?_; refine consL rfl (fun K hK => ?_) ?_; rotate_left; exact AllReadyH.nil) | fail); all_goals ((first | (go_at_call 45; refine (trace_verbs _).mono ?_; rintro e w4 ⟨rfl, hc4, hb4⟩; have HU := Lib.hid (HU0.out.trans (hb4.mono (Nat.le_refl _))); have cv := hc4 9 vb HV.out; (try simp only [heap_drawn] at cv); clear hc4 hb4; have s1d := cell_up HU.out s1; have sgd := cell_up HU.out sg) | (go_at_call 43; refine (text_word b b _ vb _ (HS.out.up HU.out).bd (by first | omega | (simp only [List.length_append, List.length_cons]; omega)) (HS.out.up HU.out).sz).mono ?_; rintro e w5 ⟨rfl, h5⟩; have H5 := Lib.hid ((HS.out.up HU.out).step h5); clear h5; have s1e := H5.out.ev.s1; have sge := func_cell H5.out.gf) | (go_simp; first | done | (first | (go_at_call 45; refine (trace_verbs _).mono ?_; rintro e w4 ⟨rfl, hc4, hb4⟩; have HU := Lib.hid (HU0.out.trans (hb4.mono (Nat.le_refl _))); have cv := hc4 9 vb HV.out; (try simp only [heap_drawn] at cv); clear hc4 hb4; have s1d := cell_up HU.out s1; have sgd := cell_up HU.out sg) | (go_at_call 43; refine (text_word b b _ vb _ (HS.out.up HU.out).bd (by first | omega | (simp only [List.length_append, List.length_cons]; omega)) (HS.out.up HU.out).sz).mono ?_; rintro e w5 ⟨rfl, h5⟩; have H5 := Lib.hid ((HS.out.up HU.out).step h5); clear h5; have s1e := H5.out.ev.s1; have sge := func_cell H5.out.gf))) | go_simp); (first | (with_reducible refine hK.out _ _ ?_ ?_) | (go_wp2_with fail; refine hK.out _ _ ?_ ?_)); (focus (exact ⟨by assumption, by assumption⟩)); clear hK K hHeld; intro hHeld; (try simp only [Act.put, List.setIfInBounds_toArray, List.set_cons_zero, List.set_cons_succ]))) | (refine wpAnyH_done (by decide +kernel) ?_ _) | fail)
  clear hHeld
  replace HS := H5
  clear H5 HU HU0 cv s1d sgd s0 s1 s2 s3 s4 s5 sg d1 dg
  try clear s1e sge
  obtain ⟨s0, s1, s2, s3, s4, s5⟩ := HS.out.ev
  have sg := func_cell HS.out.gf
  go_wp2_with (first | (go_at_call 44; refine (text_number b b g _ _ _ HS.out.bd HS.out.gf (by omega) (by omega) (by simp only [List.length_append, List.length_cons]; omega) HS.out.sz (tab_up HTb.out HS.out.hb (Nat.le_of_lt HS.out.lt))).mono ?_; rintro e wy ⟨rfl, h5⟩; replace HS := Lib.hid (HS.out.step h5); clear h5 s0 s1 s2 s3 s4 s5 sg; obtain ⟨s0, s1, s2, s3, s4, s5⟩ := HS.out.ev; have sg := func_cell HS.out.gf) | (go_at_call 47; refine (trace_onArc _ _).mono ?_; rintro e wy ⟨rfl, rfl⟩) | (go_at_call 30; refine (Tryd.Builder_String_any b b _ _ HS.out.bd HS.out.sz).mono ?_; rintro e wz ⟨rfl, hz⟩))
  go_ret
  exact ⟨by simp [evT, evWs, wsT, HVN.out], HS.out.hb.trans (hz.mono (Nat.le_of_lt HS.out.lt))⟩

end Go.Proofs.YtjcnjnonhncelaaDoor
