/-
  segment.ParseList: what it returns.
-/
import Derived.Test.YtdjgpjejidajlaaDoorSegLW
namespace Go.Proofs.YtdjgpjejidajlaaDoor
open Go.RowKit Go.Shelf
attribute [local go_sem] Oper.semAt_some

set_option maxRecDepth 100000 in
set_option maxHeartbeats 4000000 in
theorem segment_ParseList (s : List UInt8) (hs : s.length ≤ 100000) (w : World) (hE : Errs w) (ht : Tab w.heap.size w) :
    Calls Tryd.prog 15 #[.string ⟨s.toArray⟩] w (RetPE w (parseL s)) := by
  obtain ⟨i0, hi, hz0, hz1, hz2⟩ := info_parts segInfo
  have HE := Lib.hid hE
  have HTb := Lib.hid ht
  clear hE ht
  obtain ⟨V, hV⟩ : ∃ V, V = parseL s := ⟨_, rfl⟩
  rw [← hV]
  have HV := Lib.hid hV
  clear hV
  by_cases hn : s = []
  · subst hn
    have HR : Hid (V = ([], 0)) := Lib.hid HV.out
    go_enter Tryd.func15, Tryd.ntmps15
    go_wp2_with fail
    exact bodyPost_ret (v := .tuple #[.slice none 0 0, .int .i64 0]) (by simp [results, Tryd.results15, go_sem]) rfl (retPE_nil HR.out (((below_box _ _).alloc (by simp) _).alloc (by simp; omega) _))
  have hne : s.isEmpty = false := by simpa using hn
  have hnb : (s == []) = false := by simpa using hn
  have HN := Lib.hid hn
  clear hn
  obtain ⟨ws, hws⟩ : ∃ ws, ws = splitK 32 [] s := ⟨_, rfl⟩
  have hwl : ws.length ≤ 100001 := by rw [hws]; have := splitK_len 32 [] s; omega
  have HWX : Hid (∀ x ∈ ws, x.length ≤ 100000) := Lib.hid (by rw [hws]; intro x hx; have := splitK_mem hx; omega)
  have HWS := Lib.hid hws
  clear hws
  refine (callsIn_wide (n := 3)).1 ?_
  refine callsIn_of_wp_marks Tryd.func15 rfl trivial ?_ rfl
  simp only [Tryd.ntmps15, List.size_toArray, List.length_cons, List.length_nil, Nat.reduceAdd, Nat.reduceSub, Array.replicate_succ, Array.replicate_zero, List.push_toArray, List.append_toArray, List.nil_append, List.cons_append]
  gi_wp2_with (refine ⟨trivial, ?_⟩; gi_at_call 34; refine (SplitSeq_in _ (by omega) _ _ _).mono ?_; rintro e w1 ⟨rfl, rfl⟩)
  have hlb : ∀ k x l, ws[k]? = some x → plL (ws.take k) = some l → l.length = k := fun k x l hx h => by
    rw [plL_len h, List.length_take]; have := (List.getElem?_eq_some_iff.1 hx).1; omega
  have HLB := Lib.hid hlb
  clear hlb
  obtain ⟨B, hBe⟩ : ∃ B, B = w.heap.size := ⟨_, rfl⟩
  have B0 := (((((Boxed.new w 31 (.slice none 0 0)).alloc (.cells #[.int .i64 0] 26)).alloc (.cells #[.slice none 0 0] 31)).alloc (.cells #[.string ⟨s.toArray⟩] 9)).alloc (.cells #[.string ⟨#[32]⟩] 9)).alloc (.cells #[.int .i64 0] 3)
  have B1 := ((((Boxed.new (w.alloc (.cells #[.slice none 0 0] 31)) 26 (.int .i64 0)).alloc (.cells #[.slice none 0 0] 31)).alloc (.cells #[.string ⟨s.toArray⟩] 9)).alloc (.cells #[.string ⟨#[32]⟩] 9)).alloc (.cells #[.int .i64 0] 3)
  have B2 := (((Boxed.new ((w.alloc (.cells #[.slice none 0 0] 31)).alloc (.cells #[.int .i64 0] 26)) 31 (.slice none 0 0)).alloc (.cells #[.string ⟨s.toArray⟩] 9)).alloc (.cells #[.string ⟨#[32]⟩] 9)).alloc (.cells #[.int .i64 0] 3)
  have B3 := ((Boxed.new (((w.alloc (.cells #[.slice none 0 0] 31)).alloc (.cells #[.int .i64 0] 26)).alloc (.cells #[.slice none 0 0] 31)) 9 (.string ⟨s.toArray⟩)).alloc (.cells #[.string ⟨#[32]⟩] 9)).alloc (.cells #[.int .i64 0] 3)
  have B4 := (Boxed.new ((((w.alloc (.cells #[.slice none 0 0] 31)).alloc (.cells #[.int .i64 0] 26)).alloc (.cells #[.slice none 0 0] 31)).alloc (.cells #[.string ⟨s.toArray⟩] 9)) 9 (.string ⟨#[32]⟩)).alloc (.cells #[.int .i64 0] 3)
  have B5 := Boxed.new (((((w.alloc (.cells #[.slice none 0 0] 31)).alloc (.cells #[.int .i64 0] 26)).alloc (.cells #[.slice none 0 0] 31)).alloc (.cells #[.string ⟨s.toArray⟩] 9)).alloc (.cells #[.string ⟨#[32]⟩] 9)) 3 (.int .i64 0)
  have HB : Below w.heap.size w ((((((w.alloc (.cells #[.slice none 0 0] 31)).alloc (.cells #[.int .i64 0] 26)).alloc (.cells #[.slice none 0 0] 31)).alloc (.cells #[.string ⟨s.toArray⟩] 9)).alloc (.cells #[.string ⟨#[32]⟩] 9)).alloc (.cells #[.int .i64 0] 3)) := (((((below_box _ _).alloc (by simp) _).alloc (by simp; omega) _).alloc (by simp; omega) _).alloc (by simp; omega) _).alloc (by simp; omega) _
  simp only [World.size_alloc] at B1 B2 B3 B4 B5
  have hsz : ((((((w.alloc (.cells #[.slice none 0 0] 31)).alloc (.cells #[.int .i64 0] 26)).alloc (.cells #[.slice none 0 0] 31)).alloc (.cells #[.string ⟨s.toArray⟩] 9)).alloc (.cells #[.string ⟨#[32]⟩] 9)).alloc (.cells #[.int .i64 0] 3)).heap.size = B + 6 := by simp; omega
  generalize (((((w.alloc (.cells #[.slice none 0 0] 31)).alloc (.cells #[.int .i64 0] 26)).alloc (.cells #[.slice none 0 0] 31)).alloc (.cells #[.string ⟨s.toArray⟩] 9)).alloc (.cells #[.string ⟨#[32]⟩] 9)).alloc (.cells #[.int .i64 0] 3) = W0 at *
  rw [← hBe] at B0 B1 B2 B3 B4 B5 HB ⊢
  have hB1 : B ≤ w.heap.size := by omega
  have hB2 : w.heap.size ≤ B := by omega
  have HBE := Lib.hid hBe
  have HSZ := Lib.hid hsz
  have hsz1 : B + 6 ≤ W0.heap.size := by omega
  clear hBe hsz
  refine rangeC rfl (by omega) (gf := 75) (lb := #[.pointer (some ⟨B + 1 + 1 + 1 + 1, 0, none⟩), .pointer (some ⟨B + 1 + 1 + 1, 0, none⟩), .pointer (some ⟨B + 1 + 1 + 1 + 1 + 1, 0, none⟩)]) rfl trivial (enters_of Tryd.func75 (by kernel_rfl) rfl)
    (Bs := B + 1 + 1 + 1) (Kp := K3 (B + 1 + 1 + 1 + 1) (B + 1 + 1 + 1) (B + 1 + 1 + 1 + 1 + 1)) (ps := ws) B3.lt
    (by rw [HWS.out]; exact split1_in 2 (by omega) 32 [] s (.inl rfl) (by omega) _ _ _ _ (by omega) (by omega) B4 B3 B5)
    K3.trans (fun W l o' hl _ => K3.put (by omega) (by omega) (by omega) W l o' (HSZ.out ▸ hl)) rfl
    (fun k W => (∃ v, Boxed W (B + 1 + 1) 31 v ∧ W.ownsRow (B + 6) 23 2 v ((plL (ws.take k)).getD []).length (pcl ((plL (ws.take k)).getD []))) ∧ (plL (ws.take k) = some ((plL (ws.take k)).getD [])) ∧ Boxed W B 31 (.slice none 0 0) ∧ Boxed W (B + 1) 26 (.int .i64 0) ∧ Below B w W ∧ B + 6 ≤ W.heap.size)
    (fun c k W => (c = .ret ∧ plL ws = none) ∧ Boxed W B 31 (.slice none 0 0) ∧ Boxed W (B + 1) 26 (.int .i64 3) ∧ Below B w W)
    (Firm.and (Firm.row _ _ (by omega) (fun W v s h e => by have := (h.lt _ e).1; omega)) (Firm.and (Firm.pure _) (Firm.and (Firm.blk (by omega)) (Firm.and (Firm.blk (by omega)) (Firm.and (Firm.below (by omega) (by omega) (by omega)) Firm.size)))))
    (fun c => Firm.and (Firm.pure _) (Firm.and (Firm.blk (by omega)) (Firm.and (Firm.blk (by omega)) (Firm.below (by omega) (by omega) (by omega)))))
    ⟨⟨_, B2, World.ownsRow_nil _ _ _ _⟩, rfl, B0, B1, HB, hsz1⟩
    (fun x => { tmps := #[.string ⟨s.toArray⟩, undef, .pointer (some ⟨B, 0, none⟩), .pointer (some ⟨B + 1, 0, none⟩), .pointer (some ⟨B + 1 + 1, 0, none⟩), .string ⟨x.toArray⟩, undef, undef, .string ⟨s.toArray⟩, .bool false, undef, .string ⟨s.toArray⟩, .func (.func 75) #[] #[.pointer (some ⟨B + 1 + 1 + 1 + 1, 0, none⟩), .pointer (some ⟨B + 1 + 1 + 1, 0, none⟩), .pointer (some ⟨B + 1 + 1 + 1 + 1 + 1, 0, none⟩)], .string ⟨x.toArray⟩, undef, undef, undef, undef, undef, undef, undef, undef, undef, undef, undef, undef, undef], defers := [] }) ?assign ?body ?done ?stop
  case assign =>
    intro l x W K hK
    gi_wp2
    exact hK
  case body =>
    rintro l k x W ⟨⟨v, hv, hrow⟩, hpl, h0, h1, hB, hs6⟩ hx
    have hxl : x.length ≤ 100000 := HWX.out x (List.mem_of_getElem? hx)
    obtain ⟨L, hL⟩ : ∃ L, L = (plL (ws.take k)).getD [] := ⟨_, rfl⟩
    rw [← hL] at hpl hrow
    have hLk := HLB.out k x L hx hpl
    have hLl : L.length ≤ 100001 := by have := (List.getElem?_eq_some_iff.1 hx).1; omega
    have HP := Lib.hid hpl
    have HX := Lib.hid hx
    have HROW := Lib.hid hrow
    have HVB := Lib.hid hv
    have H0 := Lib.hid h0
    have H1 := Lib.hid h1
    have HBW := Lib.hid hB
    clear hpl hx hrow hv h0 h1 hB hL hLk
    cases hp : pSeg x with
    | none =>
      have HC2 : Hid (∀ w', Errs w' → Tab w'.heap.size w' → Calls Tryd.prog 11 #[.string ⟨x.toArray⟩] w' fun e w'' => e = .returned (.tuple #[.agg #[.int .i64 0, .int .i64 0], .int .i64 3]) ∧ Below w'.heap.size w' w'') := Lib.hid fun w' hE hT => by
        refine (segment_Parse x hxl w' hE hT).mono ?_
        rintro e w'' ⟨k, m, er, rfl, hr, hb⟩
        obtain ⟨rfl, rfl, rfl⟩ := segR_none hr hp
        exact ⟨rfl, hb⟩
      have HBAD := Lib.hid (plL_bad hp (List.mem_of_getElem? HX.out))
      clear hp
      gi_wp2_with (refine ⟨trivial, ?_⟩; gi_at_call 11; refine (CallsIn.inRound l (callsIn_wide.2 (HC2.out _ (HE.out.up (HBE.out ▸ HBW.out)) (tab_up HTb.out (HBE.out ▸ HBW.out) (HBE.out ▸ HBW.out).size)))).mono ?_; rintro e w2 ⟨rfl, hb⟩; have HLO := Lib.hid (Lo.of_below (B := B + 1 + 1) hb hs6); have HB2 := Lib.hid (below_next HBW.out hb hB1); have h0' := (HLO.out.box H0.out (by omega) (by omega)).alloc (.cells #[.int .i64 0, .int .i64 0] 23); have h1' := (HLO.out.box H1.out (by omega) (by omega)).alloc (.cells #[.int .i64 0, .int .i64 0] 23); have c0 := h0'.cell; have f0 := h0'.frozen; have c1 := h1'.cell; have f1 := h1'.frozen; have H0' := Lib.hid h0'; have H1' := Lib.hid h1'; clear hb h0' h1')
      refine ⟨(HLO.out.keeps.trans ((KeepsOthers.alloc _ _).from _)).trans (((KeepsOthers.setCell _ _ _).from _).trans ((KeepsOthers.setCell _ _ _).from _)), ⟨rfl, HBAD.out⟩, (H0'.out.set _).other (by omega) _, (H1'.out.other (by omega) _).set _, ?_⟩
      exact ((HB2.out.alloc (Nat.le_trans hB1 HB2.out.size) _).setCell (p := ⟨B, 0, none⟩) (Nat.le_refl _) _).setCell (p := ⟨B + 1, 0, none⟩) (by show B ≤ B + 1; omega) _
    | some p =>
      obtain ⟨pk, pm⟩ := p
      have HC2 : Hid (∀ w', Errs w' → Tab w'.heap.size w' → Calls Tryd.prog 11 #[.string ⟨x.toArray⟩] w' fun e w'' => e = .returned (.tuple #[.agg #[.int .i64 pk, .int .i64 pm], .int .i64 0]) ∧ Below w'.heap.size w' w'') := Lib.hid fun w' hE hT => by
        refine (segment_Parse x hxl w' hE hT).mono ?_
        rintro e w'' ⟨k, m, er, rfl, hr, hb⟩
        obtain ⟨rfl, rfl, rfl⟩ := segR_some hr hp
        exact ⟨rfl, hb⟩
      have HP2 : Hid (plL (ws.take (k + 1)) = some (L ++ [(pk, pm)])) := Lib.hid (by
        obtain ⟨hjl, hxe⟩ := List.getElem?_eq_some_iff.1 HX.out
        rw [List.take_succ_eq_append_getElem hjl, hxe]
        exact plL_snoc hp HP.out)
      clear hp
      gi_wp2_with (first | (refine ⟨trivial, ?_⟩; gi_at_call 11; refine (CallsIn.inRound l (callsIn_wide.2 (HC2.out _ (HE.out.up (HBE.out ▸ HBW.out)) (tab_up HTb.out (HBE.out ▸ HBW.out) (HBE.out ▸ HBW.out).size)))).mono ?_; rintro e w2 ⟨rfl, hb⟩; have HLO := Lib.hid ((Lo.of_below (B := B + 1 + 1) hb hs6).trans (Lo.of_below (below_box w2 (.cells #[.int .i64 pk, .int .i64 pm] 23)) (Nat.le_trans hs6 hb.size))); have hs7 : B + 6 ≤ w2.heap.size := (Nat.le_trans hs6 hb.size); have h2' := (show Boxed w2 (B + 1 + 1) 31 v from (hb.block _ HVB.out.lt).trans HVB.out).alloc (.cells #[.int .i64 pk, .int .i64 pm] 23); have HR2 := Lib.hid (own_up (own_up HROW.out hb) (below_box w2 (.cells #[.int .i64 pk, .int .i64 pm] 23))); have c2 := h2'.cell; have H2' := Lib.hid h2'; clear hb h2') | (gi_at_builtin; refine wpListIn_append_own _ rfl _ _ 31 rfl (B + 6) 23 i0 (.agg #[.int .i64 0, .int .i64 0]) 2 16 Tryd.underlying31 hi hz0 hz1 hz2 rfl (by decide) _ _ _ rfl (HR2.out.alloc _) ⟨_, 0, none⟩ 1 1 [.int .i64 pk, .int .i64 pm] rfl rfl (cell_two2 _ _ _ _ _ (by simp)) ?_ ?_ ?_ ?_ ?_))
      · intro u hu; simp at hu; rcases hu with rfl | rfl <;> rfl
      · unfold maxLen; omega
      · omega
      · simp; omega
      · intro v' w3 hown' hgrow _
        obtain ⟨g', cap', rfl⟩ := ownsRow_succ hown'
        have HLO2 := Lib.hid (HLO.out.trans (Lo.append HR2.out hgrow (by simp; omega)))
        have h3 : Boxed w3 (B + 1 + 1) 31 v := ((H2'.out.alloc _).kept hgrow (fun e => by have := (HR2.out.lt _ e.symm).1; omega))
        have c3 := h3.cell
        have f3 := h3.frozen
        have H3 := Lib.hid h3
        have HO2 := Lib.hid (own_set (B := B + 1 + 1) hown' (by omega) (.slice (some ⟨g', 0, none⟩) (L.length + 1) cap'))
        clear hgrow h3
        gi_wp2
        have lo := HLO2.out.trans (Lo.set H3.out (.slice (some ⟨g', 0, none⟩) (L.length + 1) cap'))
        refine ⟨lo.keeps, ⟨lo.blk _ (by omega) (by omega), lo.blk _ (by omega) (by omega), lo.blk _ (by omega) (by omega)⟩, ⟨_, H3.out.set _, ?_⟩, ?_, lo.box H0.out (by omega) (by omega), lo.box H1.out (by omega) (by omega), lo.below HBW.out (by omega) (by omega), Nat.le_trans hs6 lo.size⟩
        · rw [HP2.out]
          simp only [Option.getD_some, pcl_snoc, List.length_append]
          exact HO2.out
        · rw [HP2.out]; rfl
  case done =>
    rintro D W hD ⟨⟨v, hv, hrow⟩, hpl, h0, h1, hB, hs6⟩ hK
    rw [List.take_length] at hpl hrow
    obtain ⟨L, hL⟩ : ∃ L, L = (plL ws).getD [] := ⟨_, rfl⟩
    rw [← hL] at hpl hrow
    have HVV : Hid (V = (L, 0)) := Lib.hid (by rw [HV.out]; exact parseL_some HN.out (by rw [← HWS.out]; exact hpl))
    obtain ⟨A, c, rfl, _⟩ := rdp_of_own hrow
    have c2 := hv.cell
    have c0 := h0.cell
    have f0 := h0.frozen
    have c1 := h1.cell
    have f1 := h1.frozen
    have HROW := Lib.hid hrow
    have H0 := Lib.hid h0
    have H1 := Lib.hid h1
    have HBW := Lib.hid hB
    have HK := Lib.hid hK
    clear hpl hL hrow h0 h1 hB hK
    gi_wp2
    have k1 : ((W.setCell ⟨B, 0, none⟩ (.slice A L.length c)).setCell ⟨B + 1, 0, none⟩ (.int .i64 0)).heap[D]? = some (.deferred (some [])) := by
      rw [Below.heap_setCell _ _ _ _ (by show D ≠ B + 1; omega), Below.heap_setCell _ _ _ _ (by show D ≠ B; omega)]; exact HK.out
    have b0 : Boxed (((W.setCell ⟨B, 0, none⟩ (.slice A L.length c)).setCell ⟨B + 1, 0, none⟩ (.int .i64 0)).putObj D (.deferred none)) B 31 (.slice A L.length c) := (World.putObj_heap_other (by omega)).trans ((H0.out.set _).other (by omega) _)
    have b1 : Boxed (((W.setCell ⟨B, 0, none⟩ (.slice A L.length c)).setCell ⟨B + 1, 0, none⟩ (.int .i64 0)).putObj D (.deferred none)) (B + 1) 26 (.int .i64 0) := (World.putObj_heap_other (by omega)).trans ((H1.out.other (by omega) _).set _)
    have r1 := ownsRow_putObj (own_set (B := B + 1) (own_set (B := B) HROW.out (by omega) (.slice A L.length c)) (by omega) (.int .i64 0)) (.deferred none) k1 rfl
    have hb2 : Below B w (((W.setCell ⟨B, 0, none⟩ (.slice A L.length c)).setCell ⟨B + 1, 0, none⟩ (.int .i64 0)).putObj D (.deferred none)) := ((HBW.out.setCell (p := ⟨B, 0, none⟩) (Nat.le_refl _) _).setCell (p := ⟨B + 1, 0, none⟩) (by show B ≤ B + 1; omega) _).trans (belowK_b (w := w) hB1 _ D _ _ (by omega) k1 rfl rfl)
    refine ⟨by simp, .inl ⟨_, _, rfl, run_takeDeferred k1, ?_⟩⟩
    have e0 := b0.cell
    have e1 := b1.cell
    exact ⟨.tuple #[.slice A L.length c, .int .i64 0], by simp [results, Tryd.results15, go_sem, e0, e1], retPE_of HVV.out r1 (HBE.out ▸ hb2)⟩
  case stop =>
    rintro D c k W hD hk ⟨⟨rfl, hbad⟩, h0, h1, hB⟩ hK
    have HVV : Hid (V = ([], 3)) := Lib.hid (by rw [HV.out]; exact parseL_none HN.out (by rw [← HWS.out]; exact hbad))
    clear hbad
    gi_wp2
    refine ⟨by simp, .inl ⟨_, _, rfl, run_takeDeferred hK, ?_⟩⟩
    have b0 : Boxed (W.putObj D (.deferred none)) B 31 (.slice none 0 0) := (World.putObj_heap_other (by omega)).trans h0
    have b1 : Boxed (W.putObj D (.deferred none)) (B + 1) 26 (.int .i64 3) := (World.putObj_heap_other (by omega)).trans h1
    have e0 := b0.cell
    have e1 := b1.cell
    exact ⟨.tuple #[.slice none 0 0, .int .i64 3], by simp [results, Tryd.results15, go_sem, e0, e1], retPE_nil HVV.out (HBE.out ▸ hB.trans (belowK_b (w := w) hB1 _ D _ _ (by omega) hK rfl rfl))⟩

end Go.Proofs.YtdjgpjejidajlaaDoor
