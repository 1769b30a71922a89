/-
  topology.read: what it does with a line.
-/
import Derived.Test.YtfbloolloifndaaDoorLoP
import Derived.Test.YtfbloolloifndaaDoorTopoP
import Derived.Test.YtfbloolloifndaaDoorReg
import Derived.Test.YtfbloolloifndaaDoorTRdS
import Derived.Deep.AppendLies
import Derived.BigQuiet
import Derived.Deep.RegionHeld3
import Derived.Deep.Cut
namespace Go.Proofs.YtfbloolloifndaaDoor
set_option linter.unusedSimpArgs false
set_option linter.unusedVariables false
open Go.RowKit Go.Shelf Go.Sort
attribute [local go_sem] Oper.semAt_some

theorem fsG_len (s : List UInt8) : ∀ f i st, (fsG s f i st).length ≤ f
  | 0, i, st => by simp [fsG]
  | f + 1, i, st => by
    by_cases hi : i < s.length
    · cases hp : (spAt s i).1 with
      | true =>
        cases st with
        | none => rw [fsG_sp_n hi hp]; exact Nat.le_succ_of_le (fsG_len s f _ _)
        | some a => rw [fsG_sp_s hi hp]; simp only [List.length_cons]; have := fsG_len s f (i + (spAt s i).2) none; omega
      | false => rw [fsG_no hi hp]; exact Nat.le_succ_of_le (fsG_len s f _ _)
    · cases st with
      | none => rw [fsG_end_n hi]; simp
      | some a => rw [fsG_end_s hi]; simp
theorem fsG_mem {s x : List UInt8} : ∀ f i st, x ∈ fsG s f i st → x.length ≤ s.length
  | 0, i, st, h => by simp [fsG] at h
  | f + 1, i, st, h => by
    by_cases hi : i < s.length
    · cases hp : (spAt s i).1 with
      | true =>
        cases st with
        | none => rw [fsG_sp_n hi hp] at h; exact fsG_mem f _ _ h
        | some a =>
          rw [fsG_sp_s hi hp] at h
          rcases List.mem_cons.1 h with rfl | h
          · rw [List.length_take, List.length_drop]; omega
          · exact fsG_mem f _ _ h
      | false => rw [fsG_no hi hp] at h; exact fsG_mem f _ _ h
    · cases st with
      | none => rw [fsG_end_n hi] at h; simp at h
      | some a => rw [fsG_end_s hi] at h; simp at h; subst h; rw [List.length_drop]; omega
theorem fields_len (s : List UInt8) (hs : s.length ≤ 100000) : (fieldsS s).length ≤ 100001 := by have := fsG_len s (s.length + 1) 0 none; unfold fieldsS; omega
theorem fields_mem {s x : List UInt8} (h : x ∈ fieldsS s) : x.length ≤ s.length := fsG_mem _ _ _ h

/-- What read returns, and leaves. -/
def RetRead (tb base : Nat) (w : World) (o : Option Topo) (e : Ending) (w' : World) : Prop :=
  e = .returned (.bool o.isSome) ∧ (∃ t' ov' ls', (∀ u, o = some u → t' = u) ∧ RT tb base t' ov' ls' w') ∧ LoP base [tb] w w'
theorem retRead {tb base D : Nat} {w W : World} {t' : Topo} {ov' ls' : Value} {o : Option Topo} {b : Bool} (hb : o.isSome = b) (hu : ∀ u, o = some u → t' = u) (hR : RT tb base t' ov' ls' W) (hL : LoP base [tb] w W) (hD : w.heap.size ≤ D) (hK : W.heap[D]? = some (.deferred (some []))) (hs : base ≤ w.heap.size) :
    RetRead tb base w o (.returned (.bool b)) (W.putObj D (.deferred none)) :=
  ⟨by rw [hb], ⟨t', ov', ls', hu, hR.put hK rfl _⟩, hL.put hD hs _⟩
theorem retRead2 {tb base D : Nat} {w W W' : World} {t' : Topo} {ov' ls' : Value} {o : Option Topo} {b : Bool} (hb : o.isSome = b) (hu : ∀ u, o = some u → t' = u) (hR : RT tb base t' ov' ls' W') (hL : LoP base [tb] w W) (hL' : LoP base [tb] W W') (hD : w.heap.size ≤ D) (hK : W.heap[D]? = some (.deferred (some []))) (hs : base ≤ w.heap.size) :
    RetRead tb base w o (.returned (.bool b)) (W'.putObj D (.deferred none)) := retRead hb hu hR (hL.trans hL') hD (hL'.oth _ _ hK rfl) hs
theorem below_drw2 (w : World) : Below w.heap.size w w.drew := ⟨rfl, rfl, rfl, Nat.le_refl _, fun _ _ => rfl⟩
theorem ptr_one (W : World) (pb : Nat) (T : TypeId) : ∀ k, k < 1 → (W.alloc (.cells #[.pointer (some ⟨pb, 0, none⟩)] T)).cell? ⟨W.heap.size, k, none⟩ = some (.pointer (some ⟨pb, k, none⟩)) := by
  intro k hk
  obtain rfl : k = 0 := by omega
  rw [Lib.cell_of_heap (heap_alloc_new W _)]
  rfl
theorem list_hd {ws : List (List UInt8)} {x : List UInt8} (h : ws[0]? = some x) : ∃ r, ws = x :: r := by
  cases ws with
  | nil => simp at h
  | cons a r => simp at h; subst h; exact ⟨r, rfl⟩
theorem read_n {t : Topo} {ws : List (List UInt8)} {n : Int} (h0 : ws[0]? = some sNodes) (hn : ∀ vs, scanS ws 1 = some vs → n = vs.headD 0) : (readW t ws).isSome = (scanS ws 1).isSome ∧ ∀ u, readW t ws = some u → { t with n := n } = u := by
  obtain ⟨r, rfl⟩ := list_hd h0
  rw [readW, if_pos rfl]
  cases hs : scanS (sNodes :: r) 1 with
  | none => exact ⟨rfl, fun u e => by cases e⟩
  | some vs =>
    refine ⟨rfl, fun u e => ?_⟩
    injection e with e
    rw [← e, hn vs hs]
theorem read_o_none {t : Topo} {ws : List (List UInt8)} (h0 : ws[0]? = some sOverload) (hs : scanS ws 1 = none) : readW t ws = none := by
  obtain ⟨r, rfl⟩ := list_hd h0
  rw [readW, if_neg (by decide), if_pos rfl, hs]
theorem read_o {t : Topo} {ws : List (List UInt8)} {vs : List Int} (h0 : ws[0]? = some sOverload) (hs : scanS ws 1 = some vs) : readW t ws = if (inR t.n 1 64 && inR (vs.headD 0) 0 (t.n - 1)) = true then some (setOv t (vs.headD 0)) else none := by
  obtain ⟨r, rfl⟩ := list_hd h0
  rw [readW, if_neg (by decide), if_pos rfl, hs]
theorem setOv_eq {t : Topo} {m : Nat} (h : (t.ov.length : Int) = t.n) : { t with ov := t.ov.set m true } = setOv t (m : Int) := by
  unfold setOv
  rw [if_pos h]
  rfl
theorem setOv_ne {t : Topo} {m N : Nat} (h : ¬ (t.ov.length : Int) = t.n) (hN : t.n = (N : Int)) : { t with ov := (List.replicate N false).set m true } = setOv t (m : Int) := by
  unfold setOv
  rw [if_neg h, hN]
  rfl
theorem cell_other2 {w : World} {b j c i : Nat} {v : Value} (h : b ≠ c) : (w.setCell ⟨b, j, none⟩ v).cell? ⟨c, i, none⟩ = w.cell? ⟨c, i, none⟩ :=
  World.cell?_setCell_other w _ _ _ (fun e => h (by injection e))
theorem wp_named {P : Program} {c : Code} {Q : Exit → Act → World → Prop} {a : Act} {W : World} (R : World → Prop) (h : R W) (k : ∀ W', R W' → c.wp P Q a W') : c.wp P Q a W := k W h
theorem read_l_none {t : Topo} {ws : List (List UInt8)} (h0 : ws[0]? = some sLink) (hs : scanS ws 7 = none) : readW t ws = none := by
  obtain ⟨r, rfl⟩ := list_hd h0
  rw [readW, if_neg (by decide), if_neg (by decide), if_pos rfl, hs]
theorem read_l_full {t : Topo} {ws : List (List UInt8)} {vs : List Int} (h0 : ws[0]? = some sLink) (hs : scanS ws 7 = some vs) (hl : t.ls.length = 256) : readW t ws = none := by
  obtain ⟨r, rfl⟩ := list_hd h0
  rw [readW, if_neg (by decide), if_neg (by decide), if_pos rfl, hs]
  exact if_pos hl
theorem read_l {t : Topo} {ws : List (List UInt8)} {vs : List Int} (h0 : ws[0]? = some sLink) (hs : scanS ws 7 = some vs) (hl : ¬ t.ls.length = 256) : readW t ws = some { t with ls := t.ls ++ [lnkOf vs] } := by
  obtain ⟨r, rfl⟩ := list_hd h0
  rw [readW, if_neg (by decide), if_neg (by decide), if_pos rfl, hs]
  exact if_neg hl
theorem k7_of {w : World} {lb : Nat} {l : Lnk} {T : TypeId} {fr : Nat × Nat} (h : w.heap[lb]? = some (.cells #[.int .i64 l.a, .int .i64 l.b, .int .i64 l.c0, .int .i64 l.c1, .int .i64 l.cap, .int .i64 l.dl, .int .i64 l.g] T fr)) :
    w.cell? ⟨lb, 0, none⟩ = some (.int .i64 l.a) ∧ w.cell? ⟨lb, 1, none⟩ = some (.int .i64 l.b) ∧ w.cell? ⟨lb, 2, none⟩ = some (.int .i64 l.c0) ∧ w.cell? ⟨lb, 3, none⟩ = some (.int .i64 l.c1) ∧ w.cell? ⟨lb, 4, none⟩ = some (.int .i64 l.cap) ∧ w.cell? ⟨lb, 5, none⟩ = some (.int .i64 l.dl) ∧ w.cell? ⟨lb, 6, none⟩ = some (.int .i64 l.g) :=
  ⟨(Lib.cell_of_heap h 0).trans rfl, (Lib.cell_of_heap h 1).trans rfl, (Lib.cell_of_heap h 2).trans rfl, (Lib.cell_of_heap h 3).trans rfl, (Lib.cell_of_heap h 4).trans rfl, (Lib.cell_of_heap h 5).trans rfl, (Lib.cell_of_heap h 6).trans rfl⟩
theorem ptr_seven (W : World) (pb : Nat) (T : TypeId) : ∀ k, k < 7 → (W.alloc (.cells #[.pointer (some ⟨pb, 0, none⟩), .pointer (some ⟨pb, 1, none⟩), .pointer (some ⟨pb, 2, none⟩), .pointer (some ⟨pb, 3, none⟩), .pointer (some ⟨pb, 4, none⟩), .pointer (some ⟨pb, 5, none⟩), .pointer (some ⟨pb, 6, none⟩)] T)).cell? ⟨W.heap.size, k, none⟩ = some (.pointer (some ⟨pb, k, none⟩)) := by
  intro k hk
  rw [Lib.cell_of_heap (heap_alloc_new W _)]
  have : k = 0 ∨ k = 1 ∨ k = 2 ∨ k = 3 ∨ k = 4 ∨ k = 5 ∨ k = 6 := by omega
  rcases this with rfl | rfl | rfl | rfl | rfl | rfl | rfl <;> rfl
theorem lkc_oneT (l : Lnk) : ∀ u ∈ lkC l, u.oneCell' = true := by
  intro u hu
  simp only [lkC, List.mem_cons, List.not_mem_nil, or_false] at hu
  rcases hu with rfl | rfl | rfl | rfl | rfl | rfl | rfl <;> rfl
theorem read_other {t : Topo} {ws : List (List UInt8)} {x : List UInt8} (h0 : ws[0]? = some x) (h1 : x ≠ sNodes) (h2 : x ≠ sOverload) (h3 : x ≠ sLink) : readW t ws = none := by
  obtain ⟨r, rfl⟩ := list_hd h0
  rw [readW, if_neg h1, if_neg h2, if_neg h3]
theorem KpF.of_lo {n0 Bs base B : Nat} {W W' : World} (h : Lo base B W W') (h1 : n0 ≤ B) (h2 : n0 ≤ base) (h3 : Bs < base) (h4 : Bs ≠ B) : KpF n0 Bs W W' :=
  ⟨fun k hk => h.blk k (by omega) (by omega), h.blk Bs h3 h4, h.size⟩
theorem read_nil (t : Topo) {s : List UInt8} (h : fieldsS s = []) : readT t s = none := by unfold readT; rw [h]; rfl

set_option maxRecDepth 100000 in
set_option maxHeartbeats 8000000 in
theorem topology_read {n0 tb base : Nat} {t : Topo} {ov ls : Value} (s : List UInt8) (hs : s.length ≤ 100000) (w : World) (hR : RT tb base t ov ls w) (hn : n0 ≤ tb) (hF : FT n0 w) (hE : ET n0 w) (hl : t.ls.length ≤ 100000) :
    Calls Tryd.prog 19 #[.pointer (some ⟨tb, 0, none⟩), .string ⟨s.toArray⟩] w (RetRead tb base w (readT t s)) := by
  obtain ⟨i0, hi, hz0, hz1, hz2⟩ := info_parts strInfo'
  obtain ⟨j0, hj, hj0, hj1, hj2⟩ := info_parts lnkInfo
  have HR := Lib.hid hR
  have HE := Lib.hid hE
  have HFT := Lib.hid hF
  have HN := Lib.hid hn
  obtain ⟨V, hV⟩ : ∃ V, V = readT t s := ⟨_, rfl⟩
  rw [← hV]
  have HV := Lib.hid hV
  clear hV hE hF
  obtain ⟨ws, hws⟩ : ∃ ws, ws = fieldsS s := ⟨_, rfl⟩
  have hwl : ws.length ≤ 100001 := by rw [hws]; exact fields_len s hs
  have hwx : ∀ x ∈ ws, x.length ≤ 100000 := by rw [hws]; intro x hx; exact Nat.le_trans (fields_mem hx) hs
  have HWX := Lib.hid hwx
  have HWS := Lib.hid hws
  clear hws hwx
  have hb0 : base ≤ w.heap.size := hR.sz
  have ht0 : tb < base := hR.lt
  refine (callsIn_wide (n := 3)).1 ?_
  refine callsIn_of_wp_marks Tryd.func19 rfl trivial ?_ rfl
  simp only [Tryd.ntmps19, List.size_toArray, List.length_cons, List.length_nil, Nat.reduceAdd, Nat.reduceSub, Array.replicate_succ, Array.replicate_zero, List.push_toArray, List.append_toArray, List.nil_append, List.cons_append]
  clear hR hn
  gi_wp2_with (refine ⟨trivial, ?_⟩; gi_at_call 38; refine (FieldsSeq_in _ _ _).mono ?_; rintro e w1 ⟨rfl, rfl⟩)
  obtain ⟨B, hBe⟩ : ∃ B, B = w.heap.size := ⟨_, rfl⟩
  have B0 := (Boxed.new w 56 (.slice none 0 0)).alloc (.cells #[.string ⟨s.toArray⟩] 9)
  have B1 := Boxed.new (w.alloc (.cells #[.slice none 0 0] 56)) 9 (.string ⟨s.toArray⟩)
  have HB : Below w.heap.size w ((w.alloc (.cells #[.slice none 0 0] 56)).alloc (.cells #[.string ⟨s.toArray⟩] 9)) := (below_box _ _).alloc (by simp) _
  simp only [World.size_alloc] at B0 B1
  have hsz : ((w.alloc (.cells #[.slice none 0 0] 56)).alloc (.cells #[.string ⟨s.toArray⟩] 9)).heap.size = B + 2 := by simp; omega
  generalize (w.alloc (.cells #[.slice none 0 0] 56)).alloc (.cells #[.string ⟨s.toArray⟩] 9) = W0 at *
  rw [← hBe] at B0 B1 HB ⊢
  have hB1 : B ≤ w.heap.size := by omega
  have hB2 : w.heap.size ≤ B := by omega
  have HBE := Lib.hid hBe
  have HSZ := Lib.hid hsz
  have hsz1 : B + 2 ≤ W0.heap.size := by omega
  rw [← hBe] at hb0
  have hn0 : n0 ≤ B := Nat.le_trans HN.out (by omega)
  have HF0 : Hid (FT n0 W0) := Lib.hid (HFT.out.below (hBe ▸ HB) (by omega))
  clear hBe hsz
  refine rangeC rfl (by omega) (gf := 45) (lb := #[.pointer (some ⟨B + 1, 0, none⟩)]) rfl trivial (enters_of Tryd.func45 (by kernel_rfl) rfl)
    (Bs := B + 1) (Kp := KpF n0 (B + 1)) (ps := ws) B1.lt
    (by rw [HWS.out]; exact fields1_in 2 (by omega) s (by omega) _ _ _ B1 HF0.out (by omega))
    KpF.trans (fun W l o' hl _ => ⟨fun k hk => World.putObj_heap_other (by have := HSZ.out; omega), World.putObj_heap_other (by have := HSZ.out; omega), by simp⟩) rfl
    (fun k W => (∃ v, Boxed W B 56 v ∧ W.ownsRow (B + 2) 9 1 v (ws.take k).length ((ws.take k).map strW)) ∧ Below B w W ∧ B + 2 ≤ W.heap.size)
    (fun _ _ _ => False)
    (Firm.and (Firm.row (fun k => (ws.take k).length) (fun k => (ws.take k).map strW) (by omega) (fun W v s h e => by have := (h.lt _ e).1; omega)) (Firm.and (Firm.below (by omega) (by omega) (by omega)) Firm.size))
    (fun c s X Y r h _ _ => h)
    ⟨⟨_, B0, World.ownsRow_nil _ _ _ _⟩, HB, hsz1⟩
    (fun x => { tmps := #[.pointer (some ⟨tb, 0, none⟩), .string ⟨s.toArray⟩, undef, undef, .bool false, .pointer (some ⟨B, 0, none⟩), .string ⟨x.toArray⟩, undef, undef, .string ⟨s.toArray⟩, .func (.func 45) #[] #[.pointer (some ⟨B + 1, 0, none⟩)], .string ⟨x.toArray⟩, undef, undef, undef, undef, undef, undef, undef, undef, undef, undef, undef, undef, undef, undef, undef, undef, undef, undef, undef, undef, undef, undef, undef, undef, undef, undef, undef, undef, undef, undef, undef, undef, undef, undef, undef, undef, undef, undef, undef, undef, undef, undef, undef, undef, undef, undef, undef, undef, undef, undef, undef, undef, undef, undef, undef, undef, undef, undef, undef, undef, undef, undef, undef, undef, undef, undef, undef, undef, undef, undef, undef, undef, undef, undef, undef, undef, undef, undef, undef, undef, undef, undef, undef, undef, undef, undef, undef, undef, undef, undef, undef, undef, undef, undef, undef, undef, undef, undef, undef], defers := [] }) ?assign ?body ?done ?stop
  case assign =>
    intro l x W K hK
    gi_wp2
    exact hK
  case body =>
    rintro l k x W ⟨⟨v, hv, hrow⟩, hB, hs6⟩ hx
    have hkl : k ≤ 100001 := by have := (List.getElem?_eq_some_iff.1 hx).1; omega
    obtain ⟨L, hL⟩ : ∃ L, L = ws.take k := ⟨_, rfl⟩
    have hlk : L.length = k := by rw [hL, List.length_take]; have := (List.getElem?_eq_some_iff.1 hx).1; omega
    have htk : ws.take (k + 1) = L ++ [x] := by
      obtain ⟨h1, h2⟩ := List.getElem?_eq_some_iff.1 hx
      rw [List.take_succ_eq_append_getElem h1, h2, hL]
    rw [← hL] at hrow
    have HTK := Lib.hid htk
    have HLK := Lib.hid hlk
    have HROW := Lib.hid hrow
    have HVB := Lib.hid hv
    have HBW := Lib.hid hB
    have c2 := hv.cell
    clear htk hlk hrow hv hB hx hL
    gi_wp2_with (gi_at_builtin; refine wpListIn_append_own _ rfl _ _ 56 rfl (B + 2) 9 i0 (.string ⟨#[]⟩) 1 16 Tryd.underlying56 hi hz0 hz1 hz2 rfl (by decide) _ _ _ rfl (HROW.out.alloc _) ⟨_, 0, none⟩ 1 1 [.string ⟨x.toArray⟩] rfl rfl (cell_one_new _ _ _) ?_ ?_ ?_ ?_ ?_)
    · intro u hu; simp at hu; subst hu; rfl
    · rw [HLK.out]; unfold maxLen; omega
    · rw [HLK.out]; omega
    · simp; omega
    · intro v' w3 hown' hgrow _
      obtain ⟨g', cap', rfl⟩ := ownsRow_succ hown'
      have HLO2 := Lib.hid (Lo.append (B := B) HROW.out hgrow hs6)
      have h3 : Boxed w3 B 56 v := ((HVB.out.alloc _).kept hgrow (fun e => by have := (HROW.out.lt _ e.symm).1; omega))
      have c3 := h3.cell
      have f3 := h3.frozen
      have H3 := Lib.hid h3
      have HO2 := Lib.hid (own_set (B := B) hown' (by omega) (.slice (some ⟨g', 0, none⟩) (L.length + 1) cap'))
      clear hgrow h3 hown' c2
      gi_wp2
      have lo := HLO2.out.trans (Lo.set H3.out (.slice (some ⟨g', 0, none⟩) (L.length + 1) cap'))
      refine ⟨lo.keeps, KpF.of_lo lo hn0 (by omega) (by omega) (by omega), ⟨_, H3.out.set _, ?_⟩, lo.below HBW.out (by omega) (by omega), Nat.le_trans hs6 lo.size⟩
      rw [HTK.out, List.map_append, List.length_append]
      exact HO2.out
  case stop =>
    intro D c k W _ _ h
    exact h.elim
  case done =>
    rintro D W hD ⟨⟨v, hv, hrow⟩, hB, hs2⟩ hK
    rw [List.take_length] at hrow
    simp only [Exit.inBlock, Exit.then]
    rename_i Kd hKd
    refine hKd _ _ (wpIn_wide.2 ?_)
    clear hKd Kd
    have hBw : Below w.heap.size w W := HBE.out ▸ hB
    have hb1 : base ≤ w.heap.size := by omega
    have hDw : w.heap.size ≤ D := by omega
    have HRT := Lib.hid (HR.out.up hBw)
    have HLO : Hid (LoP base [tb] w W) := Lib.hid (LoP.of_below hBw hb1)
    have HROW := Lib.hid hrow
    have HVB := Lib.hid hv
    have HK := Lib.hid hK
    obtain ⟨Aw, cw, rfl, hc1, hc2, hrd⟩ := rd_of_own hrow
    have c5 := hv.cell
    have HRD := Lib.hid hrd
    clear hB hs2 hrow hK hv hBw hrd hc1 hc2 B0 HB B1
    cases hwe : ws with
    | nil =>
      subst hwe
      have HVn : Hid (V = none) := Lib.hid (by rw [HV.out, read_nil t HWS.out.symm])
      go_wp2_with fail
      refine ⟨by simp, .inl ⟨_, _, rfl, run_takeDeferred HK.out, ?_⟩⟩
      exact ⟨.bool false, by simp [results, Tryd.results19, go_sem], retRead (by rw [HVn.out]; rfl) (fun u e => by rw [HVn.out] at e; cases e) HRT.out HLO.out hDw HK.out hb1⟩
    | cons x0 wr =>
      have hx0 : ws[0]? = some x0 := by rw [hwe]; rfl
      have hpos : 0 < ws.length := by rw [hwe]; simp
      have h0i : (0 : Int) < (ws.length : Int) := by omega
      have hne0 : ((ws.length : Int) == 0) = false := by rw [beq_eq_false_iff_ne]; omega
      obtain ⟨g, cw', hsl, hg1, hg2⟩ := HROW.out.form hpos
      injection hsl with e1 _ e2
      subst e1 e2
      have q0 : W.cell? ⟨g, 0, none⟩ = some (.string ⟨x0.toArray⟩) := by
        obtain ⟨b, o, e, q⟩ := HRD.out.at_ (u := strW x0) (k := 0) (by rw [List.getElem?_map, hx0]; rfl)
        injection e with e
        injection e with e1 e2
        subst e1 e2
        exact q
      have HVV : Hid (V = readW t ws) := Lib.hid (by rw [HV.out, HWS.out]; rfl)
      have HX0 := Lib.hid hx0
      have htB : tb < B := by omega
      have hnt : n0 ≤ tb := HN.out
      have HET : Hid (ET n0 W) := Lib.hid (HE.out.up fun k hk => HLO.out.blk k (by omega) (by simp; omega))
      obtain ⟨b0, b1, b2, bf⟩ := HRT.out.cells
      have hts : tb < W.heap.size := lt_of_heap HRT.out.st
      have hBs : B < W.heap.size := by omega
      clear hx0 hwe HRD hsz1 hD
      by_cases hn : x0 = sNodes
      · have HW0 : Hid (ws[0]? = some sNodes) := Lib.hid (hn ▸ HX0.out)
        have q1 : W.cell? ⟨g, 0, none⟩ = some (.string ⟨#[110, 111, 100, 101, 115]⟩) := by rw [q0, hn]; rfl
        clear q0
        clear hn
        go_upto_region 9 with fail
        refine wp_region_noPanic ?_
        obtain ⟨W4, hW4⟩ : ∃ X, X = W.drew := ⟨_, rfl⟩
        have HL4 : Hid (LoP base [tb] W W4) := Lib.hid (hW4 ▸ LoP.of_below (below_drw2 W) (by omega))
        have HR4 : Hid (RT tb base t ov ls W4) := Lib.hid (hW4 ▸ HRT.out.up (below_drw2 W))
        have hs4 : W.heap.size ≤ W4.heap.size := HL4.out.size
        have HSA : Hid (ScanAt n0 (B + 2) g cw W4.heap.size tb 1 ws (W4.alloc (.cells #[.pointer (some ⟨tb, 0, none⟩)] 70))) := Lib.hid ⟨own_up (own_up HROW.out (hW4 ▸ below_drw2 W)) (below_box _ _), HET.out.up (fun k hk => (Below.heap_alloc _ _ _ (by omega)).trans (HL4.out.blk k (by omega) (by simp; omega))), ptr_one _ _ _, HN.out, by simp; omega, by omega, by omega, by simp⟩
        have HRX : Hid (RT tb base t ov ls (W4.alloc (.cells #[.pointer (some ⟨tb, 0, none⟩)] 70))) := Lib.hid (HR4.out.up (below_box _ _))
        refine wp_region_held_drew (S := (fun w' => w'.cell? ⟨B, 0, none⟩ = some (.slice (some ⟨g, 0, none⟩) ws.length cw))) (by kernel_rfl) ?_ (fun hHeld => ?_)
        · exact c5
        rw [← hW4] at hHeld ⊢
        have b0' : W4.cell? ⟨tb, 0, none⟩ = some (.int .i64 t.n) := HR4.out.cells.1
        clear hW4
        (refine takeL (i := 0) (v := ?_) rfl (by kernel_rfl) (by decide +kernel) (by decide +kernel) (fun _ _ _ h => h) (Or.inl ⟨by rfl, ?_⟩) (by assumption) ?_; rotate_left; (focus (intro w9 hS9; (try dsimp only at hS9); go_simp; (try with_reducible rfl); done)))
        (try simp only [Act.put, List.setIfInBounds_toArray, List.set_cons_zero, List.set_cons_succ])
        (refine takeL (i := 1) (v := ?_) rfl (by kernel_rfl) (by decide +kernel) (by decide +kernel) (fun _ _ _ h => h) (Or.inl ⟨by rfl, ?_⟩) (by assumption) ?_; rotate_left; (focus (intro w9 hS9; (try dsimp only at hS9); go_simp; (try with_reducible rfl); done)))
        (try simp only [Act.put, List.setIfInBounds_toArray, List.set_cons_zero, List.set_cons_succ])
        (refine takeL (i := 2) (v := ?_) rfl (by kernel_rfl) (by decide +kernel) (by decide +kernel) (fun _ _ _ h => h) (Or.inl ⟨by rfl, ?_⟩) (by assumption) ?_; rotate_left; (focus (intro w9 hS9; (try dsimp only at hS9); go_simp; (try with_reducible rfl); done)))
        (try simp only [Act.put, List.setIfInBounds_toArray, List.set_cons_zero, List.set_cons_succ])
        (refine takeL (i := 3) (v := ?_) rfl (by kernel_rfl) (by decide +kernel) (by decide +kernel) (fun _ _ _ h => h) (Or.inl ⟨by rfl, ?_⟩) (by assumption) ?_; rotate_left; (focus (intro w9 hS9; (try dsimp only at hS9); go_simp; (try with_reducible rfl); done)))
        (try simp only [Act.put, List.setIfInBounds_toArray, List.set_cons_zero, List.set_cons_succ])
        refine wpAnyH_ready (rs := [4]) (by decide +kernel) (by simp) ?_
        refine consL rfl (fun K hK => ?_) ?_
        · (first | fail | (go_simp; first | done | (first | fail)) | go_simp)
          (first | (with_reducible refine hK.out _ _ ?_ ?_) | (go_wp2_with fail; refine hK.out _ _ ?_ ?_))
          (focus (exact cell_up (below_box _ _) hHeld))
          clear hK K hHeld
          intro hHeld
          (try simp only [Act.put, List.setIfInBounds_toArray, List.set_cons_zero, List.set_cons_succ])
          refine wpAnyH_ready (rs := [5]) (by decide +kernel) (by simp) ?_
          refine consL rfl (fun K hK => ?_) ?_
          · (first | (go_at_call 39; (with_reducible refine (HSA.out.nodes hwl HWX.out HRX.out).mono ?_); rintro e w5 ⟨n, rfl, hn5, hR5, hg5⟩) | (go_simp; first | done | (first | (go_at_call 39; (with_reducible refine (HSA.out.nodes hwl HWX.out HRX.out).mono ?_); rintro e w5 ⟨n, rfl, hn5, hR5, hg5⟩))) | go_simp)
            (first | (with_reducible refine hK.out _ _ ?_ ?_) | (go_wp2_with fail; refine hK.out _ _ ?_ ?_))
            (focus (exact (World.cell?_of_block (a := ⟨B, 0, none⟩) (hg5.block B (by simp; omega) (fun e => by injection e; omega))).trans hHeld))
            clear hK K hHeld
            intro hHeld
            (try simp only [Act.put, List.setIfInBounds_toArray, List.set_cons_zero, List.set_cons_succ])
            (refine takeL (i := 6) (v := ?_) rfl (by kernel_rfl) (by decide +kernel) (by decide +kernel) (fun _ _ _ h => h) (Or.inl ⟨by rfl, ?_⟩) (by assumption) ?_; rotate_left; (focus (intro w9 hS9; (try dsimp only at hS9); go_simp; (try with_reducible rfl); done)))
            (try simp only [Act.put, List.setIfInBounds_toArray, List.set_cons_zero, List.set_cons_succ])
            refine wpAnyH_done (by decide +kernel) ?_ _
            refine NoPanic.normal ?_
            have HLX : Hid (LoP base [tb] W w5) := Lib.hid ((HL4.out.trans (LoP.of_below (below_box W4 _) (by omega))).trans (LoP.of_grown HRX.out.st (.inl (by simp)) hg5 (by simp; omega)))
            go_wp2_with fail
            refine ⟨by simp, .inl ⟨_, _, rfl, run_takeDeferred (HLX.out.oth _ _ HK.out rfl), ?_⟩⟩
            exact ⟨.bool (scanS ws 1).isSome, by simp [results, Tryd.results19, go_sem], retRead2 (by rw [HVV.out]; exact (read_n HW0.out hn5).1) (fun u e => (read_n HW0.out hn5).2 u (by rw [← HVV.out]; exact e)) hR5 HLO.out HLX.out hDw HK.out hb1⟩
          exact AllReadyH.nil
        exact AllReadyH.nil
      by_cases ho : x0 = sOverload
      · have HW0 : Hid (ws[0]? = some sOverload) := Lib.hid (ho ▸ HX0.out)
        have q1 : W.cell? ⟨g, 0, none⟩ = some (.string ⟨#[111, 118, 101, 114, 108, 111, 97, 100]⟩) := by rw [q0, ho]; rfl
        clear q0
        clear hn ho
        cases hsc : scanS ws 1 with
        | none =>
          have HVn : Hid (V = none) := Lib.hid (by rw [HVV.out]; exact read_o_none HW0.out hsc)
          go_upto_region 12 with fail
          refine wp_region_noPanic ?_
          have hW1 := below_box W (.cells #[.int .i64 0] 3)
          have bn := heap_alloc_new W (.cells #[.int .i64 0] 3)
          have hs1 : (W.alloc (.cells #[.int .i64 0] 3)).heap.size = W.heap.size + 1 := by simp
          generalize W.alloc (.cells #[.int .i64 0] 3) = W1 at hW1 bn hs1 ⊢
          obtain ⟨W4, hW4⟩ : ∃ X, X = W1.drew := ⟨_, rfl⟩
          have h14 : Below W1.heap.size W1 W4 := hW4 ▸ below_drw2 W1
          have HL4 : Hid (LoP base [tb] W W4) := Lib.hid ((LoP.of_below hW1 (by omega)).trans (LoP.of_below h14 (by omega)))
          have HR4 : Hid (RT tb base t ov ls W4) := Lib.hid ((HRT.out.up hW1).up h14)
          have hs4 : W.heap.size < W4.heap.size := by have := h14.size; omega
          have bn4 : W4.heap[W.heap.size]? = some (.cells #[.int .i64 0] 3 (0, 0)) := (h14.block _ (by omega)).trans bn
          have HSA : Hid (ScanAt n0 (B + 2) g cw W4.heap.size W.heap.size 1 ws (W4.alloc (.cells #[.pointer (some ⟨W.heap.size, 0, none⟩)] 70))) := Lib.hid ⟨own_up (own_up (own_up HROW.out hW1) h14) (below_box _ _), HET.out.up (fun k hk => (Below.heap_alloc _ _ _ (by omega)).trans (HL4.out.blk k (by omega) (by simp; omega))), ptr_one _ _ _, by omega, by simp; omega, by omega, by omega, by simp⟩
          have HRX : Hid (RT tb base t ov ls (W4.alloc (.cells #[.pointer (some ⟨W.heap.size, 0, none⟩)] 70))) := Lib.hid (HR4.out.up (below_box _ _))
          have HNX : Hid ((W4.alloc (.cells #[.pointer (some ⟨W.heap.size, 0, none⟩)] 70)).heap[W.heap.size]? = some (.cells #[.int .i64 0] 3 (0, 0))) := Lib.hid ((Below.heap_alloc _ _ _ hs4).trans bn4)
          have HNO : Hid (ov.ownBlock ≠ some W.heap.size ∧ ls.ownBlock ≠ some W.heap.size) := Lib.hid ⟨fun e => by have := (HRT.out.ho.lt _ e).2; omega, fun e => by have := (HRT.out.hl.lt _ e).2; omega⟩
          have c54 : W4.cell? ⟨B, 0, none⟩ = some (.slice (some ⟨g, 0, none⟩) ws.length cw) := cell_up h14 (cell_up hW1 c5)
          clear bn hs1 hW1 h14 b0 b1 b2 bf bn4 c5 q1
          have b0 : W4.cell? ⟨tb, 0, none⟩ = some (.int .i64 t.n) := HR4.out.cells.1
          have HSC := Lib.hid (HSA.out.one hwl HWX.out HNX.out)
          rw [hsc] at HSC
          refine wp_region_held_drew (S := (fun w' => w'.cell? ⟨B, 0, none⟩ = some (.slice (some ⟨g, 0, none⟩) ws.length cw) ∧ w'.cell? ⟨tb, 0, none⟩ = some (.int .i64 t.n))) (by kernel_rfl) ?_ (fun hHeld => ?_)
          · exact ⟨hW4 ▸ c54, hW4 ▸ b0⟩
          rw [← hW4] at hHeld ⊢
          clear hW4
          (refine takeL (i := 0) (v := ?_) rfl (by kernel_rfl) (by decide +kernel) (by decide +kernel) (fun _ _ _ h => h) (Or.inl ⟨by rfl, ?_⟩) (by assumption) ?_; rotate_left; (focus (intro w9 hS9; (try dsimp only at hS9); go_simp; (try with_reducible rfl); done)))
          (try simp only [Act.put, List.setIfInBounds_toArray, List.set_cons_zero, List.set_cons_succ])
          refine wpAnyH_ready (rs := [1]) (by decide +kernel) (by simp) ?_
          refine consL rfl (fun K hK => ?_) ?_
          · (first | fail | (go_simp; first | done | (first | fail)) | go_simp)
            (first | (with_reducible refine hK.out _ _ ?_ ?_) | (go_wp2_with fail; refine hK.out _ _ ?_ ?_))
            (focus (exact ⟨cell_up (below_box _ _) hHeld.1, cell_up (below_box _ _) hHeld.2⟩))
            clear hK K hHeld
            intro hHeld
            (try simp only [Act.put, List.setIfInBounds_toArray, List.set_cons_zero, List.set_cons_succ])
            refine wpAnyH_ready (rs := [2]) (by decide +kernel) (by simp) ?_
            refine consL rfl (fun K hK => ?_) ?_
            · (first | (go_at_call 39; (with_reducible refine HSC.out.mono ?_); rintro e w5 ⟨n, rfl, hn5, hb5, hg5⟩; have cn5 : w5.cell? ⟨W.heap.size, 0, none⟩ = some (.int .i64 n) := (Lib.cell_of_heap hb5 0).trans rfl) | (go_simp; first | done | (first | (go_at_call 39; (with_reducible refine HSC.out.mono ?_); rintro e w5 ⟨n, rfl, hn5, hb5, hg5⟩; have cn5 : w5.cell? ⟨W.heap.size, 0, none⟩ = some (.int .i64 n) := (Lib.cell_of_heap hb5 0).trans rfl))) | go_simp)
              (first | (with_reducible refine hK.out _ _ ?_ ?_) | (go_wp2_with fail; refine hK.out _ _ ?_ ?_))
              (focus (exact ⟨(World.cell?_of_block (a := ⟨B, 0, none⟩) (hg5.block B (by simp; omega) (fun e => by injection e; omega))).trans hHeld.1, (World.cell?_of_block (a := ⟨tb, 0, none⟩) (hg5.block tb (by simp; omega) (fun e => by injection e; omega))).trans hHeld.2⟩))
              clear hK K hHeld
              intro hHeld
              (try simp only [Act.put, List.setIfInBounds_toArray, List.set_cons_zero, List.set_cons_succ])
              (refine takeL (i := 3) (v := ?_) rfl (by kernel_rfl) (by decide +kernel) (by decide +kernel) (fun _ _ _ h => h) (Or.inl ⟨by rfl, ?_⟩) (by assumption) ?_; rotate_left; (focus (intro w9 hS9; (try dsimp only at hS9); go_simp; (try with_reducible rfl); done)))
              (try simp only [Act.put, List.setIfInBounds_toArray, List.set_cons_zero, List.set_cons_succ])
              (refine takeL (i := 4) (v := ?_) rfl (by kernel_rfl) (by decide +kernel) (by decide +kernel) (fun _ _ _ h => h) (Or.inl ⟨by rfl, ?_⟩) (by assumption) ?_; rotate_left; (focus (intro w9 hS9; (try dsimp only at hS9); go_simp; (try with_reducible rfl); done)))
              (try simp only [Act.put, List.setIfInBounds_toArray, List.set_cons_zero, List.set_cons_succ])
              (refine takeL (i := 5) (v := undef) rfl (by kernel_rfl) (by decide +kernel) (by decide +kernel) (fun _ _ _ h => h) (Or.inr ⟨by rfl, rfl⟩) (by assumption) ?_)
              (try simp only [Act.put, List.setIfInBounds_toArray, List.set_cons_zero, List.set_cons_succ])
              (refine takeL (i := 6) (v := undef) rfl (by kernel_rfl) (by decide +kernel) (by decide +kernel) (fun _ _ _ h => h) (Or.inr ⟨by rfl, rfl⟩) (by assumption) ?_)
              (try simp only [Act.put, List.setIfInBounds_toArray, List.set_cons_zero, List.set_cons_succ])
              (refine takeL (i := 7) (v := undef) rfl (by kernel_rfl) (by decide +kernel) (by decide +kernel) (fun _ _ _ h => h) (Or.inr ⟨by rfl, rfl⟩) (by assumption) ?_)
              (try simp only [Act.put, List.setIfInBounds_toArray, List.set_cons_zero, List.set_cons_succ])
              (refine takeL (i := 8) (v := undef) rfl (by kernel_rfl) (by decide +kernel) (by decide +kernel) (fun _ _ _ h => h) (Or.inr ⟨by rfl, rfl⟩) (by assumption) ?_)
              (try simp only [Act.put, List.setIfInBounds_toArray, List.set_cons_zero, List.set_cons_succ])
              (refine takeL (i := 9) (v := undef) rfl (by kernel_rfl) (by decide +kernel) (by decide +kernel) (fun _ _ _ h => h) (Or.inr ⟨by rfl, rfl⟩) (by assumption) ?_)
              (try simp only [Act.put, List.setIfInBounds_toArray, List.set_cons_zero, List.set_cons_succ])
              (refine takeL (i := 10) (v := undef) rfl (by kernel_rfl) (by decide +kernel) (by decide +kernel) (fun _ _ _ h => h) (Or.inr ⟨by rfl, rfl⟩) (by assumption) ?_)
              (try simp only [Act.put, List.setIfInBounds_toArray, List.set_cons_zero, List.set_cons_succ])
              (refine takeL (i := 11) (v := ?_) rfl (by kernel_rfl) (by decide +kernel) (by decide +kernel) (fun _ _ _ h => h) (Or.inl ⟨by rfl, ?_⟩) (by assumption) ?_; rotate_left; (focus (intro w9 hS9; (try dsimp only at hS9); go_simp; (try with_reducible rfl); done)))
              (try simp only [Act.put, List.setIfInBounds_toArray, List.set_cons_zero, List.set_cons_succ])
              (refine takeL (i := 12) (v := ?_) rfl (by kernel_rfl) (by decide +kernel) (by decide +kernel) (fun _ _ _ h => h) (Or.inl ⟨by rfl, ?_⟩) (by assumption) ?_; rotate_left; (focus (intro w9 hS9; (try dsimp only at hS9); go_simp; (try with_reducible rfl); done)))
              (try simp only [Act.put, List.setIfInBounds_toArray, List.set_cons_zero, List.set_cons_succ])
              (refine takeL (i := 13) (v := undef) rfl (by kernel_rfl) (by decide +kernel) (by decide +kernel) (fun _ _ _ h => h) (Or.inr ⟨by rfl, rfl⟩) (by assumption) ?_)
              (try simp only [Act.put, List.setIfInBounds_toArray, List.set_cons_zero, List.set_cons_succ])
              (refine takeL (i := 14) (v := undef) rfl (by kernel_rfl) (by decide +kernel) (by decide +kernel) (fun _ _ _ h => h) (Or.inr ⟨by rfl, rfl⟩) (by assumption) ?_)
              (try simp only [Act.put, List.setIfInBounds_toArray, List.set_cons_zero, List.set_cons_succ])
              (refine takeL (i := 15) (v := undef) rfl (by kernel_rfl) (by decide +kernel) (by decide +kernel) (fun _ _ _ h => h) (Or.inr ⟨by rfl, rfl⟩) (by assumption) ?_)
              (try simp only [Act.put, List.setIfInBounds_toArray, List.set_cons_zero, List.set_cons_succ])
              (refine takeL (i := 16) (v := undef) rfl (by kernel_rfl) (by decide +kernel) (by decide +kernel) (fun _ _ _ h => h) (Or.inr ⟨by rfl, rfl⟩) (by assumption) ?_)
              (try simp only [Act.put, List.setIfInBounds_toArray, List.set_cons_zero, List.set_cons_succ])
              (refine takeL (i := 17) (v := undef) rfl (by kernel_rfl) (by decide +kernel) (by decide +kernel) (fun _ _ _ h => h) (Or.inr ⟨by rfl, rfl⟩) (by assumption) ?_)
              (try simp only [Act.put, List.setIfInBounds_toArray, List.set_cons_zero, List.set_cons_succ])
              (refine takeL (i := 18) (v := undef) rfl (by kernel_rfl) (by decide +kernel) (by decide +kernel) (fun _ _ _ h => h) (Or.inr ⟨by rfl, rfl⟩) (by assumption) ?_)
              (try simp only [Act.put, List.setIfInBounds_toArray, List.set_cons_zero, List.set_cons_succ])
              (refine takeL (i := 19) (v := undef) rfl (by kernel_rfl) (by decide +kernel) (by decide +kernel) (fun _ _ _ h => h) (Or.inr ⟨by rfl, rfl⟩) (by assumption) ?_)
              (try simp only [Act.put, List.setIfInBounds_toArray, List.set_cons_zero, List.set_cons_succ])
              (refine takeL (i := 20) (v := undef) rfl (by kernel_rfl) (by decide +kernel) (by decide +kernel) (fun _ _ _ h => h) (Or.inr ⟨by rfl, rfl⟩) (by assumption) ?_)
              (try simp only [Act.put, List.setIfInBounds_toArray, List.set_cons_zero, List.set_cons_succ])
              (refine takeL (i := 21) (v := ?_) rfl (by kernel_rfl) (by decide +kernel) (by decide +kernel) (fun _ _ _ h => h) (Or.inl ⟨by rfl, ?_⟩) (by assumption) ?_; rotate_left; (focus (intro w9 hS9; (try dsimp only at hS9); go_simp; (try with_reducible rfl); done)))
              (try simp only [Act.put, List.setIfInBounds_toArray, List.set_cons_zero, List.set_cons_succ])
              refine wpAnyH_done (by decide +kernel) ?_ _
              refine NoPanic.normal ?_
              have HLX : Hid (LoP base [tb] W w5) := Lib.hid ((HL4.out.trans (LoP.of_below (below_box W4 _) (by omega))).trans (LoP.of_grown HNX.out (.inr (by omega)) hg5 (by simp; omega)))
              have HR5 : Hid (RT tb base t ov ls w5) := Lib.hid (HRX.out.other hg5 (by omega) HNO.out.1 HNO.out.2)
              go_wp2_with fail
              refine ⟨by simp, .inl ⟨_, _, rfl, run_takeDeferred (HLX.out.oth _ _ HK.out rfl), ?_⟩⟩
              exact ⟨.bool false, by simp [results, Tryd.results19, go_sem], retRead2 (by rw [HVn.out]; rfl) (fun u e => by rw [HVn.out] at e; cases e) HR5.out HLO.out HLX.out hDw HK.out hb1⟩
            exact AllReadyH.nil
          exact AllReadyH.nil
        | some vs =>
          have HVo := Lib.hid (read_o (t := t) HW0.out hsc)
          cases i1 : inR t.n 1 64 with
          | false =>
            have HVn : Hid (V = none) := Lib.hid (by rw [HVV.out, HVo.out, i1]; rfl)
            go_upto_region 12 with fail
            refine wp_region_noPanic ?_
            have hW1 := below_box W (.cells #[.int .i64 0] 3)
            have bn := heap_alloc_new W (.cells #[.int .i64 0] 3)
            have hs1 : (W.alloc (.cells #[.int .i64 0] 3)).heap.size = W.heap.size + 1 := by simp
            generalize W.alloc (.cells #[.int .i64 0] 3) = W1 at hW1 bn hs1 ⊢
            obtain ⟨W4, hW4⟩ : ∃ X, X = W1.drew := ⟨_, rfl⟩
            have h14 : Below W1.heap.size W1 W4 := hW4 ▸ below_drw2 W1
            have HL4 : Hid (LoP base [tb] W W4) := Lib.hid ((LoP.of_below hW1 (by omega)).trans (LoP.of_below h14 (by omega)))
            have HR4 : Hid (RT tb base t ov ls W4) := Lib.hid ((HRT.out.up hW1).up h14)
            have hs4 : W.heap.size < W4.heap.size := by have := h14.size; omega
            have bn4 : W4.heap[W.heap.size]? = some (.cells #[.int .i64 0] 3 (0, 0)) := (h14.block _ (by omega)).trans bn
            have HSA : Hid (ScanAt n0 (B + 2) g cw W4.heap.size W.heap.size 1 ws (W4.alloc (.cells #[.pointer (some ⟨W.heap.size, 0, none⟩)] 70))) := Lib.hid ⟨own_up (own_up (own_up HROW.out hW1) h14) (below_box _ _), HET.out.up (fun k hk => (Below.heap_alloc _ _ _ (by omega)).trans (HL4.out.blk k (by omega) (by simp; omega))), ptr_one _ _ _, by omega, by simp; omega, by omega, by omega, by simp⟩
            have HRX : Hid (RT tb base t ov ls (W4.alloc (.cells #[.pointer (some ⟨W.heap.size, 0, none⟩)] 70))) := Lib.hid (HR4.out.up (below_box _ _))
            have HNX : Hid ((W4.alloc (.cells #[.pointer (some ⟨W.heap.size, 0, none⟩)] 70)).heap[W.heap.size]? = some (.cells #[.int .i64 0] 3 (0, 0))) := Lib.hid ((Below.heap_alloc _ _ _ hs4).trans bn4)
            have HNO : Hid (ov.ownBlock ≠ some W.heap.size ∧ ls.ownBlock ≠ some W.heap.size) := Lib.hid ⟨fun e => by have := (HRT.out.ho.lt _ e).2; omega, fun e => by have := (HRT.out.hl.lt _ e).2; omega⟩
            have c54 : W4.cell? ⟨B, 0, none⟩ = some (.slice (some ⟨g, 0, none⟩) ws.length cw) := cell_up h14 (cell_up hW1 c5)
            clear bn hs1 hW1 h14 b0 b1 b2 bf bn4 c5 q1
            have b0 : W4.cell? ⟨tb, 0, none⟩ = some (.int .i64 t.n) := HR4.out.cells.1
            have HSC := Lib.hid (HSA.out.one hwl HWX.out HNX.out)
            rw [hsc] at HSC
            refine wp_region_held_drew (S := (fun w' => w'.cell? ⟨B, 0, none⟩ = some (.slice (some ⟨g, 0, none⟩) ws.length cw) ∧ w'.cell? ⟨tb, 0, none⟩ = some (.int .i64 t.n))) (by kernel_rfl) ?_ (fun hHeld => ?_)
            · exact ⟨hW4 ▸ c54, hW4 ▸ b0⟩
            rw [← hW4] at hHeld ⊢
            clear hW4
            (refine takeL (i := 0) (v := ?_) rfl (by kernel_rfl) (by decide +kernel) (by decide +kernel) (fun _ _ _ h => h) (Or.inl ⟨by rfl, ?_⟩) (by assumption) ?_; rotate_left; (focus (intro w9 hS9; (try dsimp only at hS9); go_simp; (try with_reducible rfl); done)))
            (try simp only [Act.put, List.setIfInBounds_toArray, List.set_cons_zero, List.set_cons_succ])
            refine wpAnyH_ready (rs := [1]) (by decide +kernel) (by simp) ?_
            refine consL rfl (fun K hK => ?_) ?_
            · (first | fail | (go_simp; first | done | (first | fail)) | go_simp)
              (first | (with_reducible refine hK.out _ _ ?_ ?_) | (go_wp2_with fail; refine hK.out _ _ ?_ ?_))
              (focus (exact ⟨cell_up (below_box _ _) hHeld.1, cell_up (below_box _ _) hHeld.2⟩))
              clear hK K hHeld
              intro hHeld
              (try simp only [Act.put, List.setIfInBounds_toArray, List.set_cons_zero, List.set_cons_succ])
              refine wpAnyH_ready (rs := [2]) (by decide +kernel) (by simp) ?_
              refine consL rfl (fun K hK => ?_) ?_
              · (first | (go_at_call 39; (with_reducible refine HSC.out.mono ?_); rintro e w5 ⟨n, rfl, hn5, hb5, hg5⟩; have cn5 : w5.cell? ⟨W.heap.size, 0, none⟩ = some (.int .i64 n) := (Lib.cell_of_heap hb5 0).trans rfl) | (go_simp; first | done | (first | (go_at_call 39; (with_reducible refine HSC.out.mono ?_); rintro e w5 ⟨n, rfl, hn5, hb5, hg5⟩; have cn5 : w5.cell? ⟨W.heap.size, 0, none⟩ = some (.int .i64 n) := (Lib.cell_of_heap hb5 0).trans rfl))) | go_simp)
                (first | (with_reducible refine hK.out _ _ ?_ ?_) | (go_wp2_with fail; refine hK.out _ _ ?_ ?_))
                (focus (exact ⟨(World.cell?_of_block (a := ⟨B, 0, none⟩) (hg5.block B (by simp; omega) (fun e => by injection e; omega))).trans hHeld.1, (World.cell?_of_block (a := ⟨tb, 0, none⟩) (hg5.block tb (by simp; omega) (fun e => by injection e; omega))).trans hHeld.2⟩))
                clear hK K hHeld
                intro hHeld
                (try simp only [Act.put, List.setIfInBounds_toArray, List.set_cons_zero, List.set_cons_succ])
                (refine takeL (i := 3) (v := ?_) rfl (by kernel_rfl) (by decide +kernel) (by decide +kernel) (fun _ _ _ h => h) (Or.inl ⟨by rfl, ?_⟩) (by assumption) ?_; rotate_left; (focus (intro w9 hS9; (try dsimp only at hS9); go_simp; (try with_reducible rfl); done)))
                (try simp only [Act.put, List.setIfInBounds_toArray, List.set_cons_zero, List.set_cons_succ])
                (refine takeL (i := 4) (v := ?_) rfl (by kernel_rfl) (by decide +kernel) (by decide +kernel) (fun _ _ _ h => h) (Or.inl ⟨by rfl, ?_⟩) (by assumption) ?_; rotate_left; (focus (intro w9 hS9; (try dsimp only at hS9); go_simp; (try with_reducible rfl); done)))
                (try simp only [Act.put, List.setIfInBounds_toArray, List.set_cons_zero, List.set_cons_succ])
                (refine takeL (i := 5) (v := ?_) rfl (by kernel_rfl) (by decide +kernel) (by decide +kernel) (fun _ _ _ h => h) (Or.inl ⟨by rfl, ?_⟩) (by assumption) ?_; rotate_left; (focus (intro w9 hS9; (try dsimp only at hS9); go_simp; (try with_reducible rfl); done)))
                (try simp only [Act.put, List.setIfInBounds_toArray, List.set_cons_zero, List.set_cons_succ])
                (refine takeL (i := 6) (v := ?_) rfl (by kernel_rfl) (by decide +kernel) (by decide +kernel) (fun _ _ _ h => h) (Or.inl ⟨by rfl, ?_⟩) (by assumption) ?_; rotate_left; (focus (intro w9 hS9; (try dsimp only at hS9); go_simp; (try with_reducible rfl); done)))
                (try simp only [Act.put, List.setIfInBounds_toArray, List.set_cons_zero, List.set_cons_succ])
                (refine takeL (i := 7) (v := ?_) rfl (by kernel_rfl) (by decide +kernel) (by decide +kernel) (fun _ _ _ h => h) (Or.inl ⟨by rfl, ?_⟩) (by assumption) ?_; rotate_left; (focus (intro w9 hS9; (try dsimp only at hS9); go_simp; (try with_reducible rfl); done)))
                (try simp only [Act.put, List.setIfInBounds_toArray, List.set_cons_zero, List.set_cons_succ])
                (refine takeL (i := 8) (v := ?_) rfl (by kernel_rfl) (by decide +kernel) (by decide +kernel) (fun _ _ _ h => h) (Or.inl ⟨by rfl, ?_⟩) (by assumption) ?_; rotate_left; (focus (intro w9 hS9; (try dsimp only at hS9); go_simp; (try with_reducible rfl); done)))
                (try simp only [Act.put, List.setIfInBounds_toArray, List.set_cons_zero, List.set_cons_succ])
                refine wpAnyH_ready (rs := [9]) (by decide +kernel) (by simp) ?_
                refine consL rfl (fun K hK => ?_) ?_
                · (first | (go_at_call 32; (with_reducible refine (topology_within _ _ _ _).mono ?_); rintro e w6 ⟨rfl, rfl⟩) | (go_simp; first | done | (first | (go_at_call 32; (with_reducible refine (topology_within _ _ _ _).mono ?_); rintro e w6 ⟨rfl, rfl⟩))) | go_simp)
                  (first | (with_reducible refine hK.out _ _ ?_ ?_) | (go_wp2_with fail; refine hK.out _ _ ?_ ?_))
                  (focus (exact hHeld))
                  clear hK K hHeld
                  intro hHeld
                  (try simp only [Act.put, List.setIfInBounds_toArray, List.set_cons_zero, List.set_cons_succ])
                  (refine takeL (i := 10) (v := ?_) rfl (by kernel_rfl) (by decide +kernel) (by decide +kernel) (fun _ _ _ h => h) (Or.inl ⟨by rfl, ?_⟩) (by assumption) ?_; rotate_left; (focus (intro w9 hS9; (try dsimp only at hS9); go_simp; (try with_reducible rfl); done)))
                  (try simp only [Act.put, List.setIfInBounds_toArray, List.set_cons_zero, List.set_cons_succ])
                  (refine takeL (i := 11) (v := ?_) rfl (by kernel_rfl) (by decide +kernel) (by decide +kernel) (fun _ _ _ h => h) (Or.inl ⟨by rfl, ?_⟩) (by assumption) ?_; rotate_left; (focus (intro w9 hS9; (try dsimp only at hS9); go_simp; (try with_reducible rfl); done)))
                  (try simp only [Act.put, List.setIfInBounds_toArray, List.set_cons_zero, List.set_cons_succ])
                  (refine takeL (i := 12) (v := ?_) rfl (by kernel_rfl) (by decide +kernel) (by decide +kernel) (fun _ _ _ h => h) (Or.inl ⟨by rfl, ?_⟩) (by assumption) ?_; rotate_left; (focus (intro w9 hS9; (try dsimp only at hS9); go_simp; (try with_reducible rfl); done)))
                  (try simp only [Act.put, List.setIfInBounds_toArray, List.set_cons_zero, List.set_cons_succ])
                  (refine takeL (i := 13) (v := undef) rfl (by kernel_rfl) (by decide +kernel) (by decide +kernel) (fun _ _ _ h => h) (Or.inr ⟨by rfl, rfl⟩) (by assumption) ?_)
                  (try simp only [Act.put, List.setIfInBounds_toArray, List.set_cons_zero, List.set_cons_succ])
                  (refine takeL (i := 14) (v := undef) rfl (by kernel_rfl) (by decide +kernel) (by decide +kernel) (fun _ _ _ h => h) (Or.inr ⟨by rfl, rfl⟩) (by assumption) ?_)
                  (try simp only [Act.put, List.setIfInBounds_toArray, List.set_cons_zero, List.set_cons_succ])
                  (refine takeL (i := 15) (v := undef) rfl (by kernel_rfl) (by decide +kernel) (by decide +kernel) (fun _ _ _ h => h) (Or.inr ⟨by rfl, rfl⟩) (by assumption) ?_)
                  (try simp only [Act.put, List.setIfInBounds_toArray, List.set_cons_zero, List.set_cons_succ])
                  (refine takeL (i := 16) (v := undef) rfl (by kernel_rfl) (by decide +kernel) (by decide +kernel) (fun _ _ _ h => h) (Or.inr ⟨by rfl, rfl⟩) (by assumption) ?_)
                  (try simp only [Act.put, List.setIfInBounds_toArray, List.set_cons_zero, List.set_cons_succ])
                  (refine takeL (i := 17) (v := undef) rfl (by kernel_rfl) (by decide +kernel) (by decide +kernel) (fun _ _ _ h => h) (Or.inr ⟨by rfl, rfl⟩) (by assumption) ?_)
                  (try simp only [Act.put, List.setIfInBounds_toArray, List.set_cons_zero, List.set_cons_succ])
                  (refine takeL (i := 18) (v := undef) rfl (by kernel_rfl) (by decide +kernel) (by decide +kernel) (fun _ _ _ h => h) (Or.inr ⟨by rfl, rfl⟩) (by assumption) ?_)
                  (try simp only [Act.put, List.setIfInBounds_toArray, List.set_cons_zero, List.set_cons_succ])
                  (refine takeL (i := 19) (v := undef) rfl (by kernel_rfl) (by decide +kernel) (by decide +kernel) (fun _ _ _ h => h) (Or.inr ⟨by rfl, rfl⟩) (by assumption) ?_)
                  (try simp only [Act.put, List.setIfInBounds_toArray, List.set_cons_zero, List.set_cons_succ])
                  (refine takeL (i := 20) (v := undef) rfl (by kernel_rfl) (by decide +kernel) (by decide +kernel) (fun _ _ _ h => h) (Or.inr ⟨by rfl, rfl⟩) (by assumption) ?_)
                  (try simp only [Act.put, List.setIfInBounds_toArray, List.set_cons_zero, List.set_cons_succ])
                  (refine takeL (i := 21) (v := ?_) rfl (by kernel_rfl) (by decide +kernel) (by decide +kernel) (fun _ _ _ h => h) (Or.inl ⟨by rfl, ?_⟩) (by assumption) ?_; rotate_left; (focus (intro w9 hS9; (try dsimp only at hS9); go_simp; (try with_reducible rfl); done)))
                  (try simp only [Act.put, List.setIfInBounds_toArray, List.set_cons_zero, List.set_cons_succ])
                  refine wpAnyH_done (by decide +kernel) ?_ _
                  refine NoPanic.normal ?_
                  have HLX : Hid (LoP base [tb] W w5) := Lib.hid ((HL4.out.trans (LoP.of_below (below_box W4 _) (by omega))).trans (LoP.of_grown HNX.out (.inr (by omega)) hg5 (by simp; omega)))
                  have HR5 : Hid (RT tb base t ov ls w5) := Lib.hid (HRX.out.other hg5 (by omega) HNO.out.1 HNO.out.2)
                  go_wp2_with fail
                  refine ⟨by simp, .inl ⟨_, _, rfl, run_takeDeferred (HLX.out.oth _ _ HK.out rfl), ?_⟩⟩
                  exact ⟨.bool false, by simp [results, Tryd.results19, go_sem], retRead2 (by rw [HVn.out]; rfl) (fun u e => by rw [HVn.out] at e; cases e) HR5.out HLO.out HLX.out hDw HK.out hb1⟩
                exact AllReadyH.nil
              exact AllReadyH.nil
            exact AllReadyH.nil
          | true =>
            obtain ⟨hn1, hn64⟩ := inR_true.1 i1
            have hwr : IntKind.i64.wrap (t.n - 1) = t.n - 1 := by rw [IntKind.wrap_i64]; omega
            obtain ⟨v, hv⟩ : ∃ v, v = vs.headD 0 := ⟨_, rfl⟩
            rw [← hv] at HVo
            have HVS := Lib.hid hv
            clear hv
            cases i2 : inR v 0 (t.n - 1) with
            | false =>
              have HVn : Hid (V = none) := Lib.hid (by rw [HVV.out, HVo.out, i1, i2]; rfl)
              go_upto_region 12 with fail
              refine wp_region_noPanic ?_
              have hW1 := below_box W (.cells #[.int .i64 0] 3)
              have bn := heap_alloc_new W (.cells #[.int .i64 0] 3)
              have hs1 : (W.alloc (.cells #[.int .i64 0] 3)).heap.size = W.heap.size + 1 := by simp
              generalize W.alloc (.cells #[.int .i64 0] 3) = W1 at hW1 bn hs1 ⊢
              obtain ⟨W4, hW4⟩ : ∃ X, X = W1.drew := ⟨_, rfl⟩
              have h14 : Below W1.heap.size W1 W4 := hW4 ▸ below_drw2 W1
              have HL4 : Hid (LoP base [tb] W W4) := Lib.hid ((LoP.of_below hW1 (by omega)).trans (LoP.of_below h14 (by omega)))
              have HR4 : Hid (RT tb base t ov ls W4) := Lib.hid ((HRT.out.up hW1).up h14)
              have hs4 : W.heap.size < W4.heap.size := by have := h14.size; omega
              have bn4 : W4.heap[W.heap.size]? = some (.cells #[.int .i64 0] 3 (0, 0)) := (h14.block _ (by omega)).trans bn
              have HSA : Hid (ScanAt n0 (B + 2) g cw W4.heap.size W.heap.size 1 ws (W4.alloc (.cells #[.pointer (some ⟨W.heap.size, 0, none⟩)] 70))) := Lib.hid ⟨own_up (own_up (own_up HROW.out hW1) h14) (below_box _ _), HET.out.up (fun k hk => (Below.heap_alloc _ _ _ (by omega)).trans (HL4.out.blk k (by omega) (by simp; omega))), ptr_one _ _ _, by omega, by simp; omega, by omega, by omega, by simp⟩
              have HRX : Hid (RT tb base t ov ls (W4.alloc (.cells #[.pointer (some ⟨W.heap.size, 0, none⟩)] 70))) := Lib.hid (HR4.out.up (below_box _ _))
              have HNX : Hid ((W4.alloc (.cells #[.pointer (some ⟨W.heap.size, 0, none⟩)] 70)).heap[W.heap.size]? = some (.cells #[.int .i64 0] 3 (0, 0))) := Lib.hid ((Below.heap_alloc _ _ _ hs4).trans bn4)
              have HNO : Hid (ov.ownBlock ≠ some W.heap.size ∧ ls.ownBlock ≠ some W.heap.size) := Lib.hid ⟨fun e => by have := (HRT.out.ho.lt _ e).2; omega, fun e => by have := (HRT.out.hl.lt _ e).2; omega⟩
              have c54 : W4.cell? ⟨B, 0, none⟩ = some (.slice (some ⟨g, 0, none⟩) ws.length cw) := cell_up h14 (cell_up hW1 c5)
              clear bn hs1 hW1 h14 b0 b1 b2 bf bn4 c5 q1
              have b0 : W4.cell? ⟨tb, 0, none⟩ = some (.int .i64 t.n) := HR4.out.cells.1
              have HSC := Lib.hid (HSA.out.one hwl HWX.out HNX.out)
              rw [hsc] at HSC
              refine wp_region_held_drew (S := (fun w' => w'.cell? ⟨B, 0, none⟩ = some (.slice (some ⟨g, 0, none⟩) ws.length cw) ∧ w'.cell? ⟨tb, 0, none⟩ = some (.int .i64 t.n))) (by kernel_rfl) ?_ (fun hHeld => ?_)
              · exact ⟨hW4 ▸ c54, hW4 ▸ b0⟩
              rw [← hW4] at hHeld ⊢
              clear hW4
              (refine takeL (i := 0) (v := ?_) rfl (by kernel_rfl) (by decide +kernel) (by decide +kernel) (fun _ _ _ h => h) (Or.inl ⟨by rfl, ?_⟩) (by assumption) ?_; rotate_left; (focus (intro w9 hS9; (try dsimp only at hS9); go_simp; (try with_reducible rfl); done)))
              (try simp only [Act.put, List.setIfInBounds_toArray, List.set_cons_zero, List.set_cons_succ])
              refine wpAnyH_ready (rs := [1]) (by decide +kernel) (by simp) ?_
              refine consL rfl (fun K hK => ?_) ?_
              · (first | fail | (go_simp; first | done | (first | fail)) | go_simp)
                (first | (with_reducible refine hK.out _ _ ?_ ?_) | (go_wp2_with fail; refine hK.out _ _ ?_ ?_))
                (focus (exact ⟨cell_up (below_box _ _) hHeld.1, cell_up (below_box _ _) hHeld.2⟩))
                clear hK K hHeld
                intro hHeld
                (try simp only [Act.put, List.setIfInBounds_toArray, List.set_cons_zero, List.set_cons_succ])
                refine wpAnyH_ready (rs := [2]) (by decide +kernel) (by simp) ?_
                refine consL rfl (fun K hK => ?_) ?_
                · (first | (go_at_call 39; (with_reducible refine HSC.out.mono ?_); rintro e w5 ⟨n, rfl, hn5, hb5, hg5⟩; have cn5 : w5.cell? ⟨W.heap.size, 0, none⟩ = some (.int .i64 n) := (Lib.cell_of_heap hb5 0).trans rfl; obtain rfl : v = n := by rw [HVS.out]; exact hn5 vs rfl) | (go_simp; first | done | (first | (go_at_call 39; (with_reducible refine HSC.out.mono ?_); rintro e w5 ⟨n, rfl, hn5, hb5, hg5⟩; have cn5 : w5.cell? ⟨W.heap.size, 0, none⟩ = some (.int .i64 n) := (Lib.cell_of_heap hb5 0).trans rfl; obtain rfl : v = n := by rw [HVS.out]; exact hn5 vs rfl))) | go_simp)
                  (first | (with_reducible refine hK.out _ _ ?_ ?_) | (go_wp2_with fail; refine hK.out _ _ ?_ ?_))
                  (focus (exact ⟨(World.cell?_of_block (a := ⟨B, 0, none⟩) (hg5.block B (by simp; omega) (fun e => by injection e; omega))).trans hHeld.1, (World.cell?_of_block (a := ⟨tb, 0, none⟩) (hg5.block tb (by simp; omega) (fun e => by injection e; omega))).trans hHeld.2⟩))
                  clear hK K hHeld
                  intro hHeld
                  (try simp only [Act.put, List.setIfInBounds_toArray, List.set_cons_zero, List.set_cons_succ])
                  (refine takeL (i := 3) (v := ?_) rfl (by kernel_rfl) (by decide +kernel) (by decide +kernel) (fun _ _ _ h => h) (Or.inl ⟨by rfl, ?_⟩) (by assumption) ?_; rotate_left; (focus (intro w9 hS9; (try dsimp only at hS9); go_simp; (try with_reducible rfl); done)))
                  (try simp only [Act.put, List.setIfInBounds_toArray, List.set_cons_zero, List.set_cons_succ])
                  (refine takeL (i := 4) (v := ?_) rfl (by kernel_rfl) (by decide +kernel) (by decide +kernel) (fun _ _ _ h => h) (Or.inl ⟨by rfl, ?_⟩) (by assumption) ?_; rotate_left; (focus (intro w9 hS9; (try dsimp only at hS9); go_simp; (try with_reducible rfl); done)))
                  (try simp only [Act.put, List.setIfInBounds_toArray, List.set_cons_zero, List.set_cons_succ])
                  (refine takeL (i := 5) (v := ?_) rfl (by kernel_rfl) (by decide +kernel) (by decide +kernel) (fun _ _ _ h => h) (Or.inl ⟨by rfl, ?_⟩) (by assumption) ?_; rotate_left; (focus (intro w9 hS9; (try dsimp only at hS9); go_simp; (try with_reducible rfl); done)))
                  (try simp only [Act.put, List.setIfInBounds_toArray, List.set_cons_zero, List.set_cons_succ])
                  (refine takeL (i := 6) (v := ?_) rfl (by kernel_rfl) (by decide +kernel) (by decide +kernel) (fun _ _ _ h => h) (Or.inl ⟨by rfl, ?_⟩) (by assumption) ?_; rotate_left; (focus (intro w9 hS9; (try dsimp only at hS9); go_simp; (try with_reducible rfl); done)))
                  (try simp only [Act.put, List.setIfInBounds_toArray, List.set_cons_zero, List.set_cons_succ])
                  (refine takeL (i := 7) (v := ?_) rfl (by kernel_rfl) (by decide +kernel) (by decide +kernel) (fun _ _ _ h => h) (Or.inl ⟨by rfl, ?_⟩) (by assumption) ?_; rotate_left; (focus (intro w9 hS9; (try dsimp only at hS9); go_simp; (try with_reducible rfl); done)))
                  (try simp only [Act.put, List.setIfInBounds_toArray, List.set_cons_zero, List.set_cons_succ])
                  (refine takeL (i := 8) (v := ?_) rfl (by kernel_rfl) (by decide +kernel) (by decide +kernel) (fun _ _ _ h => h) (Or.inl ⟨by rfl, ?_⟩) (by assumption) ?_; rotate_left; (focus (intro w9 hS9; (try dsimp only at hS9); go_simp; (try with_reducible rfl); done)))
                  (try simp only [Act.put, List.setIfInBounds_toArray, List.set_cons_zero, List.set_cons_succ])
                  refine wpAnyH_ready (rs := [9]) (by decide +kernel) (by simp) ?_
                  refine consL rfl (fun K hK => ?_) ?_
                  · (first | (go_at_call 32; (with_reducible refine (topology_within _ _ _ _).mono ?_); rintro e w6 ⟨rfl, rfl⟩) | (go_simp; first | done | (first | (go_at_call 32; (with_reducible refine (topology_within _ _ _ _).mono ?_); rintro e w6 ⟨rfl, rfl⟩))) | go_simp)
                    (first | (with_reducible refine hK.out _ _ ?_ ?_) | (go_wp2_with fail; refine hK.out _ _ ?_ ?_))
                    (focus (exact hHeld))
                    clear hK K hHeld
                    intro hHeld
                    (try simp only [Act.put, List.setIfInBounds_toArray, List.set_cons_zero, List.set_cons_succ])
                    (refine takeL (i := 10) (v := ?_) rfl (by kernel_rfl) (by decide +kernel) (by decide +kernel) (fun _ _ _ h => h) (Or.inl ⟨by rfl, ?_⟩) (by assumption) ?_; rotate_left; (focus (intro w9 hS9; (try dsimp only at hS9); go_simp; (try with_reducible rfl); done)))
                    (try simp only [Act.put, List.setIfInBounds_toArray, List.set_cons_zero, List.set_cons_succ])
                    (refine takeL (i := 11) (v := ?_) rfl (by kernel_rfl) (by decide +kernel) (by decide +kernel) (fun _ _ _ h => h) (Or.inl ⟨by rfl, ?_⟩) (by assumption) ?_; rotate_left; (focus (intro w9 hS9; (try dsimp only at hS9); go_simp; (try with_reducible rfl); done)))
                    (try simp only [Act.put, List.setIfInBounds_toArray, List.set_cons_zero, List.set_cons_succ])
                    (refine takeL (i := 12) (v := ?_) rfl (by kernel_rfl) (by decide +kernel) (by decide +kernel) (fun _ _ _ h => h) (Or.inl ⟨by rfl, ?_⟩) (by assumption) ?_; rotate_left; (focus (intro w9 hS9; (try dsimp only at hS9); go_simp; (try with_reducible rfl); done)))
                    (try simp only [Act.put, List.setIfInBounds_toArray, List.set_cons_zero, List.set_cons_succ])
                    (refine takeL (i := 14) (v := ?_) rfl (by kernel_rfl) (by decide +kernel) (by decide +kernel) (fun _ _ _ h => h) (Or.inl ⟨by rfl, ?_⟩) (by assumption) ?_; rotate_left; (focus (intro w9 hS9; (try dsimp only at hS9); go_simp; (try with_reducible rfl); done)))
                    (try simp only [Act.put, List.setIfInBounds_toArray, List.set_cons_zero, List.set_cons_succ])
                    (refine takeL (i := 15) (v := ?_) rfl (by kernel_rfl) (by decide +kernel) (by decide +kernel) (fun _ _ _ h => h) (Or.inl ⟨by rfl, ?_⟩) (by assumption) ?_; rotate_left; (focus (intro w9 hS9; (try dsimp only at hS9); go_simp; (try with_reducible rfl); done)))
                    (try simp only [Act.put, List.setIfInBounds_toArray, List.set_cons_zero, List.set_cons_succ])
                    (refine takeL (i := 16) (v := ?_) rfl (by kernel_rfl) (by decide +kernel) (by decide +kernel) (fun _ _ _ h => h) (Or.inl ⟨by rfl, ?_⟩) (by assumption) ?_; rotate_left; (focus (intro w9 hS9; (try dsimp only at hS9); go_simp; (try with_reducible rfl); done)))
                    (try simp only [Act.put, List.setIfInBounds_toArray, List.set_cons_zero, List.set_cons_succ])
                    (refine takeL (i := 17) (v := ?_) rfl (by kernel_rfl) (by decide +kernel) (by decide +kernel) (fun _ _ _ h => h) (Or.inl ⟨by rfl, ?_⟩) (by assumption) ?_; rotate_left; (focus (intro w9 hS9; (try dsimp only at hS9); go_simp; (try with_reducible rfl); done)))
                    (try simp only [Act.put, List.setIfInBounds_toArray, List.set_cons_zero, List.set_cons_succ])
                    (refine takeL (i := 18) (v := ?_) rfl (by kernel_rfl) (by decide +kernel) (by decide +kernel) (fun _ _ _ h => h) (Or.inl ⟨by rfl, ?_⟩) (by assumption) ?_; rotate_left; (focus (intro w9 hS9; (try dsimp only at hS9); go_simp; (try with_reducible rfl); done)))
                    (try simp only [Act.put, List.setIfInBounds_toArray, List.set_cons_zero, List.set_cons_succ])
                    refine wpAnyH_ready (rs := [13]) (by decide +kernel) (by simp) ?_
                    refine consL rfl (fun K hK => ?_) ?_
                    · (first | fail | (go_simp; first | done | (first | fail)) | go_simp)
                      (first | (with_reducible refine hK.out _ _ ?_ ?_) | (go_wp2_with fail; refine hK.out _ _ ?_ ?_))
                      (focus (exact hHeld))
                      clear hK K hHeld
                      intro hHeld
                      (try simp only [Act.put, List.setIfInBounds_toArray, List.set_cons_zero, List.set_cons_succ])
                      refine wpAnyH_ready (rs := [19]) (by decide +kernel) (by simp) ?_
                      refine consL rfl (fun K hK => ?_) ?_
                      · (first | (go_at_call 32; (with_reducible refine (topology_within _ _ _ _).mono ?_); rintro e w6 ⟨rfl, rfl⟩) | (go_simp; first | done | (first | (go_at_call 32; (with_reducible refine (topology_within _ _ _ _).mono ?_); rintro e w6 ⟨rfl, rfl⟩))) | go_simp)
                        (first | (with_reducible refine hK.out _ _ ?_ ?_) | (go_wp2_with fail; refine hK.out _ _ ?_ ?_))
                        (focus (exact hHeld))
                        clear hK K hHeld
                        intro hHeld
                        (try simp only [Act.put, List.setIfInBounds_toArray, List.set_cons_zero, List.set_cons_succ])
                        (refine takeL (i := 20) (v := ?_) rfl (by kernel_rfl) (by decide +kernel) (by decide +kernel) (fun _ _ _ h => h) (Or.inl ⟨by rfl, ?_⟩) (by assumption) ?_; rotate_left; (focus (intro w9 hS9; (try dsimp only at hS9); go_simp; (try with_reducible rfl); done)))
                        (try simp only [Act.put, List.setIfInBounds_toArray, List.set_cons_zero, List.set_cons_succ])
                        (refine takeL (i := 21) (v := ?_) rfl (by kernel_rfl) (by decide +kernel) (by decide +kernel) (fun _ _ _ h => h) (Or.inl ⟨by rfl, ?_⟩) (by assumption) ?_; rotate_left; (focus (intro w9 hS9; (try dsimp only at hS9); go_simp; (try with_reducible rfl); done)))
                        (try simp only [Act.put, List.setIfInBounds_toArray, List.set_cons_zero, List.set_cons_succ])
                        refine wpAnyH_done (by decide +kernel) ?_ _
                        refine NoPanic.normal ?_
                        have HLX : Hid (LoP base [tb] W w5) := Lib.hid ((HL4.out.trans (LoP.of_below (below_box W4 _) (by omega))).trans (LoP.of_grown HNX.out (.inr (by omega)) hg5 (by simp; omega)))
                        have HR5 : Hid (RT tb base t ov ls w5) := Lib.hid (HRX.out.other hg5 (by omega) HNO.out.1 HNO.out.2)
                        go_wp2_with fail
                        refine ⟨by simp, .inl ⟨_, _, rfl, run_takeDeferred (HLX.out.oth _ _ HK.out rfl), ?_⟩⟩
                        exact ⟨.bool false, by simp [results, Tryd.results19, go_sem], retRead2 (by rw [HVn.out]; rfl) (fun u e => by rw [HVn.out] at e; cases e) HR5.out HLO.out HLX.out hDw HK.out hb1⟩
                      exact AllReadyH.nil
                    exact AllReadyH.nil
                  exact AllReadyH.nil
                exact AllReadyH.nil
              exact AllReadyH.nil
            | true =>
              obtain ⟨hv1, hv2⟩ := inR_true.1 i2
              obtain ⟨m, rfl⟩ : ∃ m : Nat, v = (m : Int) := ⟨v.toNat, by omega⟩
              have HVn : Hid (V = some (setOv t (m : Int))) := Lib.hid (by rw [HVV.out, HVo.out, i1, i2]; rfl)
              go_upto_region 12 with fail
              refine wp_region_noPanic ?_
              have hW1 := below_box W (.cells #[.int .i64 0] 3)
              have bn := heap_alloc_new W (.cells #[.int .i64 0] 3)
              have hs1 : (W.alloc (.cells #[.int .i64 0] 3)).heap.size = W.heap.size + 1 := by simp
              generalize W.alloc (.cells #[.int .i64 0] 3) = W1 at hW1 bn hs1 ⊢
              obtain ⟨W4, hW4⟩ : ∃ X, X = W1.drew := ⟨_, rfl⟩
              have h14 : Below W1.heap.size W1 W4 := hW4 ▸ below_drw2 W1
              have HL4 : Hid (LoP base [tb] W W4) := Lib.hid ((LoP.of_below hW1 (by omega)).trans (LoP.of_below h14 (by omega)))
              have HR4 : Hid (RT tb base t ov ls W4) := Lib.hid ((HRT.out.up hW1).up h14)
              have hs4 : W.heap.size < W4.heap.size := by have := h14.size; omega
              have bn4 : W4.heap[W.heap.size]? = some (.cells #[.int .i64 0] 3 (0, 0)) := (h14.block _ (by omega)).trans bn
              have HSA : Hid (ScanAt n0 (B + 2) g cw W4.heap.size W.heap.size 1 ws (W4.alloc (.cells #[.pointer (some ⟨W.heap.size, 0, none⟩)] 70))) := Lib.hid ⟨own_up (own_up (own_up HROW.out hW1) h14) (below_box _ _), HET.out.up (fun k hk => (Below.heap_alloc _ _ _ (by omega)).trans (HL4.out.blk k (by omega) (by simp; omega))), ptr_one _ _ _, by omega, by simp; omega, by omega, by omega, by simp⟩
              have HRX : Hid (RT tb base t ov ls (W4.alloc (.cells #[.pointer (some ⟨W.heap.size, 0, none⟩)] 70))) := Lib.hid (HR4.out.up (below_box _ _))
              have HNX : Hid ((W4.alloc (.cells #[.pointer (some ⟨W.heap.size, 0, none⟩)] 70)).heap[W.heap.size]? = some (.cells #[.int .i64 0] 3 (0, 0))) := Lib.hid ((Below.heap_alloc _ _ _ hs4).trans bn4)
              have HNO : Hid (ov.ownBlock ≠ some W.heap.size ∧ ls.ownBlock ≠ some W.heap.size) := Lib.hid ⟨fun e => by have := (HRT.out.ho.lt _ e).2; omega, fun e => by have := (HRT.out.hl.lt _ e).2; omega⟩
              have c54 : W4.cell? ⟨B, 0, none⟩ = some (.slice (some ⟨g, 0, none⟩) ws.length cw) := cell_up h14 (cell_up hW1 c5)
              clear bn hs1 hW1 h14 b0 b1 b2 bf bn4 c5 q1
              have b0 : W4.cell? ⟨tb, 0, none⟩ = some (.int .i64 t.n) := HR4.out.cells.1
              have HSC := Lib.hid (HSA.out.one hwl HWX.out HNX.out)
              rw [hsc] at HSC
              refine wp_region_held_drew (S := (fun w' => w'.cell? ⟨B, 0, none⟩ = some (.slice (some ⟨g, 0, none⟩) ws.length cw) ∧ w'.cell? ⟨tb, 0, none⟩ = some (.int .i64 t.n))) (by kernel_rfl) ?_ (fun hHeld => ?_)
              · exact ⟨hW4 ▸ c54, hW4 ▸ b0⟩
              rw [← hW4] at hHeld ⊢
              clear hW4
              (refine takeL (i := 0) (v := ?_) rfl (by kernel_rfl) (by decide +kernel) (by decide +kernel) (fun _ _ _ h => h) (Or.inl ⟨by rfl, ?_⟩) (by assumption) ?_; rotate_left; (focus (intro w9 hS9; (try dsimp only at hS9); go_simp; (try with_reducible rfl); done)))
              (try simp only [Act.put, List.setIfInBounds_toArray, List.set_cons_zero, List.set_cons_succ])
              refine wpAnyH_ready (rs := [1]) (by decide +kernel) (by simp) ?_
              refine consL rfl (fun K hK => ?_) ?_
              · (first | fail | (go_simp; first | done | (first | fail)) | go_simp)
                (first | (with_reducible refine hK.out _ _ ?_ ?_) | (go_wp2_with fail; refine hK.out _ _ ?_ ?_))
                (focus (exact ⟨cell_up (below_box _ _) hHeld.1, cell_up (below_box _ _) hHeld.2⟩))
                clear hK K hHeld
                intro hHeld
                (try simp only [Act.put, List.setIfInBounds_toArray, List.set_cons_zero, List.set_cons_succ])
                refine wpAnyH_ready (rs := [2]) (by decide +kernel) (by simp) ?_
                refine consL rfl (fun K hK => ?_) ?_
                · (first | (go_at_call 39; (with_reducible refine HSC.out.mono ?_); rintro e w5 ⟨n, rfl, hn5, hb5, hg5⟩; have cn5 : w5.cell? ⟨W.heap.size, 0, none⟩ = some (.int .i64 n) := (Lib.cell_of_heap hb5 0).trans rfl; obtain rfl : (m : Int) = n := by rw [HVS.out]; exact hn5 vs rfl) | (go_simp; first | done | (first | (go_at_call 39; (with_reducible refine HSC.out.mono ?_); rintro e w5 ⟨n, rfl, hn5, hb5, hg5⟩; have cn5 : w5.cell? ⟨W.heap.size, 0, none⟩ = some (.int .i64 n) := (Lib.cell_of_heap hb5 0).trans rfl; obtain rfl : (m : Int) = n := by rw [HVS.out]; exact hn5 vs rfl))) | go_simp)
                  (first | (with_reducible refine hK.out _ _ ?_ ?_) | (go_wp2_with fail; refine hK.out _ _ ?_ ?_))
                  (focus (exact ⟨(World.cell?_of_block (a := ⟨B, 0, none⟩) (hg5.block B (by simp; omega) (fun e => by injection e; omega))).trans hHeld.1, (World.cell?_of_block (a := ⟨tb, 0, none⟩) (hg5.block tb (by simp; omega) (fun e => by injection e; omega))).trans hHeld.2⟩))
                  clear hK K hHeld
                  intro hHeld
                  (try simp only [Act.put, List.setIfInBounds_toArray, List.set_cons_zero, List.set_cons_succ])
                  (refine takeL (i := 3) (v := ?_) rfl (by kernel_rfl) (by decide +kernel) (by decide +kernel) (fun _ _ _ h => h) (Or.inl ⟨by rfl, ?_⟩) (by assumption) ?_; rotate_left; (focus (intro w9 hS9; (try dsimp only at hS9); go_simp; (try with_reducible rfl); done)))
                  (try simp only [Act.put, List.setIfInBounds_toArray, List.set_cons_zero, List.set_cons_succ])
                  (refine takeL (i := 4) (v := ?_) rfl (by kernel_rfl) (by decide +kernel) (by decide +kernel) (fun _ _ _ h => h) (Or.inl ⟨by rfl, ?_⟩) (by assumption) ?_; rotate_left; (focus (intro w9 hS9; (try dsimp only at hS9); go_simp; (try with_reducible rfl); done)))
                  (try simp only [Act.put, List.setIfInBounds_toArray, List.set_cons_zero, List.set_cons_succ])
                  (refine takeL (i := 5) (v := ?_) rfl (by kernel_rfl) (by decide +kernel) (by decide +kernel) (fun _ _ _ h => h) (Or.inl ⟨by rfl, ?_⟩) (by assumption) ?_; rotate_left; (focus (intro w9 hS9; (try dsimp only at hS9); go_simp; (try with_reducible rfl); done)))
                  (try simp only [Act.put, List.setIfInBounds_toArray, List.set_cons_zero, List.set_cons_succ])
                  (refine takeL (i := 6) (v := ?_) rfl (by kernel_rfl) (by decide +kernel) (by decide +kernel) (fun _ _ _ h => h) (Or.inl ⟨by rfl, ?_⟩) (by assumption) ?_; rotate_left; (focus (intro w9 hS9; (try dsimp only at hS9); go_simp; (try with_reducible rfl); done)))
                  (try simp only [Act.put, List.setIfInBounds_toArray, List.set_cons_zero, List.set_cons_succ])
                  (refine takeL (i := 7) (v := ?_) rfl (by kernel_rfl) (by decide +kernel) (by decide +kernel) (fun _ _ _ h => h) (Or.inl ⟨by rfl, ?_⟩) (by assumption) ?_; rotate_left; (focus (intro w9 hS9; (try dsimp only at hS9); go_simp; (try with_reducible rfl); done)))
                  (try simp only [Act.put, List.setIfInBounds_toArray, List.set_cons_zero, List.set_cons_succ])
                  (refine takeL (i := 8) (v := ?_) rfl (by kernel_rfl) (by decide +kernel) (by decide +kernel) (fun _ _ _ h => h) (Or.inl ⟨by rfl, ?_⟩) (by assumption) ?_; rotate_left; (focus (intro w9 hS9; (try dsimp only at hS9); go_simp; (try with_reducible rfl); done)))
                  (try simp only [Act.put, List.setIfInBounds_toArray, List.set_cons_zero, List.set_cons_succ])
                  refine wpAnyH_ready (rs := [9]) (by decide +kernel) (by simp) ?_
                  refine consL rfl (fun K hK => ?_) ?_
                  · (first | (go_at_call 32; (with_reducible refine (topology_within _ _ _ _).mono ?_); rintro e w6 ⟨rfl, rfl⟩) | (go_simp; first | done | (first | (go_at_call 32; (with_reducible refine (topology_within _ _ _ _).mono ?_); rintro e w6 ⟨rfl, rfl⟩))) | go_simp)
                    (first | (with_reducible refine hK.out _ _ ?_ ?_) | (go_wp2_with fail; refine hK.out _ _ ?_ ?_))
                    (focus (exact hHeld))
                    clear hK K hHeld
                    intro hHeld
                    (try simp only [Act.put, List.setIfInBounds_toArray, List.set_cons_zero, List.set_cons_succ])
                    (refine takeL (i := 10) (v := ?_) rfl (by kernel_rfl) (by decide +kernel) (by decide +kernel) (fun _ _ _ h => h) (Or.inl ⟨by rfl, ?_⟩) (by assumption) ?_; rotate_left; (focus (intro w9 hS9; (try dsimp only at hS9); go_simp; (try with_reducible rfl); done)))
                    (try simp only [Act.put, List.setIfInBounds_toArray, List.set_cons_zero, List.set_cons_succ])
                    (refine takeL (i := 11) (v := ?_) rfl (by kernel_rfl) (by decide +kernel) (by decide +kernel) (fun _ _ _ h => h) (Or.inl ⟨by rfl, ?_⟩) (by assumption) ?_; rotate_left; (focus (intro w9 hS9; (try dsimp only at hS9); go_simp; (try with_reducible rfl); done)))
                    (try simp only [Act.put, List.setIfInBounds_toArray, List.set_cons_zero, List.set_cons_succ])
                    (refine takeL (i := 12) (v := ?_) rfl (by kernel_rfl) (by decide +kernel) (by decide +kernel) (fun _ _ _ h => h) (Or.inl ⟨by rfl, ?_⟩) (by assumption) ?_; rotate_left; (focus (intro w9 hS9; (try dsimp only at hS9); go_simp; (try with_reducible rfl); done)))
                    (try simp only [Act.put, List.setIfInBounds_toArray, List.set_cons_zero, List.set_cons_succ])
                    (refine takeL (i := 14) (v := ?_) rfl (by kernel_rfl) (by decide +kernel) (by decide +kernel) (fun _ _ _ h => h) (Or.inl ⟨by rfl, ?_⟩) (by assumption) ?_; rotate_left; (focus (intro w9 hS9; (try dsimp only at hS9); go_simp; (try with_reducible rfl); done)))
                    (try simp only [Act.put, List.setIfInBounds_toArray, List.set_cons_zero, List.set_cons_succ])
                    (refine takeL (i := 15) (v := ?_) rfl (by kernel_rfl) (by decide +kernel) (by decide +kernel) (fun _ _ _ h => h) (Or.inl ⟨by rfl, ?_⟩) (by assumption) ?_; rotate_left; (focus (intro w9 hS9; (try dsimp only at hS9); go_simp; (try with_reducible rfl); done)))
                    (try simp only [Act.put, List.setIfInBounds_toArray, List.set_cons_zero, List.set_cons_succ])
                    (refine takeL (i := 16) (v := ?_) rfl (by kernel_rfl) (by decide +kernel) (by decide +kernel) (fun _ _ _ h => h) (Or.inl ⟨by rfl, ?_⟩) (by assumption) ?_; rotate_left; (focus (intro w9 hS9; (try dsimp only at hS9); go_simp; (try with_reducible rfl); done)))
                    (try simp only [Act.put, List.setIfInBounds_toArray, List.set_cons_zero, List.set_cons_succ])
                    (refine takeL (i := 17) (v := ?_) rfl (by kernel_rfl) (by decide +kernel) (by decide +kernel) (fun _ _ _ h => h) (Or.inl ⟨by rfl, ?_⟩) (by assumption) ?_; rotate_left; (focus (intro w9 hS9; (try dsimp only at hS9); go_simp; (try with_reducible rfl); done)))
                    (try simp only [Act.put, List.setIfInBounds_toArray, List.set_cons_zero, List.set_cons_succ])
                    (refine takeL (i := 18) (v := ?_) rfl (by kernel_rfl) (by decide +kernel) (by decide +kernel) (fun _ _ _ h => h) (Or.inl ⟨by rfl, ?_⟩) (by assumption) ?_; rotate_left; (focus (intro w9 hS9; (try dsimp only at hS9); go_simp; (try with_reducible rfl); done)))
                    (try simp only [Act.put, List.setIfInBounds_toArray, List.set_cons_zero, List.set_cons_succ])
                    refine wpAnyH_ready (rs := [13]) (by decide +kernel) (by simp) ?_
                    refine consL rfl (fun K hK => ?_) ?_
                    · (first | fail | (go_simp; first | done | (first | fail)) | go_simp)
                      (first | (with_reducible refine hK.out _ _ ?_ ?_) | (go_wp2_with fail; refine hK.out _ _ ?_ ?_))
                      (focus (exact hHeld))
                      clear hK K hHeld
                      intro hHeld
                      (try simp only [Act.put, List.setIfInBounds_toArray, List.set_cons_zero, List.set_cons_succ])
                      refine wpAnyH_ready (rs := [19]) (by decide +kernel) (by simp) ?_
                      refine consL rfl (fun K hK => ?_) ?_
                      · (first | (go_at_call 32; (with_reducible refine (topology_within _ _ _ _).mono ?_); rintro e w6 ⟨rfl, rfl⟩) | (go_simp; first | done | (first | (go_at_call 32; (with_reducible refine (topology_within _ _ _ _).mono ?_); rintro e w6 ⟨rfl, rfl⟩))) | go_simp)
                        (first | (with_reducible refine hK.out _ _ ?_ ?_) | (go_wp2_with fail; refine hK.out _ _ ?_ ?_))
                        (focus (exact hHeld))
                        clear hK K hHeld
                        intro hHeld
                        (try simp only [Act.put, List.setIfInBounds_toArray, List.set_cons_zero, List.set_cons_succ])
                        (refine takeL (i := 20) (v := ?_) rfl (by kernel_rfl) (by decide +kernel) (by decide +kernel) (fun _ _ _ h => h) (Or.inl ⟨by rfl, ?_⟩) (by assumption) ?_; rotate_left; (focus (intro w9 hS9; (try dsimp only at hS9); go_simp; (try with_reducible rfl); done)))
                        (try simp only [Act.put, List.setIfInBounds_toArray, List.set_cons_zero, List.set_cons_succ])
                        (refine takeL (i := 21) (v := ?_) rfl (by kernel_rfl) (by decide +kernel) (by decide +kernel) (fun _ _ _ h => h) (Or.inl ⟨by rfl, ?_⟩) (by assumption) ?_; rotate_left; (focus (intro w9 hS9; (try dsimp only at hS9); go_simp; (try with_reducible rfl); done)))
                        (try simp only [Act.put, List.setIfInBounds_toArray, List.set_cons_zero, List.set_cons_succ])
                        refine wpAnyH_done (by decide +kernel) ?_ _
                        refine NoPanic.normal ?_
                        have HLX : Hid (LoP base [tb] W w5) := Lib.hid ((HL4.out.trans (LoP.of_below (below_box W4 _) (by omega))).trans (LoP.of_grown HNX.out (.inr (by omega)) hg5 (by simp; omega)))
                        have HR5 : Hid (RT tb base t ov ls w5) := Lib.hid (HRX.out.other hg5 (by omega) HNO.out.1 HNO.out.2)
                        clear b0 c54
                        obtain ⟨A1, A2, c1, c2, rfl, _, _⟩ := HR5.out.tat
                        obtain ⟨b0, b1, b2, bf⟩ := HR5.out.cells
                        by_cases hov : (t.ov.length : Int) = t.n
                        · have c14 : ((t.ov.length : Int) != t.n) = false := by simp; omega
                          go_upto_region 14 with fail
                          go_quiet (fail)
                          go_upto_region 16 with fail
                          refine wp_region_noPanic ?_
                          refine wp_named (fun X => RT tb base t (.slice A1 t.ov.length c1) ls X ∧ LoP base [tb] W X ∧ X.cell? ⟨W.heap.size, 0, none⟩ = some (.int .i64 (m : Int))) ⟨HR5.out.up (below_drw (Below.refl _ _) _), HLX.out.trans (LoP.of_below (below_drw (Below.refl _ _) _) (by have := HLX.out.size; omega)), cell_up (below_drw (Below.refl _ _) _) cn5⟩ ?_
                          rintro W7 ⟨hR7, hL7, cn7⟩
                          obtain ⟨W8, hW8⟩ : ∃ X, X = W7.drew := ⟨_, rfl⟩
                          have HR8 : Hid (RT tb base t (.slice A1 t.ov.length c1) ls W8) := Lib.hid (hW8 ▸ hR7.up (below_drw2 W7))
                          have HL8 : Hid (LoP base [tb] W W8) := Lib.hid (hW8 ▸ hL7.drew)
                          have cn8 : W8.cell? ⟨W.heap.size, 0, none⟩ = some (.int .i64 (m : Int)) := hW8 ▸ cell_up (below_drw2 W7) cn7
                          obtain ⟨g2, hgA, ⟨bo, m0⟩, m1, hg2b, hR9⟩ := RT.mark (t := t) HR8.out (k := m) (by omega)
                          have HR9 := Lib.hid hR9
                          have HG2 := Lib.hid hg2b
                          subst hgA
                          have hml : (m : Int) < (t.ov.length : Int) := by omega
                          have hmt : (m : Int) < t.n := by omega
                          have hml' : m < t.ov.length := by omega
                          have hgW : g2 ≠ W.heap.size := fun e => HNO.out.1 (by rw [← e]; rfl)
                          have b1 : W8.cell? ⟨tb, 1, none⟩ = some (.slice (some ⟨g2, 0, none⟩) t.ov.length c1) := HR8.out.cells.2.1
                          have hg2t : g2 ≠ tb := by omega
                          clear hR7 hL7 cn7 hR9 hg2b
                          refine wp_region_held_drew (S := (fun w' => w'.cell? ⟨tb, 1, none⟩ = some (.slice (some ⟨g2, 0, none⟩) t.ov.length c1) ∧ w'.cell? ⟨W.heap.size, 0, none⟩ = some (.int .i64 (m : Int)))) (by kernel_rfl) ?_ (fun hHeld => ?_)
                          · exact ⟨hW8 ▸ b1, hW8 ▸ cn8⟩
                          rw [← hW8] at hHeld ⊢
                          clear hW8
                          (refine takeL (i := 0) (v := ?_) rfl (by kernel_rfl) (by decide +kernel) (by decide +kernel) (fun _ _ _ h => h) (Or.inl ⟨by rfl, ?_⟩) (by assumption) ?_; rotate_left; (focus (intro w9 hS9; (try dsimp only at hS9); go_simp; (try with_reducible rfl); done)))
                          (try simp only [Act.put, List.setIfInBounds_toArray, List.set_cons_zero, List.set_cons_succ])
                          (refine takeL (i := 1) (v := ?_) rfl (by kernel_rfl) (by decide +kernel) (by decide +kernel) (fun _ _ _ h => h) (Or.inl ⟨by rfl, ?_⟩) (by assumption) ?_; rotate_left; (focus (intro w9 hS9; (try dsimp only at hS9); go_simp; (try with_reducible rfl); done)))
                          (try simp only [Act.put, List.setIfInBounds_toArray, List.set_cons_zero, List.set_cons_succ])
                          (refine takeL (i := 2) (v := ?_) rfl (by kernel_rfl) (by decide +kernel) (by decide +kernel) (fun _ _ _ h => h) (Or.inl ⟨by rfl, ?_⟩) (by assumption) ?_; rotate_left; (focus (intro w9 hS9; (try dsimp only at hS9); go_simp; (try with_reducible rfl); done)))
                          (try simp only [Act.put, List.setIfInBounds_toArray, List.set_cons_zero, List.set_cons_succ])
                          (refine takeL (i := 3) (v := ?_) rfl (by kernel_rfl) (by decide +kernel) (by decide +kernel) (fun _ _ _ h => h) (Or.inl ⟨by rfl, ?_⟩) (by assumption) ?_; rotate_left; (focus (intro w9 hS9; (try dsimp only at hS9); go_simp; (try with_reducible rfl); done)))
                          (try simp only [Act.put, List.setIfInBounds_toArray, List.set_cons_zero, List.set_cons_succ])
                          (refine takeL (i := 4) (v := ?_) rfl (by kernel_rfl) (by decide +kernel) (by decide +kernel) (fun _ _ _ h => h) (Or.inl ⟨by rfl, ?_⟩) (by assumption) ?_; rotate_left; (focus (intro w9 hS9; (try dsimp only at hS9); go_simp; (try with_reducible rfl); done)))
                          (try simp only [Act.put, List.setIfInBounds_toArray, List.set_cons_zero, List.set_cons_succ])
                          (refine takeL (i := 5) (v := ?_) rfl (by kernel_rfl) (by decide +kernel) (by decide +kernel) (fun _ _ _ h => h) (Or.inl ⟨by rfl, ?_⟩) (by assumption) ?_; rotate_left; (focus (intro w9 hS9; (try dsimp only at hS9); go_simp; (try with_reducible rfl); done)))
                          (try simp only [Act.put, List.setIfInBounds_toArray, List.set_cons_zero, List.set_cons_succ])
                          refine wpAnyH_ready (rs := [6]) (by decide +kernel) (by simp) ?_
                          refine consL rfl (fun K hK => ?_) ?_
                          · (first | fail | (go_simp; first | done | (first | fail)) | go_simp)
                            (first | (with_reducible refine hK.out _ _ ?_ ?_) | (go_wp2_with fail; refine hK.out _ _ ?_ ?_))
                            (focus (exact ⟨(cell_other2 hg2t).trans hHeld.1, (cell_other2 hgW).trans hHeld.2⟩))
                            clear hK K hHeld
                            intro hHeld
                            (try simp only [Act.put, List.setIfInBounds_toArray, List.set_cons_zero, List.set_cons_succ])
                            refine wpAnyH_done (by decide +kernel) ?_ _
                            refine NoPanic.normal ?_
                            have HLX : Hid (LoP base [tb] W (W8.setCell ⟨g2, m, none⟩ (.bool true))) := Lib.hid (HL8.out.trans (LoP.setRow HR8.out.ho rfl (by omega) (by have := HL8.out.size; omega) _))
                            go_wp2_with fail
                            refine ⟨by simp, .inl ⟨_, _, rfl, run_takeDeferred (HLX.out.oth _ _ HK.out rfl), ?_⟩⟩
                            exact ⟨.bool true, by simp [results, Tryd.results19, go_sem], retRead2 (by rw [HVn.out]; rfl) (fun u e => by rw [HVn.out] at e; injection e with e; rw [← e]; exact setOv_eq hov) HR9.out HLO.out HLX.out hDw HK.out hb1⟩
                          exact AllReadyH.nil
                        · have c14 : ((t.ov.length : Int) != t.n) = true := by simp; omega
                          obtain ⟨N, hN⟩ : ∃ N : Nat, t.n = (N : Int) := ⟨t.n.toNat, by omega⟩
                          have hmk : ∀ W, (Instr.makeSlice 22 (.int .i64 (N : Int)) (.int .i64 (N : Int))).run Tryd.prog W = .ok (.slice (some ⟨W.heap.size, 0, none⟩) N N) (mkW N W) := fun W => run_mkW N (by omega) W
                          go_upto_region 14 with fail
                          go_quiet (fail)
                          go_upto_region 15 with fail
                          refine wp_named (fun X => RT tb base t (.slice A1 t.ov.length c1) ls X ∧ LoP base [tb] W X ∧ X.cell? ⟨W.heap.size, 0, none⟩ = some (.int .i64 (m : Int))) ⟨HR5.out.up (below_drw (Below.refl _ _) _), HLX.out.trans (LoP.of_below (below_drw (Below.refl _ _) _) (by have := HLX.out.size; omega)), cell_up (below_drw (Below.refl _ _) _) cn5⟩ ?_
                          rintro W6 ⟨hR6, hL6, cn6⟩
                          clear b0 b1 b2 bf
                          obtain ⟨b0, b1, b2, bf⟩ := hR6.cells
                          have HR6 := Lib.hid hR6
                          have HL6 := Lib.hid hL6
                          have CN6 := Lib.hid cn6
                          clear hR6 hL6 cn6 cn5
                          have n1 := cell_up (mkW_below N W6) b1
                          have n2 : (mkW N W6).frozen? ⟨tb, 1, none⟩ = false := (HR6.out.up (mkW_below N W6)).cells.2.2.2 1
                          go_upto_region 16 with fail
                          refine wp_region_noPanic ?_
                          refine wp_named (fun X => RT tb base { t with ov := List.replicate N false } (.slice (some ⟨W6.heap.size, 0, none⟩) N N) ls X ∧ LoP base [tb] W X ∧ X.cell? ⟨W.heap.size, 0, none⟩ = some (.int .i64 (m : Int))) ⟨HR6.out.make N (by omega), (HL6.out.trans (LoP.of_below (mkW_below N W6) (by have := HL6.out.size; omega))).trans (LoP.setC (HR6.out.up (mkW_below N W6)).st (.inl (by simp)) (by have := HL6.out.size; have := (mkW_below N W6).size; omega) _), (cell_other2 (by omega)).trans (cell_up (mkW_below N W6) CN6.out)⟩ ?_
                          rintro W7 ⟨hR7, hL7, cn7⟩
                          obtain ⟨W8, hW8⟩ : ∃ X, X = W7.drew := ⟨_, rfl⟩
                          have HR8 : Hid (RT tb base { t with ov := List.replicate N false } (.slice (some ⟨W6.heap.size, 0, none⟩) N N) ls W8) := Lib.hid (hW8 ▸ hR7.up (below_drw2 W7))
                          have HL8 : Hid (LoP base [tb] W W8) := Lib.hid (hW8 ▸ hL7.drew)
                          have cn8 : W8.cell? ⟨W.heap.size, 0, none⟩ = some (.int .i64 (m : Int)) := hW8 ▸ cell_up (below_drw2 W7) cn7
                          obtain ⟨g2, hgA, ⟨bo, m0⟩, m1, hg2b, hR9⟩ := RT.mark (t := { t with ov := List.replicate N false }) (A := some ⟨_, 0, none⟩) (c := N) (k := m) (by simpa using HR8.out) (by simp; omega)
                          have HR9 := Lib.hid hR9
                          have HG2 := Lib.hid hg2b
                          injection hgA with hgA
                          injection hgA with hgA _ _
                          subst hgA
                          have hml : (m : Int) < (N : Int) := by omega
                          have hml' : m < N := by omega
                          have hW6s := HL6.out.size
                          have hgW : W6.heap.size ≠ W.heap.size := fun e => by have := block_lt_of_cell CN6.out; simp at this; omega
                          have b1 : W8.cell? ⟨tb, 1, none⟩ = some (.slice (some ⟨W6.heap.size, 0, none⟩) N N) := HR8.out.cells.2.1
                          have hg2t : W6.heap.size ≠ tb := by omega
                          clear hR7 hL7 cn7 hR9 hg2b
                          refine wp_region_held_drew (S := (fun w' => w'.cell? ⟨tb, 1, none⟩ = some (.slice (some ⟨W6.heap.size, 0, none⟩) N N) ∧ w'.cell? ⟨W.heap.size, 0, none⟩ = some (.int .i64 (m : Int)))) (by kernel_rfl) ?_ (fun hHeld => ?_)
                          · exact ⟨hW8 ▸ b1, hW8 ▸ cn8⟩
                          rw [← hW8] at hHeld ⊢
                          clear hW8
                          (refine takeL (i := 0) (v := ?_) rfl (by kernel_rfl) (by decide +kernel) (by decide +kernel) (fun _ _ _ h => h) (Or.inl ⟨by rfl, ?_⟩) (by assumption) ?_; rotate_left; (focus (intro w9 hS9; (try dsimp only at hS9); go_simp; (try with_reducible rfl); done)))
                          (try simp only [Act.put, List.setIfInBounds_toArray, List.set_cons_zero, List.set_cons_succ])
                          (refine takeL (i := 1) (v := ?_) rfl (by kernel_rfl) (by decide +kernel) (by decide +kernel) (fun _ _ _ h => h) (Or.inl ⟨by rfl, ?_⟩) (by assumption) ?_; rotate_left; (focus (intro w9 hS9; (try dsimp only at hS9); go_simp; (try with_reducible rfl); done)))
                          (try simp only [Act.put, List.setIfInBounds_toArray, List.set_cons_zero, List.set_cons_succ])
                          (refine takeL (i := 2) (v := ?_) rfl (by kernel_rfl) (by decide +kernel) (by decide +kernel) (fun _ _ _ h => h) (Or.inl ⟨by rfl, ?_⟩) (by assumption) ?_; rotate_left; (focus (intro w9 hS9; (try dsimp only at hS9); go_simp; (try with_reducible rfl); done)))
                          (try simp only [Act.put, List.setIfInBounds_toArray, List.set_cons_zero, List.set_cons_succ])
                          (refine takeL (i := 3) (v := ?_) rfl (by kernel_rfl) (by decide +kernel) (by decide +kernel) (fun _ _ _ h => h) (Or.inl ⟨by rfl, ?_⟩) (by assumption) ?_; rotate_left; (focus (intro w9 hS9; (try dsimp only at hS9); go_simp; (try with_reducible rfl); done)))
                          (try simp only [Act.put, List.setIfInBounds_toArray, List.set_cons_zero, List.set_cons_succ])
                          (refine takeL (i := 4) (v := ?_) rfl (by kernel_rfl) (by decide +kernel) (by decide +kernel) (fun _ _ _ h => h) (Or.inl ⟨by rfl, ?_⟩) (by assumption) ?_; rotate_left; (focus (intro w9 hS9; (try dsimp only at hS9); go_simp; (try with_reducible rfl); done)))
                          (try simp only [Act.put, List.setIfInBounds_toArray, List.set_cons_zero, List.set_cons_succ])
                          (refine takeL (i := 5) (v := ?_) rfl (by kernel_rfl) (by decide +kernel) (by decide +kernel) (fun _ _ _ h => h) (Or.inl ⟨by rfl, ?_⟩) (by assumption) ?_; rotate_left; (focus (intro w9 hS9; (try dsimp only at hS9); go_simp; (try with_reducible rfl); done)))
                          (try simp only [Act.put, List.setIfInBounds_toArray, List.set_cons_zero, List.set_cons_succ])
                          refine wpAnyH_ready (rs := [6]) (by decide +kernel) (by simp) ?_
                          refine consL rfl (fun K hK => ?_) ?_
                          · (first | fail | (go_simp; first | done | (first | fail)) | go_simp)
                            (first | (with_reducible refine hK.out _ _ ?_ ?_) | (go_wp2_with fail; refine hK.out _ _ ?_ ?_))
                            (focus (exact ⟨(cell_other2 hg2t).trans hHeld.1, (cell_other2 hgW).trans hHeld.2⟩))
                            clear hK K hHeld
                            intro hHeld
                            (try simp only [Act.put, List.setIfInBounds_toArray, List.set_cons_zero, List.set_cons_succ])
                            refine wpAnyH_done (by decide +kernel) ?_ _
                            refine NoPanic.normal ?_
                            have HLX : Hid (LoP base [tb] W (W8.setCell ⟨W6.heap.size, m, none⟩ (.bool true))) := Lib.hid (HL8.out.trans (LoP.setRow HR8.out.ho rfl (by omega) (by have := HL8.out.size; omega) _))
                            go_wp2_with fail
                            refine ⟨by simp, .inl ⟨_, _, rfl, run_takeDeferred (HLX.out.oth _ _ HK.out rfl), ?_⟩⟩
                            exact ⟨.bool true, by simp [results, Tryd.results19, go_sem], retRead2 (by rw [HVn.out]; rfl) (fun u e => by rw [HVn.out] at e; injection e with e; rw [← e]; exact setOv_ne hov hN) HR9.out HLO.out HLX.out hDw HK.out hb1⟩
                          exact AllReadyH.nil
                      exact AllReadyH.nil
                    exact AllReadyH.nil
                  exact AllReadyH.nil
                exact AllReadyH.nil
              exact AllReadyH.nil
      by_cases hl7 : x0 = sLink
      · have HW0 : Hid (ws[0]? = some sLink) := Lib.hid (hl7 ▸ HX0.out)
        have q1 : W.cell? ⟨g, 0, none⟩ = some (.string ⟨#[108, 105, 110, 107]⟩) := by rw [q0, hl7]; rfl
        clear q0 hn ho hl7
        obtain ⟨_, A2, _, c2, _, rfl, _⟩ := HRT.out.tat
        cases hsc : scanS ws 7 with
        | none =>
          have HVn : Hid (V = none) := Lib.hid (by rw [HVV.out]; exact read_l_none HW0.out hsc)
          go_upto_region 20 with fail
          refine wp_named (fun X => Below W.heap.size W X ∧ X.heap[W.heap.size]? = some (.cells #[.int .i64 0, .int .i64 0, .int .i64 0, .int .i64 0, .int .i64 0, .int .i64 0, .int .i64 0] 45 (0, 0)) ∧ X.heap.size = W.heap.size + 1) ⟨below_box W _, heap_alloc_new W _, by simp⟩ ?_
          rintro W1 ⟨hW1, bn, hs1⟩
          have HL1 : Hid (LoP base [tb] W W1) := Lib.hid (LoP.of_below hW1 (by omega))
          have HR1 := Lib.hid (HRT.out.up hW1)
          have HSA : Hid (ScanAt n0 (B + 2) g cw W1.heap.size W.heap.size 7 ws (W1.alloc (.cells #[.pointer (some ⟨W.heap.size, 0, none⟩), .pointer (some ⟨W.heap.size, 1, none⟩), .pointer (some ⟨W.heap.size, 2, none⟩), .pointer (some ⟨W.heap.size, 3, none⟩), .pointer (some ⟨W.heap.size, 4, none⟩), .pointer (some ⟨W.heap.size, 5, none⟩), .pointer (some ⟨W.heap.size, 6, none⟩)] 70))) := Lib.hid ⟨own_up (own_up HROW.out hW1) (below_box _ _), HET.out.up (fun k hk => (Below.heap_alloc _ _ _ (by omega)).trans (HL1.out.blk k (by omega) (by simp; omega))), ptr_seven _ _ _, by omega, by simp; omega, by omega, by omega, by simp⟩
          have HRX : Hid (RT tb base t ov (.slice A2 t.ls.length c2) (W1.alloc (.cells #[.pointer (some ⟨W.heap.size, 0, none⟩), .pointer (some ⟨W.heap.size, 1, none⟩), .pointer (some ⟨W.heap.size, 2, none⟩), .pointer (some ⟨W.heap.size, 3, none⟩), .pointer (some ⟨W.heap.size, 4, none⟩), .pointer (some ⟨W.heap.size, 5, none⟩), .pointer (some ⟨W.heap.size, 6, none⟩)] 70))) := Lib.hid (HR1.out.up (below_box _ _))
          have HNX : Hid ((W1.alloc (.cells #[.pointer (some ⟨W.heap.size, 0, none⟩), .pointer (some ⟨W.heap.size, 1, none⟩), .pointer (some ⟨W.heap.size, 2, none⟩), .pointer (some ⟨W.heap.size, 3, none⟩), .pointer (some ⟨W.heap.size, 4, none⟩), .pointer (some ⟨W.heap.size, 5, none⟩), .pointer (some ⟨W.heap.size, 6, none⟩)] 70)).heap[W.heap.size]? = some (.cells #[.int .i64 0, .int .i64 0, .int .i64 0, .int .i64 0, .int .i64 0, .int .i64 0, .int .i64 0] 45 (0, 0))) := Lib.hid ((Below.heap_alloc _ _ _ (by omega)).trans bn)
          have HNO : Hid (ov.ownBlock ≠ some W.heap.size ∧ (Value.slice A2 t.ls.length c2).ownBlock ≠ some W.heap.size) := Lib.hid ⟨fun e => by have := (HRT.out.ho.lt _ e).2; omega, fun e => by have := (HRT.out.hl.lt _ e).2; omega⟩
          have c51 : W1.cell? ⟨B, 0, none⟩ = some (.slice (some ⟨g, 0, none⟩) ws.length cw) := cell_up hW1 c5
          have hss : W.heap.size < W1.heap.size := by omega
          have HS1 := Lib.hid hs1
          clear bn hW1 b0 b1 b2 bf c5 q1 hs1
          have HSC := Lib.hid (HSA.out.link hwl HWX.out HNX.out)
          rw [hsc] at HSC
          go_wp2_with (go_at_call 39; (with_reducible refine HSC.out.mono ?_); rintro e w5 ⟨l, rfl, hn5, hb5, hg5⟩; have HB5 := Lib.hid hb5; have HLX : Hid (LoP base [tb] W w5) := Lib.hid ((HL1.out.trans (LoP.of_below (below_box W1 _) (by omega))).trans (LoP.of_grown HNX.out (.inr (by omega)) hg5 (by simp; omega))); have HR5 : Hid (RT tb base t ov (.slice A2 t.ls.length c2) w5) := Lib.hid (HRX.out.other hg5 (by omega) HNO.out.1 HNO.out.2); obtain ⟨b0, b1, b2, bf⟩ := HR5.out.cells; have HN5 := Lib.hid hn5; clear hb5 hg5 hn5)
          refine ⟨by simp, .inl ⟨_, _, rfl, run_takeDeferred (HLX.out.oth _ _ HK.out rfl), ?_⟩⟩
          exact ⟨.bool false, by simp [results, Tryd.results19, go_sem], retRead2 (by rw [HVn.out]; rfl) (fun u e => by rw [HVn.out] at e; cases e) HR5.out HLO.out HLX.out hDw HK.out hb1⟩
        | some vs =>
          by_cases h256 : t.ls.length = 256
          · have HVn : Hid (V = none) := Lib.hid (by rw [HVV.out]; exact read_l_full HW0.out hsc h256)
            have e256 : ((t.ls.length : Int) == 256) = true := by rw [h256]; rfl
            clear h256
            go_upto_region 20 with fail
            refine wp_named (fun X => Below W.heap.size W X ∧ X.heap[W.heap.size]? = some (.cells #[.int .i64 0, .int .i64 0, .int .i64 0, .int .i64 0, .int .i64 0, .int .i64 0, .int .i64 0] 45 (0, 0)) ∧ X.heap.size = W.heap.size + 1) ⟨below_box W _, heap_alloc_new W _, by simp⟩ ?_
            rintro W1 ⟨hW1, bn, hs1⟩
            have HL1 : Hid (LoP base [tb] W W1) := Lib.hid (LoP.of_below hW1 (by omega))
            have HR1 := Lib.hid (HRT.out.up hW1)
            have HSA : Hid (ScanAt n0 (B + 2) g cw W1.heap.size W.heap.size 7 ws (W1.alloc (.cells #[.pointer (some ⟨W.heap.size, 0, none⟩), .pointer (some ⟨W.heap.size, 1, none⟩), .pointer (some ⟨W.heap.size, 2, none⟩), .pointer (some ⟨W.heap.size, 3, none⟩), .pointer (some ⟨W.heap.size, 4, none⟩), .pointer (some ⟨W.heap.size, 5, none⟩), .pointer (some ⟨W.heap.size, 6, none⟩)] 70))) := Lib.hid ⟨own_up (own_up HROW.out hW1) (below_box _ _), HET.out.up (fun k hk => (Below.heap_alloc _ _ _ (by omega)).trans (HL1.out.blk k (by omega) (by simp; omega))), ptr_seven _ _ _, by omega, by simp; omega, by omega, by omega, by simp⟩
            have HRX : Hid (RT tb base t ov (.slice A2 t.ls.length c2) (W1.alloc (.cells #[.pointer (some ⟨W.heap.size, 0, none⟩), .pointer (some ⟨W.heap.size, 1, none⟩), .pointer (some ⟨W.heap.size, 2, none⟩), .pointer (some ⟨W.heap.size, 3, none⟩), .pointer (some ⟨W.heap.size, 4, none⟩), .pointer (some ⟨W.heap.size, 5, none⟩), .pointer (some ⟨W.heap.size, 6, none⟩)] 70))) := Lib.hid (HR1.out.up (below_box _ _))
            have HNX : Hid ((W1.alloc (.cells #[.pointer (some ⟨W.heap.size, 0, none⟩), .pointer (some ⟨W.heap.size, 1, none⟩), .pointer (some ⟨W.heap.size, 2, none⟩), .pointer (some ⟨W.heap.size, 3, none⟩), .pointer (some ⟨W.heap.size, 4, none⟩), .pointer (some ⟨W.heap.size, 5, none⟩), .pointer (some ⟨W.heap.size, 6, none⟩)] 70)).heap[W.heap.size]? = some (.cells #[.int .i64 0, .int .i64 0, .int .i64 0, .int .i64 0, .int .i64 0, .int .i64 0, .int .i64 0] 45 (0, 0))) := Lib.hid ((Below.heap_alloc _ _ _ (by omega)).trans bn)
            have HNO : Hid (ov.ownBlock ≠ some W.heap.size ∧ (Value.slice A2 t.ls.length c2).ownBlock ≠ some W.heap.size) := Lib.hid ⟨fun e => by have := (HRT.out.ho.lt _ e).2; omega, fun e => by have := (HRT.out.hl.lt _ e).2; omega⟩
            have c51 : W1.cell? ⟨B, 0, none⟩ = some (.slice (some ⟨g, 0, none⟩) ws.length cw) := cell_up hW1 c5
            have hss : W.heap.size < W1.heap.size := by omega
            have HS1 := Lib.hid hs1
            clear bn hW1 b0 b1 b2 bf c5 q1 hs1
            have HSC := Lib.hid (HSA.out.link hwl HWX.out HNX.out)
            rw [hsc] at HSC
            go_wp2_with (go_at_call 39; (with_reducible refine HSC.out.mono ?_); rintro e w5 ⟨l, rfl, hn5, hb5, hg5⟩; have HB5 := Lib.hid hb5; have HLX : Hid (LoP base [tb] W w5) := Lib.hid ((HL1.out.trans (LoP.of_below (below_box W1 _) (by omega))).trans (LoP.of_grown HNX.out (.inr (by omega)) hg5 (by simp; omega))); have HR5 : Hid (RT tb base t ov (.slice A2 t.ls.length c2) w5) := Lib.hid (HRX.out.other hg5 (by omega) HNO.out.1 HNO.out.2); obtain ⟨b0, b1, b2, bf⟩ := HR5.out.cells; have HN5 := Lib.hid hn5; clear hb5 hg5 hn5)
            refine ⟨by simp, .inl ⟨_, _, rfl, run_takeDeferred (HLX.out.oth _ _ HK.out rfl), ?_⟩⟩
            exact ⟨.bool false, by simp [results, Tryd.results19, go_sem], retRead2 (by rw [HVn.out]; rfl) (fun u e => by rw [HVn.out] at e; cases e) HR5.out HLO.out HLX.out hDw HK.out hb1⟩
          · have HVn : Hid (V = some { t with ls := t.ls ++ [lnkOf vs] }) := Lib.hid (by rw [HVV.out]; exact read_l HW0.out hsc h256)
            have e256 : ((t.ls.length : Int) == 256) = false := by rw [beq_eq_false_iff_ne]; omega
            clear h256
            go_upto_region 20 with fail
            refine wp_named (fun X => Below W.heap.size W X ∧ X.heap[W.heap.size]? = some (.cells #[.int .i64 0, .int .i64 0, .int .i64 0, .int .i64 0, .int .i64 0, .int .i64 0, .int .i64 0] 45 (0, 0)) ∧ X.heap.size = W.heap.size + 1) ⟨below_box W _, heap_alloc_new W _, by simp⟩ ?_
            rintro W1 ⟨hW1, bn, hs1⟩
            have HL1 : Hid (LoP base [tb] W W1) := Lib.hid (LoP.of_below hW1 (by omega))
            have HR1 := Lib.hid (HRT.out.up hW1)
            have HSA : Hid (ScanAt n0 (B + 2) g cw W1.heap.size W.heap.size 7 ws (W1.alloc (.cells #[.pointer (some ⟨W.heap.size, 0, none⟩), .pointer (some ⟨W.heap.size, 1, none⟩), .pointer (some ⟨W.heap.size, 2, none⟩), .pointer (some ⟨W.heap.size, 3, none⟩), .pointer (some ⟨W.heap.size, 4, none⟩), .pointer (some ⟨W.heap.size, 5, none⟩), .pointer (some ⟨W.heap.size, 6, none⟩)] 70))) := Lib.hid ⟨own_up (own_up HROW.out hW1) (below_box _ _), HET.out.up (fun k hk => (Below.heap_alloc _ _ _ (by omega)).trans (HL1.out.blk k (by omega) (by simp; omega))), ptr_seven _ _ _, by omega, by simp; omega, by omega, by omega, by simp⟩
            have HRX : Hid (RT tb base t ov (.slice A2 t.ls.length c2) (W1.alloc (.cells #[.pointer (some ⟨W.heap.size, 0, none⟩), .pointer (some ⟨W.heap.size, 1, none⟩), .pointer (some ⟨W.heap.size, 2, none⟩), .pointer (some ⟨W.heap.size, 3, none⟩), .pointer (some ⟨W.heap.size, 4, none⟩), .pointer (some ⟨W.heap.size, 5, none⟩), .pointer (some ⟨W.heap.size, 6, none⟩)] 70))) := Lib.hid (HR1.out.up (below_box _ _))
            have HNX : Hid ((W1.alloc (.cells #[.pointer (some ⟨W.heap.size, 0, none⟩), .pointer (some ⟨W.heap.size, 1, none⟩), .pointer (some ⟨W.heap.size, 2, none⟩), .pointer (some ⟨W.heap.size, 3, none⟩), .pointer (some ⟨W.heap.size, 4, none⟩), .pointer (some ⟨W.heap.size, 5, none⟩), .pointer (some ⟨W.heap.size, 6, none⟩)] 70)).heap[W.heap.size]? = some (.cells #[.int .i64 0, .int .i64 0, .int .i64 0, .int .i64 0, .int .i64 0, .int .i64 0, .int .i64 0] 45 (0, 0))) := Lib.hid ((Below.heap_alloc _ _ _ (by omega)).trans bn)
            have HNO : Hid (ov.ownBlock ≠ some W.heap.size ∧ (Value.slice A2 t.ls.length c2).ownBlock ≠ some W.heap.size) := Lib.hid ⟨fun e => by have := (HRT.out.ho.lt _ e).2; omega, fun e => by have := (HRT.out.hl.lt _ e).2; omega⟩
            have c51 : W1.cell? ⟨B, 0, none⟩ = some (.slice (some ⟨g, 0, none⟩) ws.length cw) := cell_up hW1 c5
            have hss : W.heap.size < W1.heap.size := by omega
            have HS1 := Lib.hid hs1
            clear bn hW1 b0 b1 b2 bf c5 q1 hs1
            have HSC := Lib.hid (HSA.out.link hwl HWX.out HNX.out)
            rw [hsc] at HSC
            go_upto_region 22 with (go_at_call 39; (with_reducible refine HSC.out.mono ?_); rintro e w5 ⟨l, rfl, hn5, hb5, hg5⟩; have HB5 := Lib.hid hb5; have HLX : Hid (LoP base [tb] W w5) := Lib.hid ((HL1.out.trans (LoP.of_below (below_box W1 _) (by omega))).trans (LoP.of_grown HNX.out (.inr (by omega)) hg5 (by simp; omega))); have HR5 : Hid (RT tb base t ov (.slice A2 t.ls.length c2) w5) := Lib.hid (HRX.out.other hg5 (by omega) HNO.out.1 HNO.out.2); obtain ⟨b0, b1, b2, bf⟩ := HR5.out.cells; have HN5 := Lib.hid hn5; clear hb5 hg5 hn5)
            refine wp_region_noPanic ?_
            obtain ⟨W8, hW8⟩ : ∃ X, X = w5.drew := ⟨_, rfl⟩
            have HR8 : Hid (RT tb base t ov (.slice A2 t.ls.length c2) W8) := Lib.hid (hW8 ▸ HR5.out.up (below_drw2 w5))
            have HL8 : Hid (LoP base [tb] W W8) := Lib.hid (hW8 ▸ HLX.out.drew)
            have HB8 : Hid (W8.heap[W.heap.size]? = some (.cells #[.int .i64 l.a, .int .i64 l.b, .int .i64 l.c0, .int .i64 l.c1, .int .i64 l.cap, .int .i64 l.dl, .int .i64 l.g] 45 (0, 0))) := Lib.hid (hW8 ▸ HB5.out)
            have hs8 : W.heap.size < W8.heap.size := lt_of_heap HB8.out
            have ht8 : tb < W8.heap.size := by omega
            have ht8a : tb ≠ W8.heap.size := by omega
            have ht8b : W8.heap.size ≠ tb := by omega
            refine wp_region_held_drew (S := (fun w' => w'.cell? ⟨W.heap.size, 0, none⟩ = some (.int .i64 l.a) ∧ w'.cell? ⟨W.heap.size, 1, none⟩ = some (.int .i64 l.b) ∧ w'.cell? ⟨W.heap.size, 2, none⟩ = some (.int .i64 l.c0) ∧ w'.cell? ⟨W.heap.size, 3, none⟩ = some (.int .i64 l.c1) ∧ w'.cell? ⟨W.heap.size, 4, none⟩ = some (.int .i64 l.cap) ∧ w'.cell? ⟨W.heap.size, 5, none⟩ = some (.int .i64 l.dl) ∧ w'.cell? ⟨W.heap.size, 6, none⟩ = some (.int .i64 l.g))) (by kernel_rfl) ?_ (fun hHeld => ?_)
            · exact k7_of (hW8 ▸ HB8.out)
            rw [← hW8] at hHeld ⊢
            clear hW8 b0 b1 b2 bf
            obtain ⟨b0, b1, b2, bf⟩ := HR8.out.cells
            (refine takeL (i := 0) (v := ?_) rfl (by kernel_rfl) (by decide +kernel) (by decide +kernel) (fun _ _ _ h => h) (Or.inl ⟨by rfl, ?_⟩) (by assumption) ?_; rotate_left; (focus (intro w9 hS9; (try dsimp only at hS9); go_simp; (try with_reducible rfl); done)))
            (try simp only [Act.put, List.setIfInBounds_toArray, List.set_cons_zero, List.set_cons_succ])
            (refine takeL (i := 1) (v := ?_) rfl (by kernel_rfl) (by decide +kernel) (by decide +kernel) (fun _ _ _ h => h) (Or.inl ⟨by rfl, ?_⟩) (by assumption) ?_; rotate_left; (focus (intro w9 hS9; (try dsimp only at hS9); go_simp; (try with_reducible rfl); done)))
            (try simp only [Act.put, List.setIfInBounds_toArray, List.set_cons_zero, List.set_cons_succ])
            (refine takeL (i := 2) (v := ?_) rfl (by kernel_rfl) (by decide +kernel) (by decide +kernel) (fun _ _ _ h => h) (Or.inl ⟨by rfl, ?_⟩) (by assumption) ?_; rotate_left; (focus (intro w9 hS9; (try dsimp only at hS9); go_simp; (try with_reducible rfl); done)))
            (try simp only [Act.put, List.setIfInBounds_toArray, List.set_cons_zero, List.set_cons_succ])
            (refine takeL (i := 3) (v := ?_) rfl (by kernel_rfl) (by decide +kernel) (by decide +kernel) (fun _ _ _ h => h) (Or.inl ⟨by rfl, ?_⟩) (by assumption) ?_; rotate_left; (focus (intro w9 hS9; (try dsimp only at hS9); go_simp; (try with_reducible rfl); done)))
            (try simp only [Act.put, List.setIfInBounds_toArray, List.set_cons_zero, List.set_cons_succ])
            (refine takeL (i := 5) (v := ?_) rfl (by kernel_rfl) (by decide +kernel) (by decide +kernel) (fun _ _ _ h => h) (Or.inl ⟨by rfl, ?_⟩) (by assumption) ?_; rotate_left; (focus (intro w9 hS9; (try dsimp only at hS9); go_simp; (try with_reducible rfl); done)))
            (try simp only [Act.put, List.setIfInBounds_toArray, List.set_cons_zero, List.set_cons_succ])
            refine wpAnyH_ready (rs := [4, 6]) (by decide +kernel) (by simp) ?_
            refine consL rfl (fun K hK => ?_) ?_
            · (first | fail | (go_simp; first | done | (first | fail)) | go_simp)
              (first | (with_reducible refine hK.out _ _ ?_ ?_) | (go_wp2_with fail; refine hK.out _ _ ?_ ?_))
              (focus (exact hHeld))
              clear hK K hHeld
              intro hHeld
              (try simp only [Act.put, List.setIfInBounds_toArray, List.set_cons_zero, List.set_cons_succ])
              refine wpAnyH_ready (rs := [6]) (by decide +kernel) (by simp) ?_
              refine consL rfl (fun K hK => ?_) ?_
              · (first | fail | (go_simp; first | done | (first | fail)) | go_simp)
                (first | (with_reducible refine hK.out _ _ ?_ ?_) | (go_wp2_with fail; refine hK.out _ _ ?_ ?_))
                (focus (exact k7_of ((Below.heap_alloc _ _ _ (by omega)).trans HB8.out)))
                clear hK K hHeld
                intro hHeld
                (try simp only [Act.put, List.setIfInBounds_toArray, List.set_cons_zero, List.set_cons_succ])
                refine wpAnyH_ready (rs := [7]) (by decide +kernel) (by simp) ?_
                refine consL rfl (fun K hK => ?_) ?_
                · (first | (refine step_append_lies _ rfl _ _ 23 rfl base 45 j0 (.agg #[.int .i64 0, .int .i64 0, .int .i64 0, .int .i64 0, .int .i64 0, .int .i64 0, .int .i64 0]) 7 56 Tryd.underlying23 hj hj0 hj1 hj2 rfl (by decide) _ _ _ rfl (HR8.out.hl.alloc _) ⟨W8.heap.size, 0, none⟩ 1 1 (lkC l) rfl rfl (lkc_cells _ l _) (lkc_oneT l) (by decide) (by unfold maxLen; omega) (by omega) (Nat.le_trans HR8.out.sz (by simp)) _ rfl ?_; intro gg cap W9 ap1 ap2 ap3 ap4; have HRA := Lib.hid (HR8.out.up (below_box W8 (.cells #[.int .i64 l.a, .int .i64 l.b, .int .i64 l.c0, .int .i64 l.c1, .int .i64 l.cap, .int .i64 l.dl, .int .i64 l.g] 45))); have m2 : W9.cell? ⟨tb, 2, none⟩ = some (.slice A2 t.ls.length c2) := (ap2.cell_far ⟨tb, 2, none⟩ (lt_of_heap HRA.out.st) (fun e => own_tb HRA.out.hl HRA.out.lt e.symm)).trans HRA.out.cells.2.2.1; have m3 : W9.frozen? ⟨tb, 2, none⟩ = false := (ap2.frozen_far ⟨tb, 2, none⟩ (lt_of_heap HRA.out.st) (fun e => own_tb HRA.out.hl HRA.out.lt e.symm)).trans (HRA.out.cells.2.2.2 2); have hb9 := (ap2.block W.heap.size (by simp; omega) (fun e => HNO.out.2 e.symm)).trans ((Below.heap_alloc W8 (.cells #[.int .i64 l.a, .int .i64 l.b, .int .i64 l.c0, .int .i64 l.c1, .int .i64 l.cap, .int .i64 l.dl, .int .i64 l.g] 45) _ (by omega)).trans HB8.out)) | (go_simp; first | done | (first | (refine step_append_lies _ rfl _ _ 23 rfl base 45 j0 (.agg #[.int .i64 0, .int .i64 0, .int .i64 0, .int .i64 0, .int .i64 0, .int .i64 0, .int .i64 0]) 7 56 Tryd.underlying23 hj hj0 hj1 hj2 rfl (by decide) _ _ _ rfl (HR8.out.hl.alloc _) ⟨W8.heap.size, 0, none⟩ 1 1 (lkC l) rfl rfl (lkc_cells _ l _) (lkc_oneT l) (by decide) (by unfold maxLen; omega) (by omega) (Nat.le_trans HR8.out.sz (by simp)) _ rfl ?_; intro gg cap W9 ap1 ap2 ap3 ap4; have HRA := Lib.hid (HR8.out.up (below_box W8 (.cells #[.int .i64 l.a, .int .i64 l.b, .int .i64 l.c0, .int .i64 l.c1, .int .i64 l.cap, .int .i64 l.dl, .int .i64 l.g] 45))); have m2 : W9.cell? ⟨tb, 2, none⟩ = some (.slice A2 t.ls.length c2) := (ap2.cell_far ⟨tb, 2, none⟩ (lt_of_heap HRA.out.st) (fun e => own_tb HRA.out.hl HRA.out.lt e.symm)).trans HRA.out.cells.2.2.1; have m3 : W9.frozen? ⟨tb, 2, none⟩ = false := (ap2.frozen_far ⟨tb, 2, none⟩ (lt_of_heap HRA.out.st) (fun e => own_tb HRA.out.hl HRA.out.lt e.symm)).trans (HRA.out.cells.2.2.2 2); have hb9 := (ap2.block W.heap.size (by simp; omega) (fun e => HNO.out.2 e.symm)).trans ((Below.heap_alloc W8 (.cells #[.int .i64 l.a, .int .i64 l.b, .int .i64 l.c0, .int .i64 l.c1, .int .i64 l.cap, .int .i64 l.dl, .int .i64 l.g] 45) _ (by omega)).trans HB8.out)))) | go_simp)
                  (first | (with_reducible refine hK.out _ _ ?_ ?_) | (go_wp2_with fail; refine hK.out _ _ ?_ ?_))
                  (focus (exact k7_of hb9))
                  clear hK K hHeld
                  intro hHeld
                  (try simp only [Act.put, List.setIfInBounds_toArray, List.set_cons_zero, List.set_cons_succ])
                  (refine takeL (i := 8) (v := ?_) rfl (by kernel_rfl) (by decide +kernel) (by decide +kernel) (fun _ _ _ h => h) (Or.inl ⟨by rfl, ?_⟩) (by assumption) ?_; rotate_left; (focus (intro w9 hS9; (try dsimp only at hS9); go_simp; (try with_reducible rfl); done)))
                  (try simp only [Act.put, List.setIfInBounds_toArray, List.set_cons_zero, List.set_cons_succ])
                  (refine takeL (i := 9) (v := ?_) rfl (by kernel_rfl) (by decide +kernel) (by decide +kernel) (fun _ _ _ h => h) (Or.inl ⟨by rfl, ?_⟩) (by assumption) ?_; rotate_left; (focus (intro w9 hS9; (try dsimp only at hS9); go_simp; (try with_reducible rfl); done)))
                  (try simp only [Act.put, List.setIfInBounds_toArray, List.set_cons_zero, List.set_cons_succ])
                  refine wpAnyH_ready (rs := [10]) (by decide +kernel) (by simp) ?_
                  refine consL rfl (fun K hK => ?_) ?_
                  · (first | fail | (go_simp; first | done | (first | fail)) | go_simp)
                    (first | (with_reducible refine hK.out _ _ ?_ ?_) | (go_wp2_with fail; refine hK.out _ _ ?_ ?_))
                    (focus (exact k7_of ((Below.heap_setCell _ _ _ _ (by show W.heap.size ≠ tb; omega)).trans hb9)))
                    clear hK K hHeld
                    intro hHeld
                    (try simp only [Act.put, List.setIfInBounds_toArray, List.set_cons_zero, List.set_cons_succ])
                    refine wpAnyH_done (by decide +kernel) ?_ _
                    refine NoPanic.normal ?_
                    have HL9 : Hid (LoP base [tb] W (W9.setCell ⟨tb, 2, none⟩ (.slice (some ⟨gg, 0, none⟩) (t.ls.length + 1) cap))) := Lib.hid ((HL8.out.trans (LoP.append HR8.out.hl ap2 HR8.out.sz)).trans (LoP.setC ((ap2.block tb (lt_of_heap HRA.out.st) (fun e => own_tb HRA.out.hl HRA.out.lt e.symm)).trans HRA.out.st) (.inl (by simp)) (by have := HRA.out.sz; have := ap2.size; omega) _))
                    have HR9 := Lib.hid (HRA.out.app l ap1 ap2 (ap3.elim (fun h => .inl h.symm) (fun h => .inr (by rw [h]; rfl))))
                    go_wp2_with fail
                    refine ⟨by simp, .inl ⟨_, _, rfl, run_takeDeferred (HL9.out.oth _ _ HK.out rfl), ?_⟩⟩
                    exact ⟨.bool true, by simp [results, Tryd.results19, go_sem], retRead2 (by rw [HVn.out]; rfl) (fun u e => by rw [HVn.out, HN5.out vs rfl] at e; injection e) HR9.out HLO.out HL9.out hDw HK.out hb1⟩
                  exact AllReadyH.nil
                exact AllReadyH.nil
              exact AllReadyH.nil
            refine consL rfl (fun K hK => ?_) ?_
            · (first | fail | (go_simp; first | done | (first | fail)) | go_simp)
              (first | (with_reducible refine hK.out _ _ ?_ ?_) | (go_wp2_with fail; refine hK.out _ _ ?_ ?_))
              (focus (exact k7_of ((Below.heap_alloc _ _ _ (by omega)).trans HB8.out)))
              clear hK K hHeld
              intro hHeld
              (try simp only [Act.put, List.setIfInBounds_toArray, List.set_cons_zero, List.set_cons_succ])
              refine wpAnyH_ready (rs := [4]) (by decide +kernel) (by simp) ?_
              refine consL rfl (fun K hK => ?_) ?_
              · (first | fail | (go_simp; first | done | (first | fail)) | go_simp)
                (first | (with_reducible refine hK.out _ _ ?_ ?_) | (go_wp2_with fail; refine hK.out _ _ ?_ ?_))
                (focus (exact hHeld))
                clear hK K hHeld
                intro hHeld
                (try simp only [Act.put, List.setIfInBounds_toArray, List.set_cons_zero, List.set_cons_succ])
                refine wpAnyH_ready (rs := [7]) (by decide +kernel) (by simp) ?_
                refine consL rfl (fun K hK => ?_) ?_
                · (first | (refine step_append_lies _ rfl _ _ 23 rfl base 45 j0 (.agg #[.int .i64 0, .int .i64 0, .int .i64 0, .int .i64 0, .int .i64 0, .int .i64 0, .int .i64 0]) 7 56 Tryd.underlying23 hj hj0 hj1 hj2 rfl (by decide) _ _ _ rfl (HR8.out.hl.alloc _) ⟨W8.heap.size, 0, none⟩ 1 1 (lkC l) rfl rfl (lkc_cells _ l _) (lkc_oneT l) (by decide) (by unfold maxLen; omega) (by omega) (Nat.le_trans HR8.out.sz (by simp)) _ rfl ?_; intro gg cap W9 ap1 ap2 ap3 ap4; have HRA := Lib.hid (HR8.out.up (below_box W8 (.cells #[.int .i64 l.a, .int .i64 l.b, .int .i64 l.c0, .int .i64 l.c1, .int .i64 l.cap, .int .i64 l.dl, .int .i64 l.g] 45))); have m2 : W9.cell? ⟨tb, 2, none⟩ = some (.slice A2 t.ls.length c2) := (ap2.cell_far ⟨tb, 2, none⟩ (lt_of_heap HRA.out.st) (fun e => own_tb HRA.out.hl HRA.out.lt e.symm)).trans HRA.out.cells.2.2.1; have m3 : W9.frozen? ⟨tb, 2, none⟩ = false := (ap2.frozen_far ⟨tb, 2, none⟩ (lt_of_heap HRA.out.st) (fun e => own_tb HRA.out.hl HRA.out.lt e.symm)).trans (HRA.out.cells.2.2.2 2); have hb9 := (ap2.block W.heap.size (by simp; omega) (fun e => HNO.out.2 e.symm)).trans ((Below.heap_alloc W8 (.cells #[.int .i64 l.a, .int .i64 l.b, .int .i64 l.c0, .int .i64 l.c1, .int .i64 l.cap, .int .i64 l.dl, .int .i64 l.g] 45) _ (by omega)).trans HB8.out)) | (go_simp; first | done | (first | (refine step_append_lies _ rfl _ _ 23 rfl base 45 j0 (.agg #[.int .i64 0, .int .i64 0, .int .i64 0, .int .i64 0, .int .i64 0, .int .i64 0, .int .i64 0]) 7 56 Tryd.underlying23 hj hj0 hj1 hj2 rfl (by decide) _ _ _ rfl (HR8.out.hl.alloc _) ⟨W8.heap.size, 0, none⟩ 1 1 (lkC l) rfl rfl (lkc_cells _ l _) (lkc_oneT l) (by decide) (by unfold maxLen; omega) (by omega) (Nat.le_trans HR8.out.sz (by simp)) _ rfl ?_; intro gg cap W9 ap1 ap2 ap3 ap4; have HRA := Lib.hid (HR8.out.up (below_box W8 (.cells #[.int .i64 l.a, .int .i64 l.b, .int .i64 l.c0, .int .i64 l.c1, .int .i64 l.cap, .int .i64 l.dl, .int .i64 l.g] 45))); have m2 : W9.cell? ⟨tb, 2, none⟩ = some (.slice A2 t.ls.length c2) := (ap2.cell_far ⟨tb, 2, none⟩ (lt_of_heap HRA.out.st) (fun e => own_tb HRA.out.hl HRA.out.lt e.symm)).trans HRA.out.cells.2.2.1; have m3 : W9.frozen? ⟨tb, 2, none⟩ = false := (ap2.frozen_far ⟨tb, 2, none⟩ (lt_of_heap HRA.out.st) (fun e => own_tb HRA.out.hl HRA.out.lt e.symm)).trans (HRA.out.cells.2.2.2 2); have hb9 := (ap2.block W.heap.size (by simp; omega) (fun e => HNO.out.2 e.symm)).trans ((Below.heap_alloc W8 (.cells #[.int .i64 l.a, .int .i64 l.b, .int .i64 l.c0, .int .i64 l.c1, .int .i64 l.cap, .int .i64 l.dl, .int .i64 l.g] 45) _ (by omega)).trans HB8.out)))) | go_simp)
                  (first | (with_reducible refine hK.out _ _ ?_ ?_) | (go_wp2_with fail; refine hK.out _ _ ?_ ?_))
                  (focus (exact k7_of hb9))
                  clear hK K hHeld
                  intro hHeld
                  (try simp only [Act.put, List.setIfInBounds_toArray, List.set_cons_zero, List.set_cons_succ])
                  (refine takeL (i := 8) (v := ?_) rfl (by kernel_rfl) (by decide +kernel) (by decide +kernel) (fun _ _ _ h => h) (Or.inl ⟨by rfl, ?_⟩) (by assumption) ?_; rotate_left; (focus (intro w9 hS9; (try dsimp only at hS9); go_simp; (try with_reducible rfl); done)))
                  (try simp only [Act.put, List.setIfInBounds_toArray, List.set_cons_zero, List.set_cons_succ])
                  (refine takeL (i := 9) (v := ?_) rfl (by kernel_rfl) (by decide +kernel) (by decide +kernel) (fun _ _ _ h => h) (Or.inl ⟨by rfl, ?_⟩) (by assumption) ?_; rotate_left; (focus (intro w9 hS9; (try dsimp only at hS9); go_simp; (try with_reducible rfl); done)))
                  (try simp only [Act.put, List.setIfInBounds_toArray, List.set_cons_zero, List.set_cons_succ])
                  refine wpAnyH_ready (rs := [10]) (by decide +kernel) (by simp) ?_
                  refine consL rfl (fun K hK => ?_) ?_
                  · (first | fail | (go_simp; first | done | (first | fail)) | go_simp)
                    (first | (with_reducible refine hK.out _ _ ?_ ?_) | (go_wp2_with fail; refine hK.out _ _ ?_ ?_))
                    (focus (exact k7_of ((Below.heap_setCell _ _ _ _ (by show W.heap.size ≠ tb; omega)).trans hb9)))
                    clear hK K hHeld
                    intro hHeld
                    (try simp only [Act.put, List.setIfInBounds_toArray, List.set_cons_zero, List.set_cons_succ])
                    refine wpAnyH_done (by decide +kernel) ?_ _
                    refine NoPanic.normal ?_
                    have HL9 : Hid (LoP base [tb] W (W9.setCell ⟨tb, 2, none⟩ (.slice (some ⟨gg, 0, none⟩) (t.ls.length + 1) cap))) := Lib.hid ((HL8.out.trans (LoP.append HR8.out.hl ap2 HR8.out.sz)).trans (LoP.setC ((ap2.block tb (lt_of_heap HRA.out.st) (fun e => own_tb HRA.out.hl HRA.out.lt e.symm)).trans HRA.out.st) (.inl (by simp)) (by have := HRA.out.sz; have := ap2.size; omega) _))
                    have HR9 := Lib.hid (HRA.out.app l ap1 ap2 (ap3.elim (fun h => .inl h.symm) (fun h => .inr (by rw [h]; rfl))))
                    go_wp2_with fail
                    refine ⟨by simp, .inl ⟨_, _, rfl, run_takeDeferred (HL9.out.oth _ _ HK.out rfl), ?_⟩⟩
                    exact ⟨.bool true, by simp [results, Tryd.results19, go_sem], retRead2 (by rw [HVn.out]; rfl) (fun u e => by rw [HVn.out, HN5.out vs rfl] at e; injection e) HR9.out HLO.out HL9.out hDw HK.out hb1⟩
                  exact AllReadyH.nil
                exact AllReadyH.nil
              exact AllReadyH.nil
            exact AllReadyH.nil
      have HVn : Hid (V = none) := Lib.hid (by rw [HVV.out]; exact read_other HX0.out hn ho hl7)
      have HLX : Hid (LoP base [tb] W W) := Lib.hid (LoP.refl _ _ _)
      have k1 : (x0 == [110, 111, 100, 101, 115]) = false := by simpa [sNodes] using hn
      have k2 : (x0 == [111, 118, 101, 114, 108, 111, 97, 100]) = false := by simpa [sOverload] using ho
      have k3 : (x0 == [108, 105, 110, 107]) = false := by simpa [sLink] using hl7
      clear hn ho hl7
      go_wp2_with fail
      refine ⟨by simp, .inl ⟨_, _, rfl, run_takeDeferred (HLX.out.oth _ _ HK.out rfl), ?_⟩⟩
      exact ⟨.bool false, by simp [results, Tryd.results19, go_sem], retRead2 (by rw [HVn.out]; rfl) (fun u e => by rw [HVn.out] at e; cases e) HRT.out HLO.out HLX.out hDw HK.out hb1⟩

end Go.Proofs.YtfbloolloifndaaDoor
