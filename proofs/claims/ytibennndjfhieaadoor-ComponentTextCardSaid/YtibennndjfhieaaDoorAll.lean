/-
  component.All: what it returns, for every topology.
-/
import Derived.Test.YtibennndjfhieaaDoorComp
import Derived.Laws.Rows
namespace Go.Proofs.YtibennndjfhieaaDoor
open Go.RowKit Go.Sort

def ncP (c : Int) : Nat → List (Int × Int)
  | 0 => []
  | j + 1 => ncP c j ++ [(c, (j : Int))]
theorem ncP_len (c : Int) : ∀ j, (ncP c j).length = j
  | 0 => rfl
  | j + 1 => by simp [ncP, ncP_len c j]
/-- Is a group used by one of the first j links? -/
def usedK (t : Topo) (j : Nat) (g : Nat) : Bool := (t.ls.take j).any fun l => l.g == (g : Int)
def grP (t : Topo) : Nat → List (Int × Int)
  | 0 => []
  | j + 1 => if decide (0 < j) && usedK t t.ls.length j then grP t j ++ [(3, (j : Int))] else grP t j
def allL (t : Topo) : List (Int × Int) := ncP 1 t.ls.length ++ (ncP 2 t.n.toNat ++ grP t 65)
def pcells (l : List (Int × Int)) : List Value := l.flatMap fun p => [.int .i64 p.1, .int .i64 p.2]
theorem pcells_snoc (l : List (Int × Int)) (p : Int × Int) : pcells (l ++ [p]) = pcells l ++ [.int .i64 p.1, .int .i64 p.2] := by simp [pcells]
theorem grP_len (t : Topo) : ∀ j, (grP t j).length ≤ j
  | 0 => Nat.le_refl _
  | j + 1 => by
    have := grP_len t j
    unfold grP
    split
    · simp; omega
    · omega
theorem usedK_next {t : Topo} {j : Nat} {l : Lnk} (h : t.ls[j]? = some l) (g : Nat) : usedK t (j + 1) g = (usedK t j g || (l.g == (g : Int))) := by
  obtain ⟨hj, rfl⟩ := List.getElem?_eq_some_iff.1 h
  unfold usedK
  rw [List.take_succ_eq_append_getElem hj, List.any_append]
  simp

/-- The marks of the groups. -/
def marks (t : Topo) (j : Nat) : Array Value := ((List.range 65).map fun g => Value.bool (usedK t j g)).toArray
theorem marks_size (t : Topo) (j : Nat) : (marks t j).size = 65 := by simp [marks]
theorem marks_at (t : Topo) (j : Nat) {g : Nat} (hg : g < 65) : (marks t j)[g]? = some (.bool (usedK t j g)) := by simp [marks, hg]
theorem marks_next {t : Topo} {j : Nat} {l : Lnk} (h : t.ls[j]? = some l) (h0 : 0 ≤ l.g) (h1 : l.g ≤ 64) : (marks t j).setIfInBounds l.g.toNat (.bool true) = marks t (j + 1) := by
  apply Array.ext_getElem?
  intro g
  by_cases hg : g < 65
  · rw [marks_at t (j + 1) hg, usedK_next h]
    by_cases e : l.g.toNat = g
    · subst e
      rw [Array.getElem?_setIfInBounds_self_of_lt (by rw [marks_size]; exact hg)]
      have : (l.g == ((l.g.toNat : Nat) : Int)) = true := by simp; omega
      rw [this, Bool.or_true]
    · rw [Array.getElem?_setIfInBounds_ne e, marks_at t j hg]
      have : (l.g == ((g : Nat) : Int)) = false := by simp; omega
      rw [this, Bool.or_false]
  · rw [Array.getElem?_eq_none (by simp [marks_size]; omega), Array.getElem?_eq_none (by rw [marks_size]; omega)]
theorem compInfo : (Tryd.prog.info? 31).map (fun i => (i.zero, i.size, i.bytes)) = some (some (.agg #[.int .i64 0, .int .i64 0]), 2, 16) := by kernel_rfl

/-- The cells of a slice of pairs. -/
def RdP (w : World) (A : Option Addr) (l : List (Int × Int)) : Prop :=
  l = [] ∨ ∃ b o, A = some ⟨b, o, none⟩ ∧ ∀ (k : Nat) (p : Int × Int), l[k]? = some p → w.cell? ⟨b, o + k * 2, none⟩ = some (.int .i64 p.1) ∧ w.cell? ⟨b, o + k * 2 + 1, none⟩ = some (.int .i64 p.2)
theorem RdP.below {w w' : World} {A : Option Addr} {l : List (Int × Int)} (h : RdP w A l) (hb : Below w.heap.size w w') : RdP w' A l := by
  rcases h with rfl | ⟨b, o, rfl, hc⟩
  · exact .inl rfl
  · exact .inr ⟨b, o, rfl, fun k p hp => ⟨cell_up hb (hc k p hp).1, cell_up hb (hc k p hp).2⟩⟩
theorem RdP.at_ {w : World} {A : Option Addr} {l : List (Int × Int)} {k : Nat} (h : RdP w A l) (hk : k < l.length) : ∃ b o p, A = some ⟨b, o, none⟩ ∧ l.drop k = p :: l.drop (k + 1) ∧ w.cell? ⟨b, o + k * 2, none⟩ = some (.int .i64 p.1) ∧ w.cell? ⟨b, o + k * 2 + 1, none⟩ = some (.int .i64 p.2) := by
  rcases h with rfl | ⟨b, o, rfl, hc⟩
  · simp at hk
  · exact ⟨b, o, l[k], rfl, List.drop_eq_getElem_cons hk, (hc k _ (List.getElem?_eq_getElem hk)).1, (hc k _ (List.getElem?_eq_getElem hk)).2⟩

/-- A call that returns a list of pairs; nothing that was there has changed. -/
def RetPairs (w : World) (l : List (Int × Int)) (e : Ending) (w' : World) : Prop :=
  ∃ A c, e = .returned (.slice A l.length c) ∧ RdP w' A l ∧ Below w.heap.size w w'

theorem marks_zero (t : Topo) : marks t 0 = Tryd.zeroCells55 := by
  have h : marks t 0 = (List.replicate 65 (Value.bool false)).toArray := by
    apply Array.ext_getElem?
    intro g
    by_cases hg : g < 65
    · rw [marks_at t 0 hg, List.getElem?_toArray, List.getElem?_replicate, if_pos hg]; rfl
    · rw [Array.getElem?_eq_none (by rw [marks_size]; omega), Array.getElem?_eq_none (by simp; omega)]
  exact h.trans (by kernel_rfl)
theorem lt_of_heap' {w : World} {k : Nat} {o : Obj} (h : w.heap[k]? = some o) : k < w.heap.size := (Array.getElem?_eq_some_iff.1 h).1

theorem boolInfo : (Tryd.prog.info? 4).map (·.size) = some 1 := by kernel_rfl
theorem idx_marks (t : Topo) (j g : Nat) (hg : g < 65) (w : World) : (Instr.index 55 (.agg (marks t j)) (.int .i64 (g : Int))).run Tryd.prog w = .ok (.bool (usedK t j g)) w := by
  obtain ⟨i, hi, hs⟩ := Option.map_eq_some_iff.1 boolInfo
  have h1 : (0 : Int) ≤ (g : Int) ∧ (g : Int) < 65 := by omega
  have hm := marks_at t j hg
  simp [Instr.index, run_underlying Tryd.underlying55, asIntOf, hg, sizeOf, typeInfo, hi, hs, part, hm, go_sem]
theorem pcells_len (l : List (Int × Int)) : (pcells l).length = 2 * l.length := by
  induction l with
  | nil => rfl
  | cons p r ih => simp [pcells] at ih ⊢; omega
theorem pcells_at : ∀ (l : List (Int × Int)) (k : Nat) (p : Int × Int), l[k]? = some p → (pcells l)[k * 2]? = some (.int .i64 p.1) ∧ (pcells l)[k * 2 + 1]? = some (.int .i64 p.2)
  | [], k, p, h => by simp at h
  | q :: r, 0, p, h => by simp at h; subst h; exact ⟨rfl, rfl⟩
  | q :: r, k + 1, p, h => by
    have ih := pcells_at r k p (by simpa using h)
    rw [show (k + 1) * 2 = k * 2 + 1 + 1 by omega]
    exact ih
theorem retPairs_of {w w' : World} {base : Nat} {E : TypeId} {v : Value} {n : Nat} {l l' : List (Int × Int)} (hl : l' = l) (h : w'.ownsRow base E 2 v n (pcells l)) (hb : Below w.heap.size w w') : RetPairs w l' (.returned v) w' := by
  subst hl
  have hn : n = l'.length := by have := h.1; rw [pcells_len] at this; omega
  subst hn
  rcases h.2 with ⟨rfl, h0⟩ | ⟨g, cap, cur, rfl, _⟩
  · have : l' = [] := List.eq_nil_of_length_eq_zero h0
    subst this
    exact ⟨none, 0, rfl, .inl rfl, hb⟩
  · refine ⟨some ⟨g, 0, none⟩, cap, rfl, .inr ⟨g, 0, rfl, fun k p hp => ?_⟩, hb⟩
    have hk : k < l'.length := (List.getElem?_eq_some_iff.1 hp).1
    obtain ⟨e1, e2⟩ := pcells_at l' k p hp
    constructor
    · rw [Nat.zero_add, h.cellAt (k * 2) (by omega)]; exact e1
    · rw [Nat.zero_add, h.cellAt (k * 2 + 1) (by omega)]; exact e2
theorem info65 : (Tryd.prog.info? 55).map (·.size) = some 65 := by kernel_rfl
theorem own_setC {w : World} {B : Nat} {E : TypeId} {size : Nat} {v : Value} {n : Nat} {xs : List Value} {g j : Nat} (h : w.ownsRow B E size v n xs) (hne : v.ownBlock ≠ some g) (u : Value) : (w.setCell ⟨g, j, none⟩ u).ownsRow B E size v n xs := by
  rcases h with ⟨hl, h0 | ⟨g', cap, cur, rfl, hB, hg, rest⟩⟩
  · exact ⟨hl, .inl h0⟩
  · refine ⟨hl, .inr ⟨g', cap, cur, rfl, hB, ?_, rest⟩⟩
    rw [Below.heap_setCell w ⟨g, j, none⟩ u g' (by simpa [Value.ownBlock] using hne)]
    exact hg
theorem cell_two_at (w : World) (x y : Value) (t : TypeId) (g : Nat) (hg : w.heap.size = g) : ∀ j u, [x, y][j]? = some u → (w.alloc (.cells #[x, y] t)).cell? ((⟨g, 0, none⟩ : Addr).add j) = some u := by
  subst hg; exact cell_two_new w x y t

set_option maxRecDepth 100000 in
set_option maxHeartbeats 4000000 in
theorem component_All (t : Topo) (A1 A2 : Option Addr) (c1 c2 : Nat) (w : World) (hT : TAt w A1 A2 t) :
    Calls Tryd.prog 12 #[.agg #[.int .i64 t.n, .slice A1 t.ov.length c1, .slice A2 t.ls.length c2]] w (RetPairs w (if valid t then allL t else [])) := by
  obtain ⟨i0, hi, hz0, hz1, hz2⟩ := info_parts compInfo
  have hX := TBox.start c1 c2 hT
  have HT0 := Lib.hid hT
  have hb0 := below_box w (.cells #[.int .i64 t.n, .slice A1 t.ov.length c1, .slice A2 t.ls.length c2] 25)
  have HT := hT.below hb0
  have HB := hb0
  have b0 := box0 w (.int .i64 t.n) (.slice A1 t.ov.length c1) (.slice A2 t.ls.length c2) 25
  have b1 := box1 w (.int .i64 t.n) (.slice A1 t.ov.length c1) (.slice A2 t.ls.length c2) 25
  have b2 := box2 w (.int .i64 t.n) (.slice A1 t.ov.length c1) (.slice A2 t.ls.length c2) 25
  clear hb0 hT
  cases hv : valid t with
  | false =>
    rw [show (if false = true then allL t else []) = ([] : List (Int × Int)) by simp]
    go_enter Tryd.func12, Tryd.ntmps12
    go_wp2_with (go_at_call 32; refine (topology_Valid t _ _ _ _ _ HT.ls).mono ?_; rintro e w1 ⟨rfl, hb⟩; replace HT := HT.below hb; replace b0 := cell_up hb b0; replace b1 := cell_up hb b1; replace b2 := cell_up hb b2; replace HB := below_next HB hb; clear hb)
    go_ret
    exact ⟨none, 0, rfl, .inl rfl, HB⟩
  | true =>
    rw [show (if true = true then allL t else []) = allL t by simp]
    have HV := Lib.hid hv
    have hls := valid_ls hv
    have HX := Lib.hid hX
    clear hX HT HB
    go_enter Tryd.func12, Tryd.ntmps12
    go_wp2_with (go_at_call 32; refine (topology_Valid t _ _ _ _ _ HX.out.ta.ls).mono ?_; rintro e w1 ⟨rfl, hb⟩; replace HX := Lib.hid (HX.out.up hb); replace b0 := cell_up hb b0; replace b1 := cell_up hb b1; replace b2 := cell_up hb b2; clear hb; have hz : w.heap.size < w1.heap.size := block_lt_of_cell b0; have hzn : w.heap.size ≠ w1.heap.size := (by omega); have hzm : w1.heap.size ≠ w.heap.size := (by omega))
    have hX2 : TBox w A1 A2 c1 c2 t (w1.alloc (.cells Tryd.zeroCells55 55)) := HX.out.up (below_box _ _)
    have hM : (w1.alloc (.cells Tryd.zeroCells55 55)).heap[w1.heap.size]? = some (.cells (marks t 0) 55 (0, 0)) := by
      rw [marks_zero]; exact heap_alloc_new _ _
    have HM := Lib.hid hM
    replace HX := Lib.hid hX2
    clear hM hX2 b0 b1 b2 hv
    obtain ⟨G, hG⟩ : ∃ G, G = w1.heap.size := ⟨_, rfl⟩
    rw [← hG] at hz hzn hzm HM ⊢
    clear hG
    go_loopw [3, 16] (fun v i wr => ∃ j : Nat, j ≤ t.ls.length ∧ i = .int .i64 j ∧ wr.ownsRow (G + 1) 31 2 v j (pcells (ncP 1 j)) ∧ Hid (wr.heap[G]? = some (.cells (marks t j) 55 (0, 0))) ∧ Hid (TBox w A1 A2 c1 c2 t wr)) (fun _ i _ => t.ls.length - (intOf i).toNat)
    case atStart => exact ⟨0, Nat.zero_le _, rfl, World.ownsRow_nil _ _ _ _, HM, HX⟩
    case round =>
      clear HM HX
      obtain ⟨j, hj, rfl, hown, HM, HX⟩ := hrel
      have HO := Lib.hid hown
      clear hown
      by_cases hlt : j < t.ls.length
      · obtain ⟨b, o, x, rfl, hx, hL⟩ := HX.out.ta.ls.at_ hlt
        have q0 := hL.q0
        have q1 := hL.q1
        have q2 := hL.q2
        have q3 := hL.q3
        have q4 := hL.q4
        have q5 := hL.q5
        have q6 := hL.q6
        have hlt' : (j : Int) < (t.ls.length : Int) := by omega
        have hgb := lnk_bd (valid_lnk HV.out hx)
        have hg0 : 0 ≤ x.g := by omega
        have hg1 : x.g ≤ 64 := by omega
        have hg2 : x.g < 65 := by omega
        have HXX := Lib.hid hx
        have hGr : G < wr.heap.size := lt_of_heap' HM.out
        have hGn : G ≠ wr.heap.size := by omega
        have hGm : wr.heap.size ≠ G := by omega
        clear hx hL hgb
        go_wp2_with (at_builtin; refine wpList_append_own _ rfl _ _ 28 rfl (G + 1) 31 i0 (.agg #[.int .i64 0, .int .i64 0]) 2 16 Tryd.underlying28 hi hz0 hz1 hz2 rfl (by decide) _ _ _ rfl ((HO.out.alloc _).alloc _) ⟨_, 0, none⟩ 1 1 [.int .i64 1, .int .i64 j] rfl rfl (cell_two_at _ _ _ _ _ (by simp)) ?_ ?_ ?_ ?_ ?_)
        · intro u hu; simp at hu; rcases hu with rfl | rfl <;> rfl
        · unfold maxLen; omega
        · omega
        · simp; omega
        · intro v' w2 hown' hgrow _
          have hnr : some wr.heap.size ≠ (Value.ownBlock _) := fun e => by have := (HO.out.lt _ e.symm).2; omega
          have hnG : some G ≠ (Value.ownBlock _) := fun e => by have := (HO.out.lt _ e.symm).1; omega
          have cg : w2.cell? ⟨wr.heap.size, 6, none⟩ = some (.int .i64 x.g) := hgrow.cell (by simp) hnr
          have hMG : w2.heap[G]? = some (.cells (marks t j) 55 (0, 0)) := by
            rw [hgrow.block G (by simp; omega) hnG]
            exact (Below.heap_alloc _ _ _ (by simp; omega)).trans ((Below.heap_alloc _ _ _ hGr).trans HM.out)
          have cm : w2.cell? ⟨G, x.g.toNat, none⟩ = some (.bool (usedK t j x.g.toNat)) := by
            rw [Lib.cell_of_heap hMG]; exact marks_at t j (by omega)
          have cf : w2.frozen? ⟨G, x.g.toNat, none⟩ = false := Lib.frozen_of_heap hMG _
          have HM3 : Hid ((w2.setCell ⟨G, x.g.toNat, none⟩ (.bool true)).heap[G]? = some (.cells (marks t (j + 1)) 55 (0, 0))) := Lib.hid (by
            rw [← marks_next HXX.out hg0 hg1]; exact heap_setCell_same w2 G _ _ _ _ hMG)
          have HO3 : Hid ((w2.setCell ⟨G, x.g.toNat, none⟩ (.bool true)).ownsRow (G + 1) 31 2 v' (j + 1) (pcells (ncP 1 (j + 1)))) := Lib.hid (own_setC (by rw [ncP, pcells_snoc]; exact hown') (fun e => by have := (hown'.lt _ e).1; omega) _)
          have HB3 : Hid (Below (w.heap.size + 1) wr (w2.setCell ⟨G, x.g.toNat, none⟩ (.bool true))) := Lib.hid (((((Below.refl _ wr).alloc (by omega) _).alloc (by simp; omega) _).grown hgrow (by simp; omega) (fun k hk => by have := (HO.out.lt k hk).1; omega)).setCell (p := ⟨G, x.g.toNat, none⟩) (by show w.heap.size + 1 ≤ G; omega) _)
          clear hown' hgrow hMG HM HO hnr hnG q0 q1 q2 q3 q4 q5 q6
          go_wp2_with fail
          go_roundw
          case rel => exact ⟨j + 1, by omega, by go_num, HO3.out, HM3, Lib.hid (keep_box HX.out HB3.out HT0.out)⟩
          case measure => simp [intOf]; omega
      · obtain rfl : j = t.ls.length := by omega
        obtain ⟨hn1, hn2⟩ := valid_n HV.out
        obtain ⟨nn, hnn⟩ : ∃ nn : Nat, t.n = (nn : Int) := ⟨t.n.toNat, by omega⟩
        have HN := Lib.hid hnn
        have hnn64 : nn ≤ 64 := by omega
        clear hnn hn1 hn2 hlt hj
        have b0 := HX.out.b0
        have hGr : G < wr.heap.size := lt_of_heap' HM.out
        go_wp2_with fail
        have HO2 : Hid (wr.ownsRow (G + 1) 31 2 _ (t.ls.length + 0) (pcells (ncP 1 t.ls.length ++ ncP 2 0))) := Lib.hid (by rw [ncP, List.append_nil]; exact HO.out)
        clear b0 HO
        obtain ⟨wo, rfl⟩ : ∃ wo : World, wo = wr := ⟨_, rfl⟩
        go_loopw [3, 32] (fun v i wr => ∃ j : Nat, j ≤ nn ∧ i = .int .i64 j ∧ Hid (wr.ownsRow (G + 1) 31 2 v (t.ls.length + j) (pcells (ncP 1 t.ls.length ++ ncP 2 j))) ∧ Hid (wr.heap[G]? = some (.cells (marks t t.ls.length) 55 (0, 0))) ∧ Hid (TBox w A1 A2 c1 c2 t wr)) (fun _ i _ => nn - (intOf i).toNat)
        case atStart => exact ⟨0, Nat.zero_le _, rfl, HO2, HM, HX⟩
        case round =>
          clear HO2 HM HX hGr
          obtain ⟨j, hj, rfl, HO, HM, HX⟩ := hrel
          have hGr : G < wr.heap.size := lt_of_heap' HM.out
          by_cases hlt : j < nn
          · have hlt' : (j : Int) < t.n := by rw [HN.out]; omega
            go_wp2_with (at_builtin; refine wpList_append_own _ rfl _ _ 28 rfl (G + 1) 31 i0 (.agg #[.int .i64 0, .int .i64 0]) 2 16 Tryd.underlying28 hi hz0 hz1 hz2 rfl (by decide) _ _ _ rfl (HO.out.alloc _) ⟨_, 0, none⟩ 1 1 [.int .i64 2, .int .i64 j] rfl rfl (cell_two_at _ _ _ _ _ (by simp)) ?_ ?_ ?_ ?_ ?_)
            · intro u hu; simp at hu; rcases hu with rfl | rfl <;> rfl
            · unfold maxLen; omega
            · omega
            · simp; omega
            · intro v' w2 hown' hgrow _
              have hnG : some G ≠ (Value.ownBlock _) := fun e => by have := (HO.out.lt _ e.symm).1; omega
              have HM3 : Hid (w2.heap[G]? = some (.cells (marks t t.ls.length) 55 (0, 0))) := Lib.hid (by
                rw [hgrow.block G (by simp; omega) hnG]
                exact (Below.heap_alloc _ _ _ hGr).trans HM.out)
              have HO3 : Hid (w2.ownsRow (G + 1) 31 2 v' (t.ls.length + (j + 1)) (pcells (ncP 1 t.ls.length ++ ncP 2 (j + 1)))) := Lib.hid (by rw [ncP, ← List.append_assoc, pcells_snoc]; exact hown')
              have HB3 : Hid (Below (w.heap.size + 1) wr w2) := Lib.hid (((Below.refl _ wr).alloc (by omega) _).grown hgrow (by simp; omega) (fun k hk => by have := (HO.out.lt k hk).1; omega))
              clear hown' hgrow HM HO hnG
              go_wp2_with fail
              go_roundw
              case rel => exact ⟨j + 1, by omega, by go_num, HO3, HM3, Lib.hid (keep_box HX.out HB3.out HT0.out)⟩
              case measure => simp [intOf]; omega
          · obtain rfl : j = nn := by omega
            have hge : ¬ (j : Int) < t.n := by rw [HN.out]; omega
            clear hlt hj
            go_wp2_with (refine wpList_load_row rfl 55 (.tmp 4) rfl G rfl _ (marks t t.ls.length) _ _ HM.out Tryd.underlying55 rfl (by rw [marks_size]; exact info65) ?_)
            have HO2 : Hid (wr.ownsRow (G + 1) 31 2 _ (t.ls.length + j + (grP t 0).length) (pcells ((ncP 1 t.ls.length ++ ncP 2 j) ++ grP t 0))) := Lib.hid (by rw [grP, List.append_nil]; exact HO.out)
            have HW := Lib.hid HX.out.hb
            clear HO HM HX
            obtain ⟨wp, rfl⟩ : ∃ wp : World, wp = wr := ⟨_, rfl⟩
            go_loopw [3, 42] (fun v i wr => ∃ g : Nat, g ≤ 65 ∧ i = .int .i64 g ∧ Hid (wr.ownsRow (G + 1) 31 2 v (t.ls.length + j + (grP t g).length) (pcells ((ncP 1 t.ls.length ++ ncP 2 j) ++ grP t g))) ∧ G < wr.heap.size ∧ Hid (Below w.heap.size w wr)) (fun _ i _ => 65 - (intOf i).toNat)
            case atStart => exact ⟨0, Nat.zero_le _, rfl, HO2, hGr, HW⟩
            case round =>
              clear HO2 HW hGr
              obtain ⟨g, hg, rfl, HO, hGr, HW⟩ := hrel
              by_cases hlt : g < 65
              · have hlt' : (g : Int) < 65 := by omega
                have hix := idx_marks t t.ls.length g hlt
                have hgl := grP_len t g
                by_cases hg0 : 0 < g
                · have hg0' : (0 : Int) < (g : Int) := by omega
                  cases hu : usedK t t.ls.length g with
                  | true =>
                    rw [hu] at hix
                    have HGR : Hid (grP t (g + 1) = grP t g ++ [(3, (g : Int))]) := Lib.hid (by rw [grP, hu]; simp [hg0])
                    go_wp2_with (at_builtin; refine wpList_append_own _ rfl _ _ 28 rfl (G + 1) 31 i0 (.agg #[.int .i64 0, .int .i64 0]) 2 16 Tryd.underlying28 hi hz0 hz1 hz2 rfl (by decide) _ _ _ rfl (HO.out.alloc _) ⟨_, 0, none⟩ 1 1 [.int .i64 3, .int .i64 g] rfl rfl (cell_two_at _ _ _ _ _ (by simp)) ?_ ?_ ?_ ?_ ?_)
                    · intro u hu'; simp at hu'; rcases hu' with rfl | rfl <;> rfl
                    · unfold maxLen; omega
                    · omega
                    · simp; omega
                    · intro v' w2 hown' hgrow _
                      have HO3 : Hid (w2.ownsRow (G + 1) 31 2 v' (t.ls.length + j + (grP t (g + 1)).length) (pcells ((ncP 1 t.ls.length ++ ncP 2 j) ++ grP t (g + 1)))) := Lib.hid (by
                        have e1 : pcells ((ncP 1 t.ls.length ++ ncP 2 j) ++ grP t (g + 1)) = pcells (ncP 1 t.ls.length ++ (ncP 2 j ++ grP t g)) ++ [.int .i64 3, .int .i64 g] := by rw [HGR.out, ← List.append_assoc, pcells_snoc, List.append_assoc]
                        have e2 : t.ls.length + j + (grP t (g + 1)).length = t.ls.length + j + (grP t g).length + 1 := by rw [HGR.out, List.length_append]; rfl
                        rw [e1, e2]; exact hown')
                      have HB3 : Hid (Below w.heap.size w w2) := Lib.hid ((HW.out.alloc (by omega) _).grown hgrow (by simp; omega) (fun k hk => by have := (HO.out.lt k hk).1; omega))
                      have hG3 : G < w2.heap.size := by have := hgrow.size; simp at this; omega
                      clear hown' hgrow HO HW
                      go_wp2_with fail
                      go_roundw
                      case rel => exact ⟨g + 1, by omega, by go_num, HO3, hG3, HB3⟩
                      case measure => simp [intOf]; omega
                  | false =>
                    rw [hu] at hix
                    have HGR : Hid (grP t (g + 1) = grP t g) := Lib.hid (by rw [grP, hu]; simp)
                    go_wp2_with fail
                    go_roundw
                    case rel => exact ⟨g + 1, by omega, by go_num, by rw [HGR.out]; exact HO, hGr, HW⟩
                    case measure => simp [intOf]; omega
                · have hg0' : ¬ (0 : Int) < (g : Int) := by omega
                  have HGR : Hid (grP t (g + 1) = grP t g) := Lib.hid (by rw [grP]; simp [hg0])
                  obtain ⟨B, hB⟩ : ∃ B, usedK t t.ls.length g = B := ⟨_, rfl⟩
                  rw [hB] at hix
                  clear hB
                  go_wp2_with fail
                  go_roundw
                  case rel => exact ⟨g + 1, by omega, by go_num, by rw [HGR.out]; exact HO, hGr, HW⟩
                  case measure => simp [intOf]; omega
              · obtain rfl : g = 65 := by omega
                have hjn : t.n.toNat = j := by rw [HN.out]; simp
                go_wp2_with fail
                go_ret
                exact retPairs_of (by rw [allL, hjn, List.append_assoc]) HO.out HW.out

end Go.Proofs.YtibennndjfhieaaDoor
