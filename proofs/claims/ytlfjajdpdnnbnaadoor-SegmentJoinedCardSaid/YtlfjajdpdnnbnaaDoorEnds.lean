/-
  Contracts of segment.End, segment.Ends and of the reference's: what each returns, for every topology and list of segments.
-/
import Derived.Test.YtlfjajdpdnnbnaaDoorSeg
namespace Go.Proofs.YtlfjajdpdnnbnaaDoor
open Go.RowKit Go.Sort

/-- The end of a segment, or an error. -/
def endR (t : Topo) (k m f : Int) : Int × Int :=
  if segV t k m = false then (0, 1) else if isN t.n f = false then (0, 2) else if k = 1 then (m, 0) else if k = 2 then (if tail t m = f then (head t m, 0) else (0, 4)) else (0, 7)
def R2 (p : Int × Int) : Value := .tuple #[.int .i64 p.1, .int .i64 p.2]
theorem endR_a {t : Topo} {k m f : Int} (h : segV t k m = false) : endR t k m f = (0, 1) := by simp [endR, h]
theorem endR_b {t : Topo} {k m f : Int} (h : segV t k m = true) (h2 : isN t.n f = false) : endR t k m f = (0, 2) := by simp [endR, h, h2]
theorem endR_1 {t : Topo} {m f : Int} (h : segV t 1 m = true) (h2 : isN t.n f = true) : endR t 1 m f = (m, 0) := by simp [endR, h, h2]
theorem endR_2 {t : Topo} {m f : Int} (h : segV t 2 m = true) (h2 : isN t.n f = true) (h3 : (tail t m != f) = false) : endR t 2 m f = (head t m, 0) := by
  have : tail t m = f := by simpa using h3
  simp [endR, h, h2, this]
theorem endR_3 {t : Topo} {m f : Int} (h : segV t 2 m = true) (h2 : isN t.n f = true) (h3 : (tail t m != f) = true) : endR t 2 m f = (0, 4) := by
  have : ¬ tail t m = f := by simpa using h3
  simp [endR, h, h2, this]
theorem endR_4 {t : Topo} {k m f : Int} (h : segV t k m = true) (h2 : isN t.n f = true) (h3 : (k == 1) = false) (h4 : (k == 2) = false) : endR t k m f = (0, 7) := by
  simp only [beq_eq_false_iff_ne] at h3 h4
  simp [endR, h, h2, h3, h4]
theorem segV_arc {t : Topo} {m : Int} (h : segV t 2 m = true) : valid t = true ∧ 0 ≤ m ∧ m < 2 * (t.ls.length : Int) := by
  simp only [segV, Bool.and_eq_true, segOk2, isN_true] at h
  exact h
theorem segV_valid {t : Topo} {k m : Int} (h : segV t k m = true) : valid t = true := by
  simp only [segV, Bool.and_eq_true] at h
  exact h.1

set_option maxHeartbeats 1000000 in
theorem segment_End (t : Topo) (A1 A2 : Option Addr) (c1 c2 : Nat) (k m f : Int) (w : World) (hT : TAt w A1 A2 t) (hn : t.ls.length ≤ 100000) :
    Calls Tryd.prog 17 #[.agg #[.int .i64 t.n, .slice A1 t.ov.length c1, .slice A2 t.ls.length c2], .agg #[.int .i64 k, .int .i64 m], .int .i64 f] w fun e w' => e = .returned (R2 (endR t k m f)) ∧ Below w.heap.size w w' := by
  have hb0 := below_box w (.cells #[.int .i64 t.n, .slice A1 t.ov.length c1, .slice A2 t.ls.length c2] 25)
  have hb1 := below_box (w.alloc (.cells #[.int .i64 t.n, .slice A1 t.ov.length c1, .slice A2 t.ls.length c2] 25)) (.cells #[.int .i64 k, .int .i64 m] 27)
  have HB := below_next hb0 hb1
  have HT := hT.below HB
  have b0 := cell_up hb1 (box0 w (.int .i64 t.n) (.slice A1 t.ov.length c1) (.slice A2 t.ls.length c2) 25)
  have b1 := cell_up hb1 (box1 w (.int .i64 t.n) (.slice A1 t.ov.length c1) (.slice A2 t.ls.length c2) 25)
  have b2 := cell_up hb1 (box2 w (.int .i64 t.n) (.slice A1 t.ov.length c1) (.slice A2 t.ls.length c2) 25)
  have s0 : ((w.alloc (.cells #[.int .i64 t.n, .slice A1 t.ov.length c1, .slice A2 t.ls.length c2] 25)).alloc (.cells #[.int .i64 k, .int .i64 m] 27)).cell? ⟨w.heap.size + 1, 0, none⟩ = some (.int .i64 k) := by simp
  have s1 : ((w.alloc (.cells #[.int .i64 t.n, .slice A1 t.ov.length c1, .slice A2 t.ls.length c2] 25)).alloc (.cells #[.int .i64 k, .int .i64 m] 27)).cell? ⟨w.heap.size + 1, 1, none⟩ = some (.int .i64 m) := by simp
  clear hb0 hb1 hT
  cases hv : segV t k m with
  | false =>
    have HR := Lib.hid (endR_a (f := f) hv)
    go_enter Tryd.func17, Tryd.ntmps17
    go_wp2_with (go_at_call 12; refine (segment_Valid t _ _ _ _ _ _ _ HT hn).mono ?_; rintro e w1 ⟨rfl, hb⟩; replace HT := HT.below hb; replace b0 := cell_up hb b0; replace b1 := cell_up hb b1; replace b2 := cell_up hb b2; replace s0 := cell_up hb s0; replace s1 := cell_up hb s1; replace HB := below_next HB hb; clear hb)
    go_ret2
    exact ⟨by rw [HR.out]; rfl, HB⟩
  | true =>
    cases hf : isN t.n f with
    | false =>
      have HR := Lib.hid (endR_b hv hf)
      go_enter Tryd.func17, Tryd.ntmps17
      go_wp2_with (first | (go_at_call 12; refine (segment_Valid t _ _ _ _ _ _ _ HT hn).mono ?_; rintro e w1 ⟨rfl, hb⟩; replace HT := HT.below hb; replace b0 := cell_up hb b0; replace b1 := cell_up hb b1; replace b2 := cell_up hb b2; replace s0 := cell_up hb s0; replace s1 := cell_up hb s1; replace HB := below_next HB hb; clear hb) | (go_at_call 32; refine (graph_Node _ _ _ _ _).mono ?_; rintro e w1 ⟨rfl, hb⟩; replace HT := HT.below hb; replace b0 := cell_up hb b0; replace b1 := cell_up hb b1; replace b2 := cell_up hb b2; replace s0 := cell_up hb s0; replace s1 := cell_up hb s1; replace HB := below_next HB hb; clear hb))
      go_ret2
      exact ⟨by rw [HR.out]; rfl, HB⟩
    | true =>
      cases h1 : (k == 1) with
      | true =>
        obtain rfl : k = 1 := by simpa using h1
        have HR := Lib.hid (endR_1 hv hf)
        go_enter Tryd.func17, Tryd.ntmps17
        go_wp2_with (first | (go_at_call 12; refine (segment_Valid t _ _ _ _ _ _ _ HT hn).mono ?_; rintro e w1 ⟨rfl, hb⟩; replace HT := HT.below hb; replace b0 := cell_up hb b0; replace b1 := cell_up hb b1; replace b2 := cell_up hb b2; replace s0 := cell_up hb s0; replace s1 := cell_up hb s1; replace HB := below_next HB hb; clear hb) | (go_at_call 32; refine (graph_Node _ _ _ _ _).mono ?_; rintro e w1 ⟨rfl, hb⟩; replace HT := HT.below hb; replace b0 := cell_up hb b0; replace b1 := cell_up hb b1; replace b2 := cell_up hb b2; replace s0 := cell_up hb s0; replace s1 := cell_up hb s1; replace HB := below_next HB hb; clear hb))
        go_ret2
        exact ⟨by rw [HR.out]; rfl, HB⟩
      | false =>
        cases h2 : (k == 2) with
        | true =>
          obtain rfl : k = 2 := by simpa using h2
          obtain ⟨_, g0, g1⟩ := segV_arc hv
          cases h3 : (tail t m != f) with
          | true =>
            have HR := Lib.hid (endR_3 hv hf h3)
            go_enter Tryd.func17, Tryd.ntmps17
            go_wp2_with (first | (go_at_call 12; refine (segment_Valid t _ _ _ _ _ _ _ HT hn).mono ?_; rintro e w1 ⟨rfl, hb⟩; replace HT := HT.below hb; replace b0 := cell_up hb b0; replace b1 := cell_up hb b1; replace b2 := cell_up hb b2; replace s0 := cell_up hb s0; replace s1 := cell_up hb s1; replace HB := below_next HB hb; clear hb) | (go_at_call 32; refine (graph_Node _ _ _ _ _).mono ?_; rintro e w1 ⟨rfl, hb⟩; replace HT := HT.below hb; replace b0 := cell_up hb b0; replace b1 := cell_up hb b1; replace b2 := cell_up hb b2; replace s0 := cell_up hb s0; replace s1 := cell_up hb s1; replace HB := below_next HB hb; clear hb) | (go_at_call 33; refine (graph_Tail _ _ _ _ t _ _ HT.ls g0 g1 hn).mono ?_; rintro e w1 ⟨rfl, hb⟩; replace HT := HT.below hb; replace b0 := cell_up hb b0; replace b1 := cell_up hb b1; replace b2 := cell_up hb b2; replace s0 := cell_up hb s0; replace s1 := cell_up hb s1; replace HB := below_next HB hb; clear hb))
            go_ret2
            exact ⟨by rw [HR.out]; rfl, HB⟩
          | false =>
            have HR := Lib.hid (endR_2 hv hf h3)
            go_enter Tryd.func17, Tryd.ntmps17
            go_wp2_with (first | (go_at_call 12; refine (segment_Valid t _ _ _ _ _ _ _ HT hn).mono ?_; rintro e w1 ⟨rfl, hb⟩; replace HT := HT.below hb; replace b0 := cell_up hb b0; replace b1 := cell_up hb b1; replace b2 := cell_up hb b2; replace s0 := cell_up hb s0; replace s1 := cell_up hb s1; replace HB := below_next HB hb; clear hb) | (go_at_call 32; refine (graph_Node _ _ _ _ _).mono ?_; rintro e w1 ⟨rfl, hb⟩; replace HT := HT.below hb; replace b0 := cell_up hb b0; replace b1 := cell_up hb b1; replace b2 := cell_up hb b2; replace s0 := cell_up hb s0; replace s1 := cell_up hb s1; replace HB := below_next HB hb; clear hb) | (go_at_call 33; refine (graph_Tail _ _ _ _ t _ _ HT.ls g0 g1 hn).mono ?_; rintro e w1 ⟨rfl, hb⟩; replace HT := HT.below hb; replace b0 := cell_up hb b0; replace b1 := cell_up hb b1; replace b2 := cell_up hb b2; replace s0 := cell_up hb s0; replace s1 := cell_up hb s1; replace HB := below_next HB hb; clear hb) | (go_at_call 34; refine (graph_Head _ _ _ _ t _ _ HT.ls g0 g1 hn).mono ?_; rintro e w1 ⟨rfl, hb⟩; replace HT := HT.below hb; replace b0 := cell_up hb b0; replace b1 := cell_up hb b1; replace b2 := cell_up hb b2; replace s0 := cell_up hb s0; replace s1 := cell_up hb s1; replace HB := below_next HB hb; clear hb))
            go_ret2
            exact ⟨by rw [HR.out]; rfl, HB⟩
        | false =>
          have HR := Lib.hid (endR_4 hv hf h1 h2)
          go_enter Tryd.func17, Tryd.ntmps17
          go_wp2_with (first | (go_at_call 12; refine (segment_Valid t _ _ _ _ _ _ _ HT hn).mono ?_; rintro e w1 ⟨rfl, hb⟩; replace HT := HT.below hb; replace b0 := cell_up hb b0; replace b1 := cell_up hb b1; replace b2 := cell_up hb b2; replace s0 := cell_up hb s0; replace s1 := cell_up hb s1; replace HB := below_next HB hb; clear hb) | (go_at_call 32; refine (graph_Node _ _ _ _ _).mono ?_; rintro e w1 ⟨rfl, hb⟩; replace HT := HT.below hb; replace b0 := cell_up hb b0; replace b1 := cell_up hb b1; replace b2 := cell_up hb b2; replace s0 := cell_up hb s0; replace s1 := cell_up hb s1; replace HB := below_next HB hb; clear hb))
          go_ret2
          exact ⟨by rw [HR.out]; rfl, HB⟩

set_option maxHeartbeats 1000000 in
theorem ref18_End (t : Topo) (A1 A2 : Option Addr) (c1 c2 : Nat) (k m f : Int) (w : World) (hT : TAt w A1 A2 t) (hn : t.ls.length ≤ 100000) :
    Calls Tryd.prog 18 #[.agg #[.int .i64 t.n, .slice A1 t.ov.length c1, .slice A2 t.ls.length c2], .agg #[.int .i64 k, .int .i64 m], .int .i64 f] w fun e w' => e = .returned (R2 (endR t k m f)) ∧ Below w.heap.size w w' := by
  have hb0 := below_box w (.cells #[.int .i64 t.n, .slice A1 t.ov.length c1, .slice A2 t.ls.length c2] 25)
  have hb1 := below_box (w.alloc (.cells #[.int .i64 t.n, .slice A1 t.ov.length c1, .slice A2 t.ls.length c2] 25)) (.cells #[.int .i64 k, .int .i64 m] 27)
  have HB := below_next hb0 hb1
  have HT := hT.below HB
  have b0 := cell_up hb1 (box0 w (.int .i64 t.n) (.slice A1 t.ov.length c1) (.slice A2 t.ls.length c2) 25)
  have b1 := cell_up hb1 (box1 w (.int .i64 t.n) (.slice A1 t.ov.length c1) (.slice A2 t.ls.length c2) 25)
  have b2 := cell_up hb1 (box2 w (.int .i64 t.n) (.slice A1 t.ov.length c1) (.slice A2 t.ls.length c2) 25)
  have s0 : ((w.alloc (.cells #[.int .i64 t.n, .slice A1 t.ov.length c1, .slice A2 t.ls.length c2] 25)).alloc (.cells #[.int .i64 k, .int .i64 m] 27)).cell? ⟨w.heap.size + 1, 0, none⟩ = some (.int .i64 k) := by simp
  have s1 : ((w.alloc (.cells #[.int .i64 t.n, .slice A1 t.ov.length c1, .slice A2 t.ls.length c2] 25)).alloc (.cells #[.int .i64 k, .int .i64 m] 27)).cell? ⟨w.heap.size + 1, 1, none⟩ = some (.int .i64 m) := by simp
  clear hb0 hb1 hT
  cases hv : segV t k m with
  | false =>
    have HR := Lib.hid (endR_a (f := f) hv)
    go_enter Tryd.func18, Tryd.ntmps18
    go_wp2_with (go_at_call 13; refine (ref18_Valid t _ _ _ _ _ _ _ HT hn).mono ?_; rintro e w1 ⟨rfl, hb⟩; replace HT := HT.below hb; replace b0 := cell_up hb b0; replace b1 := cell_up hb b1; replace b2 := cell_up hb b2; replace s0 := cell_up hb s0; replace s1 := cell_up hb s1; replace HB := below_next HB hb; clear hb)
    go_ret2
    exact ⟨by rw [HR.out]; rfl, HB⟩
  | true =>
    cases hf : isN t.n f with
    | false =>
      have HR := Lib.hid (endR_b hv hf)
      rw [isN_false] at hf
      by_cases hf0 : 0 ≤ f
      · have hf1 : t.n ≤ f := by omega
        clear hf
        go_enter Tryd.func18, Tryd.ntmps18
        go_wp2_with (go_at_call 13; refine (ref18_Valid t _ _ _ _ _ _ _ HT hn).mono ?_; rintro e w1 ⟨rfl, hb⟩; replace HT := HT.below hb; replace b0 := cell_up hb b0; replace b1 := cell_up hb b1; replace b2 := cell_up hb b2; replace s0 := cell_up hb s0; replace s1 := cell_up hb s1; replace HB := below_next HB hb; clear hb)
        go_ret2
        exact ⟨by rw [HR.out]; rfl, HB⟩
      · have hf1 : f < 0 := by omega
        clear hf hf0
        go_enter Tryd.func18, Tryd.ntmps18
        go_wp2_with (go_at_call 13; refine (ref18_Valid t _ _ _ _ _ _ _ HT hn).mono ?_; rintro e w1 ⟨rfl, hb⟩; replace HT := HT.below hb; replace b0 := cell_up hb b0; replace b1 := cell_up hb b1; replace b2 := cell_up hb b2; replace s0 := cell_up hb s0; replace s1 := cell_up hb s1; replace HB := below_next HB hb; clear hb)
        go_ret2
        exact ⟨by rw [HR.out]; rfl, HB⟩
    | true =>
      obtain ⟨hf0, hf1⟩ := isN_true.1 hf
      cases h1 : (k == 1) with
      | true =>
        obtain rfl : k = 1 := by simpa using h1
        have HR := Lib.hid (endR_1 hv hf)
        go_enter Tryd.func18, Tryd.ntmps18
        go_wp2_with (go_at_call 13; refine (ref18_Valid t _ _ _ _ _ _ _ HT hn).mono ?_; rintro e w1 ⟨rfl, hb⟩; replace HT := HT.below hb; replace b0 := cell_up hb b0; replace b1 := cell_up hb b1; replace b2 := cell_up hb b2; replace s0 := cell_up hb s0; replace s1 := cell_up hb s1; replace HB := below_next HB hb; clear hb)
        go_ret2
        exact ⟨by rw [HR.out]; rfl, HB⟩
      | false =>
        cases h2 : (k == 2) with
        | true =>
          obtain rfl : k = 2 := by simpa using h2
          obtain ⟨gv, g0, g1⟩ := segV_arc hv
          have gN := Lib.hid (isN_true.2 ⟨g0, g1⟩)
          have GV := Lib.hid gv
          clear gv
          cases h3 : (tail t m != f) with
          | true =>
            have HR := Lib.hid (endR_3 hv hf h3)
            go_enter Tryd.func18, Tryd.ntmps18
            go_wp2_with (first | (go_at_call 13; refine (ref18_Valid t _ _ _ _ _ _ _ HT hn).mono ?_; rintro e w1 ⟨rfl, hb⟩; replace HT := HT.below hb; replace b0 := cell_up hb b0; replace b1 := cell_up hb b1; replace b2 := cell_up hb b2; replace s0 := cell_up hb s0; replace s1 := cell_up hb s1; replace HB := below_next HB hb; clear hb) | (go_at_call 35; refine (ref09_TailT t _ _ _ _ _ _ HT hn GV.out gN.out).mono ?_; rintro e w1 ⟨rfl, hb⟩; replace HT := HT.below hb; replace b0 := cell_up hb b0; replace b1 := cell_up hb b1; replace b2 := cell_up hb b2; replace s0 := cell_up hb s0; replace s1 := cell_up hb s1; replace HB := below_next HB hb; clear hb))
            go_ret2
            exact ⟨by rw [HR.out]; rfl, HB⟩
          | false =>
            have HR := Lib.hid (endR_2 hv hf h3)
            go_enter Tryd.func18, Tryd.ntmps18
            go_wp2_with (first | (go_at_call 13; refine (ref18_Valid t _ _ _ _ _ _ _ HT hn).mono ?_; rintro e w1 ⟨rfl, hb⟩; replace HT := HT.below hb; replace b0 := cell_up hb b0; replace b1 := cell_up hb b1; replace b2 := cell_up hb b2; replace s0 := cell_up hb s0; replace s1 := cell_up hb s1; replace HB := below_next HB hb; clear hb) | (go_at_call 35; refine (ref09_TailT t _ _ _ _ _ _ HT hn GV.out gN.out).mono ?_; rintro e w1 ⟨rfl, hb⟩; replace HT := HT.below hb; replace b0 := cell_up hb b0; replace b1 := cell_up hb b1; replace b2 := cell_up hb b2; replace s0 := cell_up hb s0; replace s1 := cell_up hb s1; replace HB := below_next HB hb; clear hb) | (go_at_call 36; refine (ref09_HeadT t _ _ _ _ _ _ HT hn GV.out gN.out).mono ?_; rintro e w1 ⟨rfl, hb⟩; replace HT := HT.below hb; replace b0 := cell_up hb b0; replace b1 := cell_up hb b1; replace b2 := cell_up hb b2; replace s0 := cell_up hb s0; replace s1 := cell_up hb s1; replace HB := below_next HB hb; clear hb))
            go_ret2
            exact ⟨by rw [HR.out]; rfl, HB⟩
        | false =>
          have HR := Lib.hid (endR_4 hv hf h1 h2)
          have h2' : (k != 2) = true := by simpa using h2
          go_enter Tryd.func18, Tryd.ntmps18
          go_wp2_with (go_at_call 13; refine (ref18_Valid t _ _ _ _ _ _ _ HT hn).mono ?_; rintro e w1 ⟨rfl, hb⟩; replace HT := HT.below hb; replace b0 := cell_up hb b0; replace b1 := cell_up hb b1; replace b2 := cell_up hb b2; replace s0 := cell_up hb s0; replace s1 := cell_up hb s1; replace HB := below_next HB hb; clear hb)
          go_ret2
          exact ⟨by rw [HR.out]; rfl, HB⟩

/-- The cells of a slice of pairs. -/
def RdP (w : World) (A : Option Addr) (l : List (Int × Int)) : Prop :=
  l = [] ∨ ∃ b o, A = some ⟨b, o, none⟩ ∧ ∀ (k : Nat) (p : Int × Int), l[k]? = some p → w.cell? ⟨b, o + k * 2, none⟩ = some (.int .i64 p.1) ∧ w.cell? ⟨b, o + k * 2 + 1, none⟩ = some (.int .i64 p.2)
theorem RdP.below {w w' : World} {A : Option Addr} {l : List (Int × Int)} (h : RdP w A l) (hb : Below w.heap.size w w') : RdP w' A l := by
  rcases h with rfl | ⟨b, o, rfl, hc⟩
  · exact .inl rfl
  · exact .inr ⟨b, o, rfl, fun k p hp => ⟨cell_up hb (hc k p hp).1, cell_up hb (hc k p hp).2⟩⟩
theorem RdP.at_ {w : World} {A : Option Addr} {l : List (Int × Int)} {k : Nat} (h : RdP w A l) (hk : k < l.length) : ∃ b o p, A = some ⟨b, o, none⟩ ∧ l.drop k = p :: l.drop (k + 1) ∧ w.cell? ⟨b, o + k * 2, none⟩ = some (.int .i64 p.1) ∧ w.cell? ⟨b, o + k * 2 + 1, none⟩ = some (.int .i64 p.2) := by
  rcases h with rfl | ⟨b, o, rfl, hc⟩
  · simp at hk
  · exact ⟨b, o, l[k], rfl, List.drop_eq_getElem_cons hk, (hc k _ (List.getElem?_eq_getElem hk)).1, (hc k _ (List.getElem?_eq_getElem hk)).2⟩

def joinE (acc : List Int) (q : List Int × Int) : List Int × Int := if q.2 = 0 then (acc ++ q.1, 0) else ([], q.2)
def endsL (t : Topo) : List (Int × Int) → Int → List Int × Int
  | [], _ => ([], 0)
  | p :: r, f => if (endR t p.1 p.2 f).2 = 0 then joinE [(endR t p.1 p.2 f).1] (endsL t r (endR t p.1 p.2 f).1) else ([], (endR t p.1 p.2 f).2)
def endsV (t : Topo) (l : List (Int × Int)) (f : Int) : List Int × Int := if valid t = false then ([], 1) else if isN t.n f = false then ([], 2) else endsL t l f
theorem joinE_join (a b : List Int) (q : List Int × Int) : joinE a (joinE b q) = joinE (a ++ b) q := by
  unfold joinE
  by_cases h : q.2 = 0 <;> simp [h]
theorem endsL_go {t : Topo} {p : Int × Int} {r : List (Int × Int)} {f n : Int} (acc : List Int) (h : endR t p.1 p.2 f = (n, 0)) : joinE acc (endsL t (p :: r) f) = joinE (acc ++ [n]) (endsL t r n) := by
  rw [endsL, h]
  simp only [if_true]
  rw [joinE_join]
theorem endsL_err {t : Topo} {p : Int × Int} {r : List (Int × Int)} {f n e : Int} (acc : List Int) (h : endR t p.1 p.2 f = (n, e)) (he : e ≠ 0) : joinE acc (endsL t (p :: r) f) = ([], e) := by
  rw [endsL, h]
  simp [he, joinE]
theorem joinE_nil (q : List Int × Int) (h : q.2 ≠ 0 → q.1 = []) : joinE [] q = q := by
  unfold joinE
  by_cases h0 : q.2 = 0
  · rw [if_pos h0]; exact Prod.ext rfl h0.symm
  · rw [if_neg h0]; exact Prod.ext (h h0).symm rfl
theorem joinE_err (a : List Int) (q : List Int × Int) : (joinE a q).2 ≠ 0 → (joinE a q).1 = [] := by
  unfold joinE
  split
  · intro h; exact absurd rfl h
  · intro _; rfl
theorem endsL_nil (t : Topo) : ∀ (l : List (Int × Int)) (f : Int), (endsL t l f).2 ≠ 0 → (endsL t l f).1 = []
  | [], _ => fun h => absurd rfl h
  | p :: r, f => by
    unfold endsL
    split
    · exact joinE_err _ _
    · intro _; rfl
theorem endsL_start (t : Topo) (l : List (Int × Int)) (f : Int) : endsL t l f = joinE [] (endsL t (l.drop 0) f) := by
  rw [List.drop_zero, joinE_nil _ (endsL_nil t l f)]
theorem endsL_len (t : Topo) : ∀ (l : List (Int × Int)) (f : Int), (endsL t l f).1.length ≤ l.length
  | [], _ => Nat.le_refl _
  | p :: r, f => by
    have := endsL_len t r (endR t p.1 p.2 f).1
    unfold endsL joinE
    repeat' split
    all_goals simp
    omega

theorem endsV_len (t : Topo) (l : List (Int × Int)) (f : Int) : (endsV t l f).1.length ≤ l.length := by
  unfold endsV
  repeat' split
  all_goals first | exact endsL_len t l f | simp

/-- A call that returns a list of ints and an error. -/
def RetIE (w : World) (r : List Int × Int) (e : Ending) (w' : World) : Prop :=
  ∃ A c, e = .returned (.tuple #[.slice A r.1.length c, .int .i64 r.2]) ∧ r.1.length ≤ c ∧ c ≤ maxLen ∧ Rd w' A (r.1.map (Value.int .i64)) ∧ Below w.heap.size w w'
theorem retIE_of {w w' : World} {base : Nat} {E : TypeId} {v : Value} {r : List Int × Int} {xs : List Int} (hr : r = (xs, 0)) (h : w'.ownsRow base E 1 v xs.length (xs.map (Value.int .i64))) (hb : Below w.heap.size w w') : RetIE w r (.returned (.tuple #[v, .int .i64 0])) w' := by
  subst hr
  obtain ⟨A, c, rfl, h1, h2, h3⟩ := rd_of_own h
  exact ⟨A, c, rfl, h1, h2, h3, hb⟩
theorem retIE_nil {w w' : World} {r : List Int × Int} {x : Int} (hr : r = ([], x)) (hb : Below w.heap.size w w') : RetIE w r (.returned (.tuple #[.slice none 0 0, .int .i64 x])) w' := by
  subst hr
  exact ⟨none, 0, rfl, Nat.le_refl _, Nat.zero_le _, .inl rfl, hb⟩

set_option maxHeartbeats 2000000 in
set_option maxRecDepth 100000 in
theorem segment_Ends (t : Topo) (A1 A2 A3 : Option Addr) (c1 c2 c3 : Nat) (l : List (Int × Int)) (f : Int) (w : World) (hT : TAt w A1 A2 t) (hL : RdP w A3 l) (hn : t.ls.length ≤ 100000) (hl : l.length ≤ 100000) :
    Calls Tryd.prog 14 #[.agg #[.int .i64 t.n, .slice A1 t.ov.length c1, .slice A2 t.ls.length c2], .slice A3 l.length c3, .int .i64 f] w (RetIE w (endsV t l f)) := by
  obtain ⟨i0, hi, hz0, hz1, hz2⟩ := info_parts intInfo
  have hX := TBox.start c1 c2 hT
  have HT0 := Lib.hid hT
  have HL := Lib.hid hL
  have hb0 := below_box w (.cells #[.int .i64 t.n, .slice A1 t.ov.length c1, .slice A2 t.ls.length c2] 25)
  have HT := hT.below hb0
  have HB := hb0
  have b0 := box0 w (.int .i64 t.n) (.slice A1 t.ov.length c1) (.slice A2 t.ls.length c2) 25
  have b1 := box1 w (.int .i64 t.n) (.slice A1 t.ov.length c1) (.slice A2 t.ls.length c2) 25
  have b2 := box2 w (.int .i64 t.n) (.slice A1 t.ov.length c1) (.slice A2 t.ls.length c2) 25
  clear hb0 hT
  cases hv : valid t with
  | false =>
    have HR : Hid (endsV t l f = ([], 1)) := Lib.hid (by simp [endsV, hv])
    go_enter Tryd.func14, Tryd.ntmps14
    go_wp2_with (go_at_call 28; refine (topology_Valid t _ _ _ _ _ HT.ls).mono ?_; rintro e w1 ⟨rfl, hb⟩; replace HT := HT.below hb; replace b0 := cell_up hb b0; replace b1 := cell_up hb b1; replace b2 := cell_up hb b2; replace HB := below_next HB hb; clear hb)
    go_ret2
    exact retIE_nil HR.out HB
  | true =>
    cases hf : isN t.n f with
    | false =>
      have HR : Hid (endsV t l f = ([], 2)) := Lib.hid (by simp [endsV, hv, hf])
      go_enter Tryd.func14, Tryd.ntmps14
      go_wp2_with (first | (go_at_call 28; refine (topology_Valid t _ _ _ _ _ HT.ls).mono ?_; rintro e w1 ⟨rfl, hb⟩; replace HT := HT.below hb; replace b0 := cell_up hb b0; replace b1 := cell_up hb b1; replace b2 := cell_up hb b2; replace HB := below_next HB hb; clear hb) | (go_at_call 32; refine (graph_Node _ _ _ _ _).mono ?_; rintro e w1 ⟨rfl, hb⟩; replace HT := HT.below hb; replace b0 := cell_up hb b0; replace b1 := cell_up hb b1; replace b2 := cell_up hb b2; replace HB := below_next HB hb; clear hb))
      go_ret2
      exact retIE_nil HR.out HB
    | true =>
      have HR : Hid (endsV t l f = joinE [] (endsL t (l.drop 0) f)) := Lib.hid (by rw [← endsL_start]; simp [endsV, hv, hf])
      obtain ⟨V, hV⟩ : ∃ V, V = endsV t l f := ⟨_, rfl⟩
      rw [← hV] at HR ⊢
      have HX := Lib.hid hX
      clear hV hX hL HT HB
      go_enter Tryd.func14, Tryd.ntmps14
      go_wp2_with (first | (go_at_call 28; refine (topology_Valid t _ _ _ _ _ HX.out.ta.ls).mono ?_; rintro e w1 ⟨rfl, hb⟩; replace HX := Lib.hid (HX.out.up hb); replace b0 := cell_up hb b0; replace b1 := cell_up hb b1; replace b2 := cell_up hb b2; clear hb) | (go_at_call 32; refine (graph_Node _ _ _ _ _).mono ?_; rintro e w1 ⟨rfl, hb⟩; replace HX := Lib.hid (HX.out.up hb); replace b0 := cell_up hb b0; replace b1 := cell_up hb b1; replace b2 := cell_up hb b2; clear hb))
      clear hv hf b0 b1 b2
      go_loopw [2, 8, 22] (fun g v i wr => ∃ (j : Nat) (acc : List Int) (x : Int), j ≤ l.length ∧ i = .int .i64 j ∧ g = .int .i64 x ∧ acc.length ≤ j ∧ Hid (V = joinE acc (endsL t (l.drop j) x)) ∧ wr.ownsRow (w.heap.size + 1) 3 1 v acc.length (acc.map (Value.int .i64)) ∧ Hid (TBox w A1 A2 c1 c2 t wr)) (fun _ _ i _ => l.length - (intOf i).toNat)
      case atStart => exact ⟨0, [], f, Nat.zero_le _, rfl, rfl, Nat.le_refl _, HR, World.ownsRow_nil _ _ _ _, HX⟩
      case round =>
        clear HR HX
        obtain ⟨j, acc, x, hj, rfl, rfl, ha, HR, hown, HX⟩ := hrel
        have HO := Lib.hid hown
        clear hown
        by_cases hlt : j < l.length
        · obtain ⟨b, o, p, rfl, hd, q0, q1⟩ := (HL.out.below HX.out.hb).at_ hlt
          have hlt' : (j : Int) < (l.length : Int) := by omega
          have HD := Lib.hid hd
          clear hd
          obtain ⟨⟨n, er⟩, hE⟩ : ∃ R, endR t p.1 p.2 x = R := ⟨_, rfl⟩
          have HE := Lib.hid hE
          clear hE
          have b0 := HX.out.b0
          have b1 := HX.out.b1
          have b2 := HX.out.b2
          have hC : Hid (∀ w', TAt w' A1 A2 t → Calls Tryd.prog 17 #[.agg #[.int .i64 t.n, .slice A1 t.ov.length c1, .slice A2 t.ls.length c2], .agg #[.int .i64 p.1, .int .i64 p.2], .int .i64 x] w' fun e w'' => e = .returned (.tuple #[.int .i64 n, .int .i64 er]) ∧ Below w'.heap.size w' w'') := Lib.hid fun w' h => by
            have := segment_End t A1 A2 c1 c2 p.1 p.2 x w' h hn
            rwa [HE.out] at this
          obtain ⟨pk, pm⟩ := p
          simp only at q0 q1 hC HE HD
          have hnlt : w.heap.size < wr.heap.size := block_lt_of_cell HX.out.b0
          have hne : wr.heap.size ≠ w.heap.size := by omega
          have hne2 : w.heap.size ≠ wr.heap.size := by omega
          have HQ := Lib.hid (below_box wr (.cells #[.int .i64 pk, .int .i64 pm] 27))
          cases he : (er != 0) with
          | true =>
            have HV : Hid (V = ([], er)) := Lib.hid (by rw [HR.out, HD.out]; exact endsL_err acc HE.out (by simpa using he))
            go_wp2_with (go_at_call 17; refine (hC.out _ ?_).mono ?_)
            · exact HX.out.ta.below HQ.out
            rintro e w1 ⟨rfl, hb⟩
            go_wp2_with fail
            go_ret2
            exact retIE_nil HV.out (below_next (below_next HX.out.hb HQ.out) hb)
          | false =>
            obtain rfl : er = 0 := by simpa using he
            have HV : Hid (V = joinE (acc ++ [n]) (endsL t (l.drop (j + 1)) n)) := Lib.hid (by rw [HR.out, HD.out]; exact endsL_go acc HE.out)
            go_wp2_with (first | (go_at_call 17; refine (hC.out _ ?_).mono ?_))
            · exact HX.out.ta.below HQ.out
            rintro e w1 ⟨rfl, hb⟩
            replace HX := Lib.hid ((HX.out.up HQ.out).up hb)
            replace HO := Lib.hid (own_up (own_up HO.out HQ.out) hb)
            clear hb HQ b0 b1 b2 q0 q1
            go_wp2_with (at_builtin; refine wpList_append_own _ rfl _ _ 32 rfl (w.heap.size + 1) 3 i0 (.int .i64 0) 1 8 Tryd.underlying32 hi hz0 hz1 hz2 rfl (by decide) _ _ _ rfl (HO.out.alloc _) ⟨_, 0, none⟩ 1 1 [.int .i64 n] rfl rfl (cell_one_new _ _ _) ?d2 ?d3 ?d4 ?d5 ?_)
            case d2 => intro u hu; simp at hu; subst hu; rfl
            case d3 => unfold maxLen; omega
            case d4 => omega
            case d5 => have := block_lt_of_cell HX.out.b0; simp; simp at this; omega
            intro v' w2 hown' hgrow _
            have hsz : w.heap.size + 1 ≤ _ := block_lt_of_cell HX.out.b0
            have R := own_next HO.out hsz hown' hgrow
            have HR2 := Lib.hid R
            clear hown' hgrow R HO
            go_wp2_with fail
            go_roundw
            case rel => exact ⟨j + 1, acc ++ [n], n, by omega, by go_num, rfl, by simp; omega, HV, HR2.out.1, Lib.hid (keep_box HX.out HR2.out.2 HT0.out)⟩
            case measure => simp [intOf]; omega
        · obtain rfl : j = l.length := by omega
          have HV : Hid (V = (acc, 0)) := Lib.hid (by rw [HR.out, List.drop_length]; simp [endsL, joinE])
          go_wp2_with fail
          go_ret2
          exact retIE_of HV.out HO.out HX.out.hb

set_option maxHeartbeats 2000000 in
set_option maxRecDepth 100000 in
theorem ref18_Ends (t : Topo) (A1 A2 A3 : Option Addr) (c1 c2 c3 : Nat) (l : List (Int × Int)) (f : Int) (w : World) (hT : TAt w A1 A2 t) (hL : RdP w A3 l) (hn : t.ls.length ≤ 100000) (hl : l.length ≤ 100000) :
    Calls Tryd.prog 15 #[.agg #[.int .i64 t.n, .slice A1 t.ov.length c1, .slice A2 t.ls.length c2], .slice A3 l.length c3, .int .i64 f] w (RetIE w (endsV t l f)) := by
  obtain ⟨i0, hi, hz0, hz1, hz2⟩ := info_parts intInfo
  have hX := TBox.start c1 c2 hT
  have HT0 := Lib.hid hT
  have HL := Lib.hid hL
  have hb0 := below_box w (.cells #[.int .i64 t.n, .slice A1 t.ov.length c1, .slice A2 t.ls.length c2] 25)
  have HT := hT.below hb0
  have HB := hb0
  have b0 := box0 w (.int .i64 t.n) (.slice A1 t.ov.length c1) (.slice A2 t.ls.length c2) 25
  have b1 := box1 w (.int .i64 t.n) (.slice A1 t.ov.length c1) (.slice A2 t.ls.length c2) 25
  have b2 := box2 w (.int .i64 t.n) (.slice A1 t.ov.length c1) (.slice A2 t.ls.length c2) 25
  clear hb0 hT
  cases hv : valid t with
  | false =>
    have HR : Hid (endsV t l f = ([], 1)) := Lib.hid (by simp [endsV, hv])
    go_enter Tryd.func15, Tryd.ntmps15
    go_wp2_with (go_at_call 30; refine (ref09_Valid t _ _ _ _ _ HT.ls).mono ?_; rintro e w1 ⟨rfl, hb⟩; replace HT := HT.below hb; replace b0 := cell_up hb b0; replace b1 := cell_up hb b1; replace b2 := cell_up hb b2; replace HB := below_next HB hb; clear hb)
    go_ret2
    exact retIE_nil HR.out HB
  | true =>
    cases hf : isN t.n f with
    | false =>
      have HR : Hid (endsV t l f = ([], 2)) := Lib.hid (by simp [endsV, hv, hf])
      rw [isN_false] at hf
      by_cases hf0 : 0 ≤ f
      · have hf1 : t.n ≤ f := by omega
        clear hf
        go_enter Tryd.func15, Tryd.ntmps15
        go_wp2_with (go_at_call 30; refine (ref09_Valid t _ _ _ _ _ HT.ls).mono ?_; rintro e w1 ⟨rfl, hb⟩; replace HT := HT.below hb; replace b0 := cell_up hb b0; replace b1 := cell_up hb b1; replace b2 := cell_up hb b2; replace HB := below_next HB hb; clear hb)
        go_ret2
        exact retIE_nil HR.out HB
      · have hf1 : f < 0 := by omega
        clear hf hf0
        go_enter Tryd.func15, Tryd.ntmps15
        go_wp2_with (go_at_call 30; refine (ref09_Valid t _ _ _ _ _ HT.ls).mono ?_; rintro e w1 ⟨rfl, hb⟩; replace HT := HT.below hb; replace b0 := cell_up hb b0; replace b1 := cell_up hb b1; replace b2 := cell_up hb b2; replace HB := below_next HB hb; clear hb)
        go_ret2
        exact retIE_nil HR.out HB
    | true =>
      obtain ⟨hf0, hf1⟩ := isN_true.1 hf
      have HR : Hid (endsV t l f = joinE [] (endsL t (l.drop 0) f)) := Lib.hid (by rw [← endsL_start]; simp [endsV, hv, hf])
      obtain ⟨V, hV⟩ : ∃ V, V = endsV t l f := ⟨_, rfl⟩
      rw [← hV] at HR ⊢
      have HX := Lib.hid hX
      clear hV hX hL HT HB
      go_enter Tryd.func15, Tryd.ntmps15
      go_wp2_with (go_at_call 30; refine (ref09_Valid t _ _ _ _ _ HX.out.ta.ls).mono ?_; rintro e w1 ⟨rfl, hb⟩; replace HX := Lib.hid (HX.out.up hb); replace b0 := cell_up hb b0; replace b1 := cell_up hb b1; replace b2 := cell_up hb b2; clear hb)
      clear hv hf b0 b1 b2 hf0 hf1
      go_loopw [2, 8, 9] (fun g v i wr => ∃ (j : Nat) (acc : List Int) (x : Int), j ≤ l.length ∧ i = .int .i64 j ∧ g = .int .i64 x ∧ acc.length ≤ j ∧ Hid (V = joinE acc (endsL t (l.drop j) x)) ∧ wr.ownsRow (w.heap.size + 1) 3 1 v acc.length (acc.map (Value.int .i64)) ∧ Hid (TBox w A1 A2 c1 c2 t wr)) (fun _ _ i _ => l.length - (intOf i).toNat)
      case atStart => exact ⟨0, [], f, Nat.zero_le _, rfl, rfl, Nat.le_refl _, HR, World.ownsRow_nil _ _ _ _, HX⟩
      case round =>
        clear HR HX
        obtain ⟨j, acc, x, hj, rfl, rfl, ha, HR, hown, HX⟩ := hrel
        have HO := Lib.hid hown
        clear hown
        by_cases hlt : j < l.length
        · obtain ⟨b, o, p, rfl, hd, q0, q1⟩ := (HL.out.below HX.out.hb).at_ hlt
          have hlt' : (j : Int) < (l.length : Int) := by omega
          have HD := Lib.hid hd
          clear hd
          obtain ⟨⟨n, er⟩, hE⟩ : ∃ R, endR t p.1 p.2 x = R := ⟨_, rfl⟩
          have HE := Lib.hid hE
          clear hE
          have b0 := HX.out.b0
          have b1 := HX.out.b1
          have b2 := HX.out.b2
          have hC : Hid (∀ d os, Calls Tryd.prog 18 #[.agg #[.int .i64 t.n, .slice A1 t.ov.length c1, .slice A2 t.ls.length c2], .agg #[.int .i64 p.1, .int .i64 p.2], .int .i64 x] (grow (redrawn wr d) os) fun e w'' => e = .returned (.tuple #[.int .i64 n, .int .i64 er]) ∧ ∃ p : Regrown, w'' = grow (redrawn wr p.d) p.os) := Lib.hid fun d os => by
            have := ref18_End t A1 A2 c1 c2 p.1 p.2 x (grow (redrawn wr d) os) (HX.out.ta.re d os) hn
            rw [HE.out] at this
            exact Calls.regrown_of this
          obtain ⟨pk, pm⟩ := p
          simp only at q0 q1 hC HE HD
          have HB := Below.refl wr.heap.size wr
          have hj0 : (0 : Int) ≤ (j : Int) := by omega
          cases he : (er != 0) with
          | true =>
            have HV : Hid (V = ([], er)) := Lib.hid (by rw [HR.out, HD.out]; exact endsL_err acc HE.out (by simpa using he))
            go_wp2_with fail
            have kq_b0 := cell_regrown b0
            have kq_b1 := cell_regrown b1
            have kq_b2 := cell_regrown b2
            have kq_q0 := cell_regrown q0
            have kq_q1 := cell_regrown q1
            refine wp_region_quiet_below (by kernel_rfl) (by kernel_rfl) ?_
            repeat (go_big_quiet_step (exact hC.out _ _))
            refine wpQuiet_nil ?_
            intro w2 hb2
            replace hb2 := below_of_regrown hb2
            clear kq_b0 kq_b1 kq_b2 kq_q0 kq_q1
            replace b0 := cell_up hb2 b0
            replace b1 := cell_up hb2 b1
            replace b2 := cell_up hb2 b2
            replace q0 := cell_up hb2 q0
            replace q1 := cell_up hb2 q1
            replace HB := below_next HB hb2
            go_wp2_with fail
            go_ret2
            exact retIE_nil HV.out (below_next HX.out.hb HB)
          | false =>
            obtain rfl : er = 0 := by simpa using he
            have HV : Hid (V = joinE (acc ++ [n]) (endsL t (l.drop (j + 1)) n)) := Lib.hid (by rw [HR.out, HD.out]; exact endsL_go acc HE.out)
            go_wp2_with fail
            have kq_b0 := cell_regrown b0
            have kq_b1 := cell_regrown b1
            have kq_b2 := cell_regrown b2
            have kq_q0 := cell_regrown q0
            have kq_q1 := cell_regrown q1
            refine wp_region_quiet_below (by kernel_rfl) (by kernel_rfl) ?_
            repeat (go_big_quiet_step (exact hC.out _ _))
            refine wpQuiet_nil ?_
            intro w2 hb2
            replace hb2 := below_of_regrown hb2
            clear kq_b0 kq_b1 kq_b2 kq_q0 kq_q1
            replace b0 := cell_up hb2 b0
            replace b1 := cell_up hb2 b1
            replace b2 := cell_up hb2 b2
            replace q0 := cell_up hb2 q0
            replace q1 := cell_up hb2 q1
            replace HB := below_next HB hb2
            replace HX := Lib.hid (HX.out.up HB)
            replace HO := Lib.hid (own_up HO.out HB)
            clear hb2 HB b0 b1 b2 q0 q1 hC
            go_wp2_with (at_builtin; refine wpList_append_own _ rfl _ _ 32 rfl (w.heap.size + 1) 3 i0 (.int .i64 0) 1 8 Tryd.underlying32 hi hz0 hz1 hz2 rfl (by decide) _ _ _ rfl (HO.out.alloc _) ⟨_, 0, none⟩ 1 1 [.int .i64 n] rfl rfl (cell_one_new _ _ _) ?d2 ?d3 ?d4 ?d5 ?_)
            case d2 => intro u hu; simp at hu; subst hu; rfl
            case d3 => unfold maxLen; omega
            case d4 => omega
            case d5 => have := block_lt_of_cell HX.out.b0; simp; simp at this; omega
            intro v' w3 hown' hgrow _
            have hsz : w.heap.size + 1 ≤ _ := block_lt_of_cell HX.out.b0
            have R := own_next HO.out hsz hown' hgrow
            have HR2 := Lib.hid R
            clear hown' hgrow R HO
            go_wp2_with fail
            go_roundw
            case rel => exact ⟨j + 1, acc ++ [n], n, by omega, by go_num, rfl, by simp; omega, HV, HR2.out.1, Lib.hid (keep_box HX.out HR2.out.2 HT0.out)⟩
            case measure => simp [intOf]; omega
        · obtain rfl : j = l.length := by omega
          have HV : Hid (V = (acc, 0)) := Lib.hid (by rw [HR.out, List.drop_length]; simp [endsL, joinE])
          go_wp2_with fail
          go_ret2
          exact retIE_of HV.out HO.out HX.out.hb

end Go.Proofs.YtlfjajdpdnnbnaaDoor
