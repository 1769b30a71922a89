/-
  Contracts of segment.End, segment.Ends and of the reference's: what each returns, for every topology and list of segments.
-/
import Derived.Test.YtdjgpjejidajlaaDoorSeg
namespace Go.Proofs.YtdjgpjejidajlaaDoor
open Go.RowKit Go.Sort

/-- The end of a segment, or an error. -/
def endR (t : Topo) (k m f : Int) : Int × Int :=
  if segV t k m = false then (0, 1) else if isN t.n f = false then (0, 2) else if k = 1 then (m, 0) else if k = 2 then (if tail t m = f then (head t m, 0) else (0, 4)) else (0, 7)
def R2 (p : Int × Int) : Value := .tuple #[.int .i64 p.1, .int .i64 p.2]
theorem endR_a {t : Topo} {k m f : Int} (h : segV t k m = false) : endR t k m f = (0, 1) := by simp [endR, h]
theorem endR_b {t : Topo} {k m f : Int} (h : segV t k m = true) (h2 : isN t.n f = false) : endR t k m f = (0, 2) := by simp [endR, h, h2]
theorem endR_1 {t : Topo} {m f : Int} (h : segV t 1 m = true) (h2 : isN t.n f = true) : endR t 1 m f = (m, 0) := by simp [endR, h, h2]
theorem endR_2 {t : Topo} {m f : Int} (h : segV t 2 m = true) (h2 : isN t.n f = true) (h3 : (tail t m != f) = false) : endR t 2 m f = (head t m, 0) := by
  have : tail t m = f := by simpa using h3
  simp [endR, h, h2, this]
theorem endR_3 {t : Topo} {m f : Int} (h : segV t 2 m = true) (h2 : isN t.n f = true) (h3 : (tail t m != f) = true) : endR t 2 m f = (0, 4) := by
  have : ¬ tail t m = f := by simpa using h3
  simp [endR, h, h2, this]
theorem endR_4 {t : Topo} {k m f : Int} (h : segV t k m = true) (h2 : isN t.n f = true) (h3 : (k == 1) = false) (h4 : (k == 2) = false) : endR t k m f = (0, 7) := by
  simp only [beq_eq_false_iff_ne] at h3 h4
  simp [endR, h, h2, h3, h4]
theorem segV_arc {t : Topo} {m : Int} (h : segV t 2 m = true) : valid t = true ∧ 0 ≤ m ∧ m < 2 * (t.ls.length : Int) := by
  simp only [segV, Bool.and_eq_true, segOk2, isN_true] at h
  exact h
theorem segV_valid {t : Topo} {k m : Int} (h : segV t k m = true) : valid t = true := by
  simp only [segV, Bool.and_eq_true] at h
  exact h.1

set_option maxHeartbeats 1000000 in
theorem segment_End (t : Topo) (A1 A2 : Option Addr) (c1 c2 : Nat) (k m f : Int) (w : World) (hT : TAt w A1 A2 t) (hn : t.ls.length ≤ 100000) :
    Calls Tryd.prog 27 #[.agg #[.int .i64 t.n, .slice A1 t.ov.length c1, .slice A2 t.ls.length c2], .agg #[.int .i64 k, .int .i64 m], .int .i64 f] w fun e w' => e = .returned (R2 (endR t k m f)) ∧ Below w.heap.size w w' := by
  have hb0 := below_box w (.cells #[.int .i64 t.n, .slice A1 t.ov.length c1, .slice A2 t.ls.length c2] 40)
  have hb1 := below_box (w.alloc (.cells #[.int .i64 t.n, .slice A1 t.ov.length c1, .slice A2 t.ls.length c2] 40)) (.cells #[.int .i64 k, .int .i64 m] 23)
  have HB := below_next hb0 hb1
  have HT := hT.below HB
  have b0 := cell_up hb1 (box0 w (.int .i64 t.n) (.slice A1 t.ov.length c1) (.slice A2 t.ls.length c2) 40)
  have b1 := cell_up hb1 (box1 w (.int .i64 t.n) (.slice A1 t.ov.length c1) (.slice A2 t.ls.length c2) 40)
  have b2 := cell_up hb1 (box2 w (.int .i64 t.n) (.slice A1 t.ov.length c1) (.slice A2 t.ls.length c2) 40)
  have s0 : ((w.alloc (.cells #[.int .i64 t.n, .slice A1 t.ov.length c1, .slice A2 t.ls.length c2] 40)).alloc (.cells #[.int .i64 k, .int .i64 m] 23)).cell? ⟨w.heap.size + 1, 0, none⟩ = some (.int .i64 k) := by simp
  have s1 : ((w.alloc (.cells #[.int .i64 t.n, .slice A1 t.ov.length c1, .slice A2 t.ls.length c2] 40)).alloc (.cells #[.int .i64 k, .int .i64 m] 23)).cell? ⟨w.heap.size + 1, 1, none⟩ = some (.int .i64 m) := by simp
  clear hb0 hb1 hT
  cases hv : segV t k m with
  | false =>
    have HR := Lib.hid (endR_a (f := f) hv)
    go_enter Tryd.func27, Tryd.ntmps27
    go_wp2_with (go_at_call 46; refine (segment_Valid t _ _ _ _ _ _ _ HT hn).mono ?_; rintro e w1 ⟨rfl, hb⟩; replace HT := HT.below hb; replace b0 := cell_up hb b0; replace b1 := cell_up hb b1; replace b2 := cell_up hb b2; replace s0 := cell_up hb s0; replace s1 := cell_up hb s1; replace HB := below_next HB hb; clear hb)
    go_ret2
    exact ⟨by rw [HR.out]; rfl, HB⟩
  | true =>
    cases hf : isN t.n f with
    | false =>
      have HR := Lib.hid (endR_b hv hf)
      go_enter Tryd.func27, Tryd.ntmps27
      go_wp2_with (first | (go_at_call 46; refine (segment_Valid t _ _ _ _ _ _ _ HT hn).mono ?_; rintro e w1 ⟨rfl, hb⟩; replace HT := HT.below hb; replace b0 := cell_up hb b0; replace b1 := cell_up hb b1; replace b2 := cell_up hb b2; replace s0 := cell_up hb s0; replace s1 := cell_up hb s1; replace HB := below_next HB hb; clear hb) | (go_at_call 47; refine (graph_Node _ _ _ _ _).mono ?_; rintro e w1 ⟨rfl, hb⟩; replace HT := HT.below hb; replace b0 := cell_up hb b0; replace b1 := cell_up hb b1; replace b2 := cell_up hb b2; replace s0 := cell_up hb s0; replace s1 := cell_up hb s1; replace HB := below_next HB hb; clear hb))
      go_ret2
      exact ⟨by rw [HR.out]; rfl, HB⟩
    | true =>
      cases h1 : (k == 1) with
      | true =>
        obtain rfl : k = 1 := by simpa using h1
        have HR := Lib.hid (endR_1 hv hf)
        go_enter Tryd.func27, Tryd.ntmps27
        go_wp2_with (first | (go_at_call 46; refine (segment_Valid t _ _ _ _ _ _ _ HT hn).mono ?_; rintro e w1 ⟨rfl, hb⟩; replace HT := HT.below hb; replace b0 := cell_up hb b0; replace b1 := cell_up hb b1; replace b2 := cell_up hb b2; replace s0 := cell_up hb s0; replace s1 := cell_up hb s1; replace HB := below_next HB hb; clear hb) | (go_at_call 47; refine (graph_Node _ _ _ _ _).mono ?_; rintro e w1 ⟨rfl, hb⟩; replace HT := HT.below hb; replace b0 := cell_up hb b0; replace b1 := cell_up hb b1; replace b2 := cell_up hb b2; replace s0 := cell_up hb s0; replace s1 := cell_up hb s1; replace HB := below_next HB hb; clear hb))
        go_ret2
        exact ⟨by rw [HR.out]; rfl, HB⟩
      | false =>
        cases h2 : (k == 2) with
        | true =>
          obtain rfl : k = 2 := by simpa using h2
          obtain ⟨_, g0, g1⟩ := segV_arc hv
          cases h3 : (tail t m != f) with
          | true =>
            have HR := Lib.hid (endR_3 hv hf h3)
            go_enter Tryd.func27, Tryd.ntmps27
            go_wp2_with (first | (go_at_call 46; refine (segment_Valid t _ _ _ _ _ _ _ HT hn).mono ?_; rintro e w1 ⟨rfl, hb⟩; replace HT := HT.below hb; replace b0 := cell_up hb b0; replace b1 := cell_up hb b1; replace b2 := cell_up hb b2; replace s0 := cell_up hb s0; replace s1 := cell_up hb s1; replace HB := below_next HB hb; clear hb) | (go_at_call 47; refine (graph_Node _ _ _ _ _).mono ?_; rintro e w1 ⟨rfl, hb⟩; replace HT := HT.below hb; replace b0 := cell_up hb b0; replace b1 := cell_up hb b1; replace b2 := cell_up hb b2; replace s0 := cell_up hb s0; replace s1 := cell_up hb s1; replace HB := below_next HB hb; clear hb) | (go_at_call 48; refine (graph_Tail _ _ _ _ t _ _ HT.ls g0 g1 hn).mono ?_; rintro e w1 ⟨rfl, hb⟩; replace HT := HT.below hb; replace b0 := cell_up hb b0; replace b1 := cell_up hb b1; replace b2 := cell_up hb b2; replace s0 := cell_up hb s0; replace s1 := cell_up hb s1; replace HB := below_next HB hb; clear hb))
            go_ret2
            exact ⟨by rw [HR.out]; rfl, HB⟩
          | false =>
            have HR := Lib.hid (endR_2 hv hf h3)
            go_enter Tryd.func27, Tryd.ntmps27
            go_wp2_with (first | (go_at_call 46; refine (segment_Valid t _ _ _ _ _ _ _ HT hn).mono ?_; rintro e w1 ⟨rfl, hb⟩; replace HT := HT.below hb; replace b0 := cell_up hb b0; replace b1 := cell_up hb b1; replace b2 := cell_up hb b2; replace s0 := cell_up hb s0; replace s1 := cell_up hb s1; replace HB := below_next HB hb; clear hb) | (go_at_call 47; refine (graph_Node _ _ _ _ _).mono ?_; rintro e w1 ⟨rfl, hb⟩; replace HT := HT.below hb; replace b0 := cell_up hb b0; replace b1 := cell_up hb b1; replace b2 := cell_up hb b2; replace s0 := cell_up hb s0; replace s1 := cell_up hb s1; replace HB := below_next HB hb; clear hb) | (go_at_call 48; refine (graph_Tail _ _ _ _ t _ _ HT.ls g0 g1 hn).mono ?_; rintro e w1 ⟨rfl, hb⟩; replace HT := HT.below hb; replace b0 := cell_up hb b0; replace b1 := cell_up hb b1; replace b2 := cell_up hb b2; replace s0 := cell_up hb s0; replace s1 := cell_up hb s1; replace HB := below_next HB hb; clear hb) | (go_at_call 49; refine (graph_Head _ _ _ _ t _ _ HT.ls g0 g1 hn).mono ?_; rintro e w1 ⟨rfl, hb⟩; replace HT := HT.below hb; replace b0 := cell_up hb b0; replace b1 := cell_up hb b1; replace b2 := cell_up hb b2; replace s0 := cell_up hb s0; replace s1 := cell_up hb s1; replace HB := below_next HB hb; clear hb))
            go_ret2
            exact ⟨by rw [HR.out]; rfl, HB⟩
        | false =>
          have HR := Lib.hid (endR_4 hv hf h1 h2)
          go_enter Tryd.func27, Tryd.ntmps27
          go_wp2_with (first | (go_at_call 46; refine (segment_Valid t _ _ _ _ _ _ _ HT hn).mono ?_; rintro e w1 ⟨rfl, hb⟩; replace HT := HT.below hb; replace b0 := cell_up hb b0; replace b1 := cell_up hb b1; replace b2 := cell_up hb b2; replace s0 := cell_up hb s0; replace s1 := cell_up hb s1; replace HB := below_next HB hb; clear hb) | (go_at_call 47; refine (graph_Node _ _ _ _ _).mono ?_; rintro e w1 ⟨rfl, hb⟩; replace HT := HT.below hb; replace b0 := cell_up hb b0; replace b1 := cell_up hb b1; replace b2 := cell_up hb b2; replace s0 := cell_up hb s0; replace s1 := cell_up hb s1; replace HB := below_next HB hb; clear hb))
          go_ret2
          exact ⟨by rw [HR.out]; rfl, HB⟩

/-- The cells of a slice of pairs. -/
def RdP (w : World) (A : Option Addr) (l : List (Int × Int)) : Prop :=
  l = [] ∨ ∃ b o, A = some ⟨b, o, none⟩ ∧ ∀ (k : Nat) (p : Int × Int), l[k]? = some p → w.cell? ⟨b, o + k * 2, none⟩ = some (.int .i64 p.1) ∧ w.cell? ⟨b, o + k * 2 + 1, none⟩ = some (.int .i64 p.2)
theorem RdP.below {w w' : World} {A : Option Addr} {l : List (Int × Int)} (h : RdP w A l) (hb : Below w.heap.size w w') : RdP w' A l := by
  rcases h with rfl | ⟨b, o, rfl, hc⟩
  · exact .inl rfl
  · exact .inr ⟨b, o, rfl, fun k p hp => ⟨cell_up hb (hc k p hp).1, cell_up hb (hc k p hp).2⟩⟩
theorem RdP.at_ {w : World} {A : Option Addr} {l : List (Int × Int)} {k : Nat} (h : RdP w A l) (hk : k < l.length) : ∃ b o p, A = some ⟨b, o, none⟩ ∧ l.drop k = p :: l.drop (k + 1) ∧ w.cell? ⟨b, o + k * 2, none⟩ = some (.int .i64 p.1) ∧ w.cell? ⟨b, o + k * 2 + 1, none⟩ = some (.int .i64 p.2) := by
  rcases h with rfl | ⟨b, o, rfl, hc⟩
  · simp at hk
  · exact ⟨b, o, l[k], rfl, List.drop_eq_getElem_cons hk, (hc k _ (List.getElem?_eq_getElem hk)).1, (hc k _ (List.getElem?_eq_getElem hk)).2⟩

def joinE (acc : List Int) (q : List Int × Int) : List Int × Int := if q.2 = 0 then (acc ++ q.1, 0) else ([], q.2)
def endsL (t : Topo) : List (Int × Int) → Int → List Int × Int
  | [], _ => ([], 0)
  | p :: r, f => if (endR t p.1 p.2 f).2 = 0 then joinE [(endR t p.1 p.2 f).1] (endsL t r (endR t p.1 p.2 f).1) else ([], (endR t p.1 p.2 f).2)
def endsV (t : Topo) (l : List (Int × Int)) (f : Int) : List Int × Int := if valid t = false then ([], 1) else if isN t.n f = false then ([], 2) else endsL t l f
theorem joinE_join (a b : List Int) (q : List Int × Int) : joinE a (joinE b q) = joinE (a ++ b) q := by
  unfold joinE
  by_cases h : q.2 = 0 <;> simp [h]
theorem endsL_go {t : Topo} {p : Int × Int} {r : List (Int × Int)} {f n : Int} (acc : List Int) (h : endR t p.1 p.2 f = (n, 0)) : joinE acc (endsL t (p :: r) f) = joinE (acc ++ [n]) (endsL t r n) := by
  rw [endsL, h]
  simp only [if_true]
  rw [joinE_join]
theorem endsL_err {t : Topo} {p : Int × Int} {r : List (Int × Int)} {f n e : Int} (acc : List Int) (h : endR t p.1 p.2 f = (n, e)) (he : e ≠ 0) : joinE acc (endsL t (p :: r) f) = ([], e) := by
  rw [endsL, h]
  simp [he, joinE]
theorem joinE_nil (q : List Int × Int) (h : q.2 ≠ 0 → q.1 = []) : joinE [] q = q := by
  unfold joinE
  by_cases h0 : q.2 = 0
  · rw [if_pos h0]; exact Prod.ext rfl h0.symm
  · rw [if_neg h0]; exact Prod.ext (h h0).symm rfl
theorem joinE_err (a : List Int) (q : List Int × Int) : (joinE a q).2 ≠ 0 → (joinE a q).1 = [] := by
  unfold joinE
  split
  · intro h; exact absurd rfl h
  · intro _; rfl
theorem endsL_nil (t : Topo) : ∀ (l : List (Int × Int)) (f : Int), (endsL t l f).2 ≠ 0 → (endsL t l f).1 = []
  | [], _ => fun h => absurd rfl h
  | p :: r, f => by
    unfold endsL
    split
    · exact joinE_err _ _
    · intro _; rfl
theorem endsL_start (t : Topo) (l : List (Int × Int)) (f : Int) : endsL t l f = joinE [] (endsL t (l.drop 0) f) := by
  rw [List.drop_zero, joinE_nil _ (endsL_nil t l f)]
theorem endsL_len (t : Topo) : ∀ (l : List (Int × Int)) (f : Int), (endsL t l f).1.length ≤ l.length
  | [], _ => Nat.le_refl _
  | p :: r, f => by
    have := endsL_len t r (endR t p.1 p.2 f).1
    unfold endsL joinE
    repeat' split
    all_goals simp
    omega

theorem endsV_len (t : Topo) (l : List (Int × Int)) (f : Int) : (endsV t l f).1.length ≤ l.length := by
  unfold endsV
  repeat' split
  all_goals first | exact endsL_len t l f | simp

/-- A call that returns a list of ints and an error. -/
def RetIE (w : World) (r : List Int × Int) (e : Ending) (w' : World) : Prop :=
  ∃ A c, e = .returned (.tuple #[.slice A r.1.length c, .int .i64 r.2]) ∧ r.1.length ≤ c ∧ c ≤ maxLen ∧ Rd w' A (r.1.map (Value.int .i64)) ∧ Below w.heap.size w w'
theorem retIE_of {w w' : World} {base : Nat} {E : TypeId} {v : Value} {r : List Int × Int} {xs : List Int} (hr : r = (xs, 0)) (h : w'.ownsRow base E 1 v xs.length (xs.map (Value.int .i64))) (hb : Below w.heap.size w w') : RetIE w r (.returned (.tuple #[v, .int .i64 0])) w' := by
  subst hr
  obtain ⟨A, c, rfl, h1, h2, h3⟩ := rd_of_own h
  exact ⟨A, c, rfl, h1, h2, h3, hb⟩
theorem retIE_nil {w w' : World} {r : List Int × Int} {x : Int} (hr : r = ([], x)) (hb : Below w.heap.size w w') : RetIE w r (.returned (.tuple #[.slice none 0 0, .int .i64 x])) w' := by
  subst hr
  exact ⟨none, 0, rfl, Nat.le_refl _, Nat.zero_le _, .inl rfl, hb⟩

end Go.Proofs.YtdjgpjejidajlaaDoor
