/-
  strings.Lines: what the iterator yields.
-/
import Derived.Test.YtfbloolloifndaaDoorIter
import Derived.Test.YtfbloolloifndaaDoorSplit
import Derived.Test.YtfbloolloifndaaDoorShelf
namespace Go.Proofs.YtfbloolloifndaaDoor
open Go.RowKit Go.Shelf
attribute [local go_sem] Oper.semAt_some

/-- The lines of a text, each with its line feed; the last one may lack it. -/
def linesK (s : List UInt8) : List (List UInt8) := (splitK 10 [10] s).filter fun p => !p.isEmpty
theorem linesK_hit {x y : List UInt8} (h : (10 : UInt8) ∉ x) : linesK (x ++ 10 :: y) = (x ++ [10]) :: linesK y := by
  unfold linesK
  rw [splitK_hit h, List.filter_cons_of_pos (by simp)]
theorem linesK_miss {r : List UInt8} (h0 : r ≠ []) (h : (10 : UInt8) ∉ r) : linesK r = [r] := by
  unfold linesK
  rw [splitK_miss h, List.filter_cons_of_pos (by simpa using h0)]
  rfl
theorem linesK_nil : linesK [] = [] := rfl
theorem linesK_lt {ps : List (List UInt8)} {k : Nat} {y : List UInt8} (h : ps.drop k = linesK y) (hy : linesK y ≠ []) : k < ps.length := by
  by_cases hk : k < ps.length
  · exact hk
  · rw [List.drop_of_length_le (by omega)] at h; exact absurd h.symm hy
theorem linesK_len (s : List UInt8) : (linesK s).length ≤ s.length + 1 := Nat.le_trans (List.length_filter_le _ _) (splitK_len 10 [10] s)

set_option maxRecDepth 100000 in
set_option maxHeartbeats 4000000 in
theorem lines1_in (n : Nat) (hn : 1 ≤ n) (s : List UInt8) (hs : s.length ≤ 1000000) (Bs : Nat) (w : World) (hb : Boxed w Bs 9 (.string ⟨s.toArray⟩)) :
    IterC Fence.wide n Tryd.prog 36 #[.pointer (some ⟨Bs, 0, none⟩)] (fun l : List UInt8 => .string ⟨l.toArray⟩) Bs (fun W W' => W'.heap[Bs]? = W.heap[Bs]?) (linesK s) w := by
  intro l J Jx W hW hJ hJx hY h0
  replace hb : Boxed W Bs _ _ := (hW.block _ hb.lt).trans hb
  refine callsIn_of_wp Tryd.func36 rfl trivial ?_ rfl
  simp only [Tryd.ntmps36, List.size_toArray, List.length_cons, List.length_nil, Nat.reduceAdd, Nat.reduceSub, Array.replicate_succ, Array.replicate_zero, List.push_toArray, List.append_toArray, List.nil_append, List.cons_append]
  have HJ := Lib.hid hJ
  have HJx := Lib.hid hJx
  have HY := Lib.hid hY
  have H0 := Lib.hid h0
  have HB := Lib.hid hb
  clear hJ hJx hY h0 hb
  gi_wp2
  gi_loopw [4] (fun _ wr => Hid (∃ (k : Nat) (r : List UInt8), (linesK s).drop k = linesK r ∧ k ≤ (linesK s).length ∧ r.length ≤ 1000000 ∧ J k wr ∧ Boxed wr Bs 9 (.string ⟨r.toArray⟩))) (fun _ wr => strLen wr Bs)
  case atStart => exact Lib.hid ⟨0, s, rfl, Nat.zero_le _, hs, H0.out, HB.out⟩
  case round =>
    obtain ⟨k, r, hd, hkl, hr, hj, hb⟩ := hrel.out
    clear hrel HB
    have q1 := hb.cell
    have qf := hb.frozen
    have HJk := Lib.hid hj
    have HB := Lib.hid hb
    clear hj hb
    by_cases he : r = []
    · subst he
      have HE : Hid (J (linesK s).length wr) := Lib.hid (by
        have h1 : (linesK s).length = k := by
          have := congrArg List.length hd
          rw [List.length_drop, linesK_nil] at this
          simp at this; omega
        rw [h1]; exact HJk.out)
      clear hd
      gi_wp2
      go_end0
      exact ⟨⟨_, rfl⟩, .inl HE.out⟩
    have hpos : (0 : Int) < (r.length : Int) := by have := List.length_pos_iff.2 he; omega
    by_cases hc : (10 : UInt8) ∈ r
    · obtain ⟨x, y, hxy, hx⟩ := indexByte_some hc
      have hi : Lib.indexByte r 10 = (x.length : Int) := by rw [hxy]; exact indexByte_at hx
      have HI : Hid (∀ w', Calls Tryd.prog 37 #[.string ⟨r.toArray⟩, .int .u8 10] w' fun e w'' => e = .returned (.int .i64 (x.length : Int)) ∧ w'' = w') := Lib.hid fun w' => by
        have h := Tryd.strings_IndexByte ⟨r.toArray⟩ 10 w'
        rw [show (⟨r.toArray⟩ : ByteArray).data.toList = r by simp, show (10 : Int).toNat.toUInt8 = 10 from rfl, hi] at h
        exact h
      have hxl : x.length + 1 + y.length = r.length := by rw [hxy]; simp; omega
      have hm2 : (x.length : Int) + 1 ≤ (r.length : Int) := by omega
      obtain ⟨p, hp⟩ : ∃ p, p = x ++ [10] := ⟨_, rfl⟩
      have E1 : (⟨r.toArray⟩ : ByteArray).extract 0 (x.length + 1) = ⟨p.toArray⟩ := by
        have e : r = (x ++ [10]) ++ y := by rw [hxy]; simp
        rw [e, hp, show x.length + 1 = (x ++ [10]).length by simp]
        exact ext_front _ y
      have E2 : (⟨r.toArray⟩ : ByteArray).extract (x.length + 1) r.length = ⟨y.toArray⟩ := by
        have e : r = (x ++ [10]) ++ y := by rw [hxy]; simp
        rw [e, show x.length + 1 = (x ++ [10]).length by simp]
        exact ext_back _ y
      have hd' : (linesK s).drop k = p :: linesK y := by rw [hd, hxy, linesK_hit hx, hp]
      obtain ⟨hps', hd2⟩ := drop_some hd'
      have hkl2 := (List.getElem?_eq_some_iff.1 hps').1
      obtain ⟨W1, hW1⟩ : ∃ W1, W1 = (wr.setCell ⟨Bs, 0, none⟩ (.string ⟨y.toArray⟩)).drew := ⟨_, rfl⟩
      have hg1 : wr.grownBy W1 (some Bs) := by
        have : wr.grownBy (wr.setCell ⟨Bs, 0, none⟩ (.string ⟨y.toArray⟩)) (some Bs) := grownBy_setCell' _ _ _
        rw [hW1]; exact ⟨this.os, this.tape, this.output, this.size, this.block⟩
      have hb1 : Boxed W1 Bs 9 (.string ⟨y.toArray⟩) := by rw [hW1]; exact HB.out.set (.string ⟨y.toArray⟩)
      obtain ⟨fn, tmps, assign, body, hy, hR⟩ := HY.out k p W1 (HJ.out _ _ _ HJk.out hg1) hps'
      rw [← E1] at hy
      have HE2 := Lib.hid E2
      have HD2 := Lib.hid hd2
      have HB1 := Lib.hid hb1
      have hyl : y.length ≤ 1000000 := by omega
      have hrl : y.length < r.length := by omega
      clear hd hd' hps' hd2 hi hxy hx hc hxl hp hg1 hb1 he E1 E2
      gi_wp2_with (refine ⟨trivial, ?_⟩; gi_at_call 37; refine (callsIn_wide.2 (HI.out _)).mono ?_; rintro e w1 ⟨rfl, rfl⟩)
      gi_region
      all_goals rw [HE2.out, ← hW1]
      all_goals clear q1 qf hW1
      all_goals gi_wp2
      refine hR.mono ?_
      rintro e W3 (⟨rfl, hJ3, hk3⟩ | ⟨rfl, hJx3⟩)
      · have HJ3 := Lib.hid hJ3
        have b1 : Boxed W3 Bs 9 (.string ⟨y.toArray⟩) := hk3.trans HB1.out
        have B1 := Lib.hid b1
        clear hJ3 hk3 hR hy b1
        gi_wp2
        go_roundw
        case rel => exact Lib.hid ⟨k + 1, y, HD2.out, hkl2, hyl, HJ3.out, B1.out⟩
        case measure => rw [strLen_of B1.out, strLen_of HB.out]; exact hrl
      · have HX := Lib.hid hJx3
        clear hJx3
        gi_wp2
        refine bodyPost_ret (results_none rfl _ _ _) rfl ?_
        exact ⟨⟨_, rfl⟩, .inr ⟨k + 1, hkl2, HX.out⟩⟩
    · have hi : Lib.indexByte r 10 = -1 := indexByte_none hc
      have HI : Hid (∀ w', Calls Tryd.prog 37 #[.string ⟨r.toArray⟩, .int .u8 10] w' fun e w'' => e = .returned (.int .i64 (-1)) ∧ w'' = w') := Lib.hid fun w' => by
        have h := Tryd.strings_IndexByte ⟨r.toArray⟩ 10 w'
        rw [show (⟨r.toArray⟩ : ByteArray).data.toList = r by simp, show (10 : Int).toNat.toUInt8 = 10 from rfl, hi] at h
        exact h
      have hd' : (linesK s).drop k = r :: linesK [] := by rw [hd, linesK_miss he hc, linesK_nil]
      obtain ⟨hps', hd2⟩ := drop_some hd'
      have hkl2 := (List.getElem?_eq_some_iff.1 hps').1
      obtain ⟨W1, hW1⟩ : ∃ W1, W1 = wr.setCell ⟨Bs, 0, none⟩ (.string ⟨#[]⟩) := ⟨_, rfl⟩
      have hg1 : wr.grownBy W1 (some Bs) := hW1 ▸ grownBy_setCell' _ _ _
      have hb1 : Boxed W1 Bs 9 (.string ⟨([] : List UInt8).toArray⟩) := by rw [hW1]; exact HB.out.set (.string ⟨#[]⟩)
      obtain ⟨fn, tmps, assign, body, hy, hR⟩ := HY.out k r W1 (HJ.out _ _ _ HJk.out hg1) hps'
      have HD2 := Lib.hid hd2
      have HB1 := Lib.hid hb1
      have hrl : 0 < r.length := List.length_pos_iff.2 he
      clear hd hd' hps' hd2 hi hc hg1 hb1 he
      subst hW1
      gi_wp2_with (refine ⟨trivial, ?_⟩; gi_at_call 37; refine (callsIn_wide.2 (HI.out _)).mono ?_; rintro e w1 ⟨rfl, rfl⟩)
      refine hR.mono ?_
      rintro e W3 (⟨rfl, hJ3, hk3⟩ | ⟨rfl, hJx3⟩)
      · have HJ3 := Lib.hid hJ3
        have B1 : Hid (Boxed W3 Bs 9 (.string ⟨([] : List UInt8).toArray⟩)) := Lib.hid (hk3.trans HB1.out)
        clear hJ3 hk3 hR hy
        gi_wp2
        go_roundw
        case rel => exact Lib.hid ⟨k + 1, [], HD2.out, hkl2, by simp, HJ3.out, B1.out⟩
        case measure => rw [strLen_of B1.out, strLen_of HB.out]; exact hrl
      · have HX := Lib.hid hJx3
        clear hJx3
        gi_wp2
        refine bodyPost_ret (results_none rfl _ _ _) rfl ?_
        exact ⟨⟨_, rfl⟩, .inr ⟨k + 1, hkl2, HX.out⟩⟩

/-- strings.Lines: the box, and the function value over it. -/
theorem Lines_in (n : Nat) (s : List UInt8) (w : World) :
    CallsIn Fence.wide n Tryd.prog 18 #[.string ⟨s.toArray⟩] w fun e w' => e = .returned (.func (.func 36) #[] #[.pointer (some ⟨w.heap.size, 0, none⟩)]) ∧ w' = w.alloc (.cells #[.string ⟨s.toArray⟩] 9) := by
  refine callsIn_of_wp Tryd.func18 rfl trivial ?_ rfl
  simp only [Tryd.ntmps18, List.size_toArray, List.length_cons, List.length_nil, Nat.reduceAdd, Nat.reduceSub, Array.replicate_succ, Array.replicate_zero, List.push_toArray, List.append_toArray, List.nil_append, List.cons_append]
  gi_wp2
  go_ret
  exact ⟨rfl, rfl⟩

end Go.Proofs.YtfbloolloifndaaDoor
