/-
  strings.SplitSeq and SplitAfterSeq at a separator of one byte: what the iterator yields.
-/
import Derived.Test.YtpofbhaipeiegaaGreatDoorIter
import Derived.Test.YtpofbhaipeiegaaGreatDoorShelf
import Derived.Test.YtpofbhaipeiegaaGreatDoorNum
import Derived.Test.YtpofbhaipeiegaaGreatDoorOut
namespace Go.Proofs.YtpofbhaipeiegaaGreatDoor
open Go.RowKit Go.Shelf
attribute [local go_sem] Oper.semAt_some

/-- The parts of a text that a byte parts; each part but the last keeps kp. -/
def splitK (c : UInt8) (kp : List UInt8) : List UInt8 → List (List UInt8)
  | [] => [[]]
  | x :: r => if x = c then kp :: splitK c kp r else (match splitK c kp r with | [] => [[x]] | p :: ps => (x :: p) :: ps)
theorem splitK_ne (c : UInt8) (kp s : List UInt8) : splitK c kp s ≠ [] := by
  cases s with
  | nil => simp [splitK]
  | cons x r =>
    unfold splitK
    split
    · simp
    · split <;> simp
theorem splitK_miss {c : UInt8} {kp : List UInt8} : ∀ {s : List UInt8}, c ∉ s → splitK c kp s = [s]
  | [], _ => rfl
  | x :: r, h => by
    have h1 : ¬ x = c := fun e => h (by simp [e])
    have h2 : c ∉ r := fun e => h (by simp [e])
    unfold splitK
    rw [if_neg h1, splitK_miss h2]
theorem splitK_cons {c : UInt8} {kp : List UInt8} {x : UInt8} {r : List UInt8} (h : ¬ x = c) : splitK c kp (x :: r) = (match splitK c kp r with | [] => [[x]] | p :: ps => (x :: p) :: ps) := by rw [splitK, if_neg h]
theorem splitK_hit {c : UInt8} {kp y : List UInt8} : ∀ {x : List UInt8}, c ∉ x → splitK c kp (x ++ c :: y) = (x ++ kp) :: splitK c kp y
  | [], _ => by simp [splitK]
  | a :: r, h => by
    have h1 : ¬ a = c := fun e => h (by simp [e])
    have h2 : c ∉ r := fun e => h (by simp [e])
    rw [List.cons_append, splitK_cons h1, splitK_hit h2]
    rfl
theorem splitK_len (c : UInt8) (kp : List UInt8) : ∀ s, (splitK c kp s).length ≤ s.length + 1
  | [] => by simp [splitK]
  | x :: r => by
    have ih := splitK_len c kp r
    unfold splitK
    split
    · simp; omega
    · split
      · simp
      · rename_i p ps h
        rw [h] at ih
        simp at ih ⊢; omega
theorem ext_front (x y : List UInt8) : (⟨(x ++ y).toArray⟩ : ByteArray).extract 0 x.length = ⟨x.toArray⟩ := by
  apply ByteArray.ext
  simp [ByteArray.data_extract]
theorem ext_back (x y : List UInt8) : (⟨(x ++ y).toArray⟩ : ByteArray).extract x.length (x ++ y).length = ⟨y.toArray⟩ := by
  apply ByteArray.ext
  simp [ByteArray.data_extract]


theorem splitK_mem {c : UInt8} {x : List UInt8} : ∀ {s : List UInt8}, x ∈ splitK c [] s → x.length ≤ s.length
  | [], h => by simp [splitK] at h; simp [h]
  | a :: r, h => by
    by_cases e : a = c
    · rw [splitK, if_pos e] at h
      rcases List.mem_cons.1 h with rfl | h
      · simp
      · have := splitK_mem h; simp; omega
    · rw [splitK_cons e] at h
      cases hs : splitK c [] r with
      | nil => exact absurd hs (splitK_ne _ _ _)
      | cons p ps =>
        rw [hs] at h
        simp only at h
        rcases List.mem_cons.1 h with rfl | h
        · have := splitK_mem (x := p) (s := r) (c := c) (by rw [hs]; simp)
          simp; omega
        · have := splitK_mem (x := x) (s := r) (c := c) (by rw [hs]; simp [h])
          simp; omega
/-- Three blocks as they were. -/
def K3 (a b c : Nat) (W W' : World) : Prop := W'.heap[a]? = W.heap[a]? ∧ W'.heap[b]? = W.heap[b]? ∧ W'.heap[c]? = W.heap[c]?
theorem K3.trans {a b c : Nat} {X Y Z : World} (h : K3 a b c X Y) (g : K3 a b c Y Z) : K3 a b c X Z := ⟨g.1.trans h.1, g.2.1.trans h.2.1, g.2.2.trans h.2.2⟩
theorem K3.put {a b c B : Nat} (ha : a < B) (hb : b < B) (hc : c < B) (W : World) (l : Nat) (o' : Obj) (hl : B ≤ l) : K3 a b c W (W.putObj l o') :=
  ⟨World.putObj_heap_other (by omega), World.putObj_heap_other (by omega), World.putObj_heap_other (by omega)⟩
def strLen (w : World) (b : Nat) : Nat := match w.cell? ⟨b, 0, none⟩ with | some (.string x) => x.size | _ => 0
theorem strLen_of {w : World} {b : Nat} {t : TypeId} {l : List UInt8} (h : Boxed w b t (.string ⟨l.toArray⟩)) : strLen w b = l.length := by
  unfold strLen
  rw [h.cell]
  simp [ByteArray.size]
theorem drop_some {α : Type} {ps r : List α} {k : Nat} {x : α} (h : ps.drop k = x :: r) : ps[k]? = some x ∧ ps.drop (k + 1) = r := by
  constructor
  · have := congrArg (fun l => l[0]?) h
    simpa using this
  · rw [← List.drop_drop, h]; rfl
theorem drop_lt {c : UInt8} {kp : List UInt8} {ps : List (List UInt8)} {k : Nat} {y : List UInt8} (h : ps.drop k = splitK c kp y) : k ≤ ps.length := by
  by_cases hk : k ≤ ps.length
  · exact hk
  · rw [List.drop_of_length_le (by omega)] at h; exact absurd h.symm (splitK_ne c kp y)
theorem drop_one {α : Type} {ps : List α} {k : Nat} {x : α} (h : ps.drop k = [x]) : ps[k]? = some x ∧ ps.length = k + 1 := by
  refine ⟨(drop_some h).1, ?_⟩
  have := congrArg List.length h
  simp at this
  omega

set_option maxRecDepth 100000 in
set_option maxHeartbeats 4000000 in
theorem split1_in (n : Nat) (hn : 1 ≤ n) (c : UInt8) (kp s : List UInt8) (hkp : kp = [] ∨ kp = [c]) (hs : s.length ≤ 1000000) (Bp Bs Bk : Nat) (w : World) (hps : Bp ≠ Bs) (hks : Bk ≠ Bs)
    (hp : Boxed w Bp 9 (.string ⟨#[c]⟩)) (hb : Boxed w Bs 9 (.string ⟨s.toArray⟩)) (hk : Boxed w Bk 3 (.int .i64 kp.length)) :
    IterC Fence.wide n Tryz.prog 85 #[.pointer (some ⟨Bp, 0, none⟩), .pointer (some ⟨Bs, 0, none⟩), .pointer (some ⟨Bk, 0, none⟩)] (fun l : List UInt8 => .string ⟨l.toArray⟩) Bs (K3 Bp Bs Bk) (splitK c kp s) w := by
  intro l J Jx W hW hJ hJx hY h0
  replace hp : Boxed W Bp _ _ := (hW.block _ hp.lt).trans hp
  replace hb : Boxed W Bs _ _ := (hW.block _ hb.lt).trans hb
  replace hk : Boxed W Bk _ _ := (hW.block _ hk.lt).trans hk
  refine callsIn_of_wp Tryz.func85 rfl trivial ?_ rfl
  simp only [Tryz.ntmps85, List.size_toArray, List.length_cons, List.length_nil, Nat.reduceAdd, Nat.reduceSub, Array.replicate_succ, Array.replicate_zero, List.push_toArray, List.append_toArray, List.nil_append, List.cons_append]
  have HJ := Lib.hid hJ
  have HJx := Lib.hid hJx
  have HY := Lib.hid hY
  have H0 := Lib.hid h0
  have q0 := hp.cell
  have HP := Lib.hid hp
  have HB := Lib.hid hb
  have HK := Lib.hid hk
  clear hJ hJx hY h0 hp hb hk
  gi_wp2
  gi_loopw [7] (fun i wr => Hid (∃ (k : Nat) (r : List UInt8), (splitK c kp s).drop k = splitK c kp r ∧ r.length ≤ 1000000 ∧ J k wr ∧ Boxed wr Bp 9 (.string ⟨#[c]⟩) ∧ Boxed wr Bs 9 (.string ⟨r.toArray⟩) ∧ Boxed wr Bk 3 (.int .i64 kp.length))) (fun i wr => strLen wr Bs)
  case atStart => exact Lib.hid ⟨0, s, rfl, hs, H0.out, HP.out, HB.out, HK.out⟩
  case round =>
    obtain ⟨k, r, hd, hr, hj, hp, hb, hk⟩ := hrel.out
    clear hrel
    have q0 := hp.cell
    have q1 := hb.cell
    have q2 := hk.cell
    have qf := hb.frozen
    have HJk := Lib.hid hj
    have HP := Lib.hid hp
    have HB := Lib.hid hb
    have HK := Lib.hid hk
    clear hj hp hb hk
    by_cases hc : c ∈ r
    · obtain ⟨x, y, hxy, hx⟩ := indexByte_some hc
      have hi : Lib.indexByte r c = (x.length : Int) := by rw [hxy]; exact indexByte_at hx
      have HI : Hid (∀ w', Calls Tryz.prog 67 #[.string ⟨r.toArray⟩, .string ⟨#[c]⟩] w' fun e w'' => e = .returned (.int .i64 (x.length : Int)) ∧ w'' = w') := Lib.hid fun w' => by
        have h := Tryz.strings_Index_one ⟨r.toArray⟩ c w'
        rw [show (⟨r.toArray⟩ : ByteArray).data.toList = r by simp, hi] at h
        exact h
      have hxl : x.length + 1 + y.length = r.length := by rw [hxy]; simp; omega
      have hkl : kp.length ≤ 1 := by rcases hkp with rfl | rfl <;> simp
      have hkl' : (kp.length : Int) ≤ 1 := by omega
      have hm : (x.length : Int) + (kp.length : Int) ≤ (r.length : Int) := by omega
      have hm2 : (x.length : Int) + 1 ≤ (r.length : Int) := by omega
      have E1 : (⟨r.toArray⟩ : ByteArray).extract 0 (x.length + kp.length) = ⟨(x ++ kp).toArray⟩ := by
        rcases hkp with rfl | rfl
        · rw [hxy]; simpa using ext_front x (c :: y)
        · rw [hxy]; simpa using ext_front (x ++ [c]) y
      have E2 : (⟨r.toArray⟩ : ByteArray).extract (x.length + 1) r.length = ⟨y.toArray⟩ := by
        rw [hxy]; simpa using ext_back (x ++ [c]) y
      have hd' : (splitK c kp s).drop k = (x ++ kp) :: splitK c kp y := by rw [hd, hxy, splitK_hit hx]
      obtain ⟨hps', hd2⟩ := drop_some hd'
      obtain ⟨fn, tmps, assign, body, hy, hR⟩ := HY.out k (x ++ kp) wr HJk.out hps'
      rw [← E1] at hy
      have HE2 := Lib.hid E2
      have HD2 := Lib.hid hd2
      have hyl : y.length ≤ 1000000 := by omega
      have hrl : y.length < r.length := by omega
      clear E1 E2 hd hd' hps' hd2 hi hxy hx hc hxl
      gi_wp2_with (refine ⟨trivial, ?_⟩; gi_at_call 67; refine (callsIn_wide.2 (HI.out _)).mono ?_; rintro e w1 ⟨rfl, rfl⟩)
      refine hR.mono ?_
      rintro e W3 (⟨rfl, hJ3, hk3⟩ | ⟨rfl, hJx3⟩)
      · have HJ3 := Lib.hid hJ3
        have b0 : Boxed W3 Bp 9 (.string ⟨#[c]⟩) := hk3.1.trans HP.out
        have b1 : Boxed W3 Bs 9 (.string ⟨r.toArray⟩) := hk3.2.1.trans HB.out
        have b2 : Boxed W3 Bk 3 (.int .i64 kp.length) := hk3.2.2.trans HK.out
        have c0 := b0.cell
        have c1 := b1.cell
        have cf := b1.frozen
        have B0 := Lib.hid b0
        have B1 := Lib.hid b1
        have B2 := Lib.hid b2
        clear hJ3 hk3 hR hy b0 b1 b2
        gi_wp2
        rw [HE2.out]
        have bs := B1.out.set (.string ⟨y.toArray⟩)
        go_roundw
        case rel => exact Lib.hid ⟨k + 1, y, HD2.out, hyl, HJ.out _ _ _ HJ3.out (grownBy_setCell' _ _ _), B0.out.other hps _, bs, B2.out.other hks _⟩
        case measure => rw [strLen_of bs, strLen_of HB.out]; exact hrl
      · have HX := Lib.hid (And.intro hJx3 (drop_lt HD2.out))
        clear hJx3
        gi_wp2
        refine bodyPost_ret (results_none rfl _ _ _) rfl ?_
        exact ⟨⟨_, rfl⟩, .inr ⟨k + 1, HX.out.2, HX.out.1⟩⟩
    · have hi : Lib.indexByte r c = -1 := indexByte_none hc
      have HI : Hid (∀ w', Calls Tryz.prog 67 #[.string ⟨r.toArray⟩, .string ⟨#[c]⟩] w' fun e w'' => e = .returned (.int .i64 (-1)) ∧ w'' = w') := Lib.hid fun w' => by
        have h := Tryz.strings_Index_one ⟨r.toArray⟩ c w'
        rw [show (⟨r.toArray⟩ : ByteArray).data.toList = r by simp, hi] at h
        exact h
      have hd' : (splitK c kp s).drop k = [r] := by rw [hd, splitK_miss hc]
      obtain ⟨hps', hlen⟩ := drop_one hd'
      obtain ⟨fn, tmps, assign, body, hy, hR⟩ := HY.out k r wr HJk.out hps'
      have HL := Lib.hid hlen
      clear hd hd' hps' hlen hi hc
      gi_wp2_with (refine ⟨trivial, ?_⟩; gi_at_call 67; refine (callsIn_wide.2 (HI.out _)).mono ?_; rintro e w1 ⟨rfl, rfl⟩)
      refine hR.mono ?_
      rintro e W3 (⟨rfl, hJ3, hk3⟩ | ⟨rfl, hJx3⟩)
      · have HJ3 := Lib.hid hJ3
        clear hJ3 hk3 hR hy
        gi_wp2
        go_end0
        exact ⟨⟨_, rfl⟩, .inl (by rw [HL.out]; exact HJ3.out)⟩
      · have HX := Lib.hid hJx3
        clear hJx3
        gi_wp2
        go_end0
        exact ⟨⟨_, rfl⟩, .inr ⟨k + 1, by rw [HL.out]; exact Nat.le_refl _, HX.out⟩⟩

/-- strings.splitSeq: the boxes, and the function value over them. -/
theorem splitSeq_in (n : Nat) (s : List UInt8) (c : UInt8) (k : Int) (w : World) :
    CallsIn Fence.wide n Tryz.prog 52 #[.string ⟨s.toArray⟩, .string ⟨#[c]⟩, .int .i64 k] w fun e w' => e = .returned (.func (.func 85) #[] #[.pointer (some ⟨w.heap.size + 1, 0, none⟩), .pointer (some ⟨w.heap.size, 0, none⟩), .pointer (some ⟨w.heap.size + 1 + 1, 0, none⟩)]) ∧
      w' = ((w.alloc (.cells #[.string ⟨s.toArray⟩] 9)).alloc (.cells #[.string ⟨#[c]⟩] 9)).alloc (.cells #[.int .i64 k] 3) := by
  refine callsIn_of_wp Tryz.func52 rfl trivial ?_ rfl
  simp only [Tryz.ntmps52, List.size_toArray, List.length_cons, List.length_nil, Nat.reduceAdd, Nat.reduceSub, Array.replicate_succ, Array.replicate_zero, List.push_toArray, List.append_toArray, List.nil_append, List.cons_append]
  gi_wp2
  go_ret
  exact ⟨rfl, rfl⟩
theorem SplitSeq_in (n : Nat) (hn : 1 ≤ n) (s : List UInt8) (c : UInt8) (w : World) :
    CallsIn Fence.wide n Tryz.prog 24 #[.string ⟨s.toArray⟩, .string ⟨#[c]⟩] w fun e w' => e = .returned (.func (.func 85) #[] #[.pointer (some ⟨w.heap.size + 1, 0, none⟩), .pointer (some ⟨w.heap.size, 0, none⟩), .pointer (some ⟨w.heap.size + 1 + 1, 0, none⟩)]) ∧
      w' = ((w.alloc (.cells #[.string ⟨s.toArray⟩] 9)).alloc (.cells #[.string ⟨#[c]⟩] 9)).alloc (.cells #[.int .i64 0] 3) := by
  refine callsIn_of_wp Tryz.func24 rfl trivial ?_ rfl
  simp only [Tryz.ntmps24, List.size_toArray, List.length_cons, List.length_nil, Nat.reduceAdd, Nat.reduceSub, Array.replicate_succ, Array.replicate_zero, List.push_toArray, List.append_toArray, List.nil_append, List.cons_append]
  gi_wp2_with (refine ⟨trivial, ?_⟩; gi_at_call 52; refine (splitSeq_in _ _ _ _ _).mono ?_; rintro e w1 ⟨rfl, rfl⟩)
  go_ret
  exact ⟨rfl, rfl⟩

end Go.Proofs.YtpofbhaipeiegaaGreatDoor
