/-
  The reader of trace.read: its methods word, number, name: what each returns and leaves.
-/
import Derived.Test.YtjcnjnonhncelaaDoorPar
import Derived.Test.YtjcnjnonhncelaaDoorCut
import Derived.Test.YtjcnjnonhncelaaDoorAtoi
import Derived.Test.YtjcnjnonhncelaaDoorTx
import Derived.RangeFuncBox
import Derived.Maps.AppendAt
namespace Go.Proofs.YtjcnjnonhncelaaDoor
open Go.RowKit Go.Sort

/-- The reader's box: what is left of the line. -/
def RdB (w : World) (b : Nat) (s : List UInt8) : Prop := Boxed w b 100 (.string ⟨s.toArray⟩)
theorem grown_below {w w' : World} (hb : Below w.heap.size w w') (row : Option Nat) : w.grownBy w' row := ⟨hb.os, hb.tape, hb.output, hb.size, fun k hk _ => hb.block k hk⟩
theorem grown_refl (w : World) (row : Option Nat) : w.grownBy w row := ⟨rfl, rfl, rfl, Nat.le_refl _, fun _ _ _ => rfl⟩
theorem below_grown {B : Nat} {w0 w w' : World} {b : Nat} (h : Below B w0 w) (hg : w.grownBy w' (some b)) (hB : B ≤ b) (hs : B ≤ w.heap.size) : Below B w0 w' :=
  ⟨hg.os.trans h.os, hg.tape.trans h.tape, hg.output.trans h.output, Nat.le_trans h.size hg.size, fun k hk => (hg.block k (by omega) (fun e => by injection e with e; omega)).trans (h.block k hk)⟩

set_option maxHeartbeats 1000000 in
theorem reader_word (b : Nat) (s : List UInt8) (hs : s.length ≤ 900000) (w : World) (h : RdB w b s) :
    Calls Tryd.prog 77 #[.pointer (some ⟨b, 0, none⟩)] w fun e w' => e = .returned (.string ⟨(hdW s).toArray⟩) ∧ RdB w' b (tlW s) ∧ w.grownBy w' (some b) := by
  have c0 := h.cell
  have HB := Lib.hid h
  by_cases hm : (32 : UInt8) ∈ s
  · obtain ⟨x, y, rfl, hx⟩ := indexByte_some hm
    have HC : Hid (∀ W, Calls Tryd.prog 99 #[.string ⟨(x ++ 32 :: y).toArray⟩, .string ⟨#[32]⟩] W fun e w' => e = .returned (.tuple #[.string ⟨x.toArray⟩, .string ⟨y.toArray⟩, .bool true]) ∧ Below W.heap.size W w') := Lib.hid (strings_cut_hit x y hx (by simp at hs; omega))
    rw [hdW_hit hx, tlW_hit hx]
    generalize x ++ 32 :: y = s at *
    clear h hm hx
    go_enter Tryd.func77, Tryd.ntmps77
    go_wp2_with fail
    refine (HC.out _).mono ?_
    rintro e w1 ⟨rfl, hb⟩
    have hbx : RdB w1 b s := HB.out.kept (grown_below hb none) (fun e => by cases e)
    have c1 := hbx.cell
    have f1 := hbx.frozen
    have HBX := Lib.hid hbx
    have HG := Lib.hid hb
    clear hbx hb
    go_wp2_with fail
    go_ret
    exact ⟨rfl, HBX.out.set _, (grown_below HG.out _).trans (grownBy_setCell' _ _ _)⟩
  · have HC : Hid (∀ W, Calls Tryd.prog 99 #[.string ⟨s.toArray⟩, .string ⟨#[32]⟩] W fun e w' => e = .returned (.tuple #[.string ⟨s.toArray⟩, .string ⟨#[]⟩, .bool false]) ∧ Below W.heap.size W w') := Lib.hid (strings_cut_miss s hm)
    rw [hdW_miss hm, tlW_miss hm]
    clear h hm
    go_enter Tryd.func77, Tryd.ntmps77
    go_wp2_with fail
    refine (HC.out _).mono ?_
    rintro e w1 ⟨rfl, hb⟩
    have hbx : RdB w1 b s := HB.out.kept (grown_below hb none) (fun e => by cases e)
    have c1 := hbx.cell
    have f1 := hbx.frozen
    have HBX := Lib.hid hbx
    have HG := Lib.hid hb
    clear hbx hb
    go_wp2_with fail
    go_ret
    exact ⟨rfl, HBX.out.set _, (grown_below HG.out _).trans (grownBy_setCell' _ _ _)⟩

set_option maxHeartbeats 1000000 in
theorem reader_number (b : Nat) (s : List UInt8) (hs : s.length ≤ 900000) (w : World) (h : RdB w b s) (hE : ∀ w', w.grownBy w' (some b) → Errs w') :
    Calls Tryd.prog 61 #[.pointer (some ⟨b, 0, none⟩)] w fun e w' => e = .returned (.int .i64 (numP (hdW s))) ∧ RdB w' b (tlW s) ∧ w.grownBy w' (some b) := by
  have HE := Lib.hid hE
  have HB := Lib.hid h
  have hl := hdW_len s
  clear h hE
  cases ha : Lib.atoiAll (hdW s) with
  | ok v =>
    have HR : Hid (numP (hdW s) = v) := Lib.hid (by simp [numP, ha])
    have HA := Lib.hid (atoi_ok (hdW s) v ha (by omega))
    clear ha
    go_enter Tryd.func61, Tryd.ntmps61
    go_wp2_with fail
    refine (reader_word b s hs _ HB.out).mono ?_
    rintro e w1 ⟨rfl, h1, hg⟩
    have HB1 := Lib.hid h1
    have HG := Lib.hid hg
    clear h1 hg
    go_wp2_with fail
    refine (HA.out _).mono ?_
    rintro e w2 ⟨rfl, hb⟩
    have HB2 := Lib.hid (HB1.out.kept (grown_below hb none) (fun e => by cases e))
    have HG2 := Lib.hid (HG.out.trans (grown_below hb _))
    clear hb
    go_wp2_with fail
    go_ret
    exact ⟨by rw [HR.out]; rfl, HB2.out, HG2.out⟩
  | «syntax» =>
    have HR : Hid (numP (hdW s) = -1) := Lib.hid (by simp [numP, ha])
    have HA := Lib.hid (atoi_bad (hdW s) (by intro v; rw [ha]; intro e; cases e) (by omega))
    clear ha
    go_enter Tryd.func61, Tryd.ntmps61
    go_wp2_with fail
    refine (reader_word b s hs _ HB.out).mono ?_
    rintro e w1 ⟨rfl, h1, hg⟩
    have HB1 := Lib.hid h1
    have HG := Lib.hid hg
    clear h1 hg
    go_wp2_with fail
    refine (HA.out _ (HE.out _ HG.out)).mono ?_
    rintro e w2 ⟨n, tp, p, rfl, hb⟩
    have HB2 := Lib.hid (HB1.out.kept (grown_below hb none) (fun e => by cases e))
    have HG2 := Lib.hid (HG.out.trans (grown_below hb _))
    clear hb
    go_wp2_with fail
    go_ret
    exact ⟨by rw [HR.out]; rfl, HB2.out, HG2.out⟩
  | range =>
    have HR : Hid (numP (hdW s) = -1) := Lib.hid (by simp [numP, ha])
    have HA := Lib.hid (atoi_bad (hdW s) (by intro v; rw [ha]; intro e; cases e) (by omega))
    clear ha
    go_enter Tryd.func61, Tryd.ntmps61
    go_wp2_with fail
    refine (reader_word b s hs _ HB.out).mono ?_
    rintro e w1 ⟨rfl, h1, hg⟩
    have HB1 := Lib.hid h1
    have HG := Lib.hid hg
    clear h1 hg
    go_wp2_with fail
    refine (HA.out _ (HE.out _ HG.out)).mono ?_
    rintro e w2 ⟨n, tp, p, rfl, hb⟩
    have HB2 := Lib.hid (HB1.out.kept (grown_below hb none) (fun e => by cases e))
    have HG2 := Lib.hid (HG.out.trans (grown_below hb _))
    clear hb
    go_wp2_with fail
    go_ret
    exact ⟨by rw [HR.out]; rfl, HB2.out, HG2.out⟩

set_option maxHeartbeats 1000000 in
theorem reader_name (b nb : Nat) (l : List (List UInt8)) (s : List UInt8) (hs : s.length ≤ 900000) (hl : l.length ≤ 1000) (w : World) (h : RdB w b s) (hne : nb ≠ b)
    (hc : ∀ (j : Nat) x, l[j]? = some x → w.cell? ⟨nb, j, none⟩ = some (.string ⟨x.toArray⟩)) :
    Calls Tryd.prog 62 #[.pointer (some ⟨b, 0, none⟩), .slice (some ⟨nb, 0, none⟩) l.length l.length] w fun e w' => e = .returned (.int .i64 (nameP l (hdW s))) ∧ RdB w' b (tlW s) ∧ w.grownBy w' (some b) := by
  have HC := Lib.hid hc
  have HB := Lib.hid h
  clear h hc
  go_enter Tryd.func62, Tryd.ntmps62
  go_wp2_with fail
  refine (reader_word b s hs _ HB.out).mono ?_
  rintro e w1 ⟨rfl, h1, hg⟩
  have HB1 := Lib.hid h1
  have HG := Lib.hid hg
  have HC1 : Hid (∀ j, j < (bas l).length → w1.cell? ⟨nb, 0 + j, none⟩ = some (.string ((bas l).getD j ByteArray.empty))) := Lib.hid fun j hj => by
    have hjl : j < l.length := by simpa [bas] using hj
    have hx := HC.out j _ (List.getElem?_eq_getElem hjl)
    rw [Nat.zero_add, World.cell?_of_block (HG.out.block nb (World.block_lt_of_cell? w _ hx) (fun e => hne (by injection e))), hx]
    simp [bas, List.getD_eq_getElem?_getD, List.getElem?_eq_getElem hjl]
  have HN : Hid ((bas l).take l.length = bas l) := Lib.hid (List.take_of_length_le (by simp [bas]))
  clear h1 hg
  go_wp2_with fail
  refine (Tryd.slices_Index_string nb 0 l.length l.length (bas l) _ _ (by simp [bas]) (by omega) HC1.out).mono ?_
  rintro e w2 ⟨rfl, rfl⟩
  go_wp2_with fail
  go_ret
  exact ⟨by rw [HN.out]; rfl, HB1.out, HG.out⟩

end Go.Proofs.YtjcnjnonhncelaaDoor
