/-
  config.split: the words of a line (printed by gen_split.py).
  One walk in the order of the text for a region that draws its order, inside a round of a range over a function (the library's law asks that no round be under way; what it needs is that no operation defers).
  config.Parse: what the parser keeps between lines; what Parse returns, in plain Lean.
  slices.Contains of a row of bools.
  What a line's meaning never is: the error 0; and how many prefixes it adds.
-/
import Derived.Test.YtfimacgmciogmaaGreatDoorPkBase
import Derived.Test.YtfimacgmciogmaaGreatDoorPkText
import Derived.Lib.QuietBelowIn
import Derived.Sort.BigQuietIn
import Derived.Test.YtfimacgmciogmaaGreatDoorCfgLn
import Derived.Stop.RegionWithIn
import Derived.Test.YtfimacgmciogmaaGreatDoorPkCfgT
namespace Go.Proofs.YtfimacgmciogmaaGreatDoor
set_option linter.unusedSimpArgs false
set_option linter.unusedVariables false
open Go.RowKit Go.Sort
def symB (c : UInt8) : Bool := c == 61 || c == 40 || c == 41 || c == 43 || c == 45 || c == 42 || c == 60 || c == 62
def spcB (c : UInt8) : Bool := c == 32 || c == 9
/-- The words of a line, behind a word that has begun. -/
def wordsK (u : List UInt8) : List UInt8 → List (List UInt8)
 | [] => if u = [] then [] else [u]
 | x :: r => if (symB x || spcB x) = true then ((if u = [] then [] else [u]) ++ (if spcB x = true then [] else [[x]])) ++ wordsK [] r else wordsK (u ++ [x]) r
def wordsS (l : List UInt8) : List (List UInt8) := wordsK [] (cutA 35 l).1
def sepL : List UInt8 := [61, 40, 41, 43, 45, 42, 60, 62, 32, 9]
theorem sep_mem (c : UInt8) : c ∈ sepL ↔ (symB c || spcB c) = true := by
 simp [sepL, symB, spcB, or_assoc]
theorem sep_index (c : UInt8) : decide (0 ≤ Lib.indexByte sepL c) = (symB c || spcB c) := by
 by_cases h : c ∈ sepL
 ·rw [(sep_mem c).1 h]
  obtain ⟨x, y, e, hx⟩ := indexByte_some h
  rw [e, indexByte_at hx]
  simp
 ·rw [indexByte_none h]
  cases hb : (symB c || spcB c) with
  | true => exact absurd ((sep_mem c).2 hb) h
  | false => rfl
set_option maxHeartbeats 8000000 in
set_option maxRecDepth 100000 in
theorem cfg_split (s : List UInt8) (hs : s.length ≤ 1000000) (w : World) :
  Calls Tryz.prog 11 #[.string ⟨s.toArray⟩] w fun e w' => ∃ A c, e = .returned (.slice A (wordsS s).length c) ∧ (wordsS s).length ≤ c ∧ c ≤ maxLen ∧ Rd w' A ((wordsS s).map strW) ∧ Below w.heap.size w w' ∧ ∀ a, A = some a → w.heap.size ≤ a.block ∧ a.block < w'.heap.size := by
 obtain ⟨i0, hi, hz0, hz1, hz2⟩ := info_parts strInfo'
 obtain ⟨R, hR⟩ : ∃ R, R = wordsS s := ⟨_, rfl⟩
 rw [← hR]
 obtain ⟨l, hl⟩ : ∃ l, l = (cutA 35 s).1 := ⟨_, rfl⟩
 have hll : l.length ≤ 1000000 := by rw [hl]; exact Nat.le_trans (cutA_len 35 s) hs
 have HR0 : Hid (R = wordsK [] l) := Lib.hid (by rw [hR, hl]; rfl)
 have HCUT : Hid (Calls Tryz.prog 30 #[.string ⟨s.toArray⟩, .string ⟨#[35]⟩] w fun e w' => e = .returned (.tuple #[.string ⟨l.toArray⟩, .string ⟨(cutA 35 s).2.1.toArray⟩, .bool (cutA 35 s).2.2]) ∧ Below w.heap.size w w') := Lib.hid (by rw [hl]; exact strings_Cut1 35 s hs w)
 clear hR hl
 generalize (cutA 35 s).2.1 = rem1 at HCUT
 generalize (cutA 35 s).2.2 = fnd at HCUT
 go_enter Tryz.func11, Tryz.ntmps11
 go_wp2_with (go_at_call 30; refine HCUT.out.mono ?_; rintro e w1 ⟨rfl, hb1⟩)
 have HB1 := Lib.hid hb1
 clear hb1 HCUT
 go_loopw [3, 4, 15] (fun v bv iv wr => ∃ (k : Nat) (ou : List (List UInt8)) (q u : List UInt8), k ≤ l.length + 1 ∧ iv = .int .i64 k ∧ (∃ bi, bv = .int .i64 bi) ∧ Hid ((k ≤ l.length ∧ l.take k = q ++ u ∧ bv = .int .i64 (q.length : Int) ∧ ou ++ wordsK u (l.drop k) = R) ∨ (k = l.length + 1 ∧ ou = R)) ∧ ou.length ≤ 2 * k ∧ Hid (wr.ownsRow w.heap.size 9 1 v ou.length (ou.map strW)) ∧ Hid (Below w.heap.size w wr)) (fun _ _ iv _ => l.length + 1 - (intOf iv).toNat)
 case atStart => exact ⟨0, [], [], [], by omega, rfl, ⟨_, rfl⟩, Lib.hid (.inl ⟨Nat.zero_le _, rfl, rfl, by simpa using HR0.out.symm⟩), Nat.zero_le _, Lib.hid (World.ownsRow_nil _ _ _ _), HB1⟩
 case round =>
  clear HB1
  obtain ⟨k, ou, q, u, hk, rfl, ⟨bi, rfl⟩, HI, hou, HO, HB⟩ := hrel
  by_cases hkl : k = l.length + 1
  ·have HE : Hid (ou = R) := Lib.hid (by
    rcases HI.out with h | h
    ·omega
    ·exact h.2)
   obtain rfl := HE.out
   obtain ⟨A, cp, rfl, h1, h2, h3⟩ := rd_of_own HO.out
   have HRR := Lib.hid (And.intro h1 (And.intro h2 h3))
   have HFR : Hid (∀ a, A = some a → w.heap.size ≤ a.block ∧ a.block < wr.heap.size) := Lib.hid (by rintro a rfl; exact HO.out.lt a.block rfl)
   clear h1 h2 h3 HO HI HE
   have hk2 : (k : Int) = (l.length : Int) + 1 := by omega
   go_wp2_with fail
   go_ret
   exact ⟨A, cp, rfl, HRR.out.1, HRR.out.2.1, HRR.out.2.2, HB.out, HFR.out⟩
  have hkl2 : k ≤ l.length := by omega
  obtain ⟨HQ, HBI, HR⟩ : Hid (l.take k = q ++ u) ∧ bi = (q.length : Int) ∧ Hid (ou ++ wordsK u (l.drop k) = R) := by
   rcases HI.out with h | h
   ·exact ⟨Lib.hid h.2.1, by injection h.2.2.1, Lib.hid h.2.2.2⟩
   ·omega
  subst HBI
  have hqu : q.length + u.length = k := by
   have := congrArg List.length HQ.out
   rw [List.length_take, List.length_append] at this
   omega
  have HOU := Lib.hid hou
  have hq0 : (0 : Int) ≤ (q.length : Int) := by omega
  have hq1 : (q.length : Int) ≤ (k : Int) := by omega
  have hq2 : (k : Int) ≤ (l.length : Int) := by omega
  have E2 := ext_mid HQ.out hkl2
  clear HI hou
  by_cases hlt : k < l.length
  ·have hlt1 : (k : Int) < (l.length : Int) + 1 := by omega
   have hlt2 : (k : Int) < (l.length : Int) := by omega
   have hlt3 : (k : Int) + 1 ≤ (l.length : Int) := by omega
   have hlt4 : (k : Int) ≤ (k : Int) + 1 := by omega
   have hlt5 : (0 : Int) ≤ (k : Int) := by omega
   obtain ⟨x, hx⟩ : ∃ x, l[k]? = some x := ⟨_, List.getElem?_eq_getElem hlt⟩
   obtain ⟨_, hxe⟩ := List.getElem?_eq_some_iff.1 hx
   have hx2 : (⟨l.toArray⟩ : ByteArray)[k]'(by simpa [ByteArray.size] using hlt) = x := by simpa [ByteArray.getElem_eq_getElem_data] using hxe
   have hd : l.drop k = x :: l.drop (k + 1) := by rw [List.drop_eq_getElem_cons hlt, hxe]
   have htk : l.take (k + 1) = l.take k ++ [x] := by rw [List.take_succ_eq_append_getElem hlt, hxe]
   have HT := Lib.hid htk
   have E1 : (⟨l.toArray⟩ : ByteArray).extract k (k + 1) = ⟨#[x]⟩ := by
    have := ext_mid (s := l) (q := l.take k) (cur := [x]) (i := k + 1) htk (by omega)
    rwa [List.length_take, Nat.min_eq_left hkl2] at this
   replace HR : Hid (ou ++ wordsK u (x :: l.drop (k + 1)) = R) := Lib.hid (by rw [← hd]; exact HR.out)
   have HX : Hid (∀ w', Calls Tryz.prog 31 #[.string ⟨#[61, 40, 41, 43, 45, 42, 60, 62, 32, 9]⟩, .string ⟨#[x]⟩] w' fun e w'' => e = .returned (.bool (symB x || spcB x)) ∧ w'' = w') := Lib.hid fun w' => by
    have h := Tryz.strings_Contains_one ⟨#[61, 40, 41, 43, 45, 42, 60, 62, 32, 9]⟩ x w'
    rw [← sep_index]
    exact h
   clear hx hxe hd htk
   have h32 : ((x.toNat : Int) == 32) = (x == 32) := by
    by_cases h : x = 32
    ·subst h; rfl
    ·rw [beq_eq_false_iff_ne.2 h, beq_eq_false_iff_ne]; intro e; exact h (UInt8.toNat_inj.1 (by simpa using (by omega : x.toNat = 32)))
   have h9 : ((x.toNat : Int) == 9) = (x == 9) := by
    by_cases h : x = 9
    ·subst h; rfl
    ·rw [beq_eq_false_iff_ne.2 h, beq_eq_false_iff_ne]; intro e; exact h (UInt8.toNat_inj.1 (by simpa using (by omega : x.toNat = 9)))
   have n32 : ((x.toNat : Int) != 32) = !(x == 32) := by rw [bne, h32]
   have n9 : ((x.toNat : Int) != 9) = !(x == 9) := by rw [bne, h9]
   clear h32 h9
   cases hsb : symB x || spcB x with
   | false =>
    rw [hsb] at HX
    have HSB := Lib.hid hsb
    clear hsb
    go_wp2_with (go_at_call 31; refine (HX.out _).mono ?_; rintro e w9 ⟨rfl, rfl⟩)
    go_roundw
    case rel => exact ⟨k + 1, ou, q, u ++ [x], by omega, by go_num, ⟨_, rfl⟩, Lib.hid (.inl ⟨by omega, by rw [HT.out, HQ.out, List.append_assoc], rfl, by simpa [wordsK, HSB.out] using HR.out⟩), by have := HOU.out; omega, HO, HB⟩
    case measure => simp [intOf]; omega
   | true =>
    rw [hsb] at HX
    cases hsp : spcB x with
    | true =>
     obtain ⟨b32, hb32⟩ : ∃ b, b = (x == 32) := ⟨_, rfl⟩
     have h9b : b32 = false → (x == 9) = true := by
      intro e; rw [hb32] at e; unfold spcB at hsp; rw [e] at hsp; simpa using hsp
     rw [← hb32] at n32
     have HKIND : Hid ((symB x || spcB x) = true ∧ spcB x = true) := Lib.hid ⟨hsb, hsp⟩
     clear hsb hsp hb32
     cases b32 with
     | true =>
      clear h9b n9
      simp only [Bool.not_true] at n32
      by_cases hue : u = []
      ·have HUE := Lib.hid hue
       have hqk : (q.length : Int) = (k : Int) := by rw [hue] at hqu; simp at hqu; omega
       have hqk2 : ¬ (q.length : Int) < (k : Int) := by omega
       clear hue
       -- spc empty
       go_wp2_with (first | (go_at_call 31; refine (HX.out _).mono ?_; rintro e w9 ⟨rfl, rfl⟩))
       go_roundw
       case rel => exact ⟨k + 1, ou, l.take (k + 1), [], by omega, by go_num, ⟨_, by go_num⟩, Lib.hid (.inl ⟨by omega, by simp, by rw [List.length_take, Nat.min_eq_left (by omega)]; go_num, by simpa [wordsK, HUE.out, HKIND.out] using HR.out⟩), by have := HOU.out; simp; omega, Lib.hid (by simpa using HO.out), Lib.hid HB.out⟩
       case measure => simp [intOf]; omega
      ·have HUE := Lib.hid hue
       have hqk : (q.length : Int) < (k : Int) := by have := List.length_pos_iff.2 hue; omega
       clear hue
       -- spc word
       go_wp2_with (first | (go_at_call 31; refine (HX.out _).mono ?_; rintro e w9 ⟨rfl, rfl⟩) | (at_builtin; refine wpList_append_own _ rfl _ _ 23 rfl w.heap.size 9 i0 (.string ⟨#[]⟩) 1 16 Tryz.underlying23 hi hz0 hz1 hz2 rfl (by decide) _ _ _ rfl (HO.out.alloc _) ⟨_, 0, none⟩ 1 1 [.string (⟨u.toArray⟩)] rfl rfl (cell_one_new _ _ _) ?d2a ?d3a ?d4a ?d5a ?_))
       case d2a => first | rfl | (intro u hu; simp at hu; subst hu; rfl)
       case d3a => unfold maxLen; have := HOU.out; (try simp only [List.length_append, List.length_cons, List.length_nil]); omega
       case d4a => have := HOU.out; (try simp only [List.length_append, List.length_cons, List.length_nil]); omega
       case d5a => have := HB.out.size; simp; omega
       intro va wa howna hgrowa _
       (try rw [E2] at howna)
       have HOa : Hid (wa.ownsRow w.heap.size 9 1 va (ou.length + 1) ((ou ++ [u]).map strW)) := Lib.hid (by rw [List.map_append]; exact howna)
       have HBa := Lib.hid (HB.out.trans (own_add' HO.out HB.out.size hgrowa))
       clear howna hgrowa
       go_wp2_with fail
       go_roundw
       case rel => exact ⟨k + 1, (ou ++ [u]), l.take (k + 1), [], by omega, by go_num, ⟨_, by go_num⟩, Lib.hid (.inl ⟨by omega, by simp, by rw [List.length_take, Nat.min_eq_left (by omega)]; go_num, by simpa [wordsK, HUE.out, HKIND.out] using HR.out⟩), by have := HOU.out; simp; omega, Lib.hid (by simpa using HOa.out), Lib.hid HBa.out⟩
       case measure => simp [intOf]; omega
     | false =>
      rw [h9b rfl] at n9
      clear h9b
      simp only [Bool.not_true, Bool.not_false] at n32 n9
      by_cases hue : u = []
      ·have HUE := Lib.hid hue
       have hqk : (q.length : Int) = (k : Int) := by rw [hue] at hqu; simp at hqu; omega
       have hqk2 : ¬ (q.length : Int) < (k : Int) := by omega
       clear hue
       -- spc empty
       go_wp2_with (first | (go_at_call 31; refine (HX.out _).mono ?_; rintro e w9 ⟨rfl, rfl⟩))
       go_roundw
       case rel => exact ⟨k + 1, ou, l.take (k + 1), [], by omega, by go_num, ⟨_, by go_num⟩, Lib.hid (.inl ⟨by omega, by simp, by rw [List.length_take, Nat.min_eq_left (by omega)]; go_num, by simpa [wordsK, HUE.out, HKIND.out] using HR.out⟩), by have := HOU.out; simp; omega, Lib.hid (by simpa using HO.out), Lib.hid HB.out⟩
       case measure => simp [intOf]; omega
      ·have HUE := Lib.hid hue
       have hqk : (q.length : Int) < (k : Int) := by have := List.length_pos_iff.2 hue; omega
       clear hue
       -- spc word
       go_wp2_with (first | (go_at_call 31; refine (HX.out _).mono ?_; rintro e w9 ⟨rfl, rfl⟩) | (at_builtin; refine wpList_append_own _ rfl _ _ 23 rfl w.heap.size 9 i0 (.string ⟨#[]⟩) 1 16 Tryz.underlying23 hi hz0 hz1 hz2 rfl (by decide) _ _ _ rfl (HO.out.alloc _) ⟨_, 0, none⟩ 1 1 [.string (⟨u.toArray⟩)] rfl rfl (cell_one_new _ _ _) ?d2a ?d3a ?d4a ?d5a ?_))
       case d2a => first | rfl | (intro u hu; simp at hu; subst hu; rfl)
       case d3a => unfold maxLen; have := HOU.out; (try simp only [List.length_append, List.length_cons, List.length_nil]); omega
       case d4a => have := HOU.out; (try simp only [List.length_append, List.length_cons, List.length_nil]); omega
       case d5a => have := HB.out.size; simp; omega
       intro va wa howna hgrowa _
       (try rw [E2] at howna)
       have HOa : Hid (wa.ownsRow w.heap.size 9 1 va (ou.length + 1) ((ou ++ [u]).map strW)) := Lib.hid (by rw [List.map_append]; exact howna)
       have HBa := Lib.hid (HB.out.trans (own_add' HO.out HB.out.size hgrowa))
       clear howna hgrowa
       go_wp2_with fail
       go_roundw
       case rel => exact ⟨k + 1, (ou ++ [u]), l.take (k + 1), [], by omega, by go_num, ⟨_, by go_num⟩, Lib.hid (.inl ⟨by omega, by simp, by rw [List.length_take, Nat.min_eq_left (by omega)]; go_num, by simpa [wordsK, HUE.out, HKIND.out] using HR.out⟩), by have := HOU.out; simp; omega, Lib.hid (by simpa using HOa.out), Lib.hid HBa.out⟩
       case measure => simp [intOf]; omega
    | false =>
     have hs32 : (x == 32) = false ∧ (x == 9) = false := by unfold spcB at hsp; simpa using hsp
     rw [hs32.1] at n32
     rw [hs32.2] at n9
     have HKIND : Hid (symB x = true ∧ spcB x = false) := Lib.hid ⟨by simpa [hsp] using hsb, hsp⟩
     clear hsb hsp hs32
     simp only [Bool.not_false] at n32 n9
     by_cases hue : u = []
     ·have HUE := Lib.hid hue
      have hqk : (q.length : Int) = (k : Int) := by rw [hue] at hqu; simp at hqu; omega
      have hqk2 : ¬ (q.length : Int) < (k : Int) := by omega
      clear hue
      -- sym empty
      go_wp2_with (first | (go_at_call 31; refine (HX.out _).mono ?_; rintro e w9 ⟨rfl, rfl⟩) | (at_builtin; refine wpList_append_own _ rfl _ _ 23 rfl w.heap.size 9 i0 (.string ⟨#[]⟩) 1 16 Tryz.underlying23 hi hz0 hz1 hz2 rfl (by decide) _ _ _ rfl (HO.out.alloc _) ⟨_, 0, none⟩ 1 1 [.string ⟨#[x]⟩] rfl rfl (cell_one_new _ _ _) ?d2b ?d3b ?d4b ?d5b ?_))
      case d2b => first | rfl | (intro u hu; simp at hu; subst hu; rfl)
      case d3b => unfold maxLen; have := HOU.out; (try simp only [List.length_append, List.length_cons, List.length_nil]); omega
      case d4b => have := HOU.out; (try simp only [List.length_append, List.length_cons, List.length_nil]); omega
      case d5b => have := HB.out.size; simp; omega
      intro vb wb hownb hgrowb _
      have HOb : Hid (wb.ownsRow w.heap.size 9 1 vb (ou.length + 1) ((ou ++ [[x]]).map strW)) := Lib.hid (by simpa [strW] using hownb)
      have HBb := Lib.hid (HB.out.trans (own_add' HO.out HB.out.size hgrowb))
      clear hownb hgrowb
      go_wp2_with fail
      go_roundw
      case rel => exact ⟨k + 1, (ou ++ [[x]]), l.take (k + 1), [], by omega, by go_num, ⟨_, by go_num⟩, Lib.hid (.inl ⟨by omega, by simp, by rw [List.length_take, Nat.min_eq_left (by omega)]; go_num, by simpa [wordsK, HUE.out, HKIND.out] using HR.out⟩), by have := HOU.out; simp; omega, Lib.hid (by simpa using HOb.out), Lib.hid HBb.out⟩
      case measure => simp [intOf]; omega
     ·have HUE := Lib.hid hue
      have hqk : (q.length : Int) < (k : Int) := by have := List.length_pos_iff.2 hue; omega
      clear hue
      -- sym word
      go_wp2_with (first | (go_at_call 31; refine (HX.out _).mono ?_; rintro e w9 ⟨rfl, rfl⟩) | (at_builtin; refine wpList_append_own _ rfl _ _ 23 rfl w.heap.size 9 i0 (.string ⟨#[]⟩) 1 16 Tryz.underlying23 hi hz0 hz1 hz2 rfl (by decide) _ _ _ rfl (HO.out.alloc _) ⟨_, 0, none⟩ 1 1 [.string (⟨u.toArray⟩)] rfl rfl (cell_one_new _ _ _) ?d2a ?d3a ?d4a ?d5a ?_))
      case d2a => first | rfl | (intro u hu; simp at hu; subst hu; rfl)
      case d3a => unfold maxLen; have := HOU.out; (try simp only [List.length_append, List.length_cons, List.length_nil]); omega
      case d4a => have := HOU.out; (try simp only [List.length_append, List.length_cons, List.length_nil]); omega
      case d5a => have := HB.out.size; simp; omega
      intro va wa howna hgrowa _
      (try rw [E2] at howna)
      have HOa : Hid (wa.ownsRow w.heap.size 9 1 va (ou.length + 1) ((ou ++ [u]).map strW)) := Lib.hid (by rw [List.map_append]; exact howna)
      have HBa := Lib.hid (HB.out.trans (own_add' HO.out HB.out.size hgrowa))
      clear howna hgrowa
      go_wp2_with (first | (go_at_call 31; refine (HX.out _).mono ?_; rintro e w9 ⟨rfl, rfl⟩) | (at_builtin; refine wpList_append_own _ rfl _ _ 23 rfl w.heap.size 9 i0 (.string ⟨#[]⟩) 1 16 Tryz.underlying23 hi hz0 hz1 hz2 rfl (by decide) _ _ _ rfl (HOa.out.alloc _) ⟨_, 0, none⟩ 1 1 [.string ⟨#[x]⟩] rfl rfl (cell_one_new _ _ _) ?d2b ?d3b ?d4b ?d5b ?_))
      case d2b => first | rfl | (intro u hu; simp at hu; subst hu; rfl)
      case d3b => unfold maxLen; have := HOU.out; (try simp only [List.length_append, List.length_cons, List.length_nil]); omega
      case d4b => have := HOU.out; (try simp only [List.length_append, List.length_cons, List.length_nil]); omega
      case d5b => have := HBa.out.size; simp; omega
      intro vb wb hownb hgrowb _
      have HOb : Hid (wb.ownsRow w.heap.size 9 1 vb (ou.length + 2) (((ou ++ [u]) ++ [[x]]).map strW)) := Lib.hid (by simpa [strW] using hownb)
      have HBb := Lib.hid (HBa.out.trans (own_add' HOa.out HBa.out.size hgrowb))
      clear hownb hgrowb
      go_wp2_with fail
      go_roundw
      case rel => exact ⟨k + 1, ((ou ++ [u]) ++ [[x]]), l.take (k + 1), [], by omega, by go_num, ⟨_, by go_num⟩, Lib.hid (.inl ⟨by omega, by simp, by rw [List.length_take, Nat.min_eq_left (by omega)]; go_num, by simpa [wordsK, HUE.out, HKIND.out] using HR.out⟩), by have := HOU.out; simp; omega, Lib.hid (by simpa using HOb.out), Lib.hid HBb.out⟩
      case measure => simp [intOf]; omega
  ·have hke : k = l.length := by omega
   have hlt1 : (k : Int) < (l.length : Int) + 1 := by omega
   have hlt2 : ¬ (k : Int) < (l.length : Int) := by omega
   replace HR : Hid (ou ++ wordsK u [] = R) := Lib.hid (by have := HR.out; rwa [hke, List.drop_length] at this)
   clear hlt
   subst hke
   by_cases hue : u = []
   ·have HUE := Lib.hid hue
    have hqk : (q.length : Int) = (l.length : Int) := by rw [hue] at hqu; simp at hqu; omega
    have hqk2 : ¬ (q.length : Int) < (l.length : Int) := by omega
    clear hue
    -- end empty
    go_wp2_with fail
    go_roundw
    case rel => exact ⟨l.length + 1, ou, [], [], by omega, by go_num, ⟨_, by go_num⟩, Lib.hid (.inr ⟨by omega, by simpa [wordsK, HUE.out] using HR.out⟩), by have := HOU.out; simp; omega, Lib.hid (by simpa using HO.out), Lib.hid HB.out⟩
    case measure => simp [intOf]
   ·have HUE := Lib.hid hue
    have hqk : (q.length : Int) < (l.length : Int) := by have := List.length_pos_iff.2 hue; omega
    clear hue
    -- end word
    go_wp2_with (first | (at_builtin; refine wpList_append_own _ rfl _ _ 23 rfl w.heap.size 9 i0 (.string ⟨#[]⟩) 1 16 Tryz.underlying23 hi hz0 hz1 hz2 rfl (by decide) _ _ _ rfl (HO.out.alloc _) ⟨_, 0, none⟩ 1 1 [.string (⟨u.toArray⟩)] rfl rfl (cell_one_new _ _ _) ?d2a ?d3a ?d4a ?d5a ?_))
    case d2a => first | rfl | (intro u hu; simp at hu; subst hu; rfl)
    case d3a => unfold maxLen; have := HOU.out; (try simp only [List.length_append, List.length_cons, List.length_nil]); omega
    case d4a => have := HOU.out; (try simp only [List.length_append, List.length_cons, List.length_nil]); omega
    case d5a => have := HB.out.size; simp; omega
    intro va wa howna hgrowa _
    (try rw [E2] at howna)
    have HOa : Hid (wa.ownsRow w.heap.size 9 1 va (ou.length + 1) ((ou ++ [u]).map strW)) := Lib.hid (by rw [List.map_append]; exact howna)
    have HBa := Lib.hid (HB.out.trans (own_add' HO.out HB.out.size hgrowa))
    clear howna hgrowa
    go_wp2_with fail
    go_roundw
    case rel => exact ⟨l.length + 1, (ou ++ [u]), [], [], by omega, by go_num, ⟨_, by go_num⟩, Lib.hid (.inr ⟨by omega, by simpa [wordsK, HUE.out] using HR.out⟩), by have := HOU.out; simp; omega, Lib.hid (by simpa using HOa.out), Lib.hid HBa.out⟩
    case measure => simp [intOf]
end Go.Proofs.YtfimacgmciogmaaGreatDoor
namespace Go.Proofs.YtfimacgmciogmaaGreatDoor
open Go.Sort Go.RowKit
section
variable {F : Fence} {n : Nat} {P : Program} {ops : Array Oper} {C : World → Prop} {md : Region.Mode}
end
end Go.Proofs.YtfimacgmciogmaaGreatDoor
namespace Go.Proofs.YtfimacgmciogmaaGreatDoor
set_option linter.unusedSimpArgs false
set_option linter.unusedVariables false
open Go.RowKit Go.Shelf Go.Sort
def c0 : Cf := ⟨[], [], [], [], [], [], [10, 35, 5, 20, 20], [], [], [false, false, false, false, false], [], []⟩
def r0 : Rws := ⟨none, 0, none, 0, none, 0, none, 0, none, 0, none, 0, none, 0, [], []⟩
/-- The lines, one after another: the configuration, or the line and the error. -/
def parseL : List (List UInt8) → Nat → Cf → Except (Nat × Int) Cf
 | [], _, c => .ok c
 | l :: r, k, c => if wordsS l = [] then parseL r (k + 1) c else match lineS true c (wordsS l) with
  | .error e => .error (k + 1, e)
  | .ok _ => match lineS false c (wordsS l) with
   | .error e => .error (k + 1, e)
   | .ok c' => parseL r (k + 1) c'
def parseC (s : List UInt8) : Except (Nat × Int) Cf :=
 match parseL (splitK 10 [] s) 0 c0 with
 | .error e => .error e
 | .ok c => if c.names = [] then .error (0, 8) else .ok c
theorem parseL_skip {l : List UInt8} {r : List (List UInt8)} {k : Nat} {c : Cf} (h : wordsS l = []) : parseL (l :: r) k c = parseL r (k + 1) c := by rw [parseL, if_pos h]
theorem parseL_e1 {l : List UInt8} {r : List (List UInt8)} {k : Nat} {c : Cf} {e : Int} (h : ¬ wordsS l = []) (h1 : lineS true c (wordsS l) = .error e) : parseL (l :: r) k c = .error (k + 1, e) := by rw [parseL, if_neg h, h1]
theorem parseL_e2 {l : List UInt8} {r : List (List UInt8)} {k : Nat} {c c1 : Cf} {e : Int} (h : ¬ wordsS l = []) (h1 : lineS true c (wordsS l) = .ok c1) (h2 : lineS false c (wordsS l) = .error e) : parseL (l :: r) k c = .error (k + 1, e) := by rw [parseL, if_neg h, h1]; simp only [h2]
theorem parseL_go {l : List UInt8} {r : List (List UInt8)} {k : Nat} {c c1 c2 : Cf} (h : ¬ wordsS l = []) (h1 : lineS true c (wordsS l) = .ok c1) (h2 : lineS false c (wordsS l) = .ok c2) : parseL (l :: r) k c = parseL r (k + 1) c2 := by rw [parseL, if_neg h, h1]; simp only [h2]
theorem pc_setw {k : List Value} {wv : Value} {i : Nat} {dry : Bool} (h : k.length = 22) (v : Value) : (pcells k wv i dry).setIfInBounds 22 v = pcells k v i dry := by
 unfold pcells
 rw [List.setIfInBounds_toArray, List.set_append_right _ _ (by omega), h]
 rfl
theorem pc_setd {k : List Value} {wv : Value} {i : Nat} {dry : Bool} (h : k.length = 22) (d : Bool) : (pcells k wv i dry).setIfInBounds 24 (.bool d) = pcells k wv i d := by
 unfold pcells
 rw [List.setIfInBounds_toArray, List.set_append_right _ _ (by omega), h]
 rfl
section
variable {B pb sb xb yb : Nat} {r : Rws} {c : Cf} {wv wv' : Value} {i i' : Nat} {dry dry' : Bool} {W W' Y : World}
theorem St.move (h : St B pb sb xb yb r c wv i dry W) (hl : LoN pb W W') (hb : W'.heap[pb]? = some (.cells (pcells (kOf r c sb xb yb) wv' i' dry') 52 (0, 0))) : St B pb sb xb yb r c wv' i' dry' W' := by
 have hlt := h.bl.1
 have e : ∀ b, b ≠ pb → b < W.heap.size → W'.heap[b]? = W.heap[b]? := fun b hb hs => hl.blk b hs (by simpa using hb)
 have hpx : xb ≠ pb := fun e => by
  obtain ⟨es, cl, h1, _⟩ := h.xm
  rw [e, h.blk] at h1; cases h1
 have hpy : yb ≠ pb := fun e => by
  obtain ⟨es, cl, h1, _⟩ := h.ym
  rw [e, h.blk] at h1; cases h1
 have hps : sb ≠ pb := fun e => by
  obtain ⟨es, cl, h1, _⟩ := h.sm
  rw [e, h.blk] at h1; cases h1
 exact ⟨hb, h.rows.keep fun g h1 h2 => e g (by omega) h2, h.sm.kept (e sb hps h.sm.lt), h.xm.kept (e xb hpx h.xm.lt), h.ym.kept (e yb hpy h.ym.lt), h.lim, h.ll, h.bl, Nat.le_trans h.sz hl.size⟩
theorem St.up (h : St B pb sb xb yb r c wv i dry W) (hb : Below W.heap.size W W') : St B pb sb xb yb r c wv i dry W' := h.move (LoN.below hb) ((hb.block pb (lt_of_heap h.blk)).trans h.blk)
theorem St.setW (h : St B pb sb xb yb r c wv i dry W) (v : Value) : St B pb sb xb yb r c v i dry (W.setCell ⟨pb, 22, none⟩ v) ∧ LoN pb W (W.setCell ⟨pb, 22, none⟩ v) := by
 have hl : LoN pb W (W.setCell ⟨pb, 22, none⟩ v) := LoP.setC h.blk (.inl (by simp)) (Nat.le_refl _) v
 refine ⟨h.move hl ?_, hl⟩
 rw [heap_setCell_same _ _ 22 _ _ _ h.blk, pc_setw (kOf_len _ _ _ _ _)]
theorem St.setD (h : St B pb sb xb yb r c wv i dry W) (d : Bool) : St B pb sb xb yb r c wv i d (W.setCell ⟨pb, 24, none⟩ (.bool d)) ∧ LoN pb W (W.setCell ⟨pb, 24, none⟩ (.bool d)) := by
 have hl : LoN pb W (W.setCell ⟨pb, 24, none⟩ (.bool d)) := LoP.setC h.blk (.inl (by simp)) (Nat.le_refl _) _
 refine ⟨h.move hl ?_, hl⟩
 rw [heap_setCell_same _ _ 24 _ _ _ h.blk, pc_setd (kOf_len _ _ _ _ _)]
theorem St.wcell (h : St B pb sb xb yb r c wv i dry W) : W.cell? ⟨pb, 22, none⟩ = some wv ∧ W.cell? ⟨pb, 24, none⟩ = some (.bool dry) := ⟨(Lib.cell_of_heap h.blk 22).trans (pc_w (kOf_len _ _ _ _ _)), (Lib.cell_of_heap h.blk 24).trans (pc_d (kOf_len _ _ _ _ _))⟩
theorem own_cells {W : World} {base : Nat} {e : TypeId} {size n : Nat} {v : Value} {xs : List Value} (h : W.ownsRow base e size v n xs) {g : Nat} (hg : v.ownBlock = some g) : ∃ cs t fr, W.heap[g]? = some (.cells cs t fr) := by
 rcases h.2 with ⟨rfl, _⟩ | ⟨g', cap, cur, rfl, _, hgg, _⟩
 ·simp [Value.ownBlock] at hg
 ·simp [Value.ownBlock] at hg
  subst hg
  exact ⟨_, _, _, hgg⟩
theorem St.grown {Bs q : Nat} (h : St B pb sb xb yb r c wv i dry W) (hg : W.grownBy Y (some q)) (hq : q = Bs ∨ (B ≤ q ∧ ∃ o : Obj, W.heap[q]? = some o ∧ o.isCells = false)) (hb : Bs < B ∧ Bs ≠ pb ∧ Bs ≠ sb ∧ Bs ≠ xb ∧ Bs ≠ yb) : St B pb sb xb yb r c wv i dry Y := by
 have hlt := h.bl.1
 have hne : ∀ k, k < B → k ≠ Bs → k < W.heap.size → Y.heap[k]? = W.heap[k]? := fun k h1 h2 h3 => hg.block k h3 (fun e => by
  injection e with e
  rcases hq with h4 | h4 <;> omega)
 refine ⟨(hne pb hlt.1 (Ne.symm hb.2.1) (lt_of_heap h.blk)).trans h.blk, ⟨fun R hR => own_keepG (h.rows.own R hR) fun g e => ?_, h.rows.apart⟩, h.sm.kept (hne sb hlt.2.1 (Ne.symm hb.2.2.1) h.sm.lt), h.xm.kept (hne xb hlt.2.2.1 (Ne.symm hb.2.2.2.1) h.xm.lt), h.ym.kept (hne yb hlt.2.2.2 (Ne.symm hb.2.2.2.2) h.ym.lt), h.lim, h.ll, h.bl, Nat.le_trans h.sz hg.size⟩
 have ho := h.rows.own R hR
 have hlt2 := ho.lt g e
 refine hg.block g hlt2.2 (fun e2 => ?_)
 injection e2 with e2
 subst e2
 rcases hq with h4 | ⟨_, o, h5, h6⟩
 ·omega
 ·obtain ⟨cs, t, fr, h7⟩ := own_cells ho e
  rw [h7] at h5; cases h5; cases h6
end
section
variable {B pb sb xb yb : Nat} {r : Rws} {c : Cf} {wv : Value} {i : Nat} {dry : Bool} {W : World}
/-- A store elsewhere. -/
theorem St.other (h : St B pb sb xb yb r c wv i dry W) {q j : Nat} (hq : q < B ∧ q ≠ pb ∧ q ≠ sb ∧ q ≠ xb ∧ q ≠ yb) (v : Value) : St B pb sb xb yb r c wv i dry (W.setCell ⟨q, j, none⟩ v) := by
 have hx : ∀ k, k ≠ q → (W.setCell ⟨q, j, none⟩ v).heap[k]? = W.heap[k]? := fun k hk => Below.heap_setCell _ _ _ _ (by simpa using hk)
 exact ⟨(hx pb (Ne.symm hq.2.1)).trans h.blk, h.rows.keep fun g h1 h2 => hx g (by omega), h.sm.kept (hx sb (Ne.symm hq.2.2.1)), h.xm.kept (hx xb (Ne.symm hq.2.2.2.1)), h.ym.kept (hx yb (Ne.symm hq.2.2.2.2)), h.lim, h.ll, h.bl, by simpa using h.sz⟩
end
/-! A chain of new blocks. -/
def allocL (w : World) (L : List Obj) : World := L.foldl World.alloc w
theorem allocL_size (L : List Obj) : ∀ w : World, (allocL w L).heap.size = w.heap.size + L.length := by
 induction L with
 | nil => intro w; rfl
 | cons o r ih => intro w; rw [show allocL w (o :: r) = allocL (w.alloc o) r from rfl, ih]; simp; omega
theorem allocL_below (L : List Obj) : ∀ w : World, Below w.heap.size w (allocL w L) := by
 induction L with
 | nil => intro w; exact Below.refl _ _
 | cons o r ih => intro w; exact (below_box w o).trans ((ih (w.alloc o)).mono (by simp))
theorem allocL_heap (L : List Obj) : ∀ (w : World) (j : Nat) (o : Obj), L[j]? = some o → (allocL w L).heap[w.heap.size + j]? = some o := by
 induction L with
 | nil => intro w j o h; simp at h
 | cons a r ih =>
  intro w j o h
  rw [show allocL w (a :: r) = allocL (w.alloc a) r from rfl]
  cases j with
  | zero =>
   simp at h
   subst h
   exact ((allocL_below r (w.alloc a)).block _ (by simp)).trans (World.alloc_heap_new w a)
  | succ j =>
   have := ih (w.alloc a) j o (by simpa using h)
   rw [World.size_alloc] at this
   rw [show w.heap.size + (j + 1) = w.heap.size + 1 + j by omega]
   exact this
def zeroK : Array Value := #[.slice none 0 0, .slice none 0 0, .int .i64 0, .slice none 0 0, .slice none 0 0, .slice none 0 0, .slice none 0 0, .slice none 0 0, .int .i64 0, .int .i64 0, .int .i64 0, .int .i64 0, .int .i64 0]
def startL (n : Nat) (s : List UInt8) : List Obj :=
 [.cells zeroK 33, .cells #[.int .i64 0] 3, .cells #[.int .i64 0] 34, .map #[] 0, .map #[] 0, .map #[] 0,
  .cells (pcells (kOf r0 c0 (n + 1 + 1 + 1) (n + 1 + 1 + 1 + 1) (n + 1 + 1 + 1 + 1 + 1)) (.slice none 0 0) 0 false) 52, .cells #[.pointer (some ⟨n + 1 + 1 + 1 + 1 + 1 + 1, 0, none⟩)] 46, .cells #[.int .i64 0] 3,
  .cells #[.string ⟨s.toArray⟩] 9, .cells #[.string ⟨#[10]⟩] 9, .cells #[.int .i64 0] 3]
theorem start_st (w : World) (s : List UInt8) : St (w.heap.size + 12) (w.heap.size + 6) (w.heap.size + 3) (w.heap.size + 4) (w.heap.size + 5) r0 c0 (.slice none 0 0) 0 false (allocL w (startL w.heap.size s)) := by
 refine ⟨allocL_heap _ w 6 _ rfl, ⟨?_, ?_⟩, ⟨#[], 0, allocL_heap _ w 3 _ rfl, rfl, by simp [symV, c0], by simp [symV, c0]⟩, ⟨#[], 0, allocL_heap _ w 4 _ rfl, rfl, by simp [pfxL, c0], by simp [pfxL, c0]⟩, ⟨#[], 0, allocL_heap _ w 5 _ rfl, rfl, by simp [polL, c0], by simp [polL, c0]⟩, ?_, rfl, by omega, by rw [allocL_size]; simp [startL]⟩
 ·intro R hR
  simp only [rowsOf, r0, c0, List.zip_nil_left, List.map_nil, List.append_nil, List.mem_cons, List.not_mem_nil, or_false] at hR
  rcases hR with rfl | rfl | rfl | rfl | rfl | rfl | rfl <;> exact World.ownsRow_nil _ _ _ _
 ·simp [rowsOf, r0, c0, fldA]
 ·exact ⟨by simp [c0], by simp [c0], by simp [c0], by simp [c0], by simp [c0], by simp [c0], by simp [c0], rfl, rfl, by simp [c0]⟩
/-- The boxes of Parse beside the parser. -/
structure PX (w : World) (b0 b1 b2 bp nb pb : Nat) (k : Int) (W : World) : Prop where
 hp : Boxed W bp 46 (.pointer (some ⟨pb, 0, none⟩))
 hn : Boxed W nb 3 (.int .i64 k)
 h0 : W.heap[b0]? = some (.cells zeroK 33 (0, 0))
 h1 : Boxed W b1 3 (.int .i64 0)
 h2 : Boxed W b2 34 (.int .i64 0)
 hb : Below b0 w W
theorem PX.lo {w : World} {b0 b1 b2 bp nb pb B : Nat} {X : List Nat} {k : Int} {W W' : World} (h : PX w b0 b1 b2 bp nb pb k W) (hl : LoM B X W W') (hB : bp < B ∧ nb < B ∧ b0 < B ∧ b1 < B ∧ b2 < B) (hX : bp ∉ X ∧ nb ∉ X ∧ b0 ∉ X ∧ b1 ∉ X ∧ b2 ∉ X) (hY : ∀ x ∈ X, b0 ≤ x) (hw : b0 ≤ w.heap.size) : PX w b0 b1 b2 bp nb pb k W' :=
 ⟨(hl.blk _ hB.1 hX.1).trans h.hp, (hl.blk _ hB.2.1 hX.2.1).trans h.hn, (hl.blk _ hB.2.2.1 hX.2.2.1).trans h.h0, (hl.blk _ hB.2.2.2.1 hX.2.2.2.1).trans h.h1, (hl.blk _ hB.2.2.2.2 hX.2.2.2.2).trans h.h2,
  ⟨hl.os.trans h.hb.os, hl.tape.trans h.hb.tape, hl.output.trans h.hb.output, Nat.le_trans h.hb.size hl.size, fun j hj => (hl.blk j (by omega) (fun e => by have := hY j e; omega)).trans (h.hb.block j hj)⟩⟩
theorem PX.setN {w : World} {b0 b1 b2 bp nb pb : Nat} {k : Int} {W : World} (h : PX w b0 b1 b2 bp nb pb k W) (hn : nb ≠ bp ∧ nb ≠ b0 ∧ nb ≠ b1 ∧ nb ≠ b2 ∧ b0 ≤ nb) (k' : Int) : PX w b0 b1 b2 bp nb pb k' (W.setCell ⟨nb, 0, none⟩ (.int .i64 k')) := by
 have hx : ∀ k, k ≠ nb → (W.setCell ⟨nb, 0, none⟩ (.int .i64 k')).heap[k]? = W.heap[k]? := fun k hk => Below.heap_setCell _ _ _ _ (by simpa using hk)
 exact ⟨(hx _ (Ne.symm hn.1)).trans h.hp, h.hn.set _, (hx _ (Ne.symm hn.2.1)).trans h.h0, (hx _ (Ne.symm hn.2.2.1)).trans h.h1, (hx _ (Ne.symm hn.2.2.2.1)).trans h.h2, h.hb.setCell (by simpa using hn.2.2.2.2) _⟩
theorem PX.grown {w : World} {b0 b1 b2 bp nb pb B Bs q : Nat} {k : Int} {W Y : World} (h : PX w b0 b1 b2 bp nb pb k W) (hg : W.grownBy Y (some q)) (hq : q = Bs ∨ B ≤ q) (hB : bp < B ∧ nb < B ∧ b0 < B ∧ b1 < B ∧ b2 < B) (hX : bp ≠ Bs ∧ nb ≠ Bs ∧ b0 ≠ Bs ∧ b1 ≠ Bs ∧ b2 ≠ Bs ∧ b0 ≤ Bs) (hw : b0 ≤ w.heap.size) : PX w b0 b1 b2 bp nb pb k Y := by
 have e : ∀ b, b < B → b ≠ Bs → b < W.heap.size → Y.heap[b]? = W.heap[b]? := fun b h1 h2 h3 => hg.block b h3 (fun e => by injection e with e; omega)
 exact ⟨(e _ hB.1 hX.1 h.hp.lt).trans h.hp, (e _ hB.2.1 hX.2.1 h.hn.lt).trans h.hn, (e _ hB.2.2.1 hX.2.2.1 (lt_of_heap h.h0)).trans h.h0, (e _ hB.2.2.2.1 hX.2.2.2.1 h.h1.lt).trans h.h1, (e _ hB.2.2.2.2 hX.2.2.2.2.1 h.h2.lt).trans h.h2,
  h.hb.grown hg (by have := h.hb.size; omega) (fun j ej => by injection ej with ej; have := hX.2.2.2.2.2; omega)⟩
theorem grown_setc (W : World) (b j : Nat) (v : Value) : W.grownBy (W.setCell ⟨b, j, none⟩ v) (some b) := ⟨rfl, rfl, rfl, by simp, fun k _ hk => Below.heap_setCell _ _ _ _ (fun e => hk (by rw [e]))⟩
theorem grown_trans {X Y Z : World} {r : Option Nat} (h : X.grownBy Y r) (g : Y.grownBy Z r) : X.grownBy Z r := ⟨g.os.trans h.os, g.tape.trans h.tape, g.output.trans h.output, Nat.le_trans h.size g.size, fun k hk hn => (g.block k (Nat.lt_of_lt_of_le hk h.size) hn).trans (h.block k hk hn)⟩
theorem put13 {W : World} {b : Nat} {T : TypeId} (h : W.heap[b]? = some (.cells zeroK T (0, 0))) (v0 v1 v2 v3 v4 v5 v6 v7 v8 v9 v10 v11 v12 : Value) :
  (((((((((((((W.setCell ⟨b, 0, none⟩ v0).setCell ⟨b, 1, none⟩ v1).setCell ⟨b, 2, none⟩ v2).setCell ⟨b, 3, none⟩ v3).setCell ⟨b, 4, none⟩ v4).setCell ⟨b, 5, none⟩ v5).setCell ⟨b, 6, none⟩ v6).setCell ⟨b, 7, none⟩ v7).setCell ⟨b, 8, none⟩ v8).setCell ⟨b, 9, none⟩ v9).setCell ⟨b, 10, none⟩ v10).setCell ⟨b, 11, none⟩ v11).setCell ⟨b, 12, none⟩ v12).heap[b]? = some (.cells #[v0, v1, v2, v3, v4, v5, v6, v7, v8, v9, v10, v11, v12] T (0, 0)) ∧ W.grownBy (((((((((((((W.setCell ⟨b, 0, none⟩ v0).setCell ⟨b, 1, none⟩ v1).setCell ⟨b, 2, none⟩ v2).setCell ⟨b, 3, none⟩ v3).setCell ⟨b, 4, none⟩ v4).setCell ⟨b, 5, none⟩ v5).setCell ⟨b, 6, none⟩ v6).setCell ⟨b, 7, none⟩ v7).setCell ⟨b, 8, none⟩ v8).setCell ⟨b, 9, none⟩ v9).setCell ⟨b, 10, none⟩ v10).setCell ⟨b, 11, none⟩ v11).setCell ⟨b, 12, none⟩ v12) (some b) ∧ (((((((((((((W.setCell ⟨b, 0, none⟩ v0).setCell ⟨b, 1, none⟩ v1).setCell ⟨b, 2, none⟩ v2).setCell ⟨b, 3, none⟩ v3).setCell ⟨b, 4, none⟩ v4).setCell ⟨b, 5, none⟩ v5).setCell ⟨b, 6, none⟩ v6).setCell ⟨b, 7, none⟩ v7).setCell ⟨b, 8, none⟩ v8).setCell ⟨b, 9, none⟩ v9).setCell ⟨b, 10, none⟩ v10).setCell ⟨b, 11, none⟩ v11).setCell ⟨b, 12, none⟩ v12).heap.size = W.heap.size := by
 have h0 := heap_setCell_same W b 0 _ _ v0 h
 have h1 := heap_setCell_same (W.setCell ⟨b, 0, none⟩ v0) b 1 _ _ v1 h0
 have h2 := heap_setCell_same ((W.setCell ⟨b, 0, none⟩ v0).setCell ⟨b, 1, none⟩ v1) b 2 _ _ v2 h1
 have h3 := heap_setCell_same (((W.setCell ⟨b, 0, none⟩ v0).setCell ⟨b, 1, none⟩ v1).setCell ⟨b, 2, none⟩ v2) b 3 _ _ v3 h2
 have h4 := heap_setCell_same ((((W.setCell ⟨b, 0, none⟩ v0).setCell ⟨b, 1, none⟩ v1).setCell ⟨b, 2, none⟩ v2).setCell ⟨b, 3, none⟩ v3) b 4 _ _ v4 h3
 have h5 := heap_setCell_same (((((W.setCell ⟨b, 0, none⟩ v0).setCell ⟨b, 1, none⟩ v1).setCell ⟨b, 2, none⟩ v2).setCell ⟨b, 3, none⟩ v3).setCell ⟨b, 4, none⟩ v4) b 5 _ _ v5 h4
 have h6 := heap_setCell_same ((((((W.setCell ⟨b, 0, none⟩ v0).setCell ⟨b, 1, none⟩ v1).setCell ⟨b, 2, none⟩ v2).setCell ⟨b, 3, none⟩ v3).setCell ⟨b, 4, none⟩ v4).setCell ⟨b, 5, none⟩ v5) b 6 _ _ v6 h5
 have h7 := heap_setCell_same (((((((W.setCell ⟨b, 0, none⟩ v0).setCell ⟨b, 1, none⟩ v1).setCell ⟨b, 2, none⟩ v2).setCell ⟨b, 3, none⟩ v3).setCell ⟨b, 4, none⟩ v4).setCell ⟨b, 5, none⟩ v5).setCell ⟨b, 6, none⟩ v6) b 7 _ _ v7 h6
 have h8 := heap_setCell_same ((((((((W.setCell ⟨b, 0, none⟩ v0).setCell ⟨b, 1, none⟩ v1).setCell ⟨b, 2, none⟩ v2).setCell ⟨b, 3, none⟩ v3).setCell ⟨b, 4, none⟩ v4).setCell ⟨b, 5, none⟩ v5).setCell ⟨b, 6, none⟩ v6).setCell ⟨b, 7, none⟩ v7) b 8 _ _ v8 h7
 have h9 := heap_setCell_same (((((((((W.setCell ⟨b, 0, none⟩ v0).setCell ⟨b, 1, none⟩ v1).setCell ⟨b, 2, none⟩ v2).setCell ⟨b, 3, none⟩ v3).setCell ⟨b, 4, none⟩ v4).setCell ⟨b, 5, none⟩ v5).setCell ⟨b, 6, none⟩ v6).setCell ⟨b, 7, none⟩ v7).setCell ⟨b, 8, none⟩ v8) b 9 _ _ v9 h8
 have h10 := heap_setCell_same ((((((((((W.setCell ⟨b, 0, none⟩ v0).setCell ⟨b, 1, none⟩ v1).setCell ⟨b, 2, none⟩ v2).setCell ⟨b, 3, none⟩ v3).setCell ⟨b, 4, none⟩ v4).setCell ⟨b, 5, none⟩ v5).setCell ⟨b, 6, none⟩ v6).setCell ⟨b, 7, none⟩ v7).setCell ⟨b, 8, none⟩ v8).setCell ⟨b, 9, none⟩ v9) b 10 _ _ v10 h9
 have h11 := heap_setCell_same (((((((((((W.setCell ⟨b, 0, none⟩ v0).setCell ⟨b, 1, none⟩ v1).setCell ⟨b, 2, none⟩ v2).setCell ⟨b, 3, none⟩ v3).setCell ⟨b, 4, none⟩ v4).setCell ⟨b, 5, none⟩ v5).setCell ⟨b, 6, none⟩ v6).setCell ⟨b, 7, none⟩ v7).setCell ⟨b, 8, none⟩ v8).setCell ⟨b, 9, none⟩ v9).setCell ⟨b, 10, none⟩ v10) b 11 _ _ v11 h10
 have h12 := heap_setCell_same ((((((((((((W.setCell ⟨b, 0, none⟩ v0).setCell ⟨b, 1, none⟩ v1).setCell ⟨b, 2, none⟩ v2).setCell ⟨b, 3, none⟩ v3).setCell ⟨b, 4, none⟩ v4).setCell ⟨b, 5, none⟩ v5).setCell ⟨b, 6, none⟩ v6).setCell ⟨b, 7, none⟩ v7).setCell ⟨b, 8, none⟩ v8).setCell ⟨b, 9, none⟩ v9).setCell ⟨b, 10, none⟩ v10).setCell ⟨b, 11, none⟩ v11) b 12 _ _ v12 h11
 simp only [zeroK, List.setIfInBounds_toArray, List.set_cons_zero, List.set_cons_succ] at h12
 exact ⟨h12, grown_trans (grown_trans (grown_trans (grown_trans (grown_trans (grown_trans (grown_trans (grown_trans (grown_trans (grown_trans (grown_trans (grown_trans (grown_setc _ b 0 v0) (grown_setc _ b 1 v1)) (grown_setc _ b 2 v2)) (grown_setc _ b 3 v3)) (grown_setc _ b 4 v4)) (grown_setc _ b 5 v5)) (grown_setc _ b 6 v6)) (grown_setc _ b 7 v7)) (grown_setc _ b 8 v8)) (grown_setc _ b 9 v9)) (grown_setc _ b 10 v10)) (grown_setc _ b 11 v11)) (grown_setc _ b 12 v12), by simp⟩
/-- The three results are stored. -/
theorem put15 {w W9 W' : World} {b0 b1 b2 N : Nat} {T0 T1 T2 : TypeId} {cs : Array Value} {x1 x2 u1 u2 : Value} {Wz : World} (hz : Wz.heap[b0]? = some (.cells cs T0 (0, 0)) ∧ W9.grownBy Wz (some b0) ∧ Wz.heap.size = W9.heap.size) (h1 : Boxed W9 b1 T1 x1) (h2 : Boxed W9 b2 T2 x2) (ho : b0 < b1 ∧ b1 < b2 ∧ b2 < N) (hb : Below b0 w W9) (h0 : b0 ≤ w.heap.size)
  (hw : W' = ((Wz.setCell ⟨b1, 0, none⟩ u1).setCell ⟨b2, 0, none⟩ u2).drew) :
  W'.heap[b0]? = some (.cells cs T0 (0, 0)) ∧ Boxed W' b1 T1 u1 ∧ Boxed W' b2 T2 u2 ∧ KeepsFrom N W9 W' ∧ Below b0 w W' := by
 subst hw
 have g1 : Boxed Wz b1 T1 x1 := (hz.2.1.block b1 h1.lt (fun e => by injection e with e; omega)).trans h1
 have g2 : Boxed Wz b2 T2 x2 := (hz.2.1.block b2 h2.lt (fun e => by injection e with e; omega)).trans h2
 have e1 : ∀ k, k ≠ b1 → k ≠ b2 → ((Wz.setCell ⟨b1, 0, none⟩ u1).setCell ⟨b2, 0, none⟩ u2).heap[k]? = Wz.heap[k]? := fun k h1 h2 => (Below.heap_setCell _ _ _ _ (by simpa using h2)).trans (Below.heap_setCell _ _ _ _ (by simpa using h1))
 have hzb : Below b0 w Wz := hb.grown hz.2.1 (by have := hb.size; omega) (fun j e => by injection e with e; omega)
 refine ⟨(e1 b0 (by omega) (by omega)).trans hz.1, (g1.set u1).other (by omega) u2, (g2.other (by omega) u1).set u2, ⟨by simp [hz.2.2], fun k o hk ho' _ => ?_⟩, ?_⟩
 ·exact (e1 k (by omega) (by omega)).trans ((hz.2.1.block k (lt_of_heap ho') (fun e => by injection e with e; omega)).trans ho')
 ·exact ((hzb.setCell (by simp; omega) u1).setCell (by simp; omega) u2).trans ⟨rfl, rfl, rfl, Nat.le_refl _, fun _ _ => rfl⟩
theorem put15n {w W9 W' : World} {b0 b1 b2 N : Nat} {T0 T1 T2 : TypeId} {cs : Array Value} {x1 x2 u1 u2 : Value} {Wz : World} (hz : Wz.heap[b0]? = some (.cells cs T0 (0, 0)) ∧ W9.grownBy Wz (some b0) ∧ Wz.heap.size = W9.heap.size) (h1 : Boxed W9 b1 T1 x1) (h2 : Boxed W9 b2 T2 x2) (ho : b0 < b1 ∧ b1 < b2 ∧ b2 < N) (hb : Below b0 w W9) (h0 : b0 ≤ w.heap.size)
  (hw : W' = ((Wz.setCell ⟨b1, 0, none⟩ u1).setCell ⟨b2, 0, none⟩ u2)) :
  W'.heap[b0]? = some (.cells cs T0 (0, 0)) ∧ Boxed W' b1 T1 u1 ∧ Boxed W' b2 T2 u2 ∧ KeepsFrom N W9 W' ∧ Below b0 w W' := by
 subst hw
 have g1 : Boxed Wz b1 T1 x1 := (hz.2.1.block b1 h1.lt (fun e => by injection e with e; omega)).trans h1
 have g2 : Boxed Wz b2 T2 x2 := (hz.2.1.block b2 h2.lt (fun e => by injection e with e; omega)).trans h2
 have e1 : ∀ k, k ≠ b1 → k ≠ b2 → ((Wz.setCell ⟨b1, 0, none⟩ u1).setCell ⟨b2, 0, none⟩ u2).heap[k]? = Wz.heap[k]? := fun k h1 h2 => (Below.heap_setCell _ _ _ _ (by simpa using h2)).trans (Below.heap_setCell _ _ _ _ (by simpa using h1))
 have hzb : Below b0 w Wz := hb.grown hz.2.1 (by have := hb.size; omega) (fun j e => by injection e with e; omega)
 refine ⟨(e1 b0 (by omega) (by omega)).trans hz.1, (g1.set u1).other (by omega) u2, (g2.other (by omega) u1).set u2, ⟨by simp [hz.2.2], fun k o hk ho' _ => ?_⟩, ?_⟩
 ·exact (e1 k (by omega) (by omega)).trans ((hz.2.1.block k (lt_of_heap ho') (fun e => by injection e with e; omega)).trans ho')
 ·exact (hzb.setCell (by simp; omega) u1).setCell (by simp; omega) u2
theorem Rows.weak {B B' : Nat} {L : List Row} {W : World} (h : Rows B L W) (hb : B' ≤ B) : Rows B' L W := ⟨fun R hR => by
 rcases h.own R hR with ⟨h1, h2 | ⟨g, cap, cur, h3, h4, h5⟩⟩
 ·exact ⟨h1, .inl h2⟩
 ·exact ⟨h1, .inr ⟨g, cap, cur, h3, Nat.le_trans hb h4, h5⟩⟩, h.apart⟩
theorem Rows.put {B D : Nat} {L : List Row} {W : World} {o : Obj} (h : Rows B L W) (o' : Obj) (hl : W.heap[D]? = some o) (ho : o.isCells = false) : Rows B L (W.putObj D o') := ⟨fun R hR => ownsRow_putObj (h.own R hR) o' hl ho, h.apart⟩
end Go.Proofs.YtfimacgmciogmaaGreatDoor
namespace Go.Proofs.YtfimacgmciogmaaGreatDoor
set_option linter.unusedSimpArgs false
set_option linter.unusedVariables false
open Go.RowKit Go.Shelf Go.Sort
def idxB : List Bool → Nat → Int
 | [], _ => -1
 | y :: r, k => if y = true then (k : Int) else idxB r (k + 1)
theorem idxB_ge : ∀ (l : List Bool) (k : Nat), decide (idxB l k ≥ 0) = decide (true ∈ l)
 | [], _ => by simp [idxB]
 | true :: r, k => by simp [idxB]
 | false :: r, k => by
  have := idxB_ge r (k + 1)
  rw [idxB, if_neg (by decide), this]
  simp
theorem bools_here {w : World} {A : Option Addr} {xs : List Bool} {k : Nat} (h : Rd w A (xs.map Value.bool)) (hk : k < xs.length) : ∃ b o x, A = some ⟨b, o, none⟩ ∧ xs[k]? = some x ∧ w.cell? ⟨b, o + k, none⟩ = some (.bool x) := by
 obtain ⟨b, o, h1, h2⟩ := h.at_ (k := k) (u := .bool xs[k]) (by simp [List.getElem?_eq_getElem hk])
 exact ⟨b, o, xs[k], h1, List.getElem?_eq_getElem hk, h2⟩
theorem slices_IndexB (A : Option Addr) (cc : Nat) (xs : List Bool) (w : World) (hA : Rd w A (xs.map Value.bool)) (hm : xs.length ≤ 100000) : Calls Tryz.prog 41 #[.slice A xs.length cc, .bool true] w fun e w' => e = .returned (.int .i64 (idxB xs 0)) ∧ w = w' := by
 obtain ⟨V, hV⟩ : ∃ V, V = idxB xs 0 := ⟨_, rfl⟩
 rw [← hV]
 have HV := Lib.hid hV
 have HA := Lib.hid hA
 clear hV hA
 go_enter Tryz.func41, Tryz.ntmps41
 go_wp2
 go_loop [8] (fun i => ∃ k : Nat, k ≤ xs.length ∧ i = .int .i64 k ∧ Hid (V = idxB (xs.drop k) k)) (fun i => xs.length - (intOf i).toNat)
 case atStart => exact ⟨0, Nat.zero_le _, rfl, HV⟩
 case round =>
  clear HV
  obtain ⟨k, hk, rfl, HV⟩ := hrel
  by_cases hlt : k < xs.length
  ·have hlt' : (k : Int) < (xs.length : Int) := by omega
   obtain ⟨b, o, y, rfl, hy, q0⟩ := bools_here HA.out hlt
   have hd : xs.drop k = y :: xs.drop (k + 1) := by
    obtain ⟨h1, h2⟩ := List.getElem?_eq_some_iff.1 hy
    rw [List.drop_eq_getElem_cons h1, h2]
   cases y with
   | true =>
    have HR : Hid (V = (k : Int)) := Lib.hid (by rw [HV.out, hd, idxB, if_pos rfl])
    clear hy hd
    go_wp2
    go_ret
    exact ⟨by rw [HR.out]; rfl, rfl⟩
   | false =>
    have HR : Hid (V = idxB (xs.drop (k + 1)) (k + 1)) := Lib.hid (by rw [HV.out, hd, idxB, if_neg (by decide)])
    clear hy hd
    go_wp2
    go_round
    case rel => exact ⟨k + 1, by omega, by go_num, HR⟩
    case measure => simp [intOf]; omega
  ·obtain rfl : k = xs.length := by omega
   have HR : Hid (V = -1) := Lib.hid (by rw [HV.out, List.drop_length]; rfl)
   go_wp2
   go_ret
   exact ⟨by rw [HR.out]; rfl, rfl⟩
theorem slices_ContainsB (A : Option Addr) (cc : Nat) (xs : List Bool) (w : World) (hA : Rd w A (xs.map Value.bool)) (hm : xs.length ≤ 100000) : Calls Tryz.prog 13 #[.slice A xs.length cc, .bool true] w fun e w' => e = .returned (.bool (decide (true ∈ xs))) ∧ w = w' := by
 have HI := Lib.hid (slices_IndexB A cc xs w hA hm)
 have h := idxB_ge xs 0
 generalize idxB xs 0 = ii at *
 obtain ⟨b, hb⟩ : ∃ b, b = decide (true ∈ xs) := ⟨_, rfl⟩
 rw [← hb] at h ⊢
 have h2 : decide (0 ≤ ii) = b := h
 clear hb h
 go_enter Tryz.func13, Tryz.ntmps13
 go_wp2_with (go_at_call 41; refine HI.out.mono ?_; rintro e w9 ⟨rfl, rfl⟩)
 go_ret
 exact ⟨rfl, rfl⟩
end Go.Proofs.YtfimacgmciogmaaGreatDoor
namespace Go.Proofs.YtfimacgmciogmaaGreatDoor
set_option linter.unusedSimpArgs false
set_option linter.unusedVariables false
open Go.RowKit Go.Shelf Go.Sort
def NZ {α : Type} (U : Except Int α) : Prop := U ≠ .error 0
theorem nz_ok {α : Type} (v : α) : NZ (.ok v : Except Int α) := fun e => by cases e
theorem nz_err {α : Type} {e : Int} (h : e ≠ 0) : NZ (.error e : Except Int α) := fun h2 => by injection h2 with h2; exact h h2
theorem nz_bind {α β : Type} {U : Except Int (α × List (List UInt8))} {f : α → List (List UInt8) → Except Int β} (h : NZ U) (hf : ∀ v r, U = .ok (v, r) → NZ (f v r)) : NZ (bindS U f) := by
 cases U with
 | error e => exact fun h2 => h (by injection h2 with h2; rw [h2])
 | ok p => exact hf p.1 p.2 rfl
theorem nz_small (dry : Bool) (c : Int) : NZ (smallS dry c) := by
 unfold smallS
 split
 ·exact nz_err (by decide)
 ·exact nz_ok _
theorem nz_operate (dry : Bool) (o : List UInt8) (a b : Int) : NZ (operateS dry o a b) := by
 unfold operateS
 split
 ·exact nz_small _ _
 split
 ·exact nz_small _ _
 split
 ·exact nz_ok _
 split
 ·exact nz_err (by decide)
 ·exact nz_small _ _
theorem nz_combine {dry : Bool} {least : Nat} (hl : 1 ≤ least) : ∀ {ops : List (List UInt8)} {vs : List Int}, Inv ops vs → NZ (combineS dry least ops vs)
 | [], vs, h => by simp only [combineS]; exact nz_ok _
 | o :: ops, vs, h => by
  by_cases hr : rankS o < least
  ·rw [combineS_stop hr]; exact nz_ok _
  ·have hno : o ≠ oOpen := fun e => by subst e; rw [rank_open] at hr; omega
   cases vs with
   | nil => exact absurd h.ar (by simp)
   | cons x r =>
   by_cases hn : o = oNeg
   ·subst hn
    rw [combineS_neg hr]
    exact nz_combine hl ⟨fun o ho => h.ok o (by simp [ho]), by have := h.ar; simp [binS] at this ⊢; omega⟩
   ·have hb : ¬ (o = oNeg ∨ o = oOpen) := fun e => e.elim hn hno
    cases r with
    | nil => exact absurd h.ar (by simp [binS, hb])
    | cons y r =>
    rw [combineS_bin hr hn]
    have hz := nz_operate dry o y x
    cases hzz : operateS dry o y x with
    | error c => rw [hzz] at hz; exact fun e => hz (by injection e with e; rw [e])
    | ok z => exact nz_combine hl ⟨fun o ho => h.ok o (by simp [ho]), by have := h.ar; simp [binS, hb] at this ⊢; omega⟩
theorem nz_useOf (dry : Bool) (kd : Int) (o : Option (Int × Int)) : NZ (useOf dry kd o) := by
 unfold useOf
 split
 ·split
  ·exact nz_ok _
  ·exact nz_err (by decide)
 ·split
  ·exact nz_ok _
  ·exact nz_err (by decide)
theorem nz_use (dry : Bool) (sy : SymS) (kd : Int) (ws : List (List UInt8)) : NZ (useS dry sy kd ws) := by
 cases ws with
 | nil => exact nz_err (by decide)
 | cons w r =>
  simp only [useS]
  split
  ·have := nz_useOf dry kd (lookS sy w)
   cases h : useOf dry kd (lookS sy w) with
   | error e => rw [h] at this; exact fun e2 => this (by injection e2 with e2; rw [e2])
   | ok v => exact nz_ok _
  ·exact nz_err (by decide)
theorem nz_factor (dry : Bool) (sy : SymS) : ∀ (ws ops : List (List UInt8)) (vs : List Int), NZ (factorS dry sy ws ops vs)
 | [], _, _ => nz_err (by decide)
 | w :: t, ops, vs => by
  simp only [factorS]
  split
  ·exact nz_factor dry sy t _ _
  split
  ·exact nz_factor dry sy t _ _
  split
  ·exact nz_ok _
  ·have := nz_use dry sy 3 (w :: t)
   cases h : useS dry sy 3 (w :: t) with
   | error e => rw [h] at this; exact fun e2 => this (by injection e2 with e2; rw [e2])
   | ok p => exact nz_ok _
theorem close_nz {dry : Bool} : ∀ (ws : List (List UInt8)) {ops : List (List UInt8)} {vs : List Int}, Inv ops vs → NZ (closeS dry ws ops vs) ∧ ∀ o2 v2 r2, closeS dry ws ops vs = .ok ((o2, v2), r2) → Inv o2 v2 ∧ r2.length ≤ ws.length
 | [], ops, vs, h => ⟨nz_ok _, fun o2 v2 r2 e => by
  injection e with e
  injection e with e1 e2
  injection e1 with e1 e3
  subst e1 e2 e3
  exact ⟨h, Nat.le_refl _⟩⟩
 | w :: r, ops, vs, h => by
  by_cases hc : openS ops = true ∧ w = oClose
  ·obtain ⟨ho, rfl⟩ := hc
   rw [closeS_yes ho]
   have hz := nz_combine (dry := dry) (Nat.le_refl 1) h
   cases hcb : combineS dry 1 ops vs with
   | error e => rw [hcb] at hz; exact ⟨fun e2 => hz (by injection e2 with e2; rw [e2]), fun _ _ _ e2 => by cases e2⟩
   | ok p =>
    obtain ⟨os, us⟩ := p
    obtain ⟨q1, q2, q3, q4, q5⟩ := combine_inv (Nat.le_refl 1) h hcb
    obtain ⟨t, rfl⟩ := open_head q1 (q4.trans ho) q5
    obtain ⟨a, b⟩ := close_nz (dry := dry) r (q1.tail)
    refine ⟨a, fun o2 v2 r2 e => ?_⟩
    obtain ⟨b1, b2⟩ := b o2 v2 r2 e
    exact ⟨b1, by simp; omega⟩
  ·have e0 : closeS dry (w :: r) ops vs = .ok ((ops, vs), w :: r) := by simp only [closeS]; rw [if_neg hc]
   rw [e0]
   refine ⟨nz_ok _, fun o2 v2 r2 e => ?_⟩
   injection e with e
   injection e with e1 e2
   injection e1 with e1 e3
   subst e1 e2 e3
   exact ⟨h, Nat.le_refl _⟩
theorem nz_expr (dry : Bool) (sy : SymS) : ∀ (f : Nat) (ws ops : List (List UInt8)) (vs : List Int), ws.length < f → (∀ o ∈ ops, opOk o) → binS ops ≤ vs.length → NZ (exprF dry sy f ws ops vs)
 | 0, ws, _, _, h, _, _ => absurd h (by omega)
 | f + 1, ws, ops, vs, hw, ho, hb => by
  have z1 := nz_factor dry sy ws ops vs
  cases h1 : factorS dry sy ws ops vs with
  | error e => rw [exprF_e1 h1]; rw [h1] at z1; exact fun e2 => z1 (by injection e2 with e2; rw [e2])
  | ok p =>
   obtain ⟨⟨o1, v1⟩, r1⟩ := p
   obtain ⟨a1, a2, a3, a4, a5⟩ := factor_inv ho h1
   have hi : Inv o1 v1 := ⟨a1, by omega⟩
   obtain ⟨z2, hc⟩ := close_nz (dry := dry) r1 hi
   cases h2 : closeS dry r1 o1 v1 with
   | error e => rw [exprF_e2 h1 h2]; rw [h2] at z2; exact fun e2 => z2 (by injection e2 with e2; rw [e2])
   | ok p =>
    obtain ⟨⟨o2, v2⟩, r2⟩ := p
    obtain ⟨hi2, hl2⟩ := hc o2 v2 r2 h2
    by_cases h3 : rankS (peekS r2) = 0
    ·rw [exprF_end h1 h2 h3]
     have z3 : NZ (endS dry o2 v2) := by
      unfold endS
      have := nz_combine (dry := dry) (Nat.le_refl 1) hi2
      cases hcb : combineS dry 1 o2 v2 with
      | error e => rw [hcb] at this; exact fun e2 => this (by injection e2 with e2; rw [e2])
      | ok p =>
       simp only
       split
       ·exact nz_ok _
       ·exact nz_err (by decide)
     cases h4 : endS dry o2 v2 with
     | error e => rw [h4] at z3; exact fun e2 => z3 (by injection e2 with e2; rw [e2])
     | ok v => exact nz_ok _
    ·have hr1 : 1 ≤ rankS (peekS r2) := by omega
     have z4 := nz_combine (dry := dry) hr1 hi2
     cases h4 : combineS dry (rankS (peekS r2)) o2 v2 with
     | error e => rw [exprF_e3 h1 h2 h3 h4]; rw [h4] at z4; exact fun e2 => z4 (by injection e2 with e2; rw [e2])
     | ok p =>
      obtain ⟨o3, v3⟩ := p
      rw [exprF_go h1 h2 h3 h4]
      obtain ⟨q1, q2, q3, q4, q5⟩ := combine_inv hr1 hi2 h4
      refine nz_expr dry sy f _ _ _ ?_ ?_ ?_
      ·cases r2 with
       | nil => exact absurd (by rfl : rankS (peekS []) = 0) h3
       | cons a b => simp at hl2 ⊢; omega
      ·intro o ho2
       rcases List.mem_cons.1 ho2 with rfl | ho2
       ·exact .inr hr1
       ·exact q1.ok o ho2
      ·have := q1.ar
       simp only [binS]
       split <;> omega
theorem nz_exprS (dry : Bool) (sy : SymS) (ws : List (List UInt8)) : NZ (exprS dry sy ws) := nz_expr dry sy _ ws [] [] (by omega) (by simp) (by simp [binS])
theorem nz_value (dry : Bool) (sy : SymS) (lo hi : Int) (ws : List (List UInt8)) : NZ (valueS dry sy lo hi ws) := by
 unfold valueS
 have := nz_exprS dry sy ws
 cases h : exprS dry sy ws with
 | error e => rw [h] at this; exact fun e2 => this (by injection e2 with e2; rw [e2])
 | ok p =>
  obtain ⟨v, r⟩ := p
  simp only
  split
  ·exact nz_err (by decide)
  ·exact nz_ok _
theorem nz_next (ws : List (List UInt8)) : NZ (nextS ws) := by cases ws <;> first | exact nz_err (by decide) | exact nz_ok _
theorem nz_expect (w : List UInt8) (ws : List (List UInt8)) : NZ (expectS w ws) := by
 cases ws with
 | nil => exact nz_err (by decide)
 | cons x r =>
  simp only [expectS]
  split
  ·exact nz_ok _
  ·exact nz_err (by decide)
theorem nz_name (ws : List (List UInt8)) : NZ (nameS ws) := by
 cases ws with
 | nil => exact nz_err (by decide)
 | cons x r =>
  simp only [nameS]
  split
  ·exact nz_ok _
  ·exact nz_err (by decide)
theorem nz_fin (dry dup full : Bool) (ws : List (List UInt8)) : NZ (finP dry dup full ws) := by
 cases ws with
 | cons _ _ => exact nz_err (by decide)
 | nil => cases dry <;> cases dup <;> cases full <;> first | exact nz_ok _ | exact nz_err (by decide)
theorem nz_eff {U : PR Bool} (h : NZ U) (c c' : Cf) : NZ (effS U c c') := by
 unfold effS
 split
 ·rename_i e; exact fun e2 => h (by injection e2 with e2; rw [e2])
 ·exact nz_ok _
 ·exact nz_ok _
theorem nz_ends (dry : Bool) (sy : SymS) (ws : List (List UInt8)) : NZ (endsS dry sy ws) := by
 unfold endsS
 refine nz_bind (nz_expect _ _) fun _ r1 _ => nz_bind (nz_use _ _ _ _) fun a r2 _ => nz_bind (nz_expect _ _) fun _ r3 _ => nz_bind (nz_use _ _ _ _) fun b r4 _ => ?_
 unfold chkS
 split
 ·exact nz_err (by decide)
 ·exact nz_ok _
theorem nz_opts (dry : Bool) (sy : SymS) : ∀ (f : Nat) (seen : List (List UInt8)) (l : Lnk) (ws : List (List UInt8)), ws.length < f → NZ (optsS dry sy f seen l ws)
 | 0, _, _, ws, h => absurd h (by omega)
 | f + 1, seen, l, [], h => nz_ok _
 | f + 1, seen, l, w :: r, h => by
  simp only [List.length_cons] at h
  rw [optsS]
  split
  ·exact nz_err (by decide)
  split
  ·refine nz_bind (nz_value _ _ _ _ _) fun v q hq => ?_
   have l1 := valueS_len hq
   cases ha : acceptS kBack q with
   | mk o q2 =>
    have l2 := accept_len ha
    cases o with
    | true =>
     refine nz_bind (nz_value _ _ _ _ _) fun u q3 hq3 => ?_
     have l3 := valueS_len hq3
     exact nz_opts dry sy f _ _ _ (by omega)
    | false => exact nz_opts dry sy f _ _ _ (by omega)
  split
  ·refine nz_bind (nz_value _ _ _ _ _) fun v q hq => ?_
   have l1 := valueS_len hq
   exact nz_opts dry sy f _ _ _ (by omega)
  split
  ·refine nz_bind (nz_value _ _ _ _ _) fun v q hq => ?_
   have l1 := valueS_len hq
   exact nz_opts dry sy f _ _ _ (by omega)
  split
  ·refine nz_bind (nz_value _ _ _ _ _) fun v q hq => ?_
   have l1 := valueS_len hq
   exact nz_opts dry sy f _ _ _ (by omega)
  ·exact nz_err (by decide)
theorem nz_seg (dry : Bool) (sy : SymS) (ws : List (List UInt8)) : NZ (segS dry sy ws) := by
 unfold segS
 split
 ·exact nz_bind (nz_value _ _ _ _ _) fun _ _ _ => nz_ok _
 ·split
  ·exact nz_bind (nz_value _ _ _ _ _) fun _ _ _ => nz_ok _
  ·split
   ·exact nz_bind (nz_use _ _ _ _) fun _ _ _ => nz_bind (nz_next _) fun _ _ _ => nz_ok _
   ·exact nz_bind (nz_use _ _ _ _) fun _ _ _ => nz_ok _
theorem nz_segs (dry : Bool) (sy : SymS) : ∀ (f : Nat) (l : List (Int × Int)) (ws : List (List UInt8)), ws.length < f → NZ (segsS dry sy f l ws)
 | 0, _, ws, h => absurd h (by omega)
 | f + 1, l, [], h => nz_ok _
 | f + 1, l, w :: r, h => by
  rw [segsS]
  refine nz_bind (nz_seg _ _ _) fun g q hq => ?_
  have := seg_len hq
  simp only [List.length_cons] at h this
  exact nz_segs dry sy f _ _ (by omega)
theorem lineS_ne0 {dry : Bool} {c : Cf} {ws : List (List UInt8)} (h : lineS dry c ws = .error 0) : False := by
 suffices H : NZ (lineS dry c ws) from H h
 cases ws with
 | nil => exact nz_err (by decide)
 | cons w r =>
  rw [lineS]
  split
  ·unfold nodeS
   have := nz_name r
   cases hn : nameS r with
   | error e => rw [hn] at this; exact fun e2 => this (by injection e2 with e2; rw [e2])
   | ok p => exact nz_eff (nz_fin _ _ _ _) _ _
  split
  ·exact nz_bind (nz_name _) fun _ _ _ => nz_bind (nz_ends _ _ _) fun _ r2 _ => nz_bind (nz_opts _ _ _ _ _ _ (by omega)) fun _ _ _ => nz_eff (nz_fin _ _ _ _) _ _
  split
  ·exact nz_bind (nz_name _) fun _ _ _ => nz_bind (nz_expect _ _) fun _ _ _ => nz_bind (nz_exprS _ _ _) fun _ _ _ => nz_eff (nz_fin _ _ _ _) _ _
  split
  ·refine nz_bind (nz_next _) fun v r1 _ => ?_
   split
   ·exact nz_err (by decide)
   ·exact nz_bind (nz_expect _ _) fun _ _ _ => nz_bind (nz_use _ _ _ _) fun _ _ _ => nz_eff (nz_fin _ _ _ _) _ _
  split
  ·exact nz_bind (nz_use _ _ _ _) fun _ _ _ => nz_bind (nz_value _ _ _ _ _) fun _ _ _ => nz_bind (nz_expect _ _) fun _ r3 _ => nz_bind (nz_segs _ _ _ _ _ (by omega)) fun _ _ _ => nz_eff (nz_fin _ _ _ _) _ _
  split
  ·refine nz_bind (nz_ends _ _ _) fun _ _ _ => nz_bind (nz_expect _ _) fun _ _ _ => nz_bind (nz_value _ _ _ _ _) fun _ _ _ => nz_bind ?_ fun _ _ _ => nz_eff (nz_fin _ _ _ _) _ _
   unfold prioS
   split
   ·exact nz_value _ _ _ _ _
   ·exact nz_ok _
  split
  ·refine nz_bind (nz_next _) fun v r1 _ => ?_
   unfold timerB
   split
   ·exact nz_err (by decide)
   ·exact nz_bind (nz_expect _ _) fun _ _ _ => nz_bind (nz_value _ _ _ _ _) fun _ _ _ => nz_eff (nz_fin _ _ _ _) _ _
  ·exact nz_err (by decide)
theorem bind_ok {α β : Type} {U : Except Int (α × List (List UInt8))} {f : α → List (List UInt8) → Except Int β} {y : β} (h : bindS U f = .ok y) : ∃ v r, U = .ok (v, r) ∧ f v r = .ok y := by
 cases U with
 | error e => cases h
 | ok p => exact ⟨p.1, p.2, rfl, h⟩
theorem eff_or {U : PR Bool} {c c' x : Cf} (h : effS U c c' = .ok x) : x = c ∨ x = c' := by
 unfold effS at h
 split at h
 ·cases h
 ·injection h with h; exact .inl h.symm
 ·injection h with h; exact .inr h.symm
theorem lineS_pfx {dry : Bool} {c c' : Cf} {ws : List (List UInt8)} (h : lineS dry c ws = .ok c') : c'.pfx.length ≤ c.pfx.length + 1 := by
 cases ws with
 | nil => cases h
 | cons w r =>
  rw [lineS] at h
  split at h
  ·unfold nodeS at h
   split at h
   ·cases h
   ·rcases eff_or h with rfl | rfl <;> simp
  split at h
  ·obtain ⟨_, _, _, h⟩ := bind_ok h
   obtain ⟨_, _, _, h⟩ := bind_ok h
   obtain ⟨_, _, _, h⟩ := bind_ok h
   rcases eff_or h with rfl | rfl <;> simp
  split at h
  ·obtain ⟨_, _, _, h⟩ := bind_ok h
   obtain ⟨_, _, _, h⟩ := bind_ok h
   obtain ⟨_, _, _, h⟩ := bind_ok h
   rcases eff_or h with rfl | rfl <;> simp
  split at h
  ·obtain ⟨_, _, _, h⟩ := bind_ok h
   split at h
   ·cases h
   ·obtain ⟨_, _, _, h⟩ := bind_ok h
    obtain ⟨_, _, _, h⟩ := bind_ok h
    rcases eff_or h with rfl | rfl <;> simp
  split at h
  ·obtain ⟨_, _, _, h⟩ := bind_ok h
   obtain ⟨_, _, _, h⟩ := bind_ok h
   obtain ⟨_, _, _, h⟩ := bind_ok h
   obtain ⟨_, _, _, h⟩ := bind_ok h
   rcases eff_or h with rfl | rfl <;> simp
  split at h
  ·obtain ⟨_, _, _, h⟩ := bind_ok h
   obtain ⟨_, _, _, h⟩ := bind_ok h
   obtain ⟨_, _, _, h⟩ := bind_ok h
   obtain ⟨_, _, _, h⟩ := bind_ok h
   rcases eff_or h with rfl | rfl <;> simp
  split at h
  ·obtain ⟨_, _, _, h⟩ := bind_ok h
   unfold timerB at h
   split at h
   ·cases h
   ·obtain ⟨_, _, _, h⟩ := bind_ok h
    obtain ⟨_, _, _, h⟩ := bind_ok h
    rcases eff_or h with rfl | rfl <;> simp
  ·cases h
end Go.Proofs.YtfimacgmciogmaaGreatDoor
