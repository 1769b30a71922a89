/-
  config.split: the words of a line (printed by gen_split.py).
-/
import Derived.Test.YtpofbhaipeiegaaGreatDoorRSplit
import Derived.Test.YtpofbhaipeiegaaGreatDoorCutS
namespace Go.Proofs.YtpofbhaipeiegaaGreatDoor
set_option linter.unusedSimpArgs false
set_option linter.unusedVariables false
open Go.RowKit Go.Sort

def symB (c : UInt8) : Bool := c == 61 || c == 40 || c == 41 || c == 43 || c == 45 || c == 42 || c == 60 || c == 62
def spcB (c : UInt8) : Bool := c == 32 || c == 9
/-- The words of a line, behind a word that has begun. -/
def wordsK (u : List UInt8) : List UInt8 → List (List UInt8)
  | [] => if u = [] then [] else [u]
  | x :: r => if (symB x || spcB x) = true then ((if u = [] then [] else [u]) ++ (if spcB x = true then [] else [[x]])) ++ wordsK [] r else wordsK (u ++ [x]) r
def wordsS (l : List UInt8) : List (List UInt8) := wordsK [] (cutA 35 l).1
def sepL : List UInt8 := [61, 40, 41, 43, 45, 42, 60, 62, 32, 9]
theorem sep_mem (c : UInt8) : c ∈ sepL ↔ (symB c || spcB c) = true := by
  simp [sepL, symB, spcB, or_assoc]
theorem sep_index (c : UInt8) : decide (0 ≤ Lib.indexByte sepL c) = (symB c || spcB c) := by
  by_cases h : c ∈ sepL
  · rw [(sep_mem c).1 h]
    obtain ⟨x, y, e, hx⟩ := indexByte_some h
    rw [e, indexByte_at hx]
    simp
  · rw [indexByte_none h]
    cases hb : (symB c || spcB c) with
    | true => exact absurd ((sep_mem c).2 hb) h
    | false => rfl

set_option maxHeartbeats 8000000 in
set_option maxRecDepth 100000 in
theorem cfg_split (s : List UInt8) (hs : s.length ≤ 1000000) (w : World) :
    Calls Tryz.prog 25 #[.string ⟨s.toArray⟩] w fun e w' => ∃ A c, e = .returned (.slice A (wordsS s).length c) ∧ (wordsS s).length ≤ c ∧ c ≤ maxLen ∧ Rd w' A ((wordsS s).map strW) ∧ Below w.heap.size w w' ∧ ∀ a, A = some a → w.heap.size ≤ a.block ∧ a.block < w'.heap.size := by
  obtain ⟨i0, hi, hz0, hz1, hz2⟩ := info_parts strInfo'
  obtain ⟨R, hR⟩ : ∃ R, R = wordsS s := ⟨_, rfl⟩
  rw [← hR]
  obtain ⟨l, hl⟩ : ∃ l, l = (cutA 35 s).1 := ⟨_, rfl⟩
  have hll : l.length ≤ 1000000 := by rw [hl]; exact Nat.le_trans (cutA_len 35 s) hs
  have HR0 : Hid (R = wordsK [] l) := Lib.hid (by rw [hR, hl]; rfl)
  have HCUT : Hid (Calls Tryz.prog 53 #[.string ⟨s.toArray⟩, .string ⟨#[35]⟩] w fun e w' => e = .returned (.tuple #[.string ⟨l.toArray⟩, .string ⟨(cutA 35 s).2.1.toArray⟩, .bool (cutA 35 s).2.2]) ∧ Below w.heap.size w w') := Lib.hid (by rw [hl]; exact strings_Cut1 35 s hs w)
  clear hR hl
  generalize (cutA 35 s).2.1 = rem1 at HCUT
  generalize (cutA 35 s).2.2 = fnd at HCUT
  go_enter Tryz.func25, Tryz.ntmps25
  go_wp2_with (go_at_call 53; refine HCUT.out.mono ?_; rintro e w1 ⟨rfl, hb1⟩)
  have HB1 := Lib.hid hb1
  clear hb1 HCUT
  go_loopw [3, 4, 15] (fun v bv iv wr => ∃ (k : Nat) (ou : List (List UInt8)) (q u : List UInt8), k ≤ l.length + 1 ∧ iv = .int .i64 k ∧ (∃ bi, bv = .int .i64 bi) ∧ Hid ((k ≤ l.length ∧ l.take k = q ++ u ∧ bv = .int .i64 (q.length : Int) ∧ ou ++ wordsK u (l.drop k) = R) ∨ (k = l.length + 1 ∧ ou = R)) ∧ ou.length ≤ 2 * k ∧ Hid (wr.ownsRow w.heap.size 9 1 v ou.length (ou.map strW)) ∧ Hid (Below w.heap.size w wr)) (fun _ _ iv _ => l.length + 1 - (intOf iv).toNat)
  case atStart => exact ⟨0, [], [], [], by omega, rfl, ⟨_, rfl⟩, Lib.hid (.inl ⟨Nat.zero_le _, rfl, rfl, by simpa using HR0.out.symm⟩), Nat.zero_le _, Lib.hid (World.ownsRow_nil _ _ _ _), HB1⟩
  case round =>
    clear HB1
    obtain ⟨k, ou, q, u, hk, rfl, ⟨bi, rfl⟩, HI, hou, HO, HB⟩ := hrel
    by_cases hkl : k = l.length + 1
    · have HE : Hid (ou = R) := Lib.hid (by
        rcases HI.out with h | h
        · omega
        · exact h.2)
      obtain rfl := HE.out
      obtain ⟨A, cp, rfl, h1, h2, h3⟩ := rd_of_own HO.out
      have HRR := Lib.hid (And.intro h1 (And.intro h2 h3))
      have HFR : Hid (∀ a, A = some a → w.heap.size ≤ a.block ∧ a.block < wr.heap.size) := Lib.hid (by rintro a rfl; exact HO.out.lt a.block rfl)
      clear h1 h2 h3 HO HI HE
      have hk2 : (k : Int) = (l.length : Int) + 1 := by omega
      go_wp2_with fail
      go_ret
      exact ⟨A, cp, rfl, HRR.out.1, HRR.out.2.1, HRR.out.2.2, HB.out, HFR.out⟩
    have hkl2 : k ≤ l.length := by omega
    obtain ⟨HQ, HBI, HR⟩ : Hid (l.take k = q ++ u) ∧ bi = (q.length : Int) ∧ Hid (ou ++ wordsK u (l.drop k) = R) := by
      rcases HI.out with h | h
      · exact ⟨Lib.hid h.2.1, by injection h.2.2.1, Lib.hid h.2.2.2⟩
      · omega
    subst HBI
    have hqu : q.length + u.length = k := by
      have := congrArg List.length HQ.out
      rw [List.length_take, List.length_append] at this
      omega
    have HOU := Lib.hid hou
    have hq0 : (0 : Int) ≤ (q.length : Int) := by omega
    have hq1 : (q.length : Int) ≤ (k : Int) := by omega
    have hq2 : (k : Int) ≤ (l.length : Int) := by omega
    have E2 := ext_mid HQ.out hkl2
    clear HI hou
    by_cases hlt : k < l.length
    · have hlt1 : (k : Int) < (l.length : Int) + 1 := by omega
      have hlt2 : (k : Int) < (l.length : Int) := by omega
      have hlt3 : (k : Int) + 1 ≤ (l.length : Int) := by omega
      have hlt4 : (k : Int) ≤ (k : Int) + 1 := by omega
      have hlt5 : (0 : Int) ≤ (k : Int) := by omega
      obtain ⟨x, hx⟩ : ∃ x, l[k]? = some x := ⟨_, List.getElem?_eq_getElem hlt⟩
      obtain ⟨_, hxe⟩ := List.getElem?_eq_some_iff.1 hx
      have hx2 : (⟨l.toArray⟩ : ByteArray)[k]'(by simpa [ByteArray.size] using hlt) = x := by simpa [ByteArray.getElem_eq_getElem_data] using hxe
      have hd : l.drop k = x :: l.drop (k + 1) := by rw [List.drop_eq_getElem_cons hlt, hxe]
      have htk : l.take (k + 1) = l.take k ++ [x] := by rw [List.take_succ_eq_append_getElem hlt, hxe]
      have HT := Lib.hid htk
      have E1 : (⟨l.toArray⟩ : ByteArray).extract k (k + 1) = ⟨#[x]⟩ := by
        have := ext_mid (s := l) (q := l.take k) (cur := [x]) (i := k + 1) htk (by omega)
        rwa [List.length_take, Nat.min_eq_left hkl2] at this
      replace HR : Hid (ou ++ wordsK u (x :: l.drop (k + 1)) = R) := Lib.hid (by rw [← hd]; exact HR.out)
      have HX : Hid (∀ w', Calls Tryz.prog 54 #[.string ⟨#[61, 40, 41, 43, 45, 42, 60, 62, 32, 9]⟩, .string ⟨#[x]⟩] w' fun e w'' => e = .returned (.bool (symB x || spcB x)) ∧ w'' = w') := Lib.hid fun w' => by
        have h := Tryz.strings_Contains_one ⟨#[61, 40, 41, 43, 45, 42, 60, 62, 32, 9]⟩ x w'
        rw [← sep_index]
        exact h
      clear hx hxe hd htk
      have h32 : ((x.toNat : Int) == 32) = (x == 32) := by
        by_cases h : x = 32
        · subst h; rfl
        · rw [beq_eq_false_iff_ne.2 h, beq_eq_false_iff_ne]; intro e; exact h (UInt8.toNat_inj.1 (by simpa using (by omega : x.toNat = 32)))
      have h9 : ((x.toNat : Int) == 9) = (x == 9) := by
        by_cases h : x = 9
        · subst h; rfl
        · rw [beq_eq_false_iff_ne.2 h, beq_eq_false_iff_ne]; intro e; exact h (UInt8.toNat_inj.1 (by simpa using (by omega : x.toNat = 9)))
      have n32 : ((x.toNat : Int) != 32) = !(x == 32) := by rw [bne, h32]
      have n9 : ((x.toNat : Int) != 9) = !(x == 9) := by rw [bne, h9]
      clear h32 h9
      cases hsb : symB x || spcB x with
      | false =>
        rw [hsb] at HX
        have HSB := Lib.hid hsb
        clear hsb
        go_wp2_with (go_at_call 54; refine (HX.out _).mono ?_; rintro e w9 ⟨rfl, rfl⟩)
        go_roundw
        case rel => exact ⟨k + 1, ou, q, u ++ [x], by omega, by go_num, ⟨_, rfl⟩, Lib.hid (.inl ⟨by omega, by rw [HT.out, HQ.out, List.append_assoc], rfl, by simpa [wordsK, HSB.out] using HR.out⟩), by have := HOU.out; omega, HO, HB⟩
        case measure => simp [intOf]; omega
      | true =>
        rw [hsb] at HX
        cases hsp : spcB x with
        | true =>
          obtain ⟨b32, hb32⟩ : ∃ b, b = (x == 32) := ⟨_, rfl⟩
          have h9b : b32 = false → (x == 9) = true := by
            intro e; rw [hb32] at e; unfold spcB at hsp; rw [e] at hsp; simpa using hsp
          rw [← hb32] at n32
          have HKIND : Hid ((symB x || spcB x) = true ∧ spcB x = true) := Lib.hid ⟨hsb, hsp⟩
          clear hsb hsp hb32
          cases b32 with
          | true =>
            clear h9b n9
            simp only [Bool.not_true] at n32
            by_cases hue : u = []
            · have HUE := Lib.hid hue
              have hqk : (q.length : Int) = (k : Int) := by rw [hue] at hqu; simp at hqu; omega
              have hqk2 : ¬ (q.length : Int) < (k : Int) := by omega
              clear hue
              -- spc empty
              go_wp2_with (first | (go_at_call 54; refine (HX.out _).mono ?_; rintro e w9 ⟨rfl, rfl⟩))
              go_roundw
              case rel => exact ⟨k + 1, ou, l.take (k + 1), [], by omega, by go_num, ⟨_, by go_num⟩, Lib.hid (.inl ⟨by omega, by simp, by rw [List.length_take, Nat.min_eq_left (by omega)]; go_num, by simpa [wordsK, HUE.out, HKIND.out] using HR.out⟩), by have := HOU.out; simp; omega, Lib.hid (by simpa using HO.out), Lib.hid HB.out⟩
              case measure => simp [intOf]; omega
            · have HUE := Lib.hid hue
              have hqk : (q.length : Int) < (k : Int) := by have := List.length_pos_iff.2 hue; omega
              clear hue
              -- spc word
              go_wp2_with (first | (go_at_call 54; refine (HX.out _).mono ?_; rintro e w9 ⟨rfl, rfl⟩) | (at_builtin; refine wpList_append_own _ rfl _ _ 27 rfl w.heap.size 9 i0 (.string ⟨#[]⟩) 1 16 Tryz.underlying27 hi hz0 hz1 hz2 rfl (by decide) _ _ _ rfl (HO.out.alloc _) ⟨_, 0, none⟩ 1 1 [.string (⟨u.toArray⟩)] rfl rfl (cell_one_new _ _ _) ?d2a ?d3a ?d4a ?d5a ?_))
              case d2a => first | rfl | (intro u hu; simp at hu; subst hu; rfl)
              case d3a => unfold maxLen; have := HOU.out; (try simp only [List.length_append, List.length_cons, List.length_nil]); omega
              case d4a => have := HOU.out; (try simp only [List.length_append, List.length_cons, List.length_nil]); omega
              case d5a => have := HB.out.size; simp; omega
              intro va wa howna hgrowa _
              (try rw [E2] at howna)
              have HOa : Hid (wa.ownsRow w.heap.size 9 1 va (ou.length + 1) ((ou ++ [u]).map strW)) := Lib.hid (by rw [List.map_append]; exact howna)
              have HBa := Lib.hid (HB.out.trans (own_add' HO.out HB.out.size hgrowa))
              clear howna hgrowa
              go_wp2_with fail
              go_roundw
              case rel => exact ⟨k + 1, (ou ++ [u]), l.take (k + 1), [], by omega, by go_num, ⟨_, by go_num⟩, Lib.hid (.inl ⟨by omega, by simp, by rw [List.length_take, Nat.min_eq_left (by omega)]; go_num, by simpa [wordsK, HUE.out, HKIND.out] using HR.out⟩), by have := HOU.out; simp; omega, Lib.hid (by simpa using HOa.out), Lib.hid HBa.out⟩
              case measure => simp [intOf]; omega
          | false =>
            rw [h9b rfl] at n9
            clear h9b
            simp only [Bool.not_true, Bool.not_false] at n32 n9
            by_cases hue : u = []
            · have HUE := Lib.hid hue
              have hqk : (q.length : Int) = (k : Int) := by rw [hue] at hqu; simp at hqu; omega
              have hqk2 : ¬ (q.length : Int) < (k : Int) := by omega
              clear hue
              -- spc empty
              go_wp2_with (first | (go_at_call 54; refine (HX.out _).mono ?_; rintro e w9 ⟨rfl, rfl⟩))
              go_roundw
              case rel => exact ⟨k + 1, ou, l.take (k + 1), [], by omega, by go_num, ⟨_, by go_num⟩, Lib.hid (.inl ⟨by omega, by simp, by rw [List.length_take, Nat.min_eq_left (by omega)]; go_num, by simpa [wordsK, HUE.out, HKIND.out] using HR.out⟩), by have := HOU.out; simp; omega, Lib.hid (by simpa using HO.out), Lib.hid HB.out⟩
              case measure => simp [intOf]; omega
            · have HUE := Lib.hid hue
              have hqk : (q.length : Int) < (k : Int) := by have := List.length_pos_iff.2 hue; omega
              clear hue
              -- spc word
              go_wp2_with (first | (go_at_call 54; refine (HX.out _).mono ?_; rintro e w9 ⟨rfl, rfl⟩) | (at_builtin; refine wpList_append_own _ rfl _ _ 27 rfl w.heap.size 9 i0 (.string ⟨#[]⟩) 1 16 Tryz.underlying27 hi hz0 hz1 hz2 rfl (by decide) _ _ _ rfl (HO.out.alloc _) ⟨_, 0, none⟩ 1 1 [.string (⟨u.toArray⟩)] rfl rfl (cell_one_new _ _ _) ?d2a ?d3a ?d4a ?d5a ?_))
              case d2a => first | rfl | (intro u hu; simp at hu; subst hu; rfl)
              case d3a => unfold maxLen; have := HOU.out; (try simp only [List.length_append, List.length_cons, List.length_nil]); omega
              case d4a => have := HOU.out; (try simp only [List.length_append, List.length_cons, List.length_nil]); omega
              case d5a => have := HB.out.size; simp; omega
              intro va wa howna hgrowa _
              (try rw [E2] at howna)
              have HOa : Hid (wa.ownsRow w.heap.size 9 1 va (ou.length + 1) ((ou ++ [u]).map strW)) := Lib.hid (by rw [List.map_append]; exact howna)
              have HBa := Lib.hid (HB.out.trans (own_add' HO.out HB.out.size hgrowa))
              clear howna hgrowa
              go_wp2_with fail
              go_roundw
              case rel => exact ⟨k + 1, (ou ++ [u]), l.take (k + 1), [], by omega, by go_num, ⟨_, by go_num⟩, Lib.hid (.inl ⟨by omega, by simp, by rw [List.length_take, Nat.min_eq_left (by omega)]; go_num, by simpa [wordsK, HUE.out, HKIND.out] using HR.out⟩), by have := HOU.out; simp; omega, Lib.hid (by simpa using HOa.out), Lib.hid HBa.out⟩
              case measure => simp [intOf]; omega
        | false =>
          have hs32 : (x == 32) = false ∧ (x == 9) = false := by unfold spcB at hsp; simpa using hsp
          rw [hs32.1] at n32
          rw [hs32.2] at n9
          have HKIND : Hid (symB x = true ∧ spcB x = false) := Lib.hid ⟨by simpa [hsp] using hsb, hsp⟩
          clear hsb hsp hs32
          simp only [Bool.not_false] at n32 n9
          by_cases hue : u = []
          · have HUE := Lib.hid hue
            have hqk : (q.length : Int) = (k : Int) := by rw [hue] at hqu; simp at hqu; omega
            have hqk2 : ¬ (q.length : Int) < (k : Int) := by omega
            clear hue
            -- sym empty
            go_wp2_with (first | (go_at_call 54; refine (HX.out _).mono ?_; rintro e w9 ⟨rfl, rfl⟩) | (at_builtin; refine wpList_append_own _ rfl _ _ 27 rfl w.heap.size 9 i0 (.string ⟨#[]⟩) 1 16 Tryz.underlying27 hi hz0 hz1 hz2 rfl (by decide) _ _ _ rfl (HO.out.alloc _) ⟨_, 0, none⟩ 1 1 [.string ⟨#[x]⟩] rfl rfl (cell_one_new _ _ _) ?d2b ?d3b ?d4b ?d5b ?_))
            case d2b => first | rfl | (intro u hu; simp at hu; subst hu; rfl)
            case d3b => unfold maxLen; have := HOU.out; (try simp only [List.length_append, List.length_cons, List.length_nil]); omega
            case d4b => have := HOU.out; (try simp only [List.length_append, List.length_cons, List.length_nil]); omega
            case d5b => have := HB.out.size; simp; omega
            intro vb wb hownb hgrowb _
            have HOb : Hid (wb.ownsRow w.heap.size 9 1 vb (ou.length + 1) ((ou ++ [[x]]).map strW)) := Lib.hid (by simpa [strW] using hownb)
            have HBb := Lib.hid (HB.out.trans (own_add' HO.out HB.out.size hgrowb))
            clear hownb hgrowb
            go_wp2_with fail
            go_roundw
            case rel => exact ⟨k + 1, (ou ++ [[x]]), l.take (k + 1), [], by omega, by go_num, ⟨_, by go_num⟩, Lib.hid (.inl ⟨by omega, by simp, by rw [List.length_take, Nat.min_eq_left (by omega)]; go_num, by simpa [wordsK, HUE.out, HKIND.out] using HR.out⟩), by have := HOU.out; simp; omega, Lib.hid (by simpa using HOb.out), Lib.hid HBb.out⟩
            case measure => simp [intOf]; omega
          · have HUE := Lib.hid hue
            have hqk : (q.length : Int) < (k : Int) := by have := List.length_pos_iff.2 hue; omega
            clear hue
            -- sym word
            go_wp2_with (first | (go_at_call 54; refine (HX.out _).mono ?_; rintro e w9 ⟨rfl, rfl⟩) | (at_builtin; refine wpList_append_own _ rfl _ _ 27 rfl w.heap.size 9 i0 (.string ⟨#[]⟩) 1 16 Tryz.underlying27 hi hz0 hz1 hz2 rfl (by decide) _ _ _ rfl (HO.out.alloc _) ⟨_, 0, none⟩ 1 1 [.string (⟨u.toArray⟩)] rfl rfl (cell_one_new _ _ _) ?d2a ?d3a ?d4a ?d5a ?_))
            case d2a => first | rfl | (intro u hu; simp at hu; subst hu; rfl)
            case d3a => unfold maxLen; have := HOU.out; (try simp only [List.length_append, List.length_cons, List.length_nil]); omega
            case d4a => have := HOU.out; (try simp only [List.length_append, List.length_cons, List.length_nil]); omega
            case d5a => have := HB.out.size; simp; omega
            intro va wa howna hgrowa _
            (try rw [E2] at howna)
            have HOa : Hid (wa.ownsRow w.heap.size 9 1 va (ou.length + 1) ((ou ++ [u]).map strW)) := Lib.hid (by rw [List.map_append]; exact howna)
            have HBa := Lib.hid (HB.out.trans (own_add' HO.out HB.out.size hgrowa))
            clear howna hgrowa
            go_wp2_with (first | (go_at_call 54; refine (HX.out _).mono ?_; rintro e w9 ⟨rfl, rfl⟩) | (at_builtin; refine wpList_append_own _ rfl _ _ 27 rfl w.heap.size 9 i0 (.string ⟨#[]⟩) 1 16 Tryz.underlying27 hi hz0 hz1 hz2 rfl (by decide) _ _ _ rfl (HOa.out.alloc _) ⟨_, 0, none⟩ 1 1 [.string ⟨#[x]⟩] rfl rfl (cell_one_new _ _ _) ?d2b ?d3b ?d4b ?d5b ?_))
            case d2b => first | rfl | (intro u hu; simp at hu; subst hu; rfl)
            case d3b => unfold maxLen; have := HOU.out; (try simp only [List.length_append, List.length_cons, List.length_nil]); omega
            case d4b => have := HOU.out; (try simp only [List.length_append, List.length_cons, List.length_nil]); omega
            case d5b => have := HBa.out.size; simp; omega
            intro vb wb hownb hgrowb _
            have HOb : Hid (wb.ownsRow w.heap.size 9 1 vb (ou.length + 2) (((ou ++ [u]) ++ [[x]]).map strW)) := Lib.hid (by simpa [strW] using hownb)
            have HBb := Lib.hid (HBa.out.trans (own_add' HOa.out HBa.out.size hgrowb))
            clear hownb hgrowb
            go_wp2_with fail
            go_roundw
            case rel => exact ⟨k + 1, ((ou ++ [u]) ++ [[x]]), l.take (k + 1), [], by omega, by go_num, ⟨_, by go_num⟩, Lib.hid (.inl ⟨by omega, by simp, by rw [List.length_take, Nat.min_eq_left (by omega)]; go_num, by simpa [wordsK, HUE.out, HKIND.out] using HR.out⟩), by have := HOU.out; simp; omega, Lib.hid (by simpa using HOb.out), Lib.hid HBb.out⟩
            case measure => simp [intOf]; omega
    · have hke : k = l.length := by omega
      have hlt1 : (k : Int) < (l.length : Int) + 1 := by omega
      have hlt2 : ¬ (k : Int) < (l.length : Int) := by omega
      replace HR : Hid (ou ++ wordsK u [] = R) := Lib.hid (by have := HR.out; rwa [hke, List.drop_length] at this)
      clear hlt
      subst hke
      by_cases hue : u = []
      · have HUE := Lib.hid hue
        have hqk : (q.length : Int) = (l.length : Int) := by rw [hue] at hqu; simp at hqu; omega
        have hqk2 : ¬ (q.length : Int) < (l.length : Int) := by omega
        clear hue
        -- end empty
        go_wp2_with fail
        go_roundw
        case rel => exact ⟨l.length + 1, ou, [], [], by omega, by go_num, ⟨_, by go_num⟩, Lib.hid (.inr ⟨by omega, by simpa [wordsK, HUE.out] using HR.out⟩), by have := HOU.out; simp; omega, Lib.hid (by simpa using HO.out), Lib.hid HB.out⟩
        case measure => simp [intOf]
      · have HUE := Lib.hid hue
        have hqk : (q.length : Int) < (l.length : Int) := by have := List.length_pos_iff.2 hue; omega
        clear hue
        -- end word
        go_wp2_with (first | (at_builtin; refine wpList_append_own _ rfl _ _ 27 rfl w.heap.size 9 i0 (.string ⟨#[]⟩) 1 16 Tryz.underlying27 hi hz0 hz1 hz2 rfl (by decide) _ _ _ rfl (HO.out.alloc _) ⟨_, 0, none⟩ 1 1 [.string (⟨u.toArray⟩)] rfl rfl (cell_one_new _ _ _) ?d2a ?d3a ?d4a ?d5a ?_))
        case d2a => first | rfl | (intro u hu; simp at hu; subst hu; rfl)
        case d3a => unfold maxLen; have := HOU.out; (try simp only [List.length_append, List.length_cons, List.length_nil]); omega
        case d4a => have := HOU.out; (try simp only [List.length_append, List.length_cons, List.length_nil]); omega
        case d5a => have := HB.out.size; simp; omega
        intro va wa howna hgrowa _
        (try rw [E2] at howna)
        have HOa : Hid (wa.ownsRow w.heap.size 9 1 va (ou.length + 1) ((ou ++ [u]).map strW)) := Lib.hid (by rw [List.map_append]; exact howna)
        have HBa := Lib.hid (HB.out.trans (own_add' HO.out HB.out.size hgrowa))
        clear howna hgrowa
        go_wp2_with fail
        go_roundw
        case rel => exact ⟨l.length + 1, (ou ++ [u]), [], [], by omega, by go_num, ⟨_, by go_num⟩, Lib.hid (.inr ⟨by omega, by simpa [wordsK, HUE.out] using HR.out⟩), by have := HOU.out; simp; omega, Lib.hid (by simpa using HOa.out), Lib.hid HBa.out⟩
        case measure => simp [intOf]

end Go.Proofs.YtpofbhaipeiegaaGreatDoor
