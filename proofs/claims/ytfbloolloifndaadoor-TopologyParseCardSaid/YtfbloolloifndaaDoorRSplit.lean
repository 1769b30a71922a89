/-
  waypointref09.Split: what it returns.
-/
import Derived.Test.YtfbloolloifndaaDoorOut
import Derived.Test.YtfbloolloifndaaDoorSplit
import Derived.Maps.AppendAt
namespace Go.Proofs.YtfbloolloifndaaDoor
open Go.RowKit Go.Sort

theorem split_app {c : UInt8} {t : List UInt8} (ht : c ∉ t) : ∀ (n : Nat) (s : List UInt8), s.length ≤ n → ∀ out cur, splitK c [] s = out ++ [cur] → splitK c [] (s ++ t) = out ++ [cur ++ t] := by
  intro n
  induction n with
  | zero =>
    intro s hs out cur h
    obtain rfl : s = [] := List.eq_nil_of_length_eq_zero (by omega)
    rw [show splitK c [] [] = [] ++ [[]] from rfl] at h
    obtain ⟨h1, h2⟩ := List.append_inj' h rfl
    injection h2 with h2
    rw [← h1, ← h2, List.nil_append, splitK_miss ht]
    rfl
  | succ n ih =>
    intro s hs out cur h
    by_cases hc : c ∈ s
    · obtain ⟨x, y, rfl, hx⟩ := indexByte_some hc
      rw [splitK_hit hx] at h
      have hy : y.length ≤ n := by simp at hs; omega
      cases out with
      | nil =>
        simp only [List.nil_append] at h
        injection h with _ h
        exact absurd h (splitK_ne _ _ _)
      | cons o r =>
        rw [List.cons_append] at h
        injection h with h1 h2
        rw [List.append_assoc, List.cons_append, splitK_hit hx, ih y hy r cur h2, h1]
        rfl
    · rw [splitK_miss hc, show [s] = [] ++ [s] from rfl] at h
      obtain ⟨h1, h2⟩ := List.append_inj' h rfl
      injection h2 with h2
      rw [← h1, ← h2, splitK_miss (by simp [hc, ht])]
      rfl
theorem split_endc {c : UInt8} (s : List UInt8) : splitK c [] (s ++ [c]) = splitK c [] s ++ [[]] := by
  induction s with
  | nil => simp [splitK]
  | cons x r ih =>
    by_cases h : x = c
    · subst h
      rw [List.cons_append, splitK, if_pos rfl, ih, splitK, if_pos rfl, List.cons_append]
    · rw [List.cons_append, splitK_cons h, splitK_cons h, ih]
      cases hs : splitK c [] r with
      | nil => exact absurd hs (splitK_ne _ _ _)
      | cons p ps => rfl
theorem split_last (c : UInt8) (s : List UInt8) : ∃ out cur, splitK c [] s = out ++ [cur] :=
  ⟨_, _, (List.dropLast_concat_getLast (splitK_ne c [] s)).symm⟩

def strW (l : List UInt8) : Value := .string ⟨l.toArray⟩
theorem strInfo' : (Tryd.prog.info? 9).map (fun i => (i.zero, i.size, i.bytes)) = some (some (.string ⟨#[]⟩), 1, 16) := by kernel_rfl
/-- One append of a value of one cell. -/
theorem own_add' {B : Nat} {E : TypeId} {wr w1 : World} {v : Value} {xs : List Value} {o : Obj} {n : Nat} (hown : wr.ownsRow B E 1 v n xs) (hB : B ≤ wr.heap.size)
    (hg : (wr.alloc o).grownBy w1 v.ownBlock) : Below B wr w1 :=
  ((Below.refl B wr).alloc hB o).grown hg (by simp; omega) (fun k hk => (hown.lt k hk).1)
theorem ext_mid {s q cur : List UInt8} {i : Nat} (h : s.take i = q ++ cur) (hi : i ≤ s.length) : (⟨s.toArray⟩ : ByteArray).extract q.length i = ⟨cur.toArray⟩ := by
  have hs : s = q ++ cur ++ s.drop i := by rw [← h]; exact (List.take_append_drop i s).symm
  have hl : i = (q ++ cur).length := by rw [← h, List.length_take]; omega
  apply ByteArray.ext
  simp only [ByteArray.data_extract]
  rw [hs, hl]
  simp

/-- A call that returns a list of strings and a bool. -/
def RetSB (w : World) (ws : List (List UInt8)) (b : Bool) (e : Ending) (w' : World) : Prop :=
  ∃ A c, e = .returned (.tuple #[.slice A ws.length c, .bool b]) ∧ ws.length ≤ c ∧ c ≤ maxLen ∧ Rd w' A (ws.map strW) ∧ Below w.heap.size w w'

/-- The same, and the list's block is a new one. -/
def RetSBF (w : World) (ws : List (List UInt8)) (b : Bool) (e : Ending) (w' : World) : Prop :=
  ∃ A c, e = .returned (.tuple #[.slice A ws.length c, .bool b]) ∧ ws.length ≤ c ∧ c ≤ maxLen ∧ Rd w' A (ws.map strW) ∧ Below w.heap.size w w' ∧ ∀ a, A = some a → w.heap.size ≤ a.block

set_option maxHeartbeats 2000000 in
set_option maxRecDepth 100000 in
theorem ref09_SplitF (s : List UInt8) (c : UInt8) (out : List (List UInt8)) (cur : List UInt8) (hsp : splitK c [] s = out ++ [cur]) (hs : s.length ≤ 1000000) (w : World) :
    Calls Tryd.prog 24 #[.string ⟨s.toArray⟩, .int .u8 (c.toNat : Int)] w (RetSBF w out (decide (cur = []))) := by
  obtain ⟨i0, hi, hz0, hz1, hz2⟩ := info_parts strInfo'
  have HSP := Lib.hid hsp
  clear hsp
  go_enter Tryd.func24, Tryd.ntmps24
  go_wp2_with fail
  go_loopw [6, 7, 8] (fun v fv iv wr => ∃ (i : Nat) (o q u : List UInt8) (ou : List (List UInt8)), i ≤ s.length ∧ iv = .int .i64 i ∧ fv = .int .i64 (q.length : Int) ∧ q.length ≤ i ∧ Hid (s.take i = q ++ u) ∧ Hid (splitK c [] (s.take i) = ou ++ [u]) ∧ ou.length ≤ i ∧ Hid (wr.ownsRow w.heap.size 9 1 v ou.length (ou.map strW)) ∧ Hid (Below w.heap.size w wr)) (fun _ _ iv _ => s.length - (intOf iv).toNat)
  case atStart => exact ⟨0, [], [], [], [], Nat.zero_le _, rfl, rfl, Nat.zero_le _, Lib.hid rfl, Lib.hid rfl, Nat.zero_le _, Lib.hid (World.ownsRow_nil _ _ _ _), Lib.hid (Below.refl _ _)⟩
  case round =>
    obtain ⟨i, o, q, u, ou, hil, rfl, rfl, hqi, HQ, HS, hou, HO, HB⟩ := hrel
    by_cases hlt : i < s.length
    · have hlt' : (i : Int) < (s.length : Int) := by omega
      obtain ⟨b, hb⟩ : ∃ b, s[i]? = some b := ⟨_, List.getElem?_eq_getElem hlt⟩
      obtain ⟨_, hbe⟩ := List.getElem?_eq_some_iff.1 hb
      have hb2 : (⟨s.toArray⟩ : ByteArray)[i]'(by simpa [ByteArray.size] using hlt) = b := by simpa [ByteArray.getElem_eq_getElem_data] using hbe
      have htk : s.take (i + 1) = s.take i ++ [b] := by rw [List.take_succ_eq_append_getElem hlt, hbe]
      have HT := Lib.hid htk
      clear hb hbe htk
      by_cases hbc : b = c
      · subst hbc
        have hq1 : (q.length : Int) ≤ (i : Int) := by omega
        have hq2 : (i : Int) ≤ (s.length : Int) := by omega
        have HE := Lib.hid (ext_mid HQ.out (by omega))
        have HS2 : Hid (splitK b [] (s.take (i + 1)) = (ou ++ [u]) ++ [[]]) := Lib.hid (by rw [HT.out, split_endc, HS.out])
        have HQ2 : Hid (s.take (i + 1) = s.take (i + 1) ++ []) := Lib.hid (by simp)
        have hl1 : (s.take (i + 1)).length = i + 1 := by rw [List.length_take]; omega
        have HL1 := Lib.hid hl1
        clear hl1
        have hsz := HB.out.size
        go_wp2_with (at_builtin; refine wpList_append_own _ rfl _ _ 56 rfl w.heap.size 9 i0 (.string ⟨#[]⟩) 1 16 Tryd.underlying56 hi hz0 hz1 hz2 rfl (by decide) _ _ _ rfl (HO.out.alloc _) ⟨_, 0, none⟩ 1 1 [.string ((⟨s.toArray⟩ : ByteArray).extract q.length i)] rfl rfl (cell_one_new _ _ _) ?d2 ?d3 ?d4 ?d5 ?_)
        case d2 => intro u hu; simp at hu; subst hu; rfl
        case d3 => unfold maxLen; omega
        case d4 => omega
        case d5 => simp; omega
        intro v' w2 hown' hgrow _
        have R := own_add' HO.out hsz hgrow
        have HO2 : Hid (w2.ownsRow w.heap.size 9 1 v' (ou ++ [u]).length ((ou ++ [u]).map strW)) := Lib.hid (by
          rw [HE.out] at hown'
          rw [List.map_append, List.length_append]
          exact hown')
        have HB2 := Lib.hid (HB.out.trans R)
        clear hown' hgrow R HO HB hsz
        go_wp2_with fail
        go_roundw
        case rel => exact ⟨i + 1, o, s.take (i + 1), [], ou ++ [u], by omega, by go_num, by rw [HL1.out]; go_num, by rw [HL1.out]; exact Nat.le_refl _, HQ2, HS2, by simp; omega, HO2, HB2⟩
        case measure => simp [intOf]; omega
      · have hbn : ((b.toNat : Int) == (c.toNat : Int)) = false := by
          rw [beq_eq_false_iff_ne]; intro e; exact hbc (UInt8.toNat_inj.1 (by omega))
        have HQ2 : Hid (s.take (i + 1) = q ++ (u ++ [b])) := Lib.hid (by rw [HT.out, HQ.out, List.append_assoc])
        have HS2 : Hid (splitK c [] (s.take (i + 1)) = ou ++ [u ++ [b]]) := Lib.hid (by rw [HT.out]; exact split_app (by simp; exact fun e => hbc e.symm) _ _ (Nat.le_refl _) _ _ HS.out)
        clear hbc
        go_wp2_with fail
        go_roundw
        case rel => exact ⟨i + 1, o, q, u ++ [b], ou, by omega, by go_num, rfl, by omega, HQ2, HS2, by omega, HO, HB⟩
        case measure => simp [intOf]; omega
    · obtain rfl : i = s.length := by omega
      have HX : Hid (ou = out ∧ u = cur) := Lib.hid (by
        have h := HS.out
        rw [List.take_length, HSP.out] at h
        obtain ⟨h1, h2⟩ := List.append_inj' h rfl
        injection h2 with h2
        exact ⟨h1.symm, h2.symm⟩)
      have hql : q.length + u.length = s.length := by
        have := congrArg List.length HQ.out
        rw [List.take_length, List.length_append] at this
        exact this.symm
      obtain ⟨e1, e2⟩ := HX.out
      subst e1 e2
      obtain ⟨A, cp, rfl, h1, h2, h3⟩ := rd_of_own HO.out
      have hbb : (decide ((q.length : Int) = (s.length : Int))) = decide (u = []) := by
        rw [decide_eq_decide]
        constructor
        · intro h; exact List.eq_nil_of_length_eq_zero (by omega)
        · rintro rfl; simp at hql; omega
      have hbb' : ((q.length : Int) == (s.length : Int)) = decide (u = []) := by rw [← hbb]; rfl
      have hbn : (q.length == s.length) = decide (u = []) := by
        rw [Bool.eq_iff_iff, beq_iff_eq, decide_eq_true_iff]
        constructor
        · intro h; exact List.eq_nil_of_length_eq_zero (by omega)
        · rintro rfl; simp at hql; omega
      have HR := Lib.hid (And.intro h1 (And.intro h2 h3))
      have HFR : Hid (∀ a, A = some a → w.heap.size ≤ a.block) := Lib.hid (by rintro a rfl; exact (HO.out.lt a.block rfl).1)
      clear h1 h2 h3 HO HX hbb
      generalize decide (u = []) = bb at *
      go_wp2_with fail
      go_ret2
      exact ⟨A, cp, rfl, HR.out.1, HR.out.2.1, HR.out.2.2, HB.out, HFR.out⟩
theorem ref09_Split (s : List UInt8) (c : UInt8) (out : List (List UInt8)) (cur : List UInt8) (hsp : splitK c [] s = out ++ [cur]) (hs : s.length ≤ 1000000) (w : World) :
    Calls Tryd.prog 24 #[.string ⟨s.toArray⟩, .int .u8 (c.toNat : Int)] w (RetSB w out (decide (cur = []))) := by
  refine (ref09_SplitF s c out cur hsp hs w).mono ?_
  rintro e w' ⟨A, cp, he, h1, h2, h3, hb, _⟩
  exact ⟨A, cp, he, h1, h2, h3, hb⟩

end Go.Proofs.YtfbloolloifndaaDoor
