/-
  waypointref55.words: what it returns.
-/
import Derived.Test.YtjcnjnonhncelaaDoorRefR
import Derived.Test.YtjcnjnonhncelaaDoorRSplit
namespace Go.Proofs.YtjcnjnonhncelaaDoor
open Go.RowKit Go.Sort
set_option linter.unusedSimpArgs false
set_option linter.unusedVariables false

/-- A call that returns a list of strings of its own. -/
def RetOwnS (w : World) (ws : List (List UInt8)) (e : Ending) (w' : World) : Prop :=
  ∃ v, e = .returned v ∧ w'.ownsRow w.heap.size 9 1 v ws.length (ws.map strW) ∧ Below w.heap.size w w'

set_option maxHeartbeats 2000000 in
set_option maxRecDepth 100000 in
theorem ref55_words (s : List UInt8) (hs : s.length ≤ 1000000) (w : World) :
    Calls Tryd.prog 63 #[.string ⟨s.toArray⟩] w (RetOwnS w (splitK 32 [] s)) := by
  obtain ⟨i0, hi, hz0, hz1, hz2⟩ := info_parts strInfo'
  go_enter Tryd.func63, Tryd.ntmps63
  go_wp2_with fail
  go_loopw [3, 4, 5] (fun v fv iv wr => (∃ (i : Nat) (q u : List UInt8) (ou : List (List UInt8)), i ≤ s.length ∧ iv = .int .i64 i ∧ fv = .int .i64 (q.length : Int) ∧ q.length ≤ i ∧ Hid (s.take i = q ++ u) ∧ Hid (splitK 32 [] (s.take i) = ou ++ [u]) ∧ ou.length ≤ i ∧ Hid (wr.ownsRow w.heap.size 9 1 v ou.length (ou.map strW)) ∧ Hid (Below w.heap.size w wr)) ∨ (iv = .int .i64 ((s.length : Int) + 1) ∧ (∃ f : Int, fv = .int .i64 f) ∧ Hid (wr.ownsRow w.heap.size 9 1 v (splitK 32 [] s).length ((splitK 32 [] s).map strW)) ∧ Hid (Below w.heap.size w wr))) (fun _ _ iv _ => s.length + 1 - (intOf iv).toNat)
  case atStart => exact .inl ⟨0, [], [], [], Nat.zero_le _, rfl, rfl, Nat.zero_le _, Lib.hid rfl, Lib.hid rfl, Nat.zero_le _, Lib.hid (World.ownsRow_nil _ _ _ _), Lib.hid (Below.refl _ _)⟩
  case round =>
    rcases hrel with ⟨i, q, u, ou, hil, rfl, rfl, hqi, HQ, HS, hou, HO, HB⟩ | ⟨rfl, ⟨f, rfl⟩, HO, HB⟩
    · by_cases hlt : i < s.length
      · have hlt' : (i : Int) < (s.length : Int) := by omega
        obtain ⟨b, hb⟩ : ∃ b, s[i]? = some b := ⟨_, List.getElem?_eq_getElem hlt⟩
        obtain ⟨_, hbe⟩ := List.getElem?_eq_some_iff.1 hb
        have hb2 : (⟨s.toArray⟩ : ByteArray)[i]'(by simpa [ByteArray.size] using hlt) = b := by simpa [ByteArray.getElem_eq_getElem_data] using hbe
        have htk : s.take (i + 1) = s.take i ++ [b] := by rw [List.take_succ_eq_append_getElem hlt, hbe]
        have HT := Lib.hid htk
        have hie : ((i : Int) == (s.length : Int)) = false := by rw [beq_eq_false_iff_ne]; omega
        clear hb hbe htk
        by_cases hbc : b = 32
        · subst hbc
          have hq1 : (q.length : Int) ≤ (i : Int) := by omega
          have hq2 : (i : Int) ≤ (s.length : Int) := by omega
          have HE := Lib.hid (ext_mid HQ.out (by omega))
          have HS2 : Hid (splitK 32 [] (s.take (i + 1)) = (ou ++ [u]) ++ [[]]) := Lib.hid (by rw [HT.out, split_endc, HS.out])
          have HQ2 : Hid (s.take (i + 1) = s.take (i + 1) ++ []) := Lib.hid (by simp)
          have hl1 : (s.take (i + 1)).length = i + 1 := by rw [List.length_take]; omega
          have HL1 := Lib.hid hl1
          clear hl1
          have hsz := HB.out.size
          go_wp2_with (at_builtin; refine wpList_append_own _ rfl _ _ 93 rfl w.heap.size 9 i0 (.string ⟨#[]⟩) 1 16 Tryd.underlying93 hi hz0 hz1 hz2 rfl (by decide) _ _ _ rfl (HO.out.alloc _) ⟨_, 0, none⟩ 1 1 [.string ((⟨s.toArray⟩ : ByteArray).extract q.length i)] rfl rfl (cell_one_new _ _ _) ?d2 ?d3 ?d4 ?d5 ?_)
          case d2 => intro u hu; simp at hu; subst hu; rfl
          case d3 => unfold maxLen; omega
          case d4 => omega
          case d5 => simp; omega
          intro v' w2 hown' hgrow _
          have R := own_add' HO.out hsz hgrow
          have HO2 : Hid (w2.ownsRow w.heap.size 9 1 v' (ou ++ [u]).length ((ou ++ [u]).map strW)) := Lib.hid (by
            rw [HE.out] at hown'
            rw [List.map_append, List.length_append]
            exact hown')
          have HB2 := Lib.hid (HB.out.trans R)
          clear hown' hgrow R HO HB hsz
          go_wp2_with fail
          go_roundw
          case rel => exact .inl ⟨i + 1, s.take (i + 1), [], ou ++ [u], by omega, by go_num, by rw [HL1.out]; go_num, by rw [HL1.out]; exact Nat.le_refl _, HQ2, HS2, by simp; omega, HO2, HB2⟩
          case measure => simp [intOf]; omega
        · have hbn : ((b.toNat : Int) == 32) = false := by
            rw [beq_eq_false_iff_ne]; intro e; exact hbc (UInt8.toNat_inj.1 (by rw [show (32 : UInt8).toNat = 32 from rfl]; omega))
          have HQ2 : Hid (s.take (i + 1) = q ++ (u ++ [b])) := Lib.hid (by rw [HT.out, HQ.out, List.append_assoc])
          have HS2 : Hid (splitK 32 [] (s.take (i + 1)) = ou ++ [u ++ [b]]) := Lib.hid (by rw [HT.out]; exact split_app (by simp; exact fun e => hbc e.symm) _ _ (Nat.le_refl _) _ _ HS.out)
          clear hbc
          go_wp2_with fail
          go_roundw
          case rel => exact .inl ⟨i + 1, q, u ++ [b], ou, by omega, by go_num, rfl, by omega, HQ2, HS2, by omega, HO, HB⟩
          case measure => simp [intOf]; omega
      · obtain rfl : i = s.length := by omega
        have hq1 : (q.length : Int) ≤ (s.length : Int) := by omega
        have HE := Lib.hid (ext_mid HQ.out (by omega))
        have HS2 : Hid (splitK 32 [] s = ou ++ [u]) := Lib.hid (by have := HS.out; rwa [List.take_length] at this)
        have hie : ((s.length : Int) == (s.length : Int)) = true := by simp
        have hsz := HB.out.size
        clear HQ HS
        go_wp2_with (at_builtin; refine wpList_append_own _ rfl _ _ 93 rfl w.heap.size 9 i0 (.string ⟨#[]⟩) 1 16 Tryd.underlying93 hi hz0 hz1 hz2 rfl (by decide) _ _ _ rfl (HO.out.alloc _) ⟨_, 0, none⟩ 1 1 [.string ((⟨s.toArray⟩ : ByteArray).extract q.length s.length)] rfl rfl (cell_one_new _ _ _) ?d2 ?d3 ?d4 ?d5 ?_)
        case d2 => intro u hu; simp at hu; subst hu; rfl
        case d3 => unfold maxLen; omega
        case d4 => omega
        case d5 => simp; omega
        intro v' w2 hown' hgrow _
        have R := own_add' HO.out hsz hgrow
        have HO2 : Hid (w2.ownsRow w.heap.size 9 1 v' (splitK 32 [] s).length ((splitK 32 [] s).map strW)) := Lib.hid (by
          rw [HE.out] at hown'
          rw [HS2.out, List.map_append, List.length_append]
          exact hown')
        have HB2 := Lib.hid (HB.out.trans R)
        clear hown' hgrow R HO HB hsz HE HS2
        go_wp2_with fail
        go_roundw
        case rel => exact .inr ⟨by go_num, ⟨_, rfl⟩, HO2, HB2⟩
        case measure => first | (simp [intOf]; done) | (simp [intOf]; omega)
    · have hgt : ¬ ((s.length : Int) + 1 ≤ (s.length : Int)) := by omega
      go_wp2_with fail
      go_ret
      exact ⟨_, rfl, HO.out, HB.out⟩

end Go.Proofs.YtjcnjnonhncelaaDoor
