/-
  segment.TextList: what it returns.
-/
import Derived.Test.YtdjgpjejidajlaaDoorKind
import Derived.Test.YtdjgpjejidajlaaDoorEnds
namespace Go.Proofs.YtdjgpjejidajlaaDoor
open Go.RowKit Go.Sort

def strV (l : List UInt8) : Value := .string ⟨l.toArray⟩
/-- The text of a list: empty if one of the texts is. -/
def tlL (l : List (Int × Int)) : List UInt8 := if ∀ p ∈ l, segT p.1 p.2 ≠ [] then Lib.join (l.map fun p => segT p.1 p.2) [32] else []
theorem tlL_bad {l : List (Int × Int)} {k : Nat} {p : Int × Int} {r : List (Int × Int)} (h : l.drop k = p :: r) (he : segT p.1 p.2 = []) : tlL l = [] := by
  have : p ∈ l := List.mem_of_mem_drop (i := k) (by rw [h]; exact List.mem_cons_self)
  unfold tlL
  rw [if_neg]
  intro ha
  exact ha p this he
theorem tlL_good {l : List (Int × Int)} (h : ∀ p ∈ l, segT p.1 p.2 ≠ []) : tlL l = Lib.join (l.map fun p => segT p.1 p.2) [32] := if_pos h
theorem take_next {l : List (Int × Int)} {k : Nat} {p : Int × Int} {r : List (Int × Int)} (h : l.drop k = p :: r) : l.take (k + 1) = l.take k ++ [p] := by
  have hk : k < l.length := by
    rcases Nat.lt_or_ge k l.length with h' | h'
    · exact h'
    · rw [List.drop_of_length_le h'] at h; cases h
  rw [List.take_succ_eq_append_getElem hk]
  rw [List.drop_eq_getElem_cons hk] at h
  injection h with h _
  rw [h]
theorem segT_len (k m : Int) : (segT k m).length ≤ 22 := by
  unfold segT
  split
  · rename_i h
    have := Lib.itoa_length_le m (by omega) (by omega)
    split <;> simp
    omega
  · simp
theorem join_len (l : List (Int × Int)) : (Lib.join (l.map fun p => segT p.1 p.2) [32]).length ≤ 23 * l.length := by
  unfold Lib.join
  induction l with
  | nil => simp
  | cons p r ih =>
    have := segT_len p.1 p.2
    cases r with
    | nil => simp; omega
    | cons q s =>
      simp only [List.map_cons, List.intercalate, List.intersperse, List.flatten_cons, List.length_append, List.length_cons, List.length_nil] at ih ⊢
      omega

theorem strInfo : (Tryd.prog.info? 9).map (fun i => (i.zero, i.size, i.bytes)) = some (some (.string ⟨#[]⟩), 1, 16) := by kernel_rfl
/-- One append of a value of one cell. -/
theorem own_add {B : Nat} {E : TypeId} {wr w1 : World} {v : Value} {xs : List Value} {o : Obj} {n : Nat} (hown : wr.ownsRow B E 1 v n xs) (hB : B ≤ wr.heap.size)
    (hg : (wr.alloc o).grownBy w1 v.ownBlock) : Below B wr w1 :=
  ((Below.refl B wr).alloc hB o).grown hg (by simp; omega) (fun k hk => (hown.lt k hk).1)

theorem join_at (bk o c : Nat) (l : List (Int × Int)) (w : World) (hcell : ∀ (j : Nat) (u : Value), (l.map fun p => strV (segT p.1 p.2))[j]? = some u → w.cell? ⟨bk, o + j, none⟩ = some u) (hl : 0 < l.length ∧ l.length ≤ 100000) (hc : l.length ≤ c) :
    Calls Tryd.prog 33 #[.slice (some ⟨bk, o, none⟩) l.length c, .string ⟨#[32]⟩] w fun e w' => e = .returned (strV (Lib.join (l.map fun p => segT p.1 p.2) [32])) ∧ Below w.heap.size w w' := by
  have hm : (l.map fun p => (⟨(segT p.1 p.2).toArray⟩ : ByteArray)).map (·.data.toList) = l.map fun p => segT p.1 p.2 := by simp
  have hcells : ∀ (j : Nat) x, (l.map fun p => (⟨(segT p.1 p.2).toArray⟩ : ByteArray))[j]? = some x → w.cell? ⟨bk, o + j, none⟩ = some (.string x) := by
    intro j x hx
    refine hcell j _ ?_
    rw [List.getElem?_map] at hx ⊢
    obtain ⟨p, hp, rfl⟩ := Option.map_eq_some_iff.1 hx
    rw [hp]; rfl
  have hbk : bk < w.heap.size := block_lt_of_cell (hcell 0 (strV (segT (l[0]'hl.1).1 (l[0]'hl.1).2)) (by rw [List.getElem?_map, List.getElem?_eq_getElem hl.1]; rfl))
  have hjl := join_len l
  have h := Tryd.strings_Join bk o c _ ⟨#[32]⟩ w hcells hbk (by simp; omega) (by simpa using hc) (by rw [hm]; show (Lib.join _ [32]).length ≤ _; omega)
  rw [hm, List.length_map] at h
  exact h

set_option maxHeartbeats 2000000 in
set_option maxRecDepth 100000 in
theorem segment_TextList (A : Option Addr) (c : Nat) (l : List (Int × Int)) (w : World) (hL : RdP w A l) (hl : l.length ≤ 100000) (ht : Tab w.heap.size w) :
    Calls Tryd.prog 14 #[.slice A l.length c] w fun e w' => e = .returned (strV (tlL l)) ∧ Below w.heap.size w w' := by
  obtain ⟨i0, hi, hz0, hz1, hz2⟩ := info_parts strInfo
  have HL := Lib.hid hL
  have HTb := Lib.hid ht
  clear hL ht
  obtain ⟨V, hV⟩ : ∃ V, V = tlL l := ⟨_, rfl⟩
  rw [← hV]
  have HV := Lib.hid hV
  clear hV
  go_enter Tryd.func14, Tryd.ntmps14
  go_wp2_with fail
  go_loopw [3, 9] (fun v i wr => ∃ j : Nat, j ≤ l.length ∧ i = .int .i64 j ∧ Hid (∀ p ∈ l.take j, segT p.1 p.2 ≠ []) ∧ wr.ownsRow w.heap.size 9 1 v j ((l.take j).map fun p => strV (segT p.1 p.2)) ∧ Hid (Below w.heap.size w wr)) (fun _ i _ => l.length - (intOf i).toNat)
  case atStart => exact ⟨0, Nat.zero_le _, rfl, Lib.hid (by simp), World.ownsRow_nil _ _ _ _, Lib.hid (Below.refl _ _)⟩
  case round =>
    obtain ⟨j, hj, rfl, HG, hown, HB⟩ := hrel
    have HO := Lib.hid hown
    clear hown
    by_cases hlt : j < l.length
    · obtain ⟨b, o, p, rfl, hd, q0, q1⟩ := (HL.out.below HB.out).at_ hlt
      have hlt' : (j : Int) < (l.length : Int) := by omega
      have HD := Lib.hid hd
      clear hd
      obtain ⟨pk, pm⟩ := p
      simp only at q0 q1 HD
      have HQ := Lib.hid (below_box wr (.cells #[.int .i64 pk, .int .i64 pm] 23))
      obtain ⟨x, hx⟩ : ∃ x, x = segT pk pm := ⟨_, rfl⟩
      have hC : Hid (∀ w', Tab w'.heap.size w' → Calls Tryd.prog 10 #[.agg #[.int .i64 pk, .int .i64 pm]] w' fun e w'' => e = .returned (.string ⟨x.toArray⟩) ∧ Below w'.heap.size w' w'') := Lib.hid fun w' h => by
        have := segment_Text pk pm w' h
        rwa [← hx] at this
      have HX := Lib.hid hx
      clear hx
      cases x with
      | nil =>
        have HVV : Hid (V = []) := Lib.hid (by rw [HV.out]; exact tlL_bad HD.out HX.out.symm)
        go_wp2_with (go_at_call 10; refine (hC.out _ ?_).mono ?_)
        · exact tab_up HTb.out (below_next HB.out HQ.out) (below_next HB.out HQ.out).size
        rintro e w1 ⟨rfl, hb⟩
        go_wp2_with fail
        go_ret
        exact ⟨by rw [HVV.out]; rfl, below_next (below_next HB.out HQ.out) hb⟩
      | cons c0 r0 =>
        have hne : (c0 :: r0).isEmpty = false := rfl
        go_wp2_with (go_at_call 10; refine (hC.out _ ?_).mono ?_)
        · exact tab_up HTb.out (below_next HB.out HQ.out) (below_next HB.out HQ.out).size
        rintro e w1 ⟨rfl, hb⟩
        replace HB := Lib.hid (below_next (below_next HB.out HQ.out) hb)
        replace HO := Lib.hid (own_up (own_up HO.out HQ.out) hb)
        clear hb HQ q0 q1
        have hsz := HB.out.size
        go_wp2_with (at_builtin; refine wpList_append_own _ rfl _ _ 59 rfl w.heap.size 9 i0 (.string ⟨#[]⟩) 1 16 Tryd.underlying59 hi hz0 hz1 hz2 rfl (by decide) _ _ _ rfl (HO.out.alloc _) ⟨_, 0, none⟩ 1 1 [strV (c0 :: r0)] rfl rfl (cell_one_new _ _ _) ?d2 ?d3 ?d4 ?d5 ?_)
        case d2 => intro u hu; simp at hu; subst hu; rfl
        case d3 => unfold maxLen; omega
        case d4 => omega
        case d5 => simp; omega
        intro v' w2 hown' hgrow _
        have R := own_add HO.out hsz hgrow
        have HO2 : Hid (w2.ownsRow w.heap.size 9 1 v' (j + 1) ((l.take (j + 1)).map fun p => strV (segT p.1 p.2))) := Lib.hid (by
          rw [take_next HD.out, List.map_append]
          simp only [List.map_cons, List.map_nil, ← HX.out]
          rw [List.map_take]
          exact hown')
        have HG2 : Hid (∀ p ∈ l.take (j + 1), segT p.1 p.2 ≠ []) := Lib.hid (by
          rw [take_next HD.out]
          intro p hp
          rcases List.mem_append.1 hp with h | h
          · exact HG.out p h
          · rw [List.mem_singleton.1 h, ← HX.out]; simp)
        have HB2 := Lib.hid (HB.out.trans R)
        clear hown' hgrow R HO HG HB hsz
        go_wp2_with fail
        go_roundw
        case rel => exact ⟨j + 1, by omega, by go_num, HG2, HO2.out, HB2⟩
        case measure => simp [intOf]; omega
    · obtain rfl : j = l.length := by omega
      rw [List.take_length] at HG HO
      have HVV := Lib.hid (HV.out.trans (tlL_good HG.out))
      have hjl := join_len l
      obtain ⟨A', c', hv, h1, h2, h3⟩ := rd_of_own HO.out
      subst hv
      have hB := HB.out
      cases l with
      | nil =>
        go_wp2_with (go_at_call 33; refine (Tryd.strings_Join_none _ _ _ _).mono ?_; rintro e w1 ⟨rfl, rfl⟩)
        go_ret
        exact ⟨by rw [HVV.out]; rfl, hB⟩
      | cons p r =>
        rcases h3 with h3 | ⟨bk, o, rfl, hcell⟩
        · simp at h3
        · have hJ := join_at bk o c' (p :: r) wr hcell ⟨by simp, hl⟩ h1
          have HJ := Lib.hid hJ
          clear hJ hcell h1 h2
          go_wp2_with (go_at_call 33; refine HJ.out.mono ?_; rintro e w1 ⟨rfl, hb⟩)
          go_ret
          exact ⟨by rw [HVV.out]; rfl, below_next hB hb⟩

end Go.Proofs.YtdjgpjejidajlaaDoor
