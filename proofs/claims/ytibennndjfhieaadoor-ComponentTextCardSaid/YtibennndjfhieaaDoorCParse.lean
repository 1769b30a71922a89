/-
  component.Parse: what it returns.
-/
import Derived.Test.YtibennndjfhieaaDoorCut
import Derived.Test.YtibennndjfhieaaDoorAtoi
import Derived.Test.YtibennndjfhieaaDoorCText
namespace Go.Proofs.YtibennndjfhieaaDoor
open Go.RowKit Go.Sort

theorem cword_space (k : Int) : (32 : UInt8) ∉ cword k := by
  unfold cword
  repeat' split
  all_goals simp
/-- A text that is not empty, laid open. -/
theorem compT_open {k m : Int} (h : compT k m ≠ []) : compT k m = cword k ++ 32 :: Lib.itoa m ∧ cword k ≠ [] ∧ 0 ≤ m ∧ m ≤ 999999999 := by
  unfold compT at h ⊢
  split at h
  · exact absurd rfl h
  · rename_i hc
    rw [if_neg hc]
    simp only [not_or] at hc
    exact ⟨by simp, hc.1, by omega, by omega⟩
theorem compT_kind {k : Int} (h : cword k ≠ []) : k = 1 ∨ k = 2 ∨ k = 3 := by
  unfold cword at h
  by_cases h1 : k = 1
  · exact .inl h1
  · by_cases h2 : k = 2
    · exact .inr (.inl h2)
    · by_cases h3 : k = 3
      · exact .inr (.inr h3)
      · simp [h1, h2, h3] at h
theorem split_unique {x y x' y' : List UInt8} (hx : (32 : UInt8) ∉ x) (hx' : (32 : UInt8) ∉ x') (h : x ++ 32 :: y = x' ++ 32 :: y') : x = x' ∧ y = y' := by
  have h1 := indexByte_at (y := y) hx
  rw [h, indexByte_at hx'] at h1
  have hl : x.length = x'.length := by omega
  have := List.append_inj h hl
  exact ⟨this.1, by simpa using this.2⟩
theorem cword_inj {k k' : Int} (h : cword k = cword k') (hne : cword k ≠ []) : k = k' := by
  have h1 := compT_kind hne
  have h2 := compT_kind (h ▸ hne)
  rcases h1 with rfl | rfl | rfl <;> rcases h2 with rfl | rfl | rfl <;> first | rfl | (simp [cword] at h)
theorem itoa_inj {m m' : Int} (h0 : 0 ≤ m) (h1 : m ≤ 999999999) (h0' : 0 ≤ m') (h1' : m' ≤ 999999999) (h : Lib.itoa m = Lib.itoa m') : m = m' := by
  have e1 := atoi_itoa h0 h1
  rw [h, atoi_itoa h0' h1'] at e1
  injection e1 with e1
  exact e1.symm
theorem compT_inj {k m k' m' : Int} (h : compT k m = compT k' m') (hne : compT k m ≠ []) : k = k' ∧ m = m' := by
  obtain ⟨e1, w1, a1, b1⟩ := compT_open hne
  obtain ⟨e2, w2, a2, b2⟩ := compT_open (h ▸ hne)
  rw [e1, e2] at h
  obtain ⟨hx, hy⟩ := split_unique (cword_space k) (cword_space k') h
  exact ⟨cword_inj hx w1, itoa_inj a1 b1 a2 b2 hy⟩

/-- What Parse returns: the component with a text, or ErrSyntax. -/
def ParseR (s : List UInt8) (k m er : Int) : Prop := (er = 0 ∧ s ≠ [] ∧ compT k m = s) ∨ (er = 3 ∧ k = 0 ∧ m = 0 ∧ ∀ k m, compT k m = s → s = [])
theorem parseR_unique {s : List UInt8} {k m er k' m' er' : Int} (h : ParseR s k m er) (h' : ParseR s k' m' er') : k = k' ∧ m = m' ∧ er = er' := by
  rcases h with ⟨rfl, hs, hc⟩ | ⟨rfl, rfl, rfl, hn⟩ <;> rcases h' with ⟨rfl, hs', hc'⟩ | ⟨rfl, rfl, rfl, hn'⟩
  · obtain ⟨h1, h2⟩ := compT_inj (hc.trans hc'.symm) (hc ▸ hs)
    exact ⟨h1, h2, rfl⟩
  · exact absurd (hn' _ _ hc) hs
  · exact absurd (hn _ _ hc') hs'
  · exact ⟨rfl, rfl, rfl⟩
theorem parse_no_space {s : List UInt8} (h : (32 : UInt8) ∉ s) : ∀ k m, compT k m = s → s = [] := by
  intro k m hc
  by_cases hs : s = []
  · exact hs
  · obtain ⟨e, _⟩ := compT_open (k := k) (m := m) (hc ▸ hs)
    rw [hc] at e
    exact absurd (e ▸ (by simp)) h
theorem parse_no_num {x y : List UInt8} (hx : (32 : UInt8) ∉ x) (h : ∀ v, Lib.atoiAll y ≠ .ok v) : ∀ k m, compT k m = x ++ 32 :: y → x ++ 32 :: y = [] := by
  intro k m hc
  obtain ⟨e, _, a, b⟩ := compT_open (k := k) (m := m) (by rw [hc]; simp)
  obtain ⟨_, rfl⟩ := split_unique hx (cword_space k) (hc.symm.trans e)
  exact absurd (atoi_itoa a b) (h m)
theorem parse_none {x y : List UInt8} {v : Int} (hx : (32 : UInt8) ∉ x) (hv : Lib.atoiAll y = .ok v) (h : ∀ k : Int, 1 ≤ k → k < 4 → ¬ (cword k = x ∧ compT k v = x ++ 32 :: y)) : ∀ k m, compT k m = x ++ 32 :: y → x ++ 32 :: y = [] := by
  intro k m hc
  obtain ⟨e, hw, a, b⟩ := compT_open (k := k) (m := m) (by rw [hc]; simp)
  obtain ⟨rfl, rfl⟩ := split_unique hx (cword_space k) (hc.symm.trans e)
  rw [atoi_itoa a b] at hv
  injection hv with hv
  subst hv
  exact absurd ⟨rfl, hc⟩ (h k (by rcases compT_kind hw with rfl | rfl | rfl <;> omega) (by rcases compT_kind hw with rfl | rfl | rfl <;> omega))

def RetParse (s : List UInt8) (w : World) (e : Ending) (w' : World) : Prop :=
  ∃ k m er, e = .returned (.tuple #[.agg #[.int .i64 k, .int .i64 m], .int .i64 er]) ∧ ParseR s k m er ∧ Below w.heap.size w w'

theorem comp_box (w : World) : (w.alloc (.cells #[.int .i64 0, .int .i64 0] 31)).heap[w.heap.size]? = some (.cells #[.int .i64 0, .int .i64 0] 31 (0, 0)) := heap_alloc_new _ _

set_option maxHeartbeats 4000000 in
set_option maxRecDepth 100000 in
theorem component_Parse (s : List UInt8) (hs : s.length ≤ 1000) (w : World) (hE : Errs w) (ht : Tab w.heap.size w) :
    Calls Tryd.prog 28 #[.string ⟨s.toArray⟩] w (RetParse s w) := by
  have HE := Lib.hid hE
  have HTb := Lib.hid ht
  clear hE ht
  have HB := below_box w (.cells #[.int .i64 0, .int .i64 0] 31)
  have z0 : (w.alloc (.cells #[.int .i64 0, .int .i64 0] 31)).cell? ⟨w.heap.size, 0, none⟩ = some (.int .i64 0) := by simp
  have z1 : (w.alloc (.cells #[.int .i64 0, .int .i64 0] 31)).cell? ⟨w.heap.size, 1, none⟩ = some (.int .i64 0) := by simp
  have HZ := Lib.hid (comp_box w)
  by_cases hsp : (32 : UInt8) ∈ s
  · obtain ⟨x, y, hxy, hx⟩ := indexByte_some hsp
    have HC : Hid (∀ w', Calls Tryd.prog 40 #[.string ⟨s.toArray⟩, .string ⟨#[32]⟩] w' fun e w'' => e = .returned (.tuple #[.string ⟨x.toArray⟩, .string ⟨y.toArray⟩, .bool true]) ∧ Below w'.heap.size w' w'') := Lib.hid fun w' => by
      have := strings_cut_hit x y hx (by rw [hxy] at hs; simp at hs; omega) w'
      rwa [← hxy] at this
    have hyl : y.length ≤ 1000000 := by rw [hxy] at hs; simp at hs; omega
    have HXY := Lib.hid hxy
    have HX := Lib.hid hx
    clear hsp hxy hx
    by_cases hv : ∃ v, Lib.atoiAll y = .ok v
    · obtain ⟨v, hv⟩ := hv
      have HA := Lib.hid (atoi_ok y v hv hyl)
      have HV := Lib.hid hv
      clear hv
      go_enter Tryd.func28, Tryd.ntmps28
      go_wp2_with (first | (go_at_call 40; refine (HC.out _).mono ?_; rintro e w1 ⟨rfl, hb⟩; replace z0 := cell_up hb z0; replace z1 := cell_up hb z1; replace HZ := Lib.hid ((hb.block _ (lt_of_heap HZ.out)).trans HZ.out); replace HB := below_next HB hb; clear hb) | (go_at_call 41; refine (HA.out _).mono ?_; rintro e w2 ⟨rfl, hb⟩; replace z0 := cell_up hb z0; replace z1 := cell_up hb z1; replace HZ := Lib.hid ((hb.block _ (lt_of_heap HZ.out)).trans HZ.out); replace HB := below_next HB hb; clear hb))
      clear z0 z1
      have HBB := Lib.hid HB
      clear HB
      go_loopw [9] (fun i wr => ∃ kk : Nat, 1 ≤ kk ∧ kk ≤ 4 ∧ i = .int .i64 kk ∧ Hid (∀ k : Int, 1 ≤ k → k < kk → ¬ (cword k = x ∧ compT k v = s)) ∧ Hid (wr.heap[w.heap.size]? = some (.cells #[.int .i64 0, .int .i64 0] 31 (0, 0))) ∧ Hid (Below w.heap.size w wr)) (fun i _ => 4 - (intOf i).toNat)
      case atStart => exact ⟨1, Nat.le_refl _, by omega, rfl, Lib.hid (fun k h1 h2 => by omega), HZ, HBB⟩
      case round =>
        clear HZ HBB
        obtain ⟨kk, hk1, hk4, rfl, HK, HZ, HBB⟩ := hrel
        by_cases hk3 : kk ≤ 3
        · have hk3' : (kk : Int) ≤ 3 := by omega
          have HQ := Lib.hid (below_box wr (.cells #[.int .i64 kk, .int .i64 v] 31))
          have u0 : (wr.alloc (.cells #[.int .i64 kk, .int .i64 v] 31)).cell? ⟨wr.heap.size, 0, none⟩ = some (.int .i64 kk) := by simp
          have u1 : (wr.alloc (.cells #[.int .i64 kk, .int .i64 v] 31)).cell? ⟨wr.heap.size, 1, none⟩ = some (.int .i64 v) := by simp
          have hBr : w.heap.size < wr.heap.size := lt_of_heap HZ.out
          by_cases hw : cword kk = x
          · obtain ⟨T, hTe⟩ : ∃ T, T = compT (kk : Int) v := ⟨_, rfl⟩
            have HW : Hid (∀ w', Calls Tryd.prog 38 #[.int .i64 kk] w' fun e w'' => e = .returned (.string ⟨x.toArray⟩) ∧ Below w'.heap.size w' w'') := Lib.hid fun w' => by rw [← hw]; exact component_word kk w'
            have HT : Hid (∀ w', Tab w'.heap.size w' → Calls Tryd.prog 27 #[.agg #[.int .i64 kk, .int .i64 v]] w' fun e w'' => e = .returned (.string ⟨T.toArray⟩) ∧ Below w'.heap.size w' w'') := Lib.hid fun w' ht => by rw [hTe]; exact component_Text kk v w' ht
            by_cases hT : T = s
            · have HP : Hid (ParseR s kk v 0) := Lib.hid (.inl ⟨rfl, by rw [HXY.out]; simp, by rw [← hTe, hT]⟩)
              subst hT
              clear hw hTe
              go_wp2_with (first | (go_at_call 38; refine (HW.out _).mono ?_; rintro e w3 ⟨rfl, hb⟩; replace u0 := cell_up hb u0; replace u1 := cell_up hb u1; replace HQ := Lib.hid (below_next HQ.out hb); clear hb) | (go_at_call 27; refine (HT.out _ (tab_up HTb.out (below_next HBB.out HQ.out) (below_next HBB.out HQ.out).size)).mono ?_; rintro e w4 ⟨rfl, hb⟩; replace u0 := cell_up hb u0; replace u1 := cell_up hb u1; replace HQ := Lib.hid (below_next HQ.out hb); clear hb; replace HZ := Lib.hid ((HQ.out.block _ hBr).trans HZ.out); have z0 := (Lib.cell_of_heap HZ.out (j := 0)); have z1 := (Lib.cell_of_heap HZ.out (j := 1)); have zf0 : w4.frozen? ⟨w.heap.size, 0, none⟩ = false := Lib.frozen_of_heap HZ.out _; have zf1 : w4.frozen? ⟨w.heap.size, 1, none⟩ = false := Lib.frozen_of_heap HZ.out _))
              clear u0 u1 z0 z1
              have hz := box_set (x := .int .i64 kk) (y := .int .i64 v) HZ.out
              have hz0 := Lib.cell_of_heap hz (j := 0)
              have hz1 := Lib.cell_of_heap hz (j := 1)
              exact bodyPost_ret (v := .tuple #[.agg #[.int .i64 kk, .int .i64 v], .int .i64 0]) (by simp [results, Tryd.results28, go_sem, hz0, hz1]) rfl ⟨kk, v, 0, rfl, HP.out, below_set2 (below_next HBB.out HQ.out) _ _⟩
            · have HK2 : Hid (∀ k : Int, 1 ≤ k → k < ((kk + 1 : Nat) : Int) → ¬ (cword k = x ∧ compT k v = s)) := Lib.hid (by
                intro k h1 h2
                by_cases e : k = kk
                · subst e; exact fun h => hT (hTe.trans h.2)
                · exact HK.out k h1 (by omega))
              have hTb : (T == s) = false := by simpa using hT
              clear hw hTe hT
              go_wp2_with (first | (go_at_call 38; refine (HW.out _).mono ?_; rintro e w3 ⟨rfl, hb⟩; replace u0 := cell_up hb u0; replace u1 := cell_up hb u1; replace HQ := Lib.hid (below_next HQ.out hb); clear hb) | (go_at_call 27; refine (HT.out _ (tab_up HTb.out (below_next HBB.out HQ.out) (below_next HBB.out HQ.out).size)).mono ?_; rintro e w4 ⟨rfl, hb⟩; replace u0 := cell_up hb u0; replace u1 := cell_up hb u1; replace HQ := Lib.hid (below_next HQ.out hb); clear hb; replace HZ := Lib.hid ((HQ.out.block _ hBr).trans HZ.out)))
              refine ⟨⟨kk + 1, by omega, by omega, by simp, HK2, HZ, Lib.hid (below_next HBB.out HQ.out)⟩, by simp [intOf]; omega⟩
          · have HK2 : Hid (∀ k : Int, 1 ≤ k → k < ((kk + 1 : Nat) : Int) → ¬ (cword k = x ∧ compT k v = s)) := Lib.hid (by
              intro k h1 h2
              by_cases e : k = kk
              · subst e; exact fun h => hw h.1
              · exact HK.out k h1 (by omega))
            obtain ⟨cw, hcw⟩ : ∃ cw, cw = cword (kk : Int) := ⟨_, rfl⟩
            rw [← hcw] at hw
            have HW : Hid (∀ w', Calls Tryd.prog 38 #[.int .i64 kk] w' fun e w'' => e = .returned (.string ⟨cw.toArray⟩) ∧ Below w'.heap.size w' w'') := Lib.hid fun w' => by rw [hcw]; exact component_word kk w'
            clear hcw
            go_wp2_with (go_at_call 38; refine (HW.out _).mono ?_; rintro e w3 ⟨rfl, hb⟩; replace HQ := Lib.hid (below_next HQ.out hb); clear hb; replace HZ := Lib.hid ((HQ.out.block _ hBr).trans HZ.out))
            refine ⟨⟨kk + 1, by omega, by omega, by simp, HK2, HZ, Lib.hid (below_next HBB.out HQ.out)⟩, by simp [intOf]; omega⟩
        · obtain rfl : kk = 4 := by omega
          have HP : Hid (∀ k m, compT k m = s → s = []) := Lib.hid (by
            have := parse_none (y := y) HX.out HV.out
            rw [← HXY.out] at this
            exact this fun k h1 h2 => HK.out k h1 (by simpa using h2))
          have z0 := Lib.cell_of_heap HZ.out (j := 0)
          have z1 := Lib.cell_of_heap HZ.out (j := 1)
          have zf0 : wr.frozen? ⟨w.heap.size, 0, none⟩ = false := Lib.frozen_of_heap HZ.out _
          have zf1 : wr.frozen? ⟨w.heap.size, 1, none⟩ = false := Lib.frozen_of_heap HZ.out _
          go_wp2_with fail
          have hz := box_set (x := .int .i64 0) (y := .int .i64 0) HZ.out
          have hz0 := Lib.cell_of_heap hz (j := 0)
          have hz1 := Lib.cell_of_heap hz (j := 1)
          exact bodyPost_ret (v := .tuple #[.agg #[.int .i64 0, .int .i64 0], .int .i64 3]) (by simp [results, Tryd.results28, go_sem, hz0, hz1]) rfl ⟨0, 0, 3, rfl, .inr ⟨rfl, rfl, rfl, HP.out⟩, below_set2 HBB.out _ _⟩
    · have HN := Lib.hid (fun v h => hv ⟨v, h⟩ : ∀ v, Lib.atoiAll y ≠ .ok v)
      go_enter Tryd.func28, Tryd.ntmps28
      go_wp2_with (first | (go_at_call 40; refine (HC.out _).mono ?_; rintro e w1 ⟨rfl, hb⟩; replace z0 := cell_up hb z0; replace z1 := cell_up hb z1; replace HZ := Lib.hid ((hb.block _ (lt_of_heap HZ.out)).trans HZ.out); replace HB := below_next HB hb; clear hb) | (go_at_call 41; refine (atoi_bad y HN.out hyl _ (HE.out.up HB)).mono ?_; rintro e w2 ⟨n, tp, p, rfl, hb⟩; replace z0 := cell_up hb z0; replace z1 := cell_up hb z1; replace HZ := Lib.hid ((hb.block _ (lt_of_heap HZ.out)).trans HZ.out); replace HB := below_next HB hb; clear hb; have zf0 : w2.frozen? ⟨w.heap.size, 0, none⟩ = false := Lib.frozen_of_heap HZ.out _; have zf1 : w2.frozen? ⟨w.heap.size, 1, none⟩ = false := Lib.frozen_of_heap HZ.out _))
      clear z0 z1
      have hz := box_set (x := .int .i64 0) (y := .int .i64 0) HZ.out
      have hz0 := Lib.cell_of_heap hz (j := 0)
      have hz1 := Lib.cell_of_heap hz (j := 1)
      exact bodyPost_ret (v := .tuple #[.agg #[.int .i64 0, .int .i64 0], .int .i64 3]) (by simp [results, Tryd.results28, go_sem, hz0, hz1]) rfl ⟨0, 0, 3, rfl, .inr ⟨rfl, rfl, rfl, fun k m h => by rw [HXY.out] at h ⊢; exact parse_no_num HX.out HN.out k m h⟩, below_set2 HB _ _⟩
  · have HC := Lib.hid (strings_cut_miss s hsp)
    have HP := Lib.hid (parse_no_space hsp)
    have HN : Hid (∀ v, Lib.atoiAll [] ≠ .ok v) := Lib.hid (fun v h => by cases h)
    clear hsp
    go_enter Tryd.func28, Tryd.ntmps28
    go_wp2_with (first | (go_at_call 40; refine (HC.out _).mono ?_; rintro e w1 ⟨rfl, hb⟩; replace z0 := cell_up hb z0; replace z1 := cell_up hb z1; replace HZ := Lib.hid ((hb.block _ (lt_of_heap HZ.out)).trans HZ.out); replace HB := below_next HB hb; clear hb) | (go_at_call 41; refine (atoi_bad [] HN.out (by simp) _ (HE.out.up HB)).mono ?_; rintro e w2 ⟨n, tp, p, rfl, hb⟩; replace z0 := cell_up hb z0; replace z1 := cell_up hb z1; replace HZ := Lib.hid ((hb.block _ (lt_of_heap HZ.out)).trans HZ.out); replace HB := below_next HB hb; clear hb; have zf0 : w2.frozen? ⟨w.heap.size, 0, none⟩ = false := Lib.frozen_of_heap HZ.out _; have zf1 : w2.frozen? ⟨w.heap.size, 1, none⟩ = false := Lib.frozen_of_heap HZ.out _))
    clear z0 z1
    have hz := box_set (x := .int .i64 0) (y := .int .i64 0) HZ.out
    have hz0 := Lib.cell_of_heap hz (j := 0)
    have hz1 := Lib.cell_of_heap hz (j := 1)
    exact bodyPost_ret (v := .tuple #[.agg #[.int .i64 0, .int .i64 0], .int .i64 3]) (by simp [results, Tryd.results28, go_sem, hz0, hz1]) rfl ⟨0, 0, 3, rfl, .inr ⟨rfl, rfl, rfl, HP.out⟩, below_set2 HB _ _⟩

end Go.Proofs.YtibennndjfhieaaDoor
