/-
  slices.Sorted(maps.Keys(m)): the origins of a database, the neighbours of a flooder.
-/
import Derived.Test.YtenhliibmcmnbaaGreatRtC
import Derived.Test.YtenhliibmcmnbaaGreatKeys
import Derived.Shelf.SlIterI.Nil
import Derived.Shelf.SortM.Plain
import Derived.Shelf.SortM.SortNone
import Derived.TacticsInMore
namespace Go.Proofs.YtenhliibmcmnbaaGreat
set_option linter.unusedSimpArgs false
set_option linter.unusedVariables false
open Go.RowKit Go.Maps Go.Sort Go.Shelf

theorem sortsA (m : Nat) : AnyZI.SortsIn Tryz.prog Tryz.sortedInt_ren Fence.wide m :=
  ⟨fun blk off cap ss W hH hblk hsz => callsIn_wide.2 (AnyM.slices_Sort_int Tryz.sortInt blk off cap ss W hH hblk hsz),
   fun p cap W => callsIn_wide.2 (AnyM.slices_Sort_int_none Tryz.sortInt p cap W)⟩

set_option maxRecDepth 100000 in
set_option maxHeartbeats 1000000 in
theorem flood_LinksK (fb mb : Nat) (n : Int) (L : List (Value × Value)) (w : World) (h : Bl 245 fb #[.int .i64 n, .map (some mb)] w) (hm : MapAt Tryz.prog 3 mb L w) (hl : L.length ≤ 100000) :
    Calls Tryz.prog 170 #[.pointer (some ⟨fb, 0, none⟩)] w fun e w' => ∃ (v : Value) (ss : List Int), e = .returned v ∧ ss.Perm (intKeys (mapD Tryz.prog 3 L)) ∧
      w'.ownsRow w.heap.size 3 1 v ss.length ((ss.mergeSort (fun x y => decide (x ≤ y))).map encZ) ∧ (v = .slice none 0 0 ↔ ss = []) ∧ Below w.heap.size w w' := by
  have hown := hm.owns (by unfold maxLen; omega)
  obtain ⟨b0, b1, fbz⟩ := h.c2
  have hsz : Maps.size (mapD Tryz.prog 3 L) = L.length := by simp [mapD, Maps.size, length_sorted]
  have hmax : Maps.size (mapD Tryz.prog 3 L) ≤ maxLen := by rw [hsz]; unfold maxLen; omega
  have hbytes : Maps.size (mapD Tryz.prog 3 L) * 8 ≤ 140737488355328 := by rw [hsz]; omega
  have HE := Lib.hid hsz
  clear h hm hsz
  refine (callsIn_wide (n := 6)).1 ?_
  have hbl := hown.lt
  have hseq : SeqGives Fence.wide 2 Tryz.prog 259 #[.pointer (some ⟨w.heap.size, 0, none⟩)] encZ (fun ss => ss.Perm (intKeys (mapD Tryz.prog 3 L))) (Maps.size (mapD Tryz.prog 3 L)) (w.alloc (.cells #[.map (some mb)] 243)) :=
    AnyZI.keys_gives (ρ := Tryz.keysNb_ren) { Tryz.keysNb with } Fence.wide _ trivial rfl (by omega) w.heap.size mb L.length (mapD Tryz.prog 3 L) _ (by simp) (by simp) (by
      obtain ⟨es, clock, hb, Ft, hs, hD⟩ := hown
      exact ⟨es, clock, (Below.heap_alloc _ _ mb hbl).trans hb, Ft, hs, hD⟩)
  have cK : ∀ mb W, CallsIn Fence.wide 5 Tryz.prog 224 #[.map mb] W fun e w' => e = .returned (.func (.func 259) #[] #[.pointer (some ⟨W.heap.size, 0, none⟩)]) ∧ w' = W.alloc (.cells #[.map mb] 243) := fun mb W => AnyZI.keys_in Tryz.keysNb Fence.wide 5 trivial rfl mb W
  have cS := AnyZI.sorted_in Tryz.sortedInt Fence.wide 5 trivial trivial trivial trivial rfl (by omega) (sortsA _) (enters_of Tryz.func255 (by kernel_rfl) rfl) 259 #[.pointer (some ⟨w.heap.size, 0, none⟩)] trivial (enters_of Tryz.func259 (by kernel_rfl) rfl) _ _ hmax hbytes _ hseq
  change CallsIn _ _ Tryz.prog 217 _ _ _ at cS
  have HSQ := Lib.hid hseq
  have HOW := Lib.hid hown
  clear hseq hown hmax hbytes
  have hfK : Fence.wide.fn 224 := trivial
  have hfS : Fence.wide.fn 217 := trivial
  refine callsIn_of_wp Tryz.func170 rfl trivial ?_ rfl
  simp only [Tryz.ntmps170, List.size_toArray, List.length_cons, List.length_nil, Nat.reduceAdd, Nat.reduceSub, Array.replicate_succ, Array.replicate_zero, List.push_toArray, List.append_toArray, List.nil_append, List.cons_append]
  gi_wp2_with (first
    | (gi_at_call 224; refine (cK _ _).mono ?_; rintro e w' ⟨rfl, rfl⟩)
    | (gi_at_call 217; refine cS.mono ?_; rintro e w' ⟨v, ss, rfl, hS, hrow, hnil, hb⟩))
  go_ret
  exact ⟨v, ss, rfl, hS, ownsRow_base_a hrow (by simp), hnil, ((Below.refl _ w).alloc (Nat.le_refl _) _).trans (hb.mono (by simp))⟩

set_option maxRecDepth 100000 in
set_option maxHeartbeats 1000000 in
theorem lsdb_originsK (fb mb : Nat) (L : List (Value × Value)) (w : World) (h : Bl 242 fb #[.map (some mb)] w) (hm : MapAt Tryz.prog 3 mb L w) (hl : L.length ≤ 100000) :
    Calls Tryz.prog 166 #[.pointer (some ⟨fb, 0, none⟩)] w fun e w' => ∃ (v : Value) (ss : List Int), e = .returned v ∧ ss.Perm (intKeys (mapD Tryz.prog 3 L)) ∧
      w'.ownsRow w.heap.size 3 1 v ss.length ((ss.mergeSort (fun x y => decide (x ≤ y))).map encZ) ∧ (v = .slice none 0 0 ↔ ss = []) ∧ Below w.heap.size w w' := by
  have hown := hm.owns (by unfold maxLen; omega)
  have b0 := h.cell 0 rfl
  have hsz : Maps.size (mapD Tryz.prog 3 L) = L.length := by simp [mapD, Maps.size, length_sorted]
  have hmax : Maps.size (mapD Tryz.prog 3 L) ≤ maxLen := by rw [hsz]; unfold maxLen; omega
  have hbytes : Maps.size (mapD Tryz.prog 3 L) * 8 ≤ 140737488355328 := by rw [hsz]; omega
  have HE := Lib.hid hsz
  clear h hm hsz
  refine (callsIn_wide (n := 6)).1 ?_
  have hbl := hown.lt
  have hseq : SeqGives Fence.wide 2 Tryz.prog 256 #[.pointer (some ⟨w.heap.size, 0, none⟩)] encZ (fun ss => ss.Perm (intKeys (mapD Tryz.prog 3 L))) (Maps.size (mapD Tryz.prog 3 L)) (w.alloc (.cells #[.map (some mb)] 240)) :=
    AnyZI.keys_gives (ρ := Tryz.keysHeld_ren) { Tryz.keysHeld with } Fence.wide _ trivial rfl (by omega) w.heap.size mb L.length (mapD Tryz.prog 3 L) _ (by simp) (by simp) (by
      obtain ⟨es, clock, hb, Ft, hs, hD⟩ := hown
      exact ⟨es, clock, (Below.heap_alloc _ _ mb hbl).trans hb, Ft, hs, hD⟩)
  have cK : ∀ mb W, CallsIn Fence.wide 5 Tryz.prog 218 #[.map mb] W fun e w' => e = .returned (.func (.func 256) #[] #[.pointer (some ⟨W.heap.size, 0, none⟩)]) ∧ w' = W.alloc (.cells #[.map mb] 240) := fun mb W => AnyZI.keys_in Tryz.keysHeld Fence.wide 5 trivial rfl mb W
  have cS := AnyZI.sorted_in Tryz.sortedInt Fence.wide 5 trivial trivial trivial trivial rfl (by omega) (sortsA _) (enters_of Tryz.func255 (by kernel_rfl) rfl) 256 #[.pointer (some ⟨w.heap.size, 0, none⟩)] trivial (enters_of Tryz.func256 (by kernel_rfl) rfl) _ _ hmax hbytes _ hseq
  change CallsIn _ _ Tryz.prog 217 _ _ _ at cS
  have HSQ := Lib.hid hseq
  have HOW := Lib.hid hown
  clear hseq hown hmax hbytes
  have hfK : Fence.wide.fn 218 := trivial
  have hfS : Fence.wide.fn 217 := trivial
  refine callsIn_of_wp Tryz.func166 rfl trivial ?_ rfl
  simp only [Tryz.ntmps166, List.size_toArray, List.length_cons, List.length_nil, Nat.reduceAdd, Nat.reduceSub, Array.replicate_succ, Array.replicate_zero, List.push_toArray, List.append_toArray, List.nil_append, List.cons_append]
  gi_wp2_with (first
    | (gi_at_call 218; refine (cK _ _).mono ?_; rintro e w' ⟨rfl, rfl⟩)
    | (gi_at_call 217; refine cS.mono ?_; rintro e w' ⟨v, ss, rfl, hS, hrow, hnil, hb⟩))
  go_ret
  exact ⟨v, ss, rfl, hS, ownsRow_base_a hrow (by simp), hnil, ((Below.refl _ w).alloc (Nat.le_refl _) _).trans (hb.mono (by simp))⟩

theorem perm_nil_int {L : List (Value × Value)} {ss : List Int} (hL : L = []) (h : ss.Perm (intKeys (mapD Tryz.prog 3 L))) : ss = [] := by
  subst hL
  exact List.Perm.eq_nil h
theorem flood_Links0 (fb mb : Nat) (n : Int) (w : World) (h : Bl 245 fb #[.int .i64 n, .map (some mb)] w) (hm : MapAt Tryz.prog 3 mb [] w) :
    Calls Tryz.prog 170 #[.pointer (some ⟨fb, 0, none⟩)] w fun e w' => e = .returned (.slice none 0 0) ∧ Below w.heap.size w w' := by
  refine (flood_LinksK fb mb n [] w h hm (by simp)).mono ?_
  rintro e w' ⟨v, ss, rfl, hp, _, hn, hb⟩
  exact ⟨by rw [hn.2 (perm_nil_int rfl hp)], hb⟩
theorem lsdb_origins1 (db mb : Nat) (v : Int) (x : Value) (w : World) (hv : isN 1000000 v = true) (h : Bl 242 db #[.map (some mb)] w) (hm : MapAt Tryz.prog 3 mb [(.int .i64 v, x)] w) :
    Calls Tryz.prog 166 #[.pointer (some ⟨db, 0, none⟩)] w (RetInts w [v]) := by
  refine (lsdb_originsK db mb _ w h hm (by simp)).mono ?_
  rintro e w' ⟨r, ss, rfl, hp, ho, hn, hb⟩
  have hk : intKeys (mapD Tryz.prog 3 [(.int .i64 v, x)]) = [v] := by
    simp only [mapD, List.map_cons, List.map_nil, keyI v hv, Option.getD_some, List.foldr_cons, List.foldr_nil]
    rfl
  rw [hk] at hp
  obtain rfl := List.perm_singleton.1 hp
  rw [List.mergeSort_singleton] at ho
  exact retInts_of ho hb

end Go.Proofs.YtenhliibmcmnbaaGreat
