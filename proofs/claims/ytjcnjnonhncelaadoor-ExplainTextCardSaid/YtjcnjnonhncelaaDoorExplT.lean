/-
  explain.Text, waypointref57.Text: what each returns for every list of events and every cause.
-/
import Derived.Test.YtjcnjnonhncelaaDoorTr
import Derived.Test.YtjcnjnonhncelaaDoorParT
import Derived.Test.YtjcnjnonhncelaaDoorShelf
import Derived.Deep.Cut
import Derived.Deep.CutRange
import Derived.Deep.DeepCutAuto
import Derived.Deep.CutBlock
import Derived.Laws.Concat
namespace Go.Proofs.YtjcnjnonhncelaaDoor
open Go.RowKit Go.Sort
set_option linter.unusedSimpArgs false
set_option linter.unusedVariables false

def nmE : List (List UInt8) := [[], [119, 97, 121], [97, 114, 114, 105, 118, 101, 100], [114, 101, 112, 97, 105, 114, 101, 100], [100, 101, 116, 111, 117, 114, 101, 100], [100, 111, 119, 110], [99, 104, 97, 110, 110, 101, 108], [113, 117, 101, 117, 101], [114, 111, 117, 116, 101], [108, 111, 111, 112], [115, 101, 103, 109, 101, 110, 116], [110, 111, 100, 101]]
def prtE (l : List Ev) (i : Int) : List UInt8 := if 0 ≤ i ∧ i < (l.length : Int) then 58 :: 32 :: evT (l.getD i.toNat default) else []
/-- The text of a cause. -/
def expT (l : List Ev) (r e v : Int) : List UInt8 := if trOk l = true ∧ 1 ≤ r ∧ r ≤ 11 then nmL nmE r ++ prtE l e ++ (if e = v then [] else prtE l v) else []
theorem expT_bad {l : List Ev} {r e v : Int} (h : ¬ (trOk l = true ∧ 1 ≤ r ∧ r ≤ 11)) : expT l r e v = [] := if_neg h
theorem prtE_out {l : List Ev} {i : Int} (h : ¬ (0 ≤ i ∧ i < (l.length : Int))) : prtE l i = [] := if_neg h
theorem prtE_in {l : List Ev} {k : Nat} {x : Ev} (h : l[k]? = some x) : prtE l k = 58 :: 32 :: evT x := by
  have hk := (List.getElem?_eq_some_iff.1 h).1
  rw [prtE, if_pos (by omega), Int.toNat_natCast, getD_at h]
theorem ev_ok {l : List Ev} (h : trOk l = true) {k : Nat} {x : Ev} (hx : l[k]? = some x) : evOk x = true := by
  have h1 := trOk_at h (List.getElem?_eq_some_iff.1 hx).1
  simp only [goodE, getD_at hx, Bool.and_eq_true] at h1
  exact h1.1
theorem ok_one {x : Ev} (h : evOk x = true) : trOk [x] = true := (trOk_snoc (l := [])).2 ⟨rfl, h, rfl⟩
theorem prtE_len {l : List Ev} (h : trOk l = true) (i : Int) : (prtE l i).length ≤ 170 := by
  unfold prtE
  split
  · rename_i hi
    obtain ⟨k, rfl⟩ : ∃ k : Nat, i = (k : Int) := ⟨i.toNat, by omega⟩
    have hk : k < l.length := by omega
    have hx := List.getElem?_eq_getElem hk
    rw [Int.toNat_natCast, getD_at hx]
    have := evT_len (ev_ok h hx)
    simp; omega
  · simp
theorem nmE_len (r : Int) : (nmL nmE r).length ≤ 20 := by
  unfold nmL
  rw [List.getD_eq_getElem?_getD]
  cases h : nmE[r.toNat]? with
  | none => simp
  | some x =>
    have : ∀ y ∈ nmE, y.length ≤ 20 := by decide
    exact this x (List.mem_of_getElem? h)
theorem nmE_cell (W : World) {r : Int} (h0 : 0 ≤ r) (h1 : r ≤ 11) : (W.alloc (.cells #[.string ⟨#[]⟩, .string ⟨#[119, 97, 121]⟩, .string ⟨#[97, 114, 114, 105, 118, 101, 100]⟩, .string ⟨#[114, 101, 112, 97, 105, 114, 101, 100]⟩, .string ⟨#[100, 101, 116, 111, 117, 114, 101, 100]⟩, .string ⟨#[100, 111, 119, 110]⟩, .string ⟨#[99, 104, 97, 110, 110, 101, 108]⟩, .string ⟨#[113, 117, 101, 117, 101]⟩, .string ⟨#[114, 111, 117, 116, 101]⟩, .string ⟨#[108, 111, 111, 112]⟩, .string ⟨#[115, 101, 103, 109, 101, 110, 116]⟩, .string ⟨#[110, 111, 100, 101]⟩] 87)).cell? ⟨W.heap.size, r.toNat, none⟩ = some (.string ⟨(nmL nmE r).toArray⟩) := by
  obtain ⟨k, rfl⟩ : ∃ k : Nat, r = (k : Int) := ⟨r.toNat, by omega⟩
  rw [Int.toNat_natCast, Lib.cell_of_heap (heap_alloc_new W _)]
  have hk : k < 12 := by omega
  revert hk
  revert k
  intro k h0 h1 hk
  match k, hk with
  | 0, _ | 1, _ | 2, _ | 3, _ | 4, _ | 5, _ | 6, _ | 7, _ | 8, _ | 9, _ | 10, _ | 11, _ => rfl
theorem rdE_one {w : World} {b o : Nat} {x : Ev} (h : EvO w b o x) : RdE w (some ⟨b, o, none⟩) [x] :=
  .inr ⟨b, o, rfl, fun k e he => by
    cases k with
    | zero => simp at he; subst he; simpa using h
    | succ k => simp at he⟩
/-- The parts that a list of numbers names. -/
def ixT (l : List Ev) (ix : List Int) : List UInt8 := ix.flatMap (prtE l)
theorem ixT_next {l : List Ev} {ix : List Int} {k : Nat} {i : Int} (h : ix[k]? = some i) : ixT l (ix.take (k + 1)) = ixT l (ix.take k) ++ prtE l i := by
  obtain ⟨hk, rfl⟩ := List.getElem?_eq_some_iff.1 h
  rw [ixT, List.take_succ_eq_append_getElem hk, List.flatMap_append]
  simp only [ixT, List.flatMap_cons, List.flatMap_nil, List.append_nil]
theorem one_at {α : Type} {x y i : α} {k : Nat} (h : [x][k]? = some i) (hk : k < 1) : [x, y][k]? = some i := by
  obtain rfl : k = 0 := by omega
  simpa using h
theorem ixT_len {l : List Ev} (h : trOk l = true) : ∀ ix : List Int, (ixT l ix).length ≤ 170 * ix.length
  | [] => by simp [ixT]
  | i :: r => by
    have h1 := ixT_len h r
    have h2 := prtE_len h i
    simp only [ixT, List.flatMap_cons, List.length_append, List.length_cons] at *
    omega

set_option maxRecDepth 100000 in
set_option maxHeartbeats 8000000 in
theorem explain_Text (A : Option Addr) (c : Nat) (l : List Ev) (r e v : Int) (w : World) (hA : RdE w A l) (hm : l.length ≤ 1000) (hlc : l.length ≤ c) (hcm : c ≤ maxLen) (ht : Tab w.heap.size w) :
    Calls Tryd.prog 24 #[.slice A l.length c, .agg #[.int .i64 r, .int .i64 e, .int .i64 v]] w fun x w' => x = .returned (.string ⟨(expT l r e v).toArray⟩) ∧ Below w.heap.size w w' := by
  obtain ⟨V, hV⟩ : ∃ V, V = expT l r e v := ⟨_, rfl⟩
  rw [← hV]
  have HV := Lib.hid hV
  clear hV
  have HA := Lib.hid hA
  have HT := Lib.hid ht
  have HW1 := Lib.hid (below_box w (.cells #[.int .i64 r, .int .i64 e, .int .i64 v] 48))
  have HC1 : Hid ((w.alloc (.cells #[.int .i64 r, .int .i64 e, .int .i64 v] 48)).heap[w.heap.size]? = some (.cells #[.int .i64 r, .int .i64 e, .int .i64 v] 48 (0, 0))) := Lib.hid (heap_alloc_new _ _)
  have hsz1 : (w.alloc (.cells #[.int .i64 r, .int .i64 e, .int .i64 v] 48)).heap.size = w.heap.size + 1 := by simp
  have HCV : Hid (∀ W, RdE W A l → Calls Tryd.prog 11 #[.slice A l.length c] W fun e w' => e = .returned (.bool (trOk l)) ∧ Below W.heap.size W w') := Lib.hid fun W h => trace_Valid A c l W h (by omega)
  clear hA ht
  go_enter Tryd.func24, Tryd.ntmps24
  go_upto_region 1 with fail
  generalize w.alloc (.cells #[.int .i64 r, .int .i64 e, .int .i64 v] 48) = W1 at *
  go_upto_region 2 with fail
  have HN : Hid (0 ≤ r → r ≤ 11 → (W1.alloc (.cells #[.string ⟨#[]⟩, .string ⟨#[119, 97, 121]⟩, .string ⟨#[97, 114, 114, 105, 118, 101, 100]⟩, .string ⟨#[114, 101, 112, 97, 105, 114, 101, 100]⟩, .string ⟨#[100, 101, 116, 111, 117, 114, 101, 100]⟩, .string ⟨#[100, 111, 119, 110]⟩, .string ⟨#[99, 104, 97, 110, 110, 101, 108]⟩, .string ⟨#[113, 117, 101, 117, 101]⟩, .string ⟨#[114, 111, 117, 116, 101]⟩, .string ⟨#[108, 111, 111, 112]⟩, .string ⟨#[115, 101, 103, 109, 101, 110, 116]⟩, .string ⟨#[110, 111, 100, 101]⟩] 87)).cell? ⟨W1.heap.size, r.toNat, none⟩ = some (.string ⟨(nmL nmE r).toArray⟩)) := Lib.hid (nmE_cell W1)
  have HW2 := Lib.hid (below_next HW1.out (below_box W1 (.cells #[.string ⟨#[]⟩, .string ⟨#[119, 97, 121]⟩, .string ⟨#[97, 114, 114, 105, 118, 101, 100]⟩, .string ⟨#[114, 101, 112, 97, 105, 114, 101, 100]⟩, .string ⟨#[100, 101, 116, 111, 117, 114, 101, 100]⟩, .string ⟨#[100, 111, 119, 110]⟩, .string ⟨#[99, 104, 97, 110, 110, 101, 108]⟩, .string ⟨#[113, 117, 101, 117, 101]⟩, .string ⟨#[114, 111, 117, 116, 101]⟩, .string ⟨#[108, 111, 111, 112]⟩, .string ⟨#[115, 101, 103, 109, 101, 110, 116]⟩, .string ⟨#[110, 111, 100, 101]⟩] 87)))
  have HC2 : Hid ((W1.alloc (.cells #[.string ⟨#[]⟩, .string ⟨#[119, 97, 121]⟩, .string ⟨#[97, 114, 114, 105, 118, 101, 100]⟩, .string ⟨#[114, 101, 112, 97, 105, 114, 101, 100]⟩, .string ⟨#[100, 101, 116, 111, 117, 114, 101, 100]⟩, .string ⟨#[100, 111, 119, 110]⟩, .string ⟨#[99, 104, 97, 110, 110, 101, 108]⟩, .string ⟨#[113, 117, 101, 117, 101]⟩, .string ⟨#[114, 111, 117, 116, 101]⟩, .string ⟨#[108, 111, 111, 112]⟩, .string ⟨#[115, 101, 103, 109, 101, 110, 116]⟩, .string ⟨#[110, 111, 100, 101]⟩] 87)).heap[w.heap.size]? = some (.cells #[.int .i64 r, .int .i64 e, .int .i64 v] 48 (0, 0))) := Lib.hid (((below_box W1 _).block _ (lt_of_heap HC1.out)).trans HC1.out)
  generalize (W1.alloc (.cells #[.string ⟨#[]⟩, .string ⟨#[119, 97, 121]⟩, .string ⟨#[97, 114, 114, 105, 118, 101, 100]⟩, .string ⟨#[114, 101, 112, 97, 105, 114, 101, 100]⟩, .string ⟨#[100, 101, 116, 111, 117, 114, 101, 100]⟩, .string ⟨#[100, 111, 119, 110]⟩, .string ⟨#[99, 104, 97, 110, 110, 101, 108]⟩, .string ⟨#[113, 117, 101, 117, 101]⟩, .string ⟨#[114, 111, 117, 116, 101]⟩, .string ⟨#[108, 111, 111, 112]⟩, .string ⟨#[115, 101, 103, 109, 101, 110, 116]⟩, .string ⟨#[110, 111, 100, 101]⟩] 87)) = W2 at *
  clear HW1 HC1
  have hk0 : W2.cell? ⟨w.heap.size, 0, none⟩ = some (.int .i64 r) := by rw [Lib.cell_of_heap HC2.out]; rfl
  have hk1 : W2.cell? ⟨w.heap.size, 1, none⟩ = some (.int .i64 e) := by rw [Lib.cell_of_heap HC2.out]; rfl
  have hk2 : W2.cell? ⟨w.heap.size, 2, none⟩ = some (.int .i64 v) := by rw [Lib.cell_of_heap HC2.out]; rfl
  clear HC2
  cases hok : trOk l with
  | false =>
    have HVV : Hid (V = []) := Lib.hid (by rw [HV.out]; exact expT_bad (by simp [hok]))
    rw [hok] at HCV
    clear hok
    go_wp2_with (go_at_call 11; (with_reducible refine (HCV.out _ (HA.out.below HW2.out)).mono ?_); rintro x w3 ⟨rfl, hb⟩; have HB := Lib.hid (below_next HW2.out hb); replace hk0 := cell_up hb hk0; replace hk1 := cell_up hb hk1; replace hk2 := cell_up hb hk2; clear hb)
    go_ret
    exact ⟨by rw [HVV.out]; rfl, HB.out⟩
  | true =>
    rw [hok] at HCV
    by_cases h1 : 1 ≤ r
    · by_cases h2 : r ≤ 11
      · have HVV : Hid (V = nmL nmE r ++ ixT l (if e = v then [e] else [e, v])) := Lib.hid (by
          rw [HV.out, expT, if_pos ⟨hok, h1, h2⟩]
          by_cases he : e = v
          · rw [if_pos he, if_pos he]; simp [ixT]
          · rw [if_neg he, if_neg he]; simp [ixT])
        have q0 := HN.out (by omega) h2
        rw [hsz1] at q0
        have HOK := Lib.hid hok
        have hb1 : ¬ r < 1 := by omega
        have hb2 : ¬ 11 < r := by omega
        have hr12 : r < 12 := by omega
        have hr0 : 0 ≤ r := by omega
        clear hok HN
        go_upto_region 5 with (go_at_call 11; (with_reducible refine (HCV.out _ (HA.out.below HW2.out)).mono ?_); rintro x w3 ⟨rfl, hb⟩; have HB := Lib.hid (below_next HW2.out hb); replace hk0 := cell_up hb hk0; replace hk1 := cell_up hb hk1; replace hk2 := cell_up hb hk2; replace q0 := cell_up hb q0; clear hb)
        obtain ⟨W4, hW4⟩ : ∃ W, W = w3.alloc (.cells #[.int .i64 e, .int .i64 v] 3) := ⟨_, rfl⟩
        have HB4 : Hid (Below w3.heap.size w3 W4) := Lib.hid (hW4 ▸ below_box _ _)
        have HI : Hid (∀ (k : Nat) (i : Int), [e, v][k]? = some i → W4.cell? ⟨w3.heap.size, k, none⟩ = some (.int .i64 i)) := Lib.hid (by
          intro k i hk
          rw [hW4, Lib.cell_of_heap (heap_alloc_new w3 _)]
          match k, hk with
          | 0, hk => simp at hk; subst hk; rfl
          | 1, hk => simp at hk; subst hk; rfl)
        rw [← hW4]
        replace hk0 := cell_up HB4.out hk0
        replace hk1 := cell_up HB4.out hk1
        replace hk2 := cell_up HB4.out hk2
        replace q0 := cell_up HB4.out q0
        replace HB := Lib.hid (below_next HB.out HB4.out)
        clear hW4 HB4
        have HS := Lib.hid (nmE_len r)
        by_cases he : e = v
        · have HFin : Hid (V = nmL nmE r ++ ixT l [e]) := Lib.hid (by rw [HVV.out, if_pos he])
          have he2 : (e == v) = true := by simpa using he
          clear he HVV
          go_wp2_with fail
          go_loopw [7, 44] (fun sv iv wr => ∃ (k : Nat) (S : List UInt8), k ≤ 1 ∧ iv = .int .i64 (k : Int) ∧ sv = .string ⟨S.toArray⟩ ∧ Hid (S = nmL nmE r ++ ixT l ([e].take k)) ∧ Hid (Below W4.heap.size W4 wr)) (fun _ iv _ => 1 - (intOf iv).toNat)
          case atStart => exact ⟨0, _, by omega, rfl, rfl, Lib.hid (by simp [ixT]), Lib.hid (Below.refl _ _)⟩
          case round =>
            obtain ⟨k, S, hk, rfl, rfl, HSS, HBr⟩ := hrel
            have hSl : S.length ≤ 400 := by
              have h8 := ixT_len HOK.out ([e].take k)
              have h9 := HS.out
              rw [HSS.out, List.length_append]
              rw [List.length_take] at h8
              simp only [List.length_cons, List.length_nil] at h8
              omega
            by_cases hlt : k < 1
            · obtain ⟨i, hi⟩ : ∃ i, [e][k]? = some i := ⟨_, List.getElem?_eq_getElem (by simpa using hlt)⟩
              have HNx := Lib.hid (ixT_next (l := l) hi)
              have q1 := cell_up HBr.out (HI.out k i (one_at hi hlt))
              have hlt' : (k : Int) < 1 := by omega
              clear hi
              by_cases hin : 0 ≤ i ∧ i < (l.length : Int)
              · obtain ⟨h0, h1i⟩ := hin
                obtain ⟨j, rfl⟩ : ∃ j : Nat, i = (j : Int) := ⟨i.toNat, by omega⟩
                have HAr := Lib.hid (HA.out.below (below_next HB.out HBr.out))
                obtain ⟨b, o, x, rfl, hx, hxo⟩ := HAr.out.at_ (k := j) (by omega)
                have HP := Lib.hid (prtE_in hx)
                have hxok := ev_ok HOK.out hx
                have HEV := Lib.hid (evT_len hxok)
                have HR1 := Lib.hid (rdE_one hxo)
                have HT1 : Hid (∀ A' c' W, RdE W A' [x] → Tab W.heap.size W → Calls Tryd.prog 10 #[.slice A' 1 c'] W fun e w' => e = .returned (.tuple #[.string ⟨(evT x ++ [10]).toArray⟩, .int .i64 0]) ∧ Below W.heap.size W w') := Lib.hid fun A' c' W g1 g2 => by
                  have := trace_Text_ok A' c' [x] W g1 (by simp) (ok_one hxok) g2
                  rw [trT_cons] at this
                  exact this
                have HTS : Hid (∀ W, Calls Tryd.prog 40 #[.string ⟨(evT x ++ [10]).toArray⟩, .string ⟨#[10]⟩] W fun e w' => e = .returned (.string ⟨(evT x).toArray⟩) ∧ w' = W) := Lib.hid fun W => by
                  have h9 := HEV.out
                  have := Tryd.strings_TrimSuffix ⟨(evT x ++ [10]).toArray⟩ ⟨#[10]⟩ W (by simp [ByteArray.size]; omega)
                  have h8 : Lib.trimSuffix (⟨(evT x ++ [10]).toArray⟩ : ByteArray).data.toList (⟨#[10]⟩ : ByteArray).data.toList = evT x := by
                    show Lib.trimSuffix (evT x ++ [10]).toArray.toList [10] = evT x
                    rw [List.toList_toArray]; exact (suff_hit (evT x)).2
                  rw [h8] at this
                  exact this
                have hev : (evT x).length ≤ 160 := HEV.out
                have ca1 : ∀ w', (Op.stringOp .add ⟨#[58, 32]⟩ ⟨(evT x).toArray⟩).run Tryd.prog w' = .ok (.string ⟨(58 :: 32 :: evT x).toArray⟩) w' := fun w' => run_string_add_lists w' [58, 32] (evT x) (by simp) (by omega)
                have ca2 : ∀ w', (Op.stringOp .add ⟨S.toArray⟩ ⟨(58 :: 32 :: evT x).toArray⟩).run Tryd.prog w' = .ok (.string ⟨(S ++ 58 :: 32 :: evT x).toArray⟩) w' := fun w' => run_string_add_lists w' S (58 :: 32 :: evT x) (by omega) (by simp; omega)
                have HSN : Hid (S ++ 58 :: 32 :: evT x = nmL nmE r ++ ixT l ([e].take (k + 1))) := Lib.hid (by rw [HNx.out, HSS.out, HP.out, List.append_assoc])
                have HTb := Lib.hid (tab_up HT.out (below_next HB.out HBr.out) (below_next HB.out HBr.out).size)
                have hj1 : (j : Int) + 1 ≤ (c : Int) := by omega
                have hj2 : (j : Int) ≤ (j : Int) + 1 := by omega
                clear hx hxo hxok hev
                generalize evT x = X at *
                generalize 58 :: 32 :: X = Y at *
                go_wp2_with (first | (go_at_call 10; (with_reducible refine (HT1.out _ _ _ HR1.out HTb.out).mono ?_); rintro x2 w5 ⟨rfl, hb⟩; replace HBr := Lib.hid (below_next HBr.out hb); clear hb) | (go_at_call 40; (with_reducible refine (HTS.out _).mono ?_); rintro x2 w6 ⟨rfl, rfl⟩))
                go_roundw
                case rel => exact ⟨k + 1, _, by omega, by go_num, rfl, HSN, HBr⟩
                case measure => simp [intOf]; omega
              · have HSN : Hid (S = nmL nmE r ++ ixT l ([e].take (k + 1))) := Lib.hid (by rw [HNx.out, HSS.out, prtE_out hin, List.append_nil])
                by_cases h0 : i < 0
                · clear hin
                  go_wp2_with fail
                  go_roundw
                  case rel => exact ⟨k + 1, _, by omega, by go_num, rfl, HSN, HBr⟩
                  case measure => simp [intOf]; omega
                · have h0' : 0 ≤ i := by omega
                  have h1' : (l.length : Int) ≤ i := by omega
                  clear hin
                  go_wp2_with fail
                  go_roundw
                  case rel => exact ⟨k + 1, _, by omega, by go_num, rfl, HSN, HBr⟩
                  case measure => simp [intOf]; omega
            · obtain rfl : k = 1 := by omega
              have HE9 : Hid (V = S) := Lib.hid (by rw [HFin.out, HSS.out]; rfl)
              go_wp2_with fail
              go_ret
              exact ⟨by rw [HE9.out]; rfl, below_next HB.out HBr.out⟩
        · have HFin : Hid (V = nmL nmE r ++ ixT l [e, v]) := Lib.hid (by rw [HVV.out, if_neg he])
          have he2 : (e == v) = false := by simpa using he
          clear he HVV
          go_wp2_with fail
          go_loopw [7, 44] (fun sv iv wr => ∃ (k : Nat) (S : List UInt8), k ≤ 2 ∧ iv = .int .i64 (k : Int) ∧ sv = .string ⟨S.toArray⟩ ∧ Hid (S = nmL nmE r ++ ixT l ([e, v].take k)) ∧ Hid (Below W4.heap.size W4 wr)) (fun _ iv _ => 2 - (intOf iv).toNat)
          case atStart => exact ⟨0, _, by omega, rfl, rfl, Lib.hid (by simp [ixT]), Lib.hid (Below.refl _ _)⟩
          case round =>
            obtain ⟨k, S, hk, rfl, rfl, HSS, HBr⟩ := hrel
            have hSl : S.length ≤ 400 := by
              have h8 := ixT_len HOK.out ([e, v].take k)
              have h9 := HS.out
              rw [HSS.out, List.length_append]
              rw [List.length_take] at h8
              simp only [List.length_cons, List.length_nil] at h8
              omega
            by_cases hlt : k < 2
            · obtain ⟨i, hi⟩ : ∃ i, [e, v][k]? = some i := ⟨_, List.getElem?_eq_getElem (by simpa using hlt)⟩
              have HNx := Lib.hid (ixT_next (l := l) hi)
              have q1 := cell_up HBr.out (HI.out k i (by exact hi))
              have hlt' : (k : Int) < 2 := by omega
              clear hi
              by_cases hin : 0 ≤ i ∧ i < (l.length : Int)
              · obtain ⟨h0, h1i⟩ := hin
                obtain ⟨j, rfl⟩ : ∃ j : Nat, i = (j : Int) := ⟨i.toNat, by omega⟩
                have HAr := Lib.hid (HA.out.below (below_next HB.out HBr.out))
                obtain ⟨b, o, x, rfl, hx, hxo⟩ := HAr.out.at_ (k := j) (by omega)
                have HP := Lib.hid (prtE_in hx)
                have hxok := ev_ok HOK.out hx
                have HEV := Lib.hid (evT_len hxok)
                have HR1 := Lib.hid (rdE_one hxo)
                have HT1 : Hid (∀ A' c' W, RdE W A' [x] → Tab W.heap.size W → Calls Tryd.prog 10 #[.slice A' 1 c'] W fun e w' => e = .returned (.tuple #[.string ⟨(evT x ++ [10]).toArray⟩, .int .i64 0]) ∧ Below W.heap.size W w') := Lib.hid fun A' c' W g1 g2 => by
                  have := trace_Text_ok A' c' [x] W g1 (by simp) (ok_one hxok) g2
                  rw [trT_cons] at this
                  exact this
                have HTS : Hid (∀ W, Calls Tryd.prog 40 #[.string ⟨(evT x ++ [10]).toArray⟩, .string ⟨#[10]⟩] W fun e w' => e = .returned (.string ⟨(evT x).toArray⟩) ∧ w' = W) := Lib.hid fun W => by
                  have h9 := HEV.out
                  have := Tryd.strings_TrimSuffix ⟨(evT x ++ [10]).toArray⟩ ⟨#[10]⟩ W (by simp [ByteArray.size]; omega)
                  have h8 : Lib.trimSuffix (⟨(evT x ++ [10]).toArray⟩ : ByteArray).data.toList (⟨#[10]⟩ : ByteArray).data.toList = evT x := by
                    show Lib.trimSuffix (evT x ++ [10]).toArray.toList [10] = evT x
                    rw [List.toList_toArray]; exact (suff_hit (evT x)).2
                  rw [h8] at this
                  exact this
                have hev : (evT x).length ≤ 160 := HEV.out
                have ca1 : ∀ w', (Op.stringOp .add ⟨#[58, 32]⟩ ⟨(evT x).toArray⟩).run Tryd.prog w' = .ok (.string ⟨(58 :: 32 :: evT x).toArray⟩) w' := fun w' => run_string_add_lists w' [58, 32] (evT x) (by simp) (by omega)
                have ca2 : ∀ w', (Op.stringOp .add ⟨S.toArray⟩ ⟨(58 :: 32 :: evT x).toArray⟩).run Tryd.prog w' = .ok (.string ⟨(S ++ 58 :: 32 :: evT x).toArray⟩) w' := fun w' => run_string_add_lists w' S (58 :: 32 :: evT x) (by omega) (by simp; omega)
                have HSN : Hid (S ++ 58 :: 32 :: evT x = nmL nmE r ++ ixT l ([e, v].take (k + 1))) := Lib.hid (by rw [HNx.out, HSS.out, HP.out, List.append_assoc])
                have HTb := Lib.hid (tab_up HT.out (below_next HB.out HBr.out) (below_next HB.out HBr.out).size)
                have hj1 : (j : Int) + 1 ≤ (c : Int) := by omega
                have hj2 : (j : Int) ≤ (j : Int) + 1 := by omega
                clear hx hxo hxok hev
                generalize evT x = X at *
                generalize 58 :: 32 :: X = Y at *
                go_wp2_with (first | (go_at_call 10; (with_reducible refine (HT1.out _ _ _ HR1.out HTb.out).mono ?_); rintro x2 w5 ⟨rfl, hb⟩; replace HBr := Lib.hid (below_next HBr.out hb); clear hb) | (go_at_call 40; (with_reducible refine (HTS.out _).mono ?_); rintro x2 w6 ⟨rfl, rfl⟩))
                go_roundw
                case rel => exact ⟨k + 1, _, by omega, by go_num, rfl, HSN, HBr⟩
                case measure => simp [intOf]; omega
              · have HSN : Hid (S = nmL nmE r ++ ixT l ([e, v].take (k + 1))) := Lib.hid (by rw [HNx.out, HSS.out, prtE_out hin, List.append_nil])
                by_cases h0 : i < 0
                · clear hin
                  go_wp2_with fail
                  go_roundw
                  case rel => exact ⟨k + 1, _, by omega, by go_num, rfl, HSN, HBr⟩
                  case measure => simp [intOf]; omega
                · have h0' : 0 ≤ i := by omega
                  have h1' : (l.length : Int) ≤ i := by omega
                  clear hin
                  go_wp2_with fail
                  go_roundw
                  case rel => exact ⟨k + 1, _, by omega, by go_num, rfl, HSN, HBr⟩
                  case measure => simp [intOf]; omega
            · obtain rfl : k = 2 := by omega
              have HE9 : Hid (V = S) := Lib.hid (by rw [HFin.out, HSS.out]; rfl)
              go_wp2_with fail
              go_ret
              exact ⟨by rw [HE9.out]; rfl, below_next HB.out HBr.out⟩
      · have HVV : Hid (V = []) := Lib.hid (by rw [HV.out]; exact expT_bad (by omega))
        have h2' : 11 < r := by omega
        have hb1 : ¬ r < 1 := by omega
        clear hok
        go_wp2_with (go_at_call 11; (with_reducible refine (HCV.out _ (HA.out.below HW2.out)).mono ?_); rintro x w3 ⟨rfl, hb⟩; have HB := Lib.hid (below_next HW2.out hb); replace hk0 := cell_up hb hk0; replace hk1 := cell_up hb hk1; replace hk2 := cell_up hb hk2; clear hb)
        go_ret
        exact ⟨by rw [HVV.out]; rfl, HB.out⟩
    · have HVV : Hid (V = []) := Lib.hid (by rw [HV.out]; exact expT_bad (by omega))
      have h1' : r < 1 := by omega
      clear hok
      go_wp2_with (go_at_call 11; (with_reducible refine (HCV.out _ (HA.out.below HW2.out)).mono ?_); rintro x w3 ⟨rfl, hb⟩; have HB := Lib.hid (below_next HW2.out hb); replace hk0 := cell_up hb hk0; replace hk1 := cell_up hb hk1; replace hk2 := cell_up hb hk2; clear hb)
      go_ret
      exact ⟨by rw [HVV.out]; rfl, HB.out⟩

end Go.Proofs.YtjcnjnonhncelaaDoor
