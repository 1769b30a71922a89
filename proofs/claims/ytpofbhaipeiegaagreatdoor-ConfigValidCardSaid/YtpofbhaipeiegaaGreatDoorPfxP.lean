/-
  waypoint/prefix.Parse: what it returns.
-/
import Derived.Test.YtpofbhaipeiegaaGreatDoorPfx
import Derived.Test.YtpofbhaipeiegaaGreatDoorCutS
import Derived.Test.YtpofbhaipeiegaaGreatDoorRSplit
import Derived.Test.YtpofbhaipeiegaaGreatDoorErrs
import Derived.Laws.BitsAllLaws
namespace Go.Proofs.YtpofbhaipeiegaaGreatDoor
set_option linter.unusedSimpArgs false
set_option linter.unusedVariables false
open Go.RowKit Go.Sort Go.Shelf

def nextA (x n : Int) : Int := bits BinOp.or IntKind.u32 (x * 256 % 4294967296) n
def octF : List (List UInt8) → Int → Option Int
  | [], x => some x
  | w :: r, x => match Lib.atoiAll w with | .ok n => if n < 0 ∨ 255 < n then none else octF r (nextA x n) | _ => none
def pparseS (s : List UInt8) : Option (Int × Int) :=
  if (cutA 47 s).2.2 = false ∨ 18 < s.length ∨ (splitK 46 [] (cutA 47 s).1).length ≠ 4 then none
  else match octF (splitK 46 [] (cutA 47 s).1) 0 with
    | none => none
    | some x => match Lib.atoiAll (cutA 47 s).2.1 with | .ok y => if ptextS x y = s then some (x, y) else none | _ => none
theorem nextA_in (x n : Int) (hn : ¬ (n < 0 ∨ 255 < n)) : 0 ≤ nextA x n ∧ nextA x n < 4294967296 := by
  have h1 : 0 ≤ x * 256 % 4294967296 ∧ x * 256 % 4294967296 < 4294967296 := by omega
  have h2 : 0 ≤ n ∧ n < 4294967296 := by omega
  unfold nextA
  generalize x * 256 % 4294967296 = z at *
  rw [u32_or z n h1.1 h1.2 h2.1 h2.2]
  have := Nat.or_lt_two_pow (x := z.toNat) (y := n.toNat) (n := 32) (by omega) (by omega)
  generalize z.toNat ||| n.toNat = q at *
  omega
theorem octF_in : ∀ (ws : List (List UInt8)) (x z : Int), 0 ≤ x ∧ x < 4294967296 → octF ws x = some z → 0 ≤ z ∧ z < 4294967296
  | [], x, z, h, e => by injection e with e; rw [← e]; exact h
  | w :: r, x, z, h, e => by
    rw [octF] at e
    split at e
    · split at e
      · cases e
      · rename_i hn; exact octF_in r _ z (nextA_in _ _ hn) e
    · cases e
theorem octF_stop {w : List UInt8} {r : List (List UInt8)} {x : Int} (h : ∀ v, Lib.atoiAll w ≠ .ok v) : octF (w :: r) x = none := by
  rw [octF]
  split
  · rename_i n hn; exact absurd hn (h n)
  · rfl
theorem octF_out {w : List UInt8} {r : List (List UInt8)} {x n : Int} (h : Lib.atoiAll w = .ok n) (hn : n < 0 ∨ 255 < n) : octF (w :: r) x = none := by
  rw [octF, h]
  simp only
  rw [if_pos hn]
theorem octF_go {w : List UInt8} {r : List (List UInt8)} {x n : Int} (h : Lib.atoiAll w = .ok n) (hn : ¬ (n < 0 ∨ 255 < n)) : octF (w :: r) x = octF r (nextA x n) := by
  rw [octF, h]
  simp only
  rw [if_neg hn]
/-- What prefix.Parse returns. -/
def RetPx (w : World) (V : Option (Int × Int)) (e : Ending) (w' : World) : Prop :=
  (match V with
    | some (x, y) => e = .returned (.tuple #[.agg #[.int .u32 x, .int .i64 y], .int .i64 0])
    | none => e = .returned (.tuple #[.agg #[.int .u32 0, .int .i64 0], .int .i64 3])) ∧ Below w.heap.size w w'
theorem px_box (w : World) : (w.alloc (.cells #[.int .u32 0, .int .i64 0] 90)).heap[w.heap.size]? = some (.cells #[.int .u32 0, .int .i64 0] 90 (0, 0)) := heap_alloc_new _ _
theorem bx_set1 {W : World} {B : Nat} {a b y : Value} {T : TypeId} (h : W.heap[B]? = some (.cells #[a, b] T (0, 0))) : (W.setCell ⟨B, 0, none⟩ y).heap[B]? = some (.cells #[y, b] T (0, 0)) ∧ (W.setCell ⟨B, 1, none⟩ y).heap[B]? = some (.cells #[a, y] T (0, 0)) := by
  constructor
  · rw [heap_setCell_same _ _ 0 _ _ _ h]; rfl
  · rw [heap_setCell_same _ _ 1 _ _ _ h]; rfl

set_option maxRecDepth 100000 in
set_option maxHeartbeats 8000000 in
theorem prefix_Parse (s : List UInt8) (hs : s.length ≤ 100000) (w : World) (hE : Errs w) (ht : Tab w.heap.size w) :
    Calls Tryz.prog 97 #[.string ⟨s.toArray⟩] w (RetPx w (pparseS s)) := by
  obtain ⟨V, hV⟩ : ∃ V, V = pparseS s := ⟨_, rfl⟩
  rw [← hV]
  have HE := Lib.hid hE
  have HT := Lib.hid ht
  clear hE ht
  obtain ⟨a, l, fnd, hc⟩ : ∃ a l fnd, cutA 47 s = (a, l, fnd) := ⟨_, _, _, rfl⟩
  have HC : Hid (∀ w', Calls Tryz.prog 53 #[.string ⟨s.toArray⟩, .string ⟨#[47]⟩] w' fun e w'' => e = .returned (.tuple #[.string ⟨a.toArray⟩, .string ⟨l.toArray⟩, .bool fnd]) ∧ Below w'.heap.size w' w'') := Lib.hid fun w' => by
    have := strings_Cut1 47 s (by omega) w'
    rw [hc] at this
    exact this
  have hal : a.length ≤ s.length := by have := cutA_len 47 s; rw [hc] at this; exact this
  have hll : l.length ≤ s.length := by have := cutA_len2 47 s; rw [hc] at this; exact this
  obtain ⟨ws, hws⟩ : ∃ ws, ws = splitK 46 [] a := ⟨_, rfl⟩
  have HSP : Hid (∀ w', Calls Tryz.prog 12 #[.string ⟨a.toArray⟩, .string ⟨#[46]⟩] w' fun e w'' => e = .returned (.slice (some ⟨w'.heap.size, 0, none⟩) ws.length ws.length) ∧ w'' = w'.alloc (.cells (ws.map strW).toArray 9)) := Lib.hid fun w' => by
    rw [hws]; exact strings_Split1 46 a (by omega) w'
  have hwl : ∀ x ∈ ws, x.length ≤ 100000 := fun x hx => by rw [hws] at hx; have := splitK_mem hx; omega
  have HWL := Lib.hid hwl
  have hV2 : V = if fnd = false ∨ 18 < s.length ∨ ws.length ≠ 4 then none else match octF ws 0 with | none => none | some x => match Lib.atoiAll l with | .ok y => if ptextS x y = s then some (x, y) else none | _ => none := by
    rw [hV, pparseS, hc, hws]
  have HV := Lib.hid hV2
  have HLL : Hid (l.length ≤ 100000) := Lib.hid (by omega)
  clear hV hV2 hwl hws hc hal hll
  have HZ := Lib.hid (px_box w)
  have HB := Lib.hid (below_box w (.cells #[.int .u32 0, .int .i64 0] 90))
  have hz0 : (w.alloc (.cells #[.int .u32 0, .int .i64 0] 90)).frozen? ⟨w.heap.size, 0, none⟩ = false := by simp
  by_cases hbad : fnd = false ∨ 18 < s.length ∨ ws.length ≠ 4
  · have HN : Hid (V = none) := Lib.hid (by rw [HV.out, if_pos hbad])
    cases fnd with
    | false =>
      clear hbad
      go_enter Tryz.func97, Tryz.ntmps97
      go_wp2_with (first | (go_at_call 53; refine (HC.out _).mono ?_; rintro e w1 ⟨rfl, hb⟩; replace HZ := Lib.hid ((hb.block _ (lt_of_heap HZ.out)).trans HZ.out); replace HB := Lib.hid (below_next HB.out hb); clear hb) | (go_at_call 12; refine (HSP.out _).mono ?_; rintro e w2 ⟨rfl, hw2⟩; have HZW := Lib.hid (lt_of_heap HZ.out); have hb2 := below_box w1 (.cells (ws.map strW).toArray 9); have hwk := heap_alloc_new w1 (.cells (ws.map strW).toArray 9); rw [← hw2] at hb2 hwk; have HWK := Lib.hid hwk; replace HZ := Lib.hid ((hb2.block _ (lt_of_heap HZ.out)).trans HZ.out); replace HB := Lib.hid (below_next HB.out hb2); obtain ⟨wb, hwb⟩ : ∃ wb, wb = w1.heap.size := ⟨_, rfl⟩; rw [← hwb] at HWK ⊢; have HWB : Hid (w.heap.size < wb) := Lib.hid (by rw [hwb]; exact HZW.out); clear hb2 hwk hw2 hwb; have z0 := Lib.cell_of_heap HZ.out 0; have z1 := Lib.cell_of_heap HZ.out 1; have zf0 : w2.frozen? ⟨w.heap.size, 0, none⟩ = false := Lib.frozen_of_heap HZ.out _; have zf1 : w2.frozen? ⟨w.heap.size, 1, none⟩ = false := Lib.frozen_of_heap HZ.out _))
      have hz := box_set (x := .int .u32 0) (y := .int .i64 0) HZ.out
      have hy0 := Lib.cell_of_heap hz 0
      have hy1 := Lib.cell_of_heap hz 1
      exact bodyPost_ret (v := .tuple #[.agg #[.int .u32 0, .int .i64 0], .int .i64 3]) (by simp [results, Tryz.results97, go_sem, hy0, hy1]) rfl ⟨by rw [HN.out], below_set2 HB.out _ _⟩
    | true =>
      by_cases h18 : 18 < s.length
      · have h18' : (18 : Int) < (s.length : Int) := by omega
        clear hbad h18
        go_enter Tryz.func97, Tryz.ntmps97
        go_wp2_with (first | (go_at_call 53; refine (HC.out _).mono ?_; rintro e w1 ⟨rfl, hb⟩; replace HZ := Lib.hid ((hb.block _ (lt_of_heap HZ.out)).trans HZ.out); replace HB := Lib.hid (below_next HB.out hb); clear hb) | (go_at_call 12; refine (HSP.out _).mono ?_; rintro e w2 ⟨rfl, hw2⟩; have HZW := Lib.hid (lt_of_heap HZ.out); have hb2 := below_box w1 (.cells (ws.map strW).toArray 9); have hwk := heap_alloc_new w1 (.cells (ws.map strW).toArray 9); rw [← hw2] at hb2 hwk; have HWK := Lib.hid hwk; replace HZ := Lib.hid ((hb2.block _ (lt_of_heap HZ.out)).trans HZ.out); replace HB := Lib.hid (below_next HB.out hb2); obtain ⟨wb, hwb⟩ : ∃ wb, wb = w1.heap.size := ⟨_, rfl⟩; rw [← hwb] at HWK ⊢; have HWB : Hid (w.heap.size < wb) := Lib.hid (by rw [hwb]; exact HZW.out); clear hb2 hwk hw2 hwb; have z0 := Lib.cell_of_heap HZ.out 0; have z1 := Lib.cell_of_heap HZ.out 1; have zf0 : w2.frozen? ⟨w.heap.size, 0, none⟩ = false := Lib.frozen_of_heap HZ.out _; have zf1 : w2.frozen? ⟨w.heap.size, 1, none⟩ = false := Lib.frozen_of_heap HZ.out _))
        have hz := box_set (x := .int .u32 0) (y := .int .i64 0) HZ.out
        have hy0 := Lib.cell_of_heap hz 0
        have hy1 := Lib.cell_of_heap hz 1
        exact bodyPost_ret (v := .tuple #[.agg #[.int .u32 0, .int .i64 0], .int .i64 3]) (by simp [results, Tryz.results97, go_sem, hy0, hy1]) rfl ⟨by rw [HN.out], below_set2 HB.out _ _⟩
      · have h18' : ¬ (18 : Int) < (s.length : Int) := by omega
        have n4 : ((ws.length : Int) != 4) = true := by
          have : ¬ ws.length = 4 := by rcases hbad with h | h | h <;> first | exact h | exact absurd h h18 | (cases h)
          rw [bne_iff_ne]; omega
        clear hbad h18
        go_enter Tryz.func97, Tryz.ntmps97
        go_wp2_with (first | (go_at_call 53; refine (HC.out _).mono ?_; rintro e w1 ⟨rfl, hb⟩; replace HZ := Lib.hid ((hb.block _ (lt_of_heap HZ.out)).trans HZ.out); replace HB := Lib.hid (below_next HB.out hb); clear hb) | (go_at_call 12; refine (HSP.out _).mono ?_; rintro e w2 ⟨rfl, hw2⟩; have HZW := Lib.hid (lt_of_heap HZ.out); have hb2 := below_box w1 (.cells (ws.map strW).toArray 9); have hwk := heap_alloc_new w1 (.cells (ws.map strW).toArray 9); rw [← hw2] at hb2 hwk; have HWK := Lib.hid hwk; replace HZ := Lib.hid ((hb2.block _ (lt_of_heap HZ.out)).trans HZ.out); replace HB := Lib.hid (below_next HB.out hb2); obtain ⟨wb, hwb⟩ : ∃ wb, wb = w1.heap.size := ⟨_, rfl⟩; rw [← hwb] at HWK ⊢; have HWB : Hid (w.heap.size < wb) := Lib.hid (by rw [hwb]; exact HZW.out); clear hb2 hwk hw2 hwb; have z0 := Lib.cell_of_heap HZ.out 0; have z1 := Lib.cell_of_heap HZ.out 1; have zf0 : w2.frozen? ⟨w.heap.size, 0, none⟩ = false := Lib.frozen_of_heap HZ.out _; have zf1 : w2.frozen? ⟨w.heap.size, 1, none⟩ = false := Lib.frozen_of_heap HZ.out _))
        have hz := box_set (x := .int .u32 0) (y := .int .i64 0) HZ.out
        have hy0 := Lib.cell_of_heap hz 0
        have hy1 := Lib.cell_of_heap hz 1
        exact bodyPost_ret (v := .tuple #[.agg #[.int .u32 0, .int .i64 0], .int .i64 3]) (by simp [results, Tryz.results97, go_sem, hy0, hy1]) rfl ⟨by rw [HN.out], below_set2 HB.out _ _⟩
  · have hft : fnd = true := by cases fnd <;> simp at hbad ⊢
    subst hft
    have h18 : ¬ (18 : Int) < (s.length : Int) := by intro h; exact hbad (.inr (.inl (by omega)))
    have h4 : ws.length = 4 := Classical.byContradiction fun h => hbad (.inr (.inr h))
    have n4 : ((ws.length : Int) != 4) = false := by rw [h4]; rfl
    replace HV : Hid (V = match octF ws 0 with | none => none | some x => match Lib.atoiAll l with | .ok y => if ptextS x y = s then some (x, y) else none | _ => none) := Lib.hid (by rw [HV.out, if_neg hbad])
    have H4 := Lib.hid h4
    have HSL : Hid (s.length ≤ 18) := Lib.hid (by omega)
    clear hbad h4
    go_enter Tryz.func97, Tryz.ntmps97
    go_wp2_with (first | (go_at_call 53; refine (HC.out _).mono ?_; rintro e w1 ⟨rfl, hb⟩; replace HZ := Lib.hid ((hb.block _ (lt_of_heap HZ.out)).trans HZ.out); replace HB := Lib.hid (below_next HB.out hb); clear hb) | (go_at_call 12; refine (HSP.out _).mono ?_; rintro e w2 ⟨rfl, hw2⟩; have HZW := Lib.hid (lt_of_heap HZ.out); have hb2 := below_box w1 (.cells (ws.map strW).toArray 9); have hwk := heap_alloc_new w1 (.cells (ws.map strW).toArray 9); rw [← hw2] at hb2 hwk; have HWK := Lib.hid hwk; replace HZ := Lib.hid ((hb2.block _ (lt_of_heap HZ.out)).trans HZ.out); replace HB := Lib.hid (below_next HB.out hb2); obtain ⟨wb, hwb⟩ : ∃ wb, wb = w1.heap.size := ⟨_, rfl⟩; rw [← hwb] at HWK ⊢; have HWB : Hid (w.heap.size < wb) := Lib.hid (by rw [hwb]; exact HZW.out); clear hb2 hwk hw2 hwb; have z0 := Lib.cell_of_heap HZ.out 0; have z1 := Lib.cell_of_heap HZ.out 1; have zf0 : w2.frozen? ⟨w.heap.size, 0, none⟩ = false := Lib.frozen_of_heap HZ.out _; have zf1 : w2.frozen? ⟨w.heap.size, 1, none⟩ = false := Lib.frozen_of_heap HZ.out _))
    clear z0 z1 zf0 zf1
    have HQ := Lib.hid (px_box w2)
    have hb3 := below_box w2 (.cells #[.int .u32 0, .int .i64 0] 90)
    obtain ⟨qb, hqb⟩ : ∃ qb, qb = w2.heap.size := ⟨_, rfl⟩
    rw [← hqb] at HQ ⊢
    have HQB : Hid (w.heap.size < qb ∧ wb < qb) := Lib.hid ⟨by rw [hqb]; exact lt_of_heap HZ.out, by rw [hqb]; exact lt_of_heap HWK.out⟩
    replace HZ := Lib.hid ((hb3.block _ (lt_of_heap HZ.out)).trans HZ.out)
    replace HWK := Lib.hid ((hb3.block _ (lt_of_heap HWK.out)).trans HWK.out)
    replace HB := Lib.hid (below_next HB.out hb3)
    generalize w2.alloc (.cells #[.int .u32 0, .int .i64 0] 90) = w3 at *
    clear hb3 hqb
    obtain ⟨wl, hwl⟩ : ∃ wl, wl = ws.length := ⟨_, rfl⟩
    rw [← hwl] at n4 ⊢
    have hwl4 : wl = 4 := by rw [hwl]; exact H4.out
    have HWLN := Lib.hid hwl
    have HW4 := Lib.hid hwl4
    clear hwl hwl4 n4
    go_wp2_with fail
    go_loopw [38] (fun i wr => ∃ (k : Nat) (x : Int), k ≤ wl ∧ i = .int .i64 k ∧ Hid (octF (ws.drop k) x = octF ws 0 ∧ 0 ≤ x ∧ x < 4294967296) ∧ Hid (wr.heap[w.heap.size]? = some (.cells #[.int .u32 0, .int .i64 0] 90 (0, 0))) ∧ Hid (wr.heap[wb]? = some (.cells (ws.map strW).toArray 9 (0, 0))) ∧ Hid (wr.heap[qb]? = some (.cells #[.int .u32 x, .int .i64 0] 90 (0, 0))) ∧ Hid (Below w.heap.size w wr)) (fun i _ => wl - (intOf i).toNat)
    case atStart => exact ⟨0, 0, by omega, rfl, Lib.hid ⟨by simp, by omega, by omega⟩, HZ, HWK, HQ, HB⟩
    case round =>
      clear HZ HWK HQ HB
      obtain ⟨k, x, hk, rfl, HX, HZ, HWK, HQ, HB⟩ := hrel
      have hk4 : k ≤ 4 := by have := HW4.out; omega
      have z0 := Lib.cell_of_heap HZ.out 0
      have z1 := Lib.cell_of_heap HZ.out 1
      by_cases hlt : k < wl
      · have hlt2 : (k : Int) < (wl : Int) := by omega
        obtain ⟨u, hu⟩ : ∃ u, ws[k]? = some u := ⟨_, List.getElem?_eq_getElem (by rw [← HWLN.out]; exact hlt)⟩
        have hd : ws.drop k = u :: ws.drop (k + 1) := by
          obtain ⟨h1, h2⟩ := List.getElem?_eq_some_iff.1 hu
          rw [List.drop_eq_getElem_cons h1, h2]
        have HX1 : Hid (octF (u :: ws.drop (k + 1)) x = octF ws 0) := Lib.hid (by rw [← hd]; exact HX.out.1)
        have q0 : wr.cell? ⟨wb, k, none⟩ = some (.string ⟨u.toArray⟩) := by rw [Lib.cell_of_heap HWK.out]; simp [hu, strW]
        have HUL : Hid (u.length ≤ 100000) := Lib.hid (HWL.out u (List.mem_of_getElem? hu))
        clear hu hd
        by_cases hv : ∃ v, Lib.atoiAll u = .ok v
        · obtain ⟨n, hn⟩ := hv
          have HA := Lib.hid (fun w' => atoi_ok u n hn (by have := HUL.out; omega) w')
          by_cases hr : n < 0 ∨ 255 < n
          · have HN : Hid (V = none) := Lib.hid (by rw [HV.out, ← HX1.out, octF_out hn hr])
            clear hn
            have HNI : Hid (n < 0 ∨ 255 < n) := Lib.hid hr
            by_cases hr1 : n < 0
            · clear hr
              go_wp2_with (go_at_call 115; refine (HA.out _).mono ?_; rintro e w4 ⟨rfl, hb⟩; replace HZ := Lib.hid ((hb.block _ (lt_of_heap HZ.out)).trans HZ.out); replace HWK := Lib.hid ((hb.block _ (lt_of_heap HWK.out)).trans HWK.out); replace HQ := Lib.hid ((hb.block _ (lt_of_heap HQ.out)).trans HQ.out); replace HB := Lib.hid (below_next HB.out hb); clear hb; have z0 := Lib.cell_of_heap HZ.out 0; have z1 := Lib.cell_of_heap HZ.out 1; have zf0 : w4.frozen? ⟨w.heap.size, 0, none⟩ = false := Lib.frozen_of_heap HZ.out _; have zf1 : w4.frozen? ⟨w.heap.size, 1, none⟩ = false := Lib.frozen_of_heap HZ.out _; have c0 := Lib.cell_of_heap HQ.out 0; have c1 := Lib.cell_of_heap HQ.out 1; have cf0 : w4.frozen? ⟨qb, 0, none⟩ = false := Lib.frozen_of_heap HQ.out _; have cf1 : w4.frozen? ⟨qb, 1, none⟩ = false := Lib.frozen_of_heap HQ.out _)
              have hz := box_set (x := .int .u32 0) (y := .int .i64 0) HZ.out
              have hy0 := Lib.cell_of_heap hz 0
              have hy1 := Lib.cell_of_heap hz 1
              exact bodyPost_ret (v := .tuple #[.agg #[.int .u32 0, .int .i64 0], .int .i64 3]) (by simp [results, Tryz.results97, go_sem, hy0, hy1]) rfl ⟨by rw [HN.out], below_set2 HB.out _ _⟩
            · have hr2 : 255 < n := by rcases hr with h | h <;> first | exact h | exact absurd h hr1
              clear hr
              go_wp2_with (go_at_call 115; refine (HA.out _).mono ?_; rintro e w4 ⟨rfl, hb⟩; replace HZ := Lib.hid ((hb.block _ (lt_of_heap HZ.out)).trans HZ.out); replace HWK := Lib.hid ((hb.block _ (lt_of_heap HWK.out)).trans HWK.out); replace HQ := Lib.hid ((hb.block _ (lt_of_heap HQ.out)).trans HQ.out); replace HB := Lib.hid (below_next HB.out hb); clear hb; have z0 := Lib.cell_of_heap HZ.out 0; have z1 := Lib.cell_of_heap HZ.out 1; have zf0 : w4.frozen? ⟨w.heap.size, 0, none⟩ = false := Lib.frozen_of_heap HZ.out _; have zf1 : w4.frozen? ⟨w.heap.size, 1, none⟩ = false := Lib.frozen_of_heap HZ.out _; have c0 := Lib.cell_of_heap HQ.out 0; have c1 := Lib.cell_of_heap HQ.out 1; have cf0 : w4.frozen? ⟨qb, 0, none⟩ = false := Lib.frozen_of_heap HQ.out _; have cf1 : w4.frozen? ⟨qb, 1, none⟩ = false := Lib.frozen_of_heap HQ.out _)
              have hz := box_set (x := .int .u32 0) (y := .int .i64 0) HZ.out
              have hy0 := Lib.cell_of_heap hz 0
              have hy1 := Lib.cell_of_heap hz 1
              exact bodyPost_ret (v := .tuple #[.agg #[.int .u32 0, .int .i64 0], .int .i64 3]) (by simp [results, Tryz.results97, go_sem, hy0, hy1]) rfl ⟨by rw [HN.out], below_set2 HB.out _ _⟩
          · have hr1 : ¬ n < 0 := fun h => hr (.inl h)
            have hr2 : ¬ 255 < n := fun h => hr (.inr h)
            have HX2 : Hid (octF (ws.drop (k + 1)) (nextA x n) = octF ws 0 ∧ 0 ≤ nextA x n ∧ nextA x n < 4294967296) := Lib.hid ⟨by rw [← HX1.out, octF_go hn hr], nextA_in x n hr⟩
            obtain ⟨na, hna, hnx⟩ : ∃ na, na = nextA x n ∧ bits BinOp.or IntKind.u32 (x * 256 % 4294967296) n = na := ⟨_, rfl, rfl⟩
            rw [← hna] at HX2
            clear hr hn hna
            go_wp2_with (go_at_call 115; refine (HA.out _).mono ?_; rintro e w4 ⟨rfl, hb⟩; replace HZ := Lib.hid ((hb.block _ (lt_of_heap HZ.out)).trans HZ.out); replace HWK := Lib.hid ((hb.block _ (lt_of_heap HWK.out)).trans HWK.out); replace HQ := Lib.hid ((hb.block _ (lt_of_heap HQ.out)).trans HQ.out); replace HB := Lib.hid (below_next HB.out hb); clear hb; have z0 := Lib.cell_of_heap HZ.out 0; have z1 := Lib.cell_of_heap HZ.out 1; have zf0 : w4.frozen? ⟨w.heap.size, 0, none⟩ = false := Lib.frozen_of_heap HZ.out _; have zf1 : w4.frozen? ⟨w.heap.size, 1, none⟩ = false := Lib.frozen_of_heap HZ.out _; have c0 := Lib.cell_of_heap HQ.out 0; have c1 := Lib.cell_of_heap HQ.out 1; have cf0 : w4.frozen? ⟨qb, 0, none⟩ = false := Lib.frozen_of_heap HQ.out _; have cf1 : w4.frozen? ⟨qb, 1, none⟩ = false := Lib.frozen_of_heap HQ.out _)
            go_roundw
            case rel => exact ⟨k + 1, na, by omega, by go_num, HX2, Lib.hid ((Below.heap_setCell w4 ⟨qb, 0, none⟩ (.int .u32 na) w.heap.size (by have := HQB.out; simp; omega)).trans HZ.out), Lib.hid ((Below.heap_setCell w4 ⟨qb, 0, none⟩ (.int .u32 na) wb (by have := HQB.out; simp; omega)).trans HWK.out), Lib.hid (bx_set1 HQ.out).1, Lib.hid (HB.out.setCell (p := ⟨qb, 0, none⟩) (by have := HQB.out; simp; omega) (.int .u32 na))⟩
            case measure => simp [intOf]; omega
        · have HN : Hid (V = none) := Lib.hid (by rw [HV.out, ← HX1.out, octF_stop (fun v h => hv ⟨v, h⟩)])
          have HA := Lib.hid (fun w' hE => atoi_bad u (fun v h => hv ⟨v, h⟩) (by have := HUL.out; omega) w' hE)
          clear hv
          go_wp2_with (go_at_call 115; refine (HA.out _ (HE.out.up HB.out)).mono ?_; rintro e w4 ⟨n, t, p, rfl, hb⟩; replace HZ := Lib.hid ((hb.block _ (lt_of_heap HZ.out)).trans HZ.out); replace HWK := Lib.hid ((hb.block _ (lt_of_heap HWK.out)).trans HWK.out); replace HQ := Lib.hid ((hb.block _ (lt_of_heap HQ.out)).trans HQ.out); replace HB := Lib.hid (below_next HB.out hb); clear hb; have z0 := Lib.cell_of_heap HZ.out 0; have z1 := Lib.cell_of_heap HZ.out 1; have zf0 : w4.frozen? ⟨w.heap.size, 0, none⟩ = false := Lib.frozen_of_heap HZ.out _; have zf1 : w4.frozen? ⟨w.heap.size, 1, none⟩ = false := Lib.frozen_of_heap HZ.out _; have c0 := Lib.cell_of_heap HQ.out 0; have c1 := Lib.cell_of_heap HQ.out 1; have cf0 : w4.frozen? ⟨qb, 0, none⟩ = false := Lib.frozen_of_heap HQ.out _; have cf1 : w4.frozen? ⟨qb, 1, none⟩ = false := Lib.frozen_of_heap HQ.out _)
          have hz := box_set (x := .int .u32 0) (y := .int .i64 0) HZ.out
          have hy0 := Lib.cell_of_heap hz 0
          have hy1 := Lib.cell_of_heap hz 1
          exact bodyPost_ret (v := .tuple #[.agg #[.int .u32 0, .int .i64 0], .int .i64 3]) (by simp [results, Tryz.results97, go_sem, hy0, hy1]) rfl ⟨by rw [HN.out], below_set2 HB.out _ _⟩
      · obtain rfl : k = wl := by omega
        have HX3 : Hid (octF ws 0 = some x) := Lib.hid (by rw [← HX.out.1, HWLN.out, List.drop_length]; rfl)
        by_cases hv : ∃ v, Lib.atoiAll l = .ok v
        · obtain ⟨y, hy⟩ := hv
          have HA := Lib.hid (fun w' => atoi_ok l y hy (by have := HLL.out; omega) w')
          have HV2 : Hid (V = if ptextS x y = s then some (x, y) else none) := Lib.hid (by rw [HV.out, HX3.out]; simp only [hy])
          obtain ⟨T, hT⟩ : ∃ T, T = ptextS x y := ⟨_, rfl⟩
          have HTX : Hid (∀ w', Tab w'.heap.size w' → Calls Tryz.prog 49 #[.agg #[.int .u32 x, .int .i64 y]] w' fun e w'' => e = .returned (.string ⟨T.toArray⟩) ∧ Below w'.heap.size w' w'') := Lib.hid fun w' h => by rw [hT]; exact pfx_Text x y w' h
          rw [← hT] at HV2
          clear hy hT z0 z1
          by_cases hTs : T = s
          · have HN : Hid (V = some (x, y)) := Lib.hid (by rw [HV2.out, if_pos hTs])
            subst hTs
            go_wp2_with (first | (go_at_call 115; refine (HA.out _).mono ?_; rintro e w4 ⟨rfl, hb⟩; replace HZ := Lib.hid ((hb.block _ (lt_of_heap HZ.out)).trans HZ.out); replace HQ := Lib.hid ((hb.block _ (lt_of_heap HQ.out)).trans HQ.out); replace HB := Lib.hid (below_next HB.out hb); clear hb; have c1 := Lib.cell_of_heap HQ.out 1; have cf1 : w4.frozen? ⟨qb, 1, none⟩ = false := Lib.frozen_of_heap HQ.out _; have HZ5 := Lib.hid ((Below.heap_setCell w4 ⟨qb, 1, none⟩ (.int .i64 y) w.heap.size (by have := HQB.out; simp; omega)).trans HZ.out); have HQ5 := Lib.hid (bx_set1 (y := .int .i64 y) HQ.out).2; have HB5 := Lib.hid (HB.out.setCell (p := ⟨qb, 1, none⟩) (by have := HQB.out; simp; omega) (.int .i64 y)); have z0 := Lib.cell_of_heap HZ5.out 0; have z1 := Lib.cell_of_heap HZ5.out 1; have c0 := Lib.cell_of_heap HQ5.out 0; have c1 := Lib.cell_of_heap HQ5.out 1) | (go_at_call 49; refine (HTX.out _ (tab_up HT.out HB5.out HB5.out.size)).mono ?_; rintro e w6 ⟨rfl, hb⟩; replace HZ5 := Lib.hid ((hb.block _ (lt_of_heap HZ5.out)).trans HZ5.out); replace HQ5 := Lib.hid ((hb.block _ (lt_of_heap HQ5.out)).trans HQ5.out); replace HB5 := Lib.hid (below_next HB5.out hb); clear hb; have z0 := Lib.cell_of_heap HZ5.out 0; have z1 := Lib.cell_of_heap HZ5.out 1; have zf0 : w6.frozen? ⟨w.heap.size, 0, none⟩ = false := Lib.frozen_of_heap HZ5.out _; have zf1 : w6.frozen? ⟨w.heap.size, 1, none⟩ = false := Lib.frozen_of_heap HZ5.out _; have c0 := Lib.cell_of_heap HQ5.out 0; have c1 := Lib.cell_of_heap HQ5.out 1))
            have hz := box_set (x := .int .u32 x) (y := .int .i64 y) HZ5.out
            have hy0 := Lib.cell_of_heap hz 0
            have hy1 := Lib.cell_of_heap hz 1
            exact bodyPost_ret (v := .tuple #[.agg #[.int .u32 x, .int .i64 y], .int .i64 0]) (by simp [results, Tryz.results97, go_sem, hy0, hy1]) rfl ⟨by rw [HN.out], below_set2 HB5.out _ _⟩
          · have HN : Hid (V = none) := Lib.hid (by rw [HV2.out, if_neg hTs])
            have hTb : (T == s) = false := by simpa using hTs
            clear hTs
            go_wp2_with (first | (go_at_call 115; refine (HA.out _).mono ?_; rintro e w4 ⟨rfl, hb⟩; replace HZ := Lib.hid ((hb.block _ (lt_of_heap HZ.out)).trans HZ.out); replace HQ := Lib.hid ((hb.block _ (lt_of_heap HQ.out)).trans HQ.out); replace HB := Lib.hid (below_next HB.out hb); clear hb; have c1 := Lib.cell_of_heap HQ.out 1; have cf1 : w4.frozen? ⟨qb, 1, none⟩ = false := Lib.frozen_of_heap HQ.out _; have HZ5 := Lib.hid ((Below.heap_setCell w4 ⟨qb, 1, none⟩ (.int .i64 y) w.heap.size (by have := HQB.out; simp; omega)).trans HZ.out); have HQ5 := Lib.hid (bx_set1 (y := .int .i64 y) HQ.out).2; have HB5 := Lib.hid (HB.out.setCell (p := ⟨qb, 1, none⟩) (by have := HQB.out; simp; omega) (.int .i64 y)); have z0 := Lib.cell_of_heap HZ5.out 0; have z1 := Lib.cell_of_heap HZ5.out 1; have c0 := Lib.cell_of_heap HQ5.out 0; have c1 := Lib.cell_of_heap HQ5.out 1) | (go_at_call 49; refine (HTX.out _ (tab_up HT.out HB5.out HB5.out.size)).mono ?_; rintro e w6 ⟨rfl, hb⟩; replace HZ5 := Lib.hid ((hb.block _ (lt_of_heap HZ5.out)).trans HZ5.out); replace HQ5 := Lib.hid ((hb.block _ (lt_of_heap HQ5.out)).trans HQ5.out); replace HB5 := Lib.hid (below_next HB5.out hb); clear hb; have z0 := Lib.cell_of_heap HZ5.out 0; have z1 := Lib.cell_of_heap HZ5.out 1; have zf0 : w6.frozen? ⟨w.heap.size, 0, none⟩ = false := Lib.frozen_of_heap HZ5.out _; have zf1 : w6.frozen? ⟨w.heap.size, 1, none⟩ = false := Lib.frozen_of_heap HZ5.out _; have c0 := Lib.cell_of_heap HQ5.out 0; have c1 := Lib.cell_of_heap HQ5.out 1))
            have hz := box_set (x := .int .u32 0) (y := .int .i64 0) HZ5.out
            have hy0 := Lib.cell_of_heap hz 0
            have hy1 := Lib.cell_of_heap hz 1
            exact bodyPost_ret (v := .tuple #[.agg #[.int .u32 0, .int .i64 0], .int .i64 3]) (by simp [results, Tryz.results97, go_sem, hy0, hy1]) rfl ⟨by rw [HN.out], below_set2 HB5.out _ _⟩
        · have HN : Hid (V = none) := Lib.hid (by
            rw [HV.out, HX3.out]
            simp only
            split
            · rename_i v h; exact absurd ⟨v, h⟩ hv
            · rfl)
          have HA := Lib.hid (fun w' hE => atoi_bad l (fun v h => hv ⟨v, h⟩) (by have := HLL.out; omega) w' hE)
          clear hv z0 z1
          go_wp2_with (first | (go_at_call 115; refine (HA.out _ (HE.out.up HB.out)).mono ?_; rintro e w4 ⟨y, t, p, rfl, hb⟩; replace HZ := Lib.hid ((hb.block _ (lt_of_heap HZ.out)).trans HZ.out); replace HQ := Lib.hid ((hb.block _ (lt_of_heap HQ.out)).trans HQ.out); replace HB := Lib.hid (below_next HB.out hb); clear hb; have c1 := Lib.cell_of_heap HQ.out 1; have cf1 : w4.frozen? ⟨qb, 1, none⟩ = false := Lib.frozen_of_heap HQ.out _; have HZ5 := Lib.hid ((Below.heap_setCell w4 ⟨qb, 1, none⟩ (.int .i64 y) w.heap.size (by have := HQB.out; simp; omega)).trans HZ.out); have HQ5 := Lib.hid (bx_set1 (y := .int .i64 y) HQ.out).2; have HB5 := Lib.hid (HB.out.setCell (p := ⟨qb, 1, none⟩) (by have := HQB.out; simp; omega) (.int .i64 y)); have z0 := Lib.cell_of_heap HZ5.out 0; have z1 := Lib.cell_of_heap HZ5.out 1; have zf0 : w4.frozen? ⟨w.heap.size, 0, none⟩ = false := Lib.frozen_of_heap HZ.out _; have zf1 : w4.frozen? ⟨w.heap.size, 1, none⟩ = false := Lib.frozen_of_heap HZ.out _; have c0 := Lib.cell_of_heap HQ5.out 0; have c1 := Lib.cell_of_heap HQ5.out 1))
          have hz := box_set (x := .int .u32 0) (y := .int .i64 0) HZ5.out
          have hy0 := Lib.cell_of_heap hz 0
          have hy1 := Lib.cell_of_heap hz 1
          exact bodyPost_ret (v := .tuple #[.agg #[.int .u32 0, .int .i64 0], .int .i64 3]) (by simp [results, Tryz.results97, go_sem, hy0, hy1]) rfl ⟨by rw [HN.out], below_set2 HB5.out _ _⟩

end Go.Proofs.YtpofbhaipeiegaaGreatDoor
