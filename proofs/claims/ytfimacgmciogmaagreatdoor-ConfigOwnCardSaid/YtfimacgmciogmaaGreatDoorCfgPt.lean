/-
  config.Print (printed by gen_cfgpt.py).
-/
import Derived.Test.YtfimacgmciogmaaGreatDoorPkPrnD
import Derived.Test.YtfimacgmciogmaaGreatDoorPkReg
import Derived.Deep.CutRange
namespace Go.Proofs.YtfimacgmciogmaaGreatDoor
set_option linter.unusedSimpArgs false
set_option linter.unusedVariables false
open Go.RowKit Go.Sort Go.Shelf
theorem nmK_all : ∀ {l seen : List (List UInt8)}, nmK seen l = true → ∀ x ∈ l, namedB x = true
 | [], _, _, x, hx => by cases hx
 | y :: r, seen, h, x, hx => by
  simp only [nmK, Bool.and_eq_true] at h
  rcases List.mem_cons.1 hx with rfl | hx
  ·exact h.1
  ·exact nmK_all h.2.2 x hx
theorem named_16 {x : List UInt8} (h : namedB x = true) : x.length ≤ 16 := by
 by_cases hl : 16 < x.length
 ·rw [named_long hl] at h; cases h
 ·omega
/-- Where printing stands: behind j lines. -/
structure PW (w : World) (n : Int) (r : Rws) (c : Cf) (W0 : World) (j : Nat) (W : World) : Prop where
 p : PT W0.heap.size W0.heap.size (txt c j) W
 b : Below W0.heap.size W0 W
theorem PW.up {w : World} {n : Int} {r : Rws} {c : Cf} {W0 : World} {j : Nat} {W W' : World} (h : PW w n r c W0 j W) (hb : Below W.heap.size W W') : PW w n r c W0 j W' := ⟨h.p.up hb, h.b.trans (hb.mono h.b.size)⟩
theorem PW.line {w : World} {n : Int} {r : Rws} {c : Cf} {W0 : World} {j : Nat} {W : World} (h : PW w n r c W0 j W) (hF : (printC c).length ≤ 10000000) {ws : List (List UInt8)} (hj : (linesC c)[j]? = some ws) {A : Option Addr} {m k : Nat} (hm : ws.length = m) (hr : Rd W A (ws.map strW)) (hne : ws ≠ []) (hl : ws.length ≤ 100000) (hk : ws.length ≤ k) :
  Calls Tryz.prog 14 #[.pointer (some ⟨W0.heap.size, 0, none⟩), .slice A m k] W fun e W' => e = .returned (.tuple #[]) ∧ PW w n r c W0 (j + 1) W' ∧ KeepT 65 5 W W' :=
 (prn_line W0.heap.size W0.heap.size (txt c j) A m k ws hm W h.p hr hne hl hk (line_bd hj hF) h.b.size).mono (by
  rintro e W' ⟨rfl, h1, h2, h3⟩
  exact ⟨rfl, ⟨by rw [txt_succ hj]; exact h1, h.b.trans h2⟩, h3⟩)
theorem s5_7 {W0 W : World} {a1 a2 a3 a4 a5 : Addr} {v1 v2 v3 v4 v5 : Value} {lb : Nat} {T : TypeId} {u0 u1 u2 u3 u4 u5 u6 : Value} (hb : Below W0.heap.size W0 W) (h1 : W0.cell? a1 = some v1) (h2 : W0.cell? a2 = some v2) (h3 : W0.cell? a3 = some v3) (h4 : W0.cell? a4 = some v4) (h5 : W0.cell? a5 = some v5) (hx : W.heap[lb]? = some (.cells #[u0, u1, u2, u3, u4, u5, u6] T (0, 0))) : W.cell? a1 = some v1 ∧ W.cell? a2 = some v2 ∧ W.cell? a3 = some v3 ∧ W.cell? a4 = some v4 ∧ W.cell? a5 = some v5 ∧ W.cell? ⟨lb, 0, none⟩ = some u0 ∧ W.cell? ⟨lb, 1, none⟩ = some u1 ∧ W.cell? ⟨lb, 2, none⟩ = some u2 ∧ W.cell? ⟨lb, 3, none⟩ = some u3 ∧ W.cell? ⟨lb, 4, none⟩ = some u4 ∧ W.cell? ⟨lb, 5, none⟩ = some u5 ∧ W.cell? ⟨lb, 6, none⟩ = some u6 :=
 ⟨cell_up hb h1, cell_up hb h2, cell_up hb h3, cell_up hb h4, cell_up hb h5, Lib.cell_of_heap hx 0, Lib.cell_of_heap hx 1, Lib.cell_of_heap hx 2, Lib.cell_of_heap hx 3, Lib.cell_of_heap hx 4, Lib.cell_of_heap hx 5, Lib.cell_of_heap hx 6⟩
theorem s2_3 {W0 W : World} {a1 a2 : Addr} {v1 v2 : Value} {lb : Nat} {T : TypeId} {u0 u1 u2 : Value} (hb : Below W0.heap.size W0 W) (h1 : W0.cell? a1 = some v1) (h2 : W0.cell? a2 = some v2) (hx : W.heap[lb]? = some (.cells #[u0, u1, u2] T (0, 0))) : W.cell? a1 = some v1 ∧ W.cell? a2 = some v2 ∧ W.cell? ⟨lb, 0, none⟩ = some u0 ∧ W.cell? ⟨lb, 1, none⟩ = some u1 ∧ W.cell? ⟨lb, 2, none⟩ = some u2 :=
 ⟨cell_up hb h1, cell_up hb h2, Lib.cell_of_heap hx 0, Lib.cell_of_heap hx 1, Lib.cell_of_heap hx 2⟩
theorem s3_4 {W0 W : World} {a1 a2 a3 : Addr} {v1 v2 v3 : Value} {lb : Nat} {T : TypeId} {u0 u1 u2 u3 : Value} (hb : Below W0.heap.size W0 W) (h1 : W0.cell? a1 = some v1) (h2 : W0.cell? a2 = some v2) (h3 : W0.cell? a3 = some v3) (hx : W.heap[lb]? = some (.cells #[u0, u1, u2, u3] T (0, 0))) : W.cell? a1 = some v1 ∧ W.cell? a2 = some v2 ∧ W.cell? a3 = some v3 ∧ W.cell? ⟨lb, 0, none⟩ = some u0 ∧ W.cell? ⟨lb, 1, none⟩ = some u1 ∧ W.cell? ⟨lb, 2, none⟩ = some u2 ∧ W.cell? ⟨lb, 3, none⟩ = some u3 :=
 ⟨cell_up hb h1, cell_up hb h2, cell_up hb h3, Lib.cell_of_heap hx 0, Lib.cell_of_heap hx 1, Lib.cell_of_heap hx 2, Lib.cell_of_heap hx 3⟩
set_option maxHeartbeats 16000000 in
set_option maxRecDepth 100000 in
theorem config_Print (n : Int) (r : Rws) (c : Cf) (hL : VLim c) (hv : cfgB n c = true) (hF : (printC c).length ≤ 10000000) (w : World) (h : CAt w r c) (ht : Tab w.heap.size w) : Calls Tryz.prog 6 #[.agg (cfCells n r c)] w fun e w' => e = .returned (.string ⟨(printC c).toArray⟩) ∧ Below w.heap.size w w' := by
 obtain ⟨i0, hi, hz0, hz1, hz2⟩ := info_parts strInfo'
 have HOK := Lib.hid (cf_ok hv)
 have HFF := Lib.hid hF
 have HLL : Hid (∀ x ∈ c.names ++ c.lnames, x.length ≤ 16) := Lib.hid fun x hx => named_16 (nmK_all HOK.out.nm x hx)
 have hb1 : c.names.length ≤ 64 := by have := HOK.out.nn; have := HOK.out.n2; omega
 have hb2 : c.links.length ≤ 256 := HOK.out.lk
 have hb3 : c.pols.length ≤ 64 := HOK.out.polsn
 have hb4 : c.dems.length ≤ 64 := HOK.out.demsn
 have hb5 : c.pfx.length ≤ 9223372036854775807 := hL.p
 have HK := Lib.hid (KC.start 33 w n r c h)
 have HT := Lib.hid ht
 obtain ⟨AN, hAN⟩ : ∃ A, A = r.aN := ⟨_, rfl⟩
 obtain ⟨AL, hAL⟩ : ∃ A, A = r.aL := ⟨_, rfl⟩
 obtain ⟨AO, hAO⟩ : ∃ A, A = r.aO := ⟨_, rfl⟩
 obtain ⟨AK, hAK⟩ : ∃ A, A = r.aK := ⟨_, rfl⟩
 obtain ⟨AP, hAP⟩ : ∃ A, A = r.aP := ⟨_, rfl⟩
 obtain ⟨AQ, hAQ⟩ : ∃ A, A = r.aQ := ⟨_, rfl⟩
 obtain ⟨AD, hAD⟩ : ∃ A, A = r.aD := ⟨_, rfl⟩
 obtain ⟨ol, hol⟩ : ∃ m, m = c.ov.length := ⟨_, rfl⟩
 obtain ⟨t0, ht0⟩ : ∃ t, t = c.tm.getD 0 0 := ⟨_, rfl⟩
 obtain ⟨t1, ht1⟩ : ∃ t, t = c.tm.getD 1 0 := ⟨_, rfl⟩
 obtain ⟨t2, ht2⟩ : ∃ t, t = c.tm.getD 2 0 := ⟨_, rfl⟩
 obtain ⟨t3, ht3⟩ : ∃ t, t = c.tm.getD 3 0 := ⟨_, rfl⟩
 obtain ⟨t4, ht4⟩ : ∃ t, t = c.tm.getD 4 0 := ⟨_, rfl⟩
 have HEQ : Hid (Eqs r c AN AL AO AK AP AQ AD ol t0 t1 t2 t3 t4) := Lib.hid ⟨hAN, hAL, hAO, hAK, hAP, hAQ, hAD, hol, ht0, ht1, ht2, ht3, ht4⟩
 have HVA : Hid (∀ W, CAt W r c → Calls Tryz.prog 7 #[.agg #[.slice AN c.names.length r.cN, .slice AL c.lnames.length r.cL, .int .i64 n, .slice AO ol r.cO, .slice AK c.links.length r.cK, .slice AP c.pfx.length r.cP, .slice AQ c.pols.length r.cQ, .slice AD c.dems.length r.cD, .int .i64 t0, .int .i64 t1, .int .i64 t2, .int .i64 t3, .int .i64 t4]] W fun e w' => e = .returned (.bool true) ∧ Below W.heap.size W w') := Lib.hid fun W h => by rw [HEQ.out.all, ← hv]; exact config_Valid n r c hL W h
 have HSX : Hid (∀ (s : Int × Int) W, segB n c.lnames.length s = true → CAt W r c → Tab W.heap.size W → Calls Tryz.prog 17 #[.agg #[.slice AN c.names.length r.cN, .slice AL c.lnames.length r.cL, .int .i64 n, .slice AO ol r.cO, .slice AK c.links.length r.cK, .slice AP c.pfx.length r.cP, .slice AQ c.pols.length r.cQ, .slice AD c.dems.length r.cD, .int .i64 t0, .int .i64 t1, .int .i64 t2, .int .i64 t3, .int .i64 t4], .agg #[.int .i64 s.1, .int .i64 s.2]] W fun e w' => e = .returned (.string ⟨(segTx c s).toArray⟩) ∧ Below W.heap.size W w') := Lib.hid fun s W h1 h2 h3 => by rw [HEQ.out.all]; exact cfg_segmentText n r c s HOK.out.nn h1 (by have := HOK.out.lk; have := HOK.out.ln; omega) HLL.out W h2 h3
 have p0 : (w.alloc (.cells (cfCells n r c) 33)).cell? ⟨w.heap.size, 0, none⟩ = some (.slice AN c.names.length r.cN) := HK.out.g0 HEQ.out
 have p1 : (w.alloc (.cells (cfCells n r c) 33)).cell? ⟨w.heap.size, 1, none⟩ = some (.slice AL c.lnames.length r.cL) := HK.out.g1 HEQ.out
 have p2 : (w.alloc (.cells (cfCells n r c) 33)).cell? ⟨w.heap.size, 2, none⟩ = some (.int .i64 n) := HK.out.g2
 have p3 : (w.alloc (.cells (cfCells n r c) 33)).cell? ⟨w.heap.size, 3, none⟩ = some (.slice AO ol r.cO) := HK.out.g3 HEQ.out
 have p4 : (w.alloc (.cells (cfCells n r c) 33)).cell? ⟨w.heap.size, 4, none⟩ = some (.slice AK c.links.length r.cK) := HK.out.g4 HEQ.out
 have p5 : (w.alloc (.cells (cfCells n r c) 33)).cell? ⟨w.heap.size, 5, none⟩ = some (.slice AP c.pfx.length r.cP) := HK.out.g5 HEQ.out
 have p6 : (w.alloc (.cells (cfCells n r c) 33)).cell? ⟨w.heap.size, 6, none⟩ = some (.slice AQ c.pols.length r.cQ) := HK.out.g6 HEQ.out
 have p7 : (w.alloc (.cells (cfCells n r c) 33)).cell? ⟨w.heap.size, 7, none⟩ = some (.slice AD c.dems.length r.cD) := HK.out.g7 HEQ.out
 obtain ⟨p8, p9, p10, p11, p12⟩ := HK.out.gt HEQ.out
 have hlt0 : w.heap.size < (w.alloc (.cells (cfCells n r c) 33)).heap.size := by simp
 clear hAN hAL hAO hAK hAP hAQ hAD hol ht0 ht1 ht2 ht3 ht4 hv hF h ht hL
 go_enter Tryz.func6, Tryz.ntmps6
 go_wp2_with (go_at_call 7; (with_reducible refine (HVA.out _ HK.out.c1).mono ?_); rintro e W0 ⟨rfl, hb⟩; replace HK := Lib.hid (HK.out.up hb); clear hb p0 p1 p2 p3 p4 p5 p6 p7 p8 p9 p10 p11 p12 hlt0; have p0 := HK.out.g0 HEQ.out; have hlt0 := HK.out.lt; have hne1 := Nat.ne_of_lt hlt0; have hne2 := Nat.ne_of_gt hlt0)
 have HX0 := Lib.fresh_isBuilder 65 5 W0
 have hbb := below_box W0 (.cells #[.pointer none, .slice none 0 0] 65)
 have HT0 : Hid (Tab W0.heap.size W0) := Lib.hid (tab_up HT.out HK.out.hb HK.out.hb.size)
 obtain ⟨w2, hw2⟩ : ∃ w2, w2 = W0.alloc (.cells #[.pointer none, .slice none 0 0] 65) := ⟨_, rfl⟩
 rw [← hw2] at HX0 hbb ⊢
 have HPW : Hid (PW w n r c W0 0 w2) := Lib.hid ⟨HX0, hbb⟩
 clear HX0 hbb hw2 p0 HVA HT
 go_loopw [26] (fun i wr => ∃ k : Nat, k ≤ c.names.length ∧ i = .int .i64 k ∧ Hid (PW w n r c W0 (k) wr)) (fun i _ => c.names.length - (intOf i).toNat)
 case atStart => exact ⟨0, Nat.zero_le _, rfl, HPW⟩
 case round =>
  clear HPW
  obtain ⟨k, hk, rfl, HPW⟩ := hrel
  have HKR := Lib.hid (HK.out.up HPW.out.b)
  have hws := HPW.out.b.size
  have hlt3 := HKR.out.lt
  have hne3 := Nat.ne_of_lt hlt3
  have hne4 := Nat.ne_of_gt hlt3
  by_cases hlt : k < c.names.length
  ·obtain ⟨b, o, h1, d0⟩ := HKR.out.c1.n.at_ (k := k) (u := strW c.names[k]) (by simp [List.getElem?_eq_getElem hlt])
   have hA2 := HEQ.out.n.trans h1
   clear h1
   subst hA2
   unfold strW at d0
   have HY : Hid (c.names.getD k [] = c.names[k]) := Lib.hid (by rw [List.getD_eq_getElem?_getD, List.getElem?_eq_getElem hlt]; rfl)
   generalize c.names[k] = y at d0 HY
   have p3 : wr.cell? ⟨w.heap.size, 3, none⟩ = some (.slice AO ol r.cO) := HKR.out.g3 HEQ.out
   have hol := HEQ.out.ol
   have HOL := Lib.hid hol
   clear hol
   by_cases h0 : ol = 0
   ·subst h0
    have HOF : Hid (c.ov.getD k false = false) := Lib.hid (by have h9 : c.ov = [] := List.length_eq_zero_iff.1 HOL.out.symm; rw [h9]; rfl)
    have HLN : Hid ((linesC c)[k]? = some [kNode, y]) := Lib.hid (by rw [lines1 hlt, nodeW, HY.out, if_neg (by rw [HOF.out]; decide)])
    have HPX := Lib.hid (HPW.out.up (below_box wr (.cells #[.string ⟨#[110, 111, 100, 101]⟩, .string ⟨y.toArray⟩] 9)))
    go_wp2_with (go_at_call 14; (refine (HPX.out.line HFF.out HLN.out rfl (rd_lit _ _ _) (by simp) (by simp) (by simp)).mono ?_); rintro e w8 ⟨rfl, hp8, hk8⟩; have HP8 := Lib.hid hp8; clear hp8)
    go_roundw
    case rel => exact ⟨k + 1, by omega, by go_num, HP8⟩
    case measure => simp [intOf]; omega
   ·have h1 : (0 : Int) < (ol : Int) := by omega
    have hovl : k < c.ov.length := by have h8 := HOL.out; rcases HOK.out.ov with h9 | h9 <;> omega
    have hko : (k : Int) < (ol : Int) := by have h8 := HOL.out; omega
    obtain ⟨b2, o2, z, hA, hz, e0⟩ := bools_here HKR.out.c1.o hovl
    have hA2 := HEQ.out.o.trans hA
    clear hA
    subst hA2
    have HZ : Hid (c.ov.getD k false = z) := Lib.hid (by rw [List.getD_eq_getElem?_getD, hz]; rfl)
    clear hz h0
    cases z with
    | true =>
     have HLN : Hid ((linesC c)[k]? = some [kNode, y, kOverload]) := Lib.hid (by rw [lines1 hlt, nodeW, HY.out, if_pos HZ.out])
     have HPX := Lib.hid (HPW.out.up (below_box wr (.cells #[.string ⟨#[110, 111, 100, 101]⟩, .string ⟨y.toArray⟩, .string ⟨#[111, 118, 101, 114, 108, 111, 97, 100]⟩] 9)))
     go_wp2_with (go_at_call 14; (refine (HPX.out.line HFF.out HLN.out rfl (rd_lit _ _ _) (by simp) (by simp) (by simp)).mono ?_); rintro e w8 ⟨rfl, hp8, hk8⟩; have HP8 := Lib.hid hp8; clear hp8)
     go_roundw
     case rel => exact ⟨k + 1, by omega, by go_num, HP8⟩
     case measure => simp [intOf]; omega
    | false =>
     have HLN : Hid ((linesC c)[k]? = some [kNode, y]) := Lib.hid (by rw [lines1 hlt, nodeW, HY.out, if_neg (by rw [HZ.out]; decide)])
     have HPX := Lib.hid (HPW.out.up (below_box wr (.cells #[.string ⟨#[110, 111, 100, 101]⟩, .string ⟨y.toArray⟩] 9)))
     go_wp2_with (go_at_call 14; (refine (HPX.out.line HFF.out HLN.out rfl (rd_lit _ _ _) (by simp) (by simp) (by simp)).mono ?_); rintro e w8 ⟨rfl, hp8, hk8⟩; have HP8 := Lib.hid hp8; clear hp8)
     go_roundw
     case rel => exact ⟨k + 1, by omega, by go_num, HP8⟩
     case measure => simp [intOf]; omega
  ·obtain rfl : k = c.names.length := by omega
   have p4 : wr.cell? ⟨w.heap.size, 4, none⟩ = some (.slice AK c.links.length r.cK) := HKR.out.g4 HEQ.out
   go_wp2_with fail
   clear p4
   go_loopw [55] (fun i wr => ∃ k : Nat, k ≤ c.links.length ∧ i = .int .i64 k ∧ Hid (PW w n r c W0 (c.names.length + k) wr)) (fun i _ => c.links.length - (intOf i).toNat)
   case atStart => exact ⟨0, Nat.zero_le _, rfl, HPW⟩
   case round =>
    clear HPW
    obtain ⟨k, hk, rfl, HPW⟩ := hrel
    have HKR := Lib.hid (HK.out.up HPW.out.b)
    have hws := HPW.out.b.size
    have hlt3 := HKR.out.lt
    have hne3 := Nat.ne_of_lt hlt3
    have hne4 := Nat.ne_of_gt hlt3
    by_cases hlt : k < c.links.length
    ·obtain ⟨b, o, l, hA, hl, hq⟩ := HKR.out.c1.k.at_ hlt
     have hA2 := HEQ.out.k.trans hA
     clear hA
     subst hA2
     have hlk := HOK.out.link (List.mem_of_getElem? hl)
     obtain ⟨la, lb, c0, c1, cp, dl, g⟩ := l
     simp only at hlk
     obtain ⟨_, hla, hlb, hr0, hr1, hr2, hr3, hr4⟩ := hlk
     obtain ⟨x, rfl, hx⟩ := nat_of hla
     obtain ⟨y, rfl, hy⟩ := nat_of hlb
     have hnn := HOK.out.nn
     have hln := HOK.out.ln
     obtain ⟨xa, hxa⟩ := get_some (l := c.names) (k := x) (by omega)
     obtain ⟨xb, hxb⟩ := get_some (l := c.names) (k := y) (by omega)
     obtain ⟨z, hz⟩ := get_some (l := c.lnames) (k := k) (by omega)
     obtain ⟨bn, on, hn, hcn⟩ := HK.out.c1.n.base (by intro e; have := congrArg List.length e; simp at this; rw [this] at hxa; simp at hxa)
     have hAn := HEQ.out.n.trans hn
     clear hn
     subst hAn
     obtain ⟨bl, oo, hl, hcl⟩ := HK.out.c1.l.base (by intro e; have := congrArg List.length e; simp at this; rw [this] at hz; simp at hz)
     have hAl := HEQ.out.l.trans hl
     clear hl
     subst hAl
     have D0 := HK.out.g0 HEQ.out
     have D1 := HK.out.g1 HEQ.out
     have D2 := strs_at hcn hxa
     have D3 := strs_at hcn hxb
     have D4 := strs_at hcl hz
     clear hcn hcl
     have HLN : Hid ((linesC c)[c.names.length + k]? = some [kLink, z, kFrom, xa, kTo, xb, kCost, Lib.itoa c0, kBack, Lib.itoa c1, kCapacity, Lib.itoa cp, kDelay, Lib.itoa dl, kGroup, Lib.itoa g]) := Lib.hid (by
      rw [lines2 hlt, linkW, List.getD_eq_getElem?_getD, hz, List.getD_eq_getElem?_getD, hl]
      simp only [Option.getD_some, lnkW, getN_nat hxa, getN_nat hxb])
     obtain ⟨q0, q1, q2, q3, q4, q5, q6⟩ := hq
     simp only at q0 q1 q2 q3 q4 q5 q6
     have HD0 := Lib.hid D0
     have HD1 := Lib.hid D1
     have HD2 := Lib.hid D2
     have HD3 := Lib.hid D3
     have HD4 := Lib.hid D4
     have hkl : (k : Int) < (c.lnames.length : Int) := by omega
     have hxl : (x : Int) < (c.names.length : Int) := by omega
     have hyl : (y : Int) < (c.names.length : Int) := by omega
     clear D0 D1 D2 D3 D4 hxa hxb hz hl hla hlb hnn hln
     go_wp2_with fail
     have HX1 : Hid ((wr.alloc (.cells #[.int .i64 (x : Int), .int .i64 (y : Int), .int .i64 c0, .int .i64 c1, .int .i64 cp, .int .i64 dl, .int .i64 g] 44)).heap[wr.heap.size]? = some (.cells #[.int .i64 (x : Int), .int .i64 (y : Int), .int .i64 c0, .int .i64 c1, .int .i64 cp, .int .i64 dl, .int .i64 g] 44 (0, 0))) := Lib.hid (heap_alloc_new _ _)
     have HP1 := Lib.hid (HPW.out.up (below_box wr (.cells #[.int .i64 (x : Int), .int .i64 (y : Int), .int .i64 c0, .int .i64 c1, .int .i64 cp, .int .i64 dl, .int .i64 g] 44)))
     obtain ⟨W1, hW1⟩ : ∃ W, W = wr.alloc (.cells #[.int .i64 (x : Int), .int .i64 (y : Int), .int .i64 c0, .int .i64 c1, .int .i64 cp, .int .i64 dl, .int .i64 g] 44) := ⟨_, rfl⟩
     rw [← hW1] at HX1 HP1 ⊢
     clear hW1
     generalize wr.heap.size = lbk at *
     have HX2 : Hid (W1.drew.heap[lbk]? = _) := Lib.hid HX1.out
     have HP2 := Lib.hid (HP1.out.up (below_drw2 W1))
     refine wp_region_held_drew (S := (fun w' => w'.cell? ⟨w.heap.size, 0, none⟩ = some (.slice (some ⟨bn, on, none⟩) c.names.length r.cN) ∧ w'.cell? ⟨w.heap.size, 1, none⟩ = some (.slice (some ⟨bl, oo, none⟩) c.lnames.length r.cL) ∧ w'.cell? ⟨bn, on + x, none⟩ = some (.string ⟨xa.toArray⟩) ∧ w'.cell? ⟨bn, on + y, none⟩ = some (.string ⟨xb.toArray⟩) ∧ w'.cell? ⟨bl, oo + k, none⟩ = some (.string ⟨z.toArray⟩) ∧ w'.cell? ⟨lbk, 0, none⟩ = some (.int .i64 (x : Int)) ∧ w'.cell? ⟨lbk, 1, none⟩ = some (.int .i64 (y : Int)) ∧ w'.cell? ⟨lbk, 2, none⟩ = some (.int .i64 c0) ∧ w'.cell? ⟨lbk, 3, none⟩ = some (.int .i64 c1) ∧ w'.cell? ⟨lbk, 4, none⟩ = some (.int .i64 cp) ∧ w'.cell? ⟨lbk, 5, none⟩ = some (.int .i64 dl) ∧ w'.cell? ⟨lbk, 6, none⟩ = some (.int .i64 g))) (by kernel_rfl) ?_ (fun hHeld => ?_)
     ·exact s5_7 HP2.out.b HD0.out HD1.out HD2.out HD3.out HD4.out HX2.out
     (refine takeL (i := 0) (v := ?_) rfl (by kernel_rfl) (by decide +kernel) (by decide +kernel) (fun _ _ _ h => h) (Or.inl ⟨by rfl, ?_⟩) (by assumption) ?_; rotate_left; (focus (intro w9 hS9; (try dsimp only at hS9); go_simp; (try with_reducible rfl); done)))
     (try simp only [Act.put, List.setIfInBounds_toArray, List.set_cons_zero, List.set_cons_succ])
     (refine takeL (i := 1) (v := ?_) rfl (by kernel_rfl) (by decide +kernel) (by decide +kernel) (fun _ _ _ h => h) (Or.inl ⟨by rfl, ?_⟩) (by assumption) ?_; rotate_left; (focus (intro w9 hS9; (try dsimp only at hS9); go_simp; (try with_reducible rfl); done)))
     (try simp only [Act.put, List.setIfInBounds_toArray, List.set_cons_zero, List.set_cons_succ])
     (refine takeL (i := 2) (v := ?_) rfl (by kernel_rfl) (by decide +kernel) (by decide +kernel) (fun _ _ _ h => h) (Or.inl ⟨by rfl, ?_⟩) (by assumption) ?_; rotate_left; (focus (intro w9 hS9; (try dsimp only at hS9); go_simp; (try with_reducible rfl); done)))
     (try simp only [Act.put, List.setIfInBounds_toArray, List.set_cons_zero, List.set_cons_succ])
     (refine takeL (i := 3) (v := ?_) rfl (by kernel_rfl) (by decide +kernel) (by decide +kernel) (fun _ _ _ h => h) (Or.inl ⟨by rfl, ?_⟩) (by assumption) ?_; rotate_left; (focus (intro w9 hS9; (try dsimp only at hS9); go_simp; (try with_reducible rfl); done)))
     (try simp only [Act.put, List.setIfInBounds_toArray, List.set_cons_zero, List.set_cons_succ])
     (refine takeL (i := 4) (v := ?_) rfl (by kernel_rfl) (by decide +kernel) (by decide +kernel) (fun _ _ _ h => h) (Or.inl ⟨by rfl, ?_⟩) (by assumption) ?_; rotate_left; (focus (intro w9 hS9; (try dsimp only at hS9); go_simp; (try with_reducible rfl); done)))
     (try simp only [Act.put, List.setIfInBounds_toArray, List.set_cons_zero, List.set_cons_succ])
     (refine takeL (i := 5) (v := ?_) rfl (by kernel_rfl) (by decide +kernel) (by decide +kernel) (fun _ _ _ h => h) (Or.inl ⟨by rfl, ?_⟩) (by assumption) ?_; rotate_left; (focus (intro w9 hS9; (try dsimp only at hS9); go_simp; (try with_reducible rfl); done)))
     (try simp only [Act.put, List.setIfInBounds_toArray, List.set_cons_zero, List.set_cons_succ])
     (refine takeL (i := 6) (v := ?_) rfl (by kernel_rfl) (by decide +kernel) (by decide +kernel) (fun _ _ _ h => h) (Or.inl ⟨by rfl, ?_⟩) (by assumption) ?_; rotate_left; (focus (intro w9 hS9; (try dsimp only at hS9); go_simp; (try with_reducible rfl); done)))
     (try simp only [Act.put, List.setIfInBounds_toArray, List.set_cons_zero, List.set_cons_succ])
     (refine takeL (i := 7) (v := ?_) rfl (by kernel_rfl) (by decide +kernel) (by decide +kernel) (fun _ _ _ h => h) (Or.inl ⟨by rfl, ?_⟩) (by assumption) ?_; rotate_left; (focus (intro w9 hS9; (try dsimp only at hS9); go_simp; (try with_reducible rfl); done)))
     (try simp only [Act.put, List.setIfInBounds_toArray, List.set_cons_zero, List.set_cons_succ])
     (refine takeL (i := 8) (v := ?_) rfl (by kernel_rfl) (by decide +kernel) (by decide +kernel) (fun _ _ _ h => h) (Or.inl ⟨by rfl, ?_⟩) (by assumption) ?_; rotate_left; (focus (intro w9 hS9; (try dsimp only at hS9); go_simp; (try with_reducible rfl); done)))
     (try simp only [Act.put, List.setIfInBounds_toArray, List.set_cons_zero, List.set_cons_succ])
     (refine takeL (i := 9) (v := ?_) rfl (by kernel_rfl) (by decide +kernel) (by decide +kernel) (fun _ _ _ h => h) (Or.inl ⟨by rfl, ?_⟩) (by assumption) ?_; rotate_left; (focus (intro w9 hS9; (try dsimp only at hS9); go_simp; (try with_reducible rfl); done)))
     (try simp only [Act.put, List.setIfInBounds_toArray, List.set_cons_zero, List.set_cons_succ])
     (refine takeL (i := 10) (v := ?_) rfl (by kernel_rfl) (by decide +kernel) (by decide +kernel) (fun _ _ _ h => h) (Or.inl ⟨by rfl, ?_⟩) (by assumption) ?_; rotate_left; (focus (intro w9 hS9; (try dsimp only at hS9); go_simp; (try with_reducible rfl); done)))
     (try simp only [Act.put, List.setIfInBounds_toArray, List.set_cons_zero, List.set_cons_succ])
     (refine takeL (i := 11) (v := ?_) rfl (by kernel_rfl) (by decide +kernel) (by decide +kernel) (fun _ _ _ h => h) (Or.inl ⟨by rfl, ?_⟩) (by assumption) ?_; rotate_left; (focus (intro w9 hS9; (try dsimp only at hS9); go_simp; (try with_reducible rfl); done)))
     (try simp only [Act.put, List.setIfInBounds_toArray, List.set_cons_zero, List.set_cons_succ])
     (refine takeL (i := 12) (v := ?_) rfl (by kernel_rfl) (by decide +kernel) (by decide +kernel) (fun _ _ _ h => h) (Or.inl ⟨by rfl, ?_⟩) (by assumption) ?_; rotate_left; (focus (intro w9 hS9; (try dsimp only at hS9); go_simp; (try with_reducible rfl); done)))
     (try simp only [Act.put, List.setIfInBounds_toArray, List.set_cons_zero, List.set_cons_succ])
     (refine takeL (i := 13) (v := ?_) rfl (by kernel_rfl) (by decide +kernel) (by decide +kernel) (fun _ _ _ h => h) (Or.inl ⟨by rfl, ?_⟩) (by assumption) ?_; rotate_left; (focus (intro w9 hS9; (try dsimp only at hS9); go_simp; (try with_reducible rfl); done)))
     (try simp only [Act.put, List.setIfInBounds_toArray, List.set_cons_zero, List.set_cons_succ])
     (refine takeL (i := 14) (v := ?_) rfl (by kernel_rfl) (by decide +kernel) (by decide +kernel) (fun _ _ _ h => h) (Or.inl ⟨by rfl, ?_⟩) (by assumption) ?_; rotate_left; (focus (intro w9 hS9; (try dsimp only at hS9); go_simp; (try with_reducible rfl); done)))
     (try simp only [Act.put, List.setIfInBounds_toArray, List.set_cons_zero, List.set_cons_succ])
     (refine takeL (i := 15) (v := ?_) rfl (by kernel_rfl) (by decide +kernel) (by decide +kernel) (fun _ _ _ h => h) (Or.inl ⟨by rfl, ?_⟩) (by assumption) ?_; rotate_left; (focus (intro w9 hS9; (try dsimp only at hS9); go_simp; (try with_reducible rfl); done)))
     (try simp only [Act.put, List.setIfInBounds_toArray, List.set_cons_zero, List.set_cons_succ])
     (refine takeL (i := 16) (v := ?_) rfl (by kernel_rfl) (by decide +kernel) (by decide +kernel) (fun _ _ _ h => h) (Or.inl ⟨by rfl, ?_⟩) (by assumption) ?_; rotate_left; (focus (intro w9 hS9; (try dsimp only at hS9); go_simp; (try with_reducible rfl); done)))
     (try simp only [Act.put, List.setIfInBounds_toArray, List.set_cons_zero, List.set_cons_succ])
     (refine takeL (i := 17) (v := ?_) rfl (by kernel_rfl) (by decide +kernel) (by decide +kernel) (fun _ _ _ h => h) (Or.inl ⟨by rfl, ?_⟩) (by assumption) ?_; rotate_left; (focus (intro w9 hS9; (try dsimp only at hS9); go_simp; (try with_reducible rfl); done)))
     (try simp only [Act.put, List.setIfInBounds_toArray, List.set_cons_zero, List.set_cons_succ])
     (refine takeL (i := 18) (v := ?_) rfl (by kernel_rfl) (by decide +kernel) (by decide +kernel) (fun _ _ _ h => h) (Or.inl ⟨by rfl, ?_⟩) (by assumption) ?_; rotate_left; (focus (intro w9 hS9; (try dsimp only at hS9); go_simp; (try with_reducible rfl); done)))
     (try simp only [Act.put, List.setIfInBounds_toArray, List.set_cons_zero, List.set_cons_succ])
     (refine takeL (i := 19) (v := ?_) rfl (by kernel_rfl) (by decide +kernel) (by decide +kernel) (fun _ _ _ h => h) (Or.inl ⟨by rfl, ?_⟩) (by assumption) ?_; rotate_left; (focus (intro w9 hS9; (try dsimp only at hS9); go_simp; (try with_reducible rfl); done)))
     (try simp only [Act.put, List.setIfInBounds_toArray, List.set_cons_zero, List.set_cons_succ])
     (refine takeL (i := 20) (v := ?_) rfl (by kernel_rfl) (by decide +kernel) (by decide +kernel) (fun _ _ _ h => h) (Or.inl ⟨by rfl, ?_⟩) (by assumption) ?_; rotate_left; (focus (intro w9 hS9; (try dsimp only at hS9); go_simp; (try with_reducible rfl); done)))
     (try simp only [Act.put, List.setIfInBounds_toArray, List.set_cons_zero, List.set_cons_succ])
     (refine takeL (i := 22) (v := ?_) rfl (by kernel_rfl) (by decide +kernel) (by decide +kernel) (fun _ _ _ h => h) (Or.inl ⟨by rfl, ?_⟩) (by assumption) ?_; rotate_left; (focus (intro w9 hS9; (try dsimp only at hS9); go_simp; (try with_reducible rfl); done)))
     (try simp only [Act.put, List.setIfInBounds_toArray, List.set_cons_zero, List.set_cons_succ])
     (refine takeL (i := 23) (v := ?_) rfl (by kernel_rfl) (by decide +kernel) (by decide +kernel) (fun _ _ _ h => h) (Or.inl ⟨by rfl, ?_⟩) (by assumption) ?_; rotate_left; (focus (intro w9 hS9; (try dsimp only at hS9); go_simp; (try with_reducible rfl); done)))
     (try simp only [Act.put, List.setIfInBounds_toArray, List.set_cons_zero, List.set_cons_succ])
     (refine takeL (i := 24) (v := ?_) rfl (by kernel_rfl) (by decide +kernel) (by decide +kernel) (fun _ _ _ h => h) (Or.inl ⟨by rfl, ?_⟩) (by assumption) ?_; rotate_left; (focus (intro w9 hS9; (try dsimp only at hS9); go_simp; (try with_reducible rfl); done)))
     (try simp only [Act.put, List.setIfInBounds_toArray, List.set_cons_zero, List.set_cons_succ])
     (refine takeL (i := 25) (v := ?_) rfl (by kernel_rfl) (by decide +kernel) (by decide +kernel) (fun _ _ _ h => h) (Or.inl ⟨by rfl, ?_⟩) (by assumption) ?_; rotate_left; (focus (intro w9 hS9; (try dsimp only at hS9); go_simp; (try with_reducible rfl); done)))
     (try simp only [Act.put, List.setIfInBounds_toArray, List.set_cons_zero, List.set_cons_succ])
     (refine takeL (i := 27) (v := ?_) rfl (by kernel_rfl) (by decide +kernel) (by decide +kernel) (fun _ _ _ h => h) (Or.inl ⟨by rfl, ?_⟩) (by assumption) ?_; rotate_left; (focus (intro w9 hS9; (try dsimp only at hS9); go_simp; (try with_reducible rfl); done)))
     (try simp only [Act.put, List.setIfInBounds_toArray, List.set_cons_zero, List.set_cons_succ])
     (refine takeL (i := 28) (v := ?_) rfl (by kernel_rfl) (by decide +kernel) (by decide +kernel) (fun _ _ _ h => h) (Or.inl ⟨by rfl, ?_⟩) (by assumption) ?_; rotate_left; (focus (intro w9 hS9; (try dsimp only at hS9); go_simp; (try with_reducible rfl); done)))
     (try simp only [Act.put, List.setIfInBounds_toArray, List.set_cons_zero, List.set_cons_succ])
     (refine takeL (i := 29) (v := ?_) rfl (by kernel_rfl) (by decide +kernel) (by decide +kernel) (fun _ _ _ h => h) (Or.inl ⟨by rfl, ?_⟩) (by assumption) ?_; rotate_left; (focus (intro w9 hS9; (try dsimp only at hS9); go_simp; (try with_reducible rfl); done)))
     (try simp only [Act.put, List.setIfInBounds_toArray, List.set_cons_zero, List.set_cons_succ])
     (refine takeL (i := 31) (v := ?_) rfl (by kernel_rfl) (by decide +kernel) (by decide +kernel) (fun _ _ _ h => h) (Or.inl ⟨by rfl, ?_⟩) (by assumption) ?_; rotate_left; (focus (intro w9 hS9; (try dsimp only at hS9); go_simp; (try with_reducible rfl); done)))
     (try simp only [Act.put, List.setIfInBounds_toArray, List.set_cons_zero, List.set_cons_succ])
     (refine takeL (i := 32) (v := ?_) rfl (by kernel_rfl) (by decide +kernel) (by decide +kernel) (fun _ _ _ h => h) (Or.inl ⟨by rfl, ?_⟩) (by assumption) ?_; rotate_left; (focus (intro w9 hS9; (try dsimp only at hS9); go_simp; (try with_reducible rfl); done)))
     (try simp only [Act.put, List.setIfInBounds_toArray, List.set_cons_zero, List.set_cons_succ])
     (refine takeL (i := 33) (v := ?_) rfl (by kernel_rfl) (by decide +kernel) (by decide +kernel) (fun _ _ _ h => h) (Or.inl ⟨by rfl, ?_⟩) (by assumption) ?_; rotate_left; (focus (intro w9 hS9; (try dsimp only at hS9); go_simp; (try with_reducible rfl); done)))
     (try simp only [Act.put, List.setIfInBounds_toArray, List.set_cons_zero, List.set_cons_succ])
     (refine takeL (i := 35) (v := ?_) rfl (by kernel_rfl) (by decide +kernel) (by decide +kernel) (fun _ _ _ h => h) (Or.inl ⟨by rfl, ?_⟩) (by assumption) ?_; rotate_left; (focus (intro w9 hS9; (try dsimp only at hS9); go_simp; (try with_reducible rfl); done)))
     (try simp only [Act.put, List.setIfInBounds_toArray, List.set_cons_zero, List.set_cons_succ])
     (refine takeL (i := 36) (v := ?_) rfl (by kernel_rfl) (by decide +kernel) (by decide +kernel) (fun _ _ _ h => h) (Or.inl ⟨by rfl, ?_⟩) (by assumption) ?_; rotate_left; (focus (intro w9 hS9; (try dsimp only at hS9); go_simp; (try with_reducible rfl); done)))
     (try simp only [Act.put, List.setIfInBounds_toArray, List.set_cons_zero, List.set_cons_succ])
     (refine takeL (i := 37) (v := ?_) rfl (by kernel_rfl) (by decide +kernel) (by decide +kernel) (fun _ _ _ h => h) (Or.inl ⟨by rfl, ?_⟩) (by assumption) ?_; rotate_left; (focus (intro w9 hS9; (try dsimp only at hS9); go_simp; (try with_reducible rfl); done)))
     (try simp only [Act.put, List.setIfInBounds_toArray, List.set_cons_zero, List.set_cons_succ])
     refine wpAnyH_ready (rs := [21]) (by decide +kernel) (by simp) ?_
     refine consL rfl (fun K hK => ?_) ?_
     ·(first | (go_at_call 15; (refine (strconv_Itoa c0 (by omega) (by omega) W1.drew.heap.size W1.drew (tab_up HT0.out HP2.out.b HP2.out.b.size)).mono ?_); rintro e W3 ⟨rfl, hb3⟩; have HX3 := Lib.hid ((hb3.block lbk (lt_of_heap HX2.out)).trans HX2.out); have HP3 := Lib.hid (HP2.out.up hb3)) | (go_simp; first | done | (first | (go_at_call 15; (refine (strconv_Itoa c0 (by omega) (by omega) W1.drew.heap.size W1.drew (tab_up HT0.out HP2.out.b HP2.out.b.size)).mono ?_); rintro e W3 ⟨rfl, hb3⟩; have HX3 := Lib.hid ((hb3.block lbk (lt_of_heap HX2.out)).trans HX2.out); have HP3 := Lib.hid (HP2.out.up hb3)))) | go_simp)
      (first | (with_reducible refine hK.out _ _ ?_ ?_) | (go_wp2_with fail; refine hK.out _ _ ?_ ?_))
      (focus (exact s5_7 HP3.out.b HD0.out HD1.out HD2.out HD3.out HD4.out HX3.out))
      clear hK K hHeld
      intro hHeld
      (try simp only [Act.put, List.setIfInBounds_toArray, List.set_cons_zero, List.set_cons_succ])
      refine wpAnyH_ready (rs := [26]) (by decide +kernel) (by simp) ?_
      refine consL rfl (fun K hK => ?_) ?_
      ·(first | (go_at_call 15; (refine (strconv_Itoa c1 (by omega) (by omega) W3.heap.size W3 (tab_up HT0.out HP3.out.b HP3.out.b.size)).mono ?_); rintro e W4 ⟨rfl, hb4⟩; have HX4 := Lib.hid ((hb4.block lbk (lt_of_heap HX3.out)).trans HX3.out); have HP4 := Lib.hid (HP3.out.up hb4)) | (go_simp; first | done | (first | (go_at_call 15; (refine (strconv_Itoa c1 (by omega) (by omega) W3.heap.size W3 (tab_up HT0.out HP3.out.b HP3.out.b.size)).mono ?_); rintro e W4 ⟨rfl, hb4⟩; have HX4 := Lib.hid ((hb4.block lbk (lt_of_heap HX3.out)).trans HX3.out); have HP4 := Lib.hid (HP3.out.up hb4)))) | go_simp)
       (first | (with_reducible refine hK.out _ _ ?_ ?_) | (go_wp2_with fail; refine hK.out _ _ ?_ ?_))
       (focus (exact s5_7 HP4.out.b HD0.out HD1.out HD2.out HD3.out HD4.out HX4.out))
       clear hK K hHeld
       intro hHeld
       (try simp only [Act.put, List.setIfInBounds_toArray, List.set_cons_zero, List.set_cons_succ])
       refine wpAnyH_ready (rs := [30]) (by decide +kernel) (by simp) ?_
       refine consL rfl (fun K hK => ?_) ?_
       ·(first | (go_at_call 15; (refine (strconv_Itoa cp (by omega) (by omega) W4.heap.size W4 (tab_up HT0.out HP4.out.b HP4.out.b.size)).mono ?_); rintro e W5 ⟨rfl, hb5⟩; have HX5 := Lib.hid ((hb5.block lbk (lt_of_heap HX4.out)).trans HX4.out); have HP5 := Lib.hid (HP4.out.up hb5)) | (go_simp; first | done | (first | (go_at_call 15; (refine (strconv_Itoa cp (by omega) (by omega) W4.heap.size W4 (tab_up HT0.out HP4.out.b HP4.out.b.size)).mono ?_); rintro e W5 ⟨rfl, hb5⟩; have HX5 := Lib.hid ((hb5.block lbk (lt_of_heap HX4.out)).trans HX4.out); have HP5 := Lib.hid (HP4.out.up hb5)))) | go_simp)
        (first | (with_reducible refine hK.out _ _ ?_ ?_) | (go_wp2_with fail; refine hK.out _ _ ?_ ?_))
        (focus (exact s5_7 HP5.out.b HD0.out HD1.out HD2.out HD3.out HD4.out HX5.out))
        clear hK K hHeld
        intro hHeld
        (try simp only [Act.put, List.setIfInBounds_toArray, List.set_cons_zero, List.set_cons_succ])
        refine wpAnyH_ready (rs := [34]) (by decide +kernel) (by simp) ?_
        refine consL rfl (fun K hK => ?_) ?_
        ·(first | (go_at_call 15; (refine (strconv_Itoa dl (by omega) (by omega) W5.heap.size W5 (tab_up HT0.out HP5.out.b HP5.out.b.size)).mono ?_); rintro e W6 ⟨rfl, hb6⟩; have HX6 := Lib.hid ((hb6.block lbk (lt_of_heap HX5.out)).trans HX5.out); have HP6 := Lib.hid (HP5.out.up hb6)) | (go_simp; first | done | (first | (go_at_call 15; (refine (strconv_Itoa dl (by omega) (by omega) W5.heap.size W5 (tab_up HT0.out HP5.out.b HP5.out.b.size)).mono ?_); rintro e W6 ⟨rfl, hb6⟩; have HX6 := Lib.hid ((hb6.block lbk (lt_of_heap HX5.out)).trans HX5.out); have HP6 := Lib.hid (HP5.out.up hb6)))) | go_simp)
         (first | (with_reducible refine hK.out _ _ ?_ ?_) | (go_wp2_with fail; refine hK.out _ _ ?_ ?_))
         (focus (exact s5_7 HP6.out.b HD0.out HD1.out HD2.out HD3.out HD4.out HX6.out))
         clear hK K hHeld
         intro hHeld
         (try simp only [Act.put, List.setIfInBounds_toArray, List.set_cons_zero, List.set_cons_succ])
         refine wpAnyH_ready (rs := [38]) (by decide +kernel) (by simp) ?_
         refine consL rfl (fun K hK => ?_) ?_
         ·(first | (go_at_call 15; (refine (strconv_Itoa g (by omega) (by omega) W6.heap.size W6 (tab_up HT0.out HP6.out.b HP6.out.b.size)).mono ?_); rintro e W7 ⟨rfl, hb7⟩; have HX7 := Lib.hid ((hb7.block lbk (lt_of_heap HX6.out)).trans HX6.out); have HP7 := Lib.hid (HP6.out.up hb7)) | (go_simp; first | done | (first | (go_at_call 15; (refine (strconv_Itoa g (by omega) (by omega) W6.heap.size W6 (tab_up HT0.out HP6.out.b HP6.out.b.size)).mono ?_); rintro e W7 ⟨rfl, hb7⟩; have HX7 := Lib.hid ((hb7.block lbk (lt_of_heap HX6.out)).trans HX6.out); have HP7 := Lib.hid (HP6.out.up hb7)))) | go_simp)
          (first | (with_reducible refine hK.out _ _ ?_ ?_) | (go_wp2_with fail; refine hK.out _ _ ?_ ?_))
          (focus (exact s5_7 HP7.out.b HD0.out HD1.out HD2.out HD3.out HD4.out HX7.out))
          clear hK K hHeld
          intro hHeld
          (try simp only [Act.put, List.setIfInBounds_toArray, List.set_cons_zero, List.set_cons_succ])
          refine wpAnyH_ready (rs := [39]) (by decide +kernel) (by simp) ?_
          refine consL rfl (fun K hK => ?_) ?_
          ·have HX8 := Lib.hid (((below_box W7 (.cells #[.string ⟨#[108, 105, 110, 107]⟩, .string ⟨z.toArray⟩, .string ⟨#[102, 114, 111, 109]⟩, .string ⟨xa.toArray⟩, .string ⟨#[116, 111]⟩, .string ⟨xb.toArray⟩, .string ⟨#[99, 111, 115, 116]⟩, .string ⟨(Lib.itoa c0).toArray⟩, .string ⟨#[98, 97, 99, 107]⟩, .string ⟨(Lib.itoa c1).toArray⟩, .string ⟨#[99, 97, 112, 97, 99, 105, 116, 121]⟩, .string ⟨(Lib.itoa cp).toArray⟩, .string ⟨#[100, 101, 108, 97, 121]⟩, .string ⟨(Lib.itoa dl).toArray⟩, .string ⟨#[103, 114, 111, 117, 112]⟩, .string ⟨(Lib.itoa g).toArray⟩] 9)).block lbk (lt_of_heap HX7.out)).trans HX7.out)
           have HP8 := Lib.hid (HP7.out.up (below_box W7 (.cells #[.string ⟨#[108, 105, 110, 107]⟩, .string ⟨z.toArray⟩, .string ⟨#[102, 114, 111, 109]⟩, .string ⟨xa.toArray⟩, .string ⟨#[116, 111]⟩, .string ⟨xb.toArray⟩, .string ⟨#[99, 111, 115, 116]⟩, .string ⟨(Lib.itoa c0).toArray⟩, .string ⟨#[98, 97, 99, 107]⟩, .string ⟨(Lib.itoa c1).toArray⟩, .string ⟨#[99, 97, 112, 97, 99, 105, 116, 121]⟩, .string ⟨(Lib.itoa cp).toArray⟩, .string ⟨#[100, 101, 108, 97, 121]⟩, .string ⟨(Lib.itoa dl).toArray⟩, .string ⟨#[103, 114, 111, 117, 112]⟩, .string ⟨(Lib.itoa g).toArray⟩] 9)))
           (first | fail | (go_simp; first | done | (first | fail)) | go_simp)
           (first | (with_reducible refine hK.out _ _ ?_ ?_) | (go_wp2_with fail; refine hK.out _ _ ?_ ?_))
           (focus (exact s5_7 HP8.out.b HD0.out HD1.out HD2.out HD3.out HD4.out HX8.out))
           clear hK K hHeld
           intro hHeld
           (try simp only [Act.put, List.setIfInBounds_toArray, List.set_cons_zero, List.set_cons_succ])
           refine wpAnyH_ready (rs := [40]) (by decide +kernel) (by simp) ?_
           refine consL rfl (fun K hK => ?_) ?_
           ·(first | (go_at_call 14; (refine (HP8.out.line HFF.out HLN.out rfl (rd_lit _ _ _) (by simp) (by simp) (by simp)).mono ?_); rintro e W9 ⟨rfl, hp9, hk9⟩; have HP9 := Lib.hid hp9; have HX9 := Lib.hid (hk9 lbk _ _ _ HX8.out (by decide) (by decide)); clear hp9 hk9) | (go_simp; first | done | (first | (go_at_call 14; (refine (HP8.out.line HFF.out HLN.out rfl (rd_lit _ _ _) (by simp) (by simp) (by simp)).mono ?_); rintro e W9 ⟨rfl, hp9, hk9⟩; have HP9 := Lib.hid hp9; have HX9 := Lib.hid (hk9 lbk _ _ _ HX8.out (by decide) (by decide)); clear hp9 hk9))) | go_simp)
            (first | (with_reducible refine hK.out _ _ ?_ ?_) | (go_wp2_with fail; refine hK.out _ _ ?_ ?_))
            (focus (exact s5_7 HP9.out.b HD0.out HD1.out HD2.out HD3.out HD4.out HX9.out))
            clear hK K hHeld
            intro hHeld
            (try simp only [Act.put, List.setIfInBounds_toArray, List.set_cons_zero, List.set_cons_succ])
            refine wpAnyH_done (by decide +kernel) ?_ _
            clear hHeld
            go_wp2_with fail
            go_roundw
            case rel => exact ⟨k + 1, by omega, by go_num, HP9⟩
            case measure => simp [intOf]; omega
           exact AllReadyH.nil
          exact AllReadyH.nil
         exact AllReadyH.nil
        exact AllReadyH.nil
       exact AllReadyH.nil
      exact AllReadyH.nil
     exact AllReadyH.nil
    ·obtain rfl : k = c.links.length := by omega
     have p5 : wr.cell? ⟨w.heap.size, 5, none⟩ = some (.slice AP c.pfx.length r.cP) := HKR.out.g5 HEQ.out
     go_wp2_with fail
     clear p5
     go_loopw [105] (fun i wr => ∃ k : Nat, k ≤ c.pfx.length ∧ i = .int .i64 k ∧ Hid (PW w n r c W0 (c.names.length + (c.links.length + k)) wr)) (fun i _ => c.pfx.length - (intOf i).toNat)
     case atStart => exact ⟨0, Nat.zero_le _, rfl, HPW⟩
     case round =>
      clear HPW
      obtain ⟨k, hk, rfl, HPW⟩ := hrel
      have HKR := Lib.hid (HK.out.up HPW.out.b)
      have hws := HPW.out.b.size
      have hlt3 := HKR.out.lt
      have hne3 := Nat.ne_of_lt hlt3
      have hne4 := Nat.ne_of_gt hlt3
      by_cases hlt : k < c.pfx.length
      ·obtain ⟨b, o, hA, hc⟩ := HKR.out.c1.p.flat 3 (fun _ => rfl) (by decide) hlt
       have hA2 := HEQ.out.p.trans hA
       clear hA
       subst hA2
       have hrt := HOK.out.route (List.getElem_mem hlt)
       have hxg : c.pfx.getD k (0, 0, 0) = c.pfx[k] := by rw [List.getD_eq_getElem?_getD, List.getElem?_eq_getElem hlt]; rfl
       generalize c.pfx[k] = p at hc hrt hxg
       obtain ⟨x0, x1, xv⟩ := p
       simp only at hrt
       obtain ⟨_, hv0, hv1⟩ := hrt
       obtain ⟨x, rfl, hx⟩ := nat_of ⟨hv0, hv1⟩
       have hnn := HOK.out.nn
       obtain ⟨xa, hxa⟩ := get_some (l := c.names) (k := x) (by omega)
       obtain ⟨bn, on, hn, hcn⟩ := HK.out.c1.n.base (by intro e; have := congrArg List.length e; simp at this; rw [this] at hxa; simp at hxa)
       have hAn := HEQ.out.n.trans hn
       clear hn
       subst hAn
       have HD0 := Lib.hid (HK.out.g0 HEQ.out)
       have HD1 := Lib.hid (strs_at hcn hxa)
       clear hcn
       have HLN : Hid ((linesC c)[c.names.length + (c.links.length + k)]? = some [kPrefix, ptextS x0 x1, kAt, xa]) := Lib.hid (by rw [lines3 hlt, pfxW, hxg, routeW]; simp only [getN_nat hxa])
       have q0 : wr.cell? ⟨b, o + k * 3, none⟩ = some (.int .u32 x0) := hc 0 _ rfl
       have q1 : wr.cell? ⟨b, o + k * 3 + 1, none⟩ = some (.int .i64 x1) := hc 1 _ rfl
       have q2 : wr.cell? ⟨b, o + k * 3 + 2, none⟩ = some (.int .i64 (x : Int)) := hc 2 _ rfl
       have hxl : (x : Int) < (c.names.length : Int) := by omega
       clear hc hxa hnn hv0 hv1 hxg
       go_wp2_with fail
       have HX1 : Hid ((wr.alloc (.cells #[.int .u32 x0, .int .i64 x1, .int .i64 (x : Int)] 72)).heap[wr.heap.size]? = some (.cells #[.int .u32 x0, .int .i64 x1, .int .i64 (x : Int)] 72 (0, 0))) := Lib.hid (heap_alloc_new _ _)
       have HP1 := Lib.hid (HPW.out.up (below_box wr (.cells #[.int .u32 x0, .int .i64 x1, .int .i64 (x : Int)] 72)))
       obtain ⟨W1, hW1⟩ : ∃ W, W = wr.alloc (.cells #[.int .u32 x0, .int .i64 x1, .int .i64 (x : Int)] 72) := ⟨_, rfl⟩
       rw [← hW1] at HX1 HP1 ⊢
       clear hW1
       generalize wr.heap.size = lbk at *
       have HX2 : Hid (W1.drew.heap[lbk]? = _) := Lib.hid HX1.out
       have HP2 := Lib.hid (HP1.out.up (below_drw2 W1))
       refine wp_region_held_drew (S := (fun w' => w'.cell? ⟨w.heap.size, 0, none⟩ = some (.slice (some ⟨bn, on, none⟩) c.names.length r.cN) ∧ w'.cell? ⟨bn, on + x, none⟩ = some (.string ⟨xa.toArray⟩) ∧ w'.cell? ⟨lbk, 0, none⟩ = some (.int .u32 x0) ∧ w'.cell? ⟨lbk, 1, none⟩ = some (.int .i64 x1) ∧ w'.cell? ⟨lbk, 2, none⟩ = some (.int .i64 (x : Int)))) (by kernel_rfl) ?_ (fun hHeld => ?_)
       ·exact s2_3 HP2.out.b HD0.out HD1.out HX2.out
       (refine takeL (i := 0) (v := ?_) rfl (by kernel_rfl) (by decide +kernel) (by decide +kernel) (fun _ _ _ h => h) (Or.inl ⟨by rfl, ?_⟩) (by assumption) ?_; rotate_left; (focus (intro w9 hS9; (try dsimp only at hS9); go_simp; (try with_reducible rfl); done)))
       (try simp only [Act.put, List.setIfInBounds_toArray, List.set_cons_zero, List.set_cons_succ])
       (refine takeL (i := 1) (v := ?_) rfl (by kernel_rfl) (by decide +kernel) (by decide +kernel) (fun _ _ _ h => h) (Or.inl ⟨by rfl, ?_⟩) (by assumption) ?_; rotate_left; (focus (intro w9 hS9; (try dsimp only at hS9); go_simp; (try with_reducible rfl); done)))
       (try simp only [Act.put, List.setIfInBounds_toArray, List.set_cons_zero, List.set_cons_succ])
       (refine takeL (i := 3) (v := ?_) rfl (by kernel_rfl) (by decide +kernel) (by decide +kernel) (fun _ _ _ h => h) (Or.inl ⟨by rfl, ?_⟩) (by assumption) ?_; rotate_left; (focus (intro w9 hS9; (try dsimp only at hS9); go_simp; (try with_reducible rfl); done)))
       (try simp only [Act.put, List.setIfInBounds_toArray, List.set_cons_zero, List.set_cons_succ])
       (refine takeL (i := 4) (v := ?_) rfl (by kernel_rfl) (by decide +kernel) (by decide +kernel) (fun _ _ _ h => h) (Or.inl ⟨by rfl, ?_⟩) (by assumption) ?_; rotate_left; (focus (intro w9 hS9; (try dsimp only at hS9); go_simp; (try with_reducible rfl); done)))
       (try simp only [Act.put, List.setIfInBounds_toArray, List.set_cons_zero, List.set_cons_succ])
       (refine takeL (i := 5) (v := ?_) rfl (by kernel_rfl) (by decide +kernel) (by decide +kernel) (fun _ _ _ h => h) (Or.inl ⟨by rfl, ?_⟩) (by assumption) ?_; rotate_left; (focus (intro w9 hS9; (try dsimp only at hS9); go_simp; (try with_reducible rfl); done)))
       (try simp only [Act.put, List.setIfInBounds_toArray, List.set_cons_zero, List.set_cons_succ])
       (refine takeL (i := 6) (v := ?_) rfl (by kernel_rfl) (by decide +kernel) (by decide +kernel) (fun _ _ _ h => h) (Or.inl ⟨by rfl, ?_⟩) (by assumption) ?_; rotate_left; (focus (intro w9 hS9; (try dsimp only at hS9); go_simp; (try with_reducible rfl); done)))
       (try simp only [Act.put, List.setIfInBounds_toArray, List.set_cons_zero, List.set_cons_succ])
       (refine takeL (i := 7) (v := ?_) rfl (by kernel_rfl) (by decide +kernel) (by decide +kernel) (fun _ _ _ h => h) (Or.inl ⟨by rfl, ?_⟩) (by assumption) ?_; rotate_left; (focus (intro w9 hS9; (try dsimp only at hS9); go_simp; (try with_reducible rfl); done)))
       (try simp only [Act.put, List.setIfInBounds_toArray, List.set_cons_zero, List.set_cons_succ])
       (refine takeL (i := 8) (v := ?_) rfl (by kernel_rfl) (by decide +kernel) (by decide +kernel) (fun _ _ _ h => h) (Or.inl ⟨by rfl, ?_⟩) (by assumption) ?_; rotate_left; (focus (intro w9 hS9; (try dsimp only at hS9); go_simp; (try with_reducible rfl); done)))
       (try simp only [Act.put, List.setIfInBounds_toArray, List.set_cons_zero, List.set_cons_succ])
       refine wpAnyH_ready (rs := [2]) (by decide +kernel) (by simp) ?_
       refine consL rfl (fun K hK => ?_) ?_
       ·(first | (go_at_call 16; (refine (pfx_Text x0 x1 W1.drew (tab_up HT0.out HP2.out.b HP2.out.b.size)).mono ?_); rintro e W3 ⟨rfl, hb3⟩; have HX3 := Lib.hid ((hb3.block lbk (lt_of_heap HX2.out)).trans HX2.out); have HP3 := Lib.hid (HP2.out.up hb3)) | (go_simp; first | done | (first | (go_at_call 16; (refine (pfx_Text x0 x1 W1.drew (tab_up HT0.out HP2.out.b HP2.out.b.size)).mono ?_); rintro e W3 ⟨rfl, hb3⟩; have HX3 := Lib.hid ((hb3.block lbk (lt_of_heap HX2.out)).trans HX2.out); have HP3 := Lib.hid (HP2.out.up hb3)))) | go_simp)
        (first | (with_reducible refine hK.out _ _ ?_ ?_) | (go_wp2_with fail; refine hK.out _ _ ?_ ?_))
        (focus (exact s2_3 HP3.out.b HD0.out HD1.out HX3.out))
        clear hK K hHeld
        intro hHeld
        (try simp only [Act.put, List.setIfInBounds_toArray, List.set_cons_zero, List.set_cons_succ])
        refine wpAnyH_ready (rs := [9]) (by decide +kernel) (by simp) ?_
        refine consL rfl (fun K hK => ?_) ?_
        ·have HX4 := Lib.hid (((below_box W3 (.cells #[.string ⟨#[112, 114, 101, 102, 105, 120]⟩, .string ⟨(ptextS x0 x1).toArray⟩, .string ⟨#[97, 116]⟩, .string ⟨xa.toArray⟩] 9)).block lbk (lt_of_heap HX3.out)).trans HX3.out)
         have HP4 := Lib.hid (HP3.out.up (below_box W3 (.cells #[.string ⟨#[112, 114, 101, 102, 105, 120]⟩, .string ⟨(ptextS x0 x1).toArray⟩, .string ⟨#[97, 116]⟩, .string ⟨xa.toArray⟩] 9)))
         (first | fail | (go_simp; first | done | (first | fail)) | go_simp)
         (first | (with_reducible refine hK.out _ _ ?_ ?_) | (go_wp2_with fail; refine hK.out _ _ ?_ ?_))
         (focus (exact s2_3 HP4.out.b HD0.out HD1.out HX4.out))
         clear hK K hHeld
         intro hHeld
         (try simp only [Act.put, List.setIfInBounds_toArray, List.set_cons_zero, List.set_cons_succ])
         refine wpAnyH_ready (rs := [10]) (by decide +kernel) (by simp) ?_
         refine consL rfl (fun K hK => ?_) ?_
         ·(first | (go_at_call 14; (refine (HP4.out.line HFF.out HLN.out rfl (rd_lit _ _ _) (by simp) (by simp) (by simp)).mono ?_); rintro e W5 ⟨rfl, hp5, hk5⟩; have HP5 := Lib.hid hp5; have HX5 := Lib.hid (hk5 lbk _ _ _ HX4.out (by decide) (by decide)); clear hp5 hk5) | (go_simp; first | done | (first | (go_at_call 14; (refine (HP4.out.line HFF.out HLN.out rfl (rd_lit _ _ _) (by simp) (by simp) (by simp)).mono ?_); rintro e W5 ⟨rfl, hp5, hk5⟩; have HP5 := Lib.hid hp5; have HX5 := Lib.hid (hk5 lbk _ _ _ HX4.out (by decide) (by decide)); clear hp5 hk5))) | go_simp)
          (first | (with_reducible refine hK.out _ _ ?_ ?_) | (go_wp2_with fail; refine hK.out _ _ ?_ ?_))
          (focus (exact s2_3 HP5.out.b HD0.out HD1.out HX5.out))
          clear hK K hHeld
          intro hHeld
          (try simp only [Act.put, List.setIfInBounds_toArray, List.set_cons_zero, List.set_cons_succ])
          refine wpAnyH_done (by decide +kernel) ?_ _
          clear hHeld
          go_wp2_with fail
          go_roundw
          case rel => exact ⟨k + 1, by omega, by go_num, HP5⟩
          case measure => simp [intOf]; omega
         exact AllReadyH.nil
        exact AllReadyH.nil
       exact AllReadyH.nil
      ·obtain rfl : k = c.pfx.length := by omega
       have p6 : wr.cell? ⟨w.heap.size, 6, none⟩ = some (.slice AQ c.pols.length r.cQ) := HKR.out.g6 HEQ.out
       go_wp2_with fail
       clear p6
       go_loopw [124] (fun i wr => ∃ k : Nat, k ≤ c.pols.length ∧ i = .int .i64 k ∧ Hid (PW w n r c W0 (c.names.length + (c.links.length + (c.pfx.length + k))) wr)) (fun i _ => c.pols.length - (intOf i).toNat)
       case atStart => exact ⟨0, Nat.zero_le _, rfl, HPW⟩
       case round =>
        clear HPW
        obtain ⟨k, hk, rfl, HPW⟩ := hrel
        have HKR := Lib.hid (HK.out.up HPW.out.b)
        have hws := HPW.out.b.size
        have hlt3 := HKR.out.lt
        have hne3 := Nat.ne_of_lt hlt3
        have hne4 := Nat.ne_of_gt hlt3
        by_cases hlt : k < c.pols.length
        ·have hz1 : k < (c.pols.zip r.ls).length := by rw [List.length_zip, HKR.out.c1.ll]; omega
         obtain ⟨b, o, hA, hc⟩ := HKR.out.c1.q.flat 3 (fun _ => rfl) (by decide) hz1
         have hA2 := HEQ.out.q.trans hA
         clear hA
         subst hA2
         have hpo := HOK.out.pol (List.getElem_mem hlt)
         have hs1 := HK.out.c1.s _ (List.getElem_mem hz1)
         simp only [List.getElem_zip] at hc hs1
         have hxg : c.pols.getD k (0, 0, []) = c.pols[k] := by rw [List.getD_eq_getElem?_getD, List.getElem?_eq_getElem hlt]; rfl
         have hlk1 : k < r.ls.length := by rw [HKR.out.c1.ll]; exact hlt
         obtain ⟨p, hp⟩ : ∃ p, p = c.pols[k] := ⟨_, rfl⟩
         obtain ⟨u, hu⟩ : ∃ u, u = r.ls[k] := ⟨_, rfl⟩
         rw [← hp] at hc hs1 hpo hxg
         rw [← hu] at hc hs1
         clear hp hu hlk1 hz1
         obtain ⟨xv, x1, l⟩ := p
         obtain ⟨A2, ca⟩ := u
         simp only at hs1 hpo
         obtain ⟨⟨hv0, hv1⟩, ⟨hb0, hb9⟩, hl32, hsg⟩ := hpo
         obtain ⟨x, rfl, hx⟩ := nat_of ⟨hv0, hv1⟩
         have HG := Lib.hid hs1.1
         have HSG := Lib.hid hsg
         have hnn := HOK.out.nn
         obtain ⟨xa, hxa⟩ := get_some (l := c.names) (k := x) (by omega)
         obtain ⟨bn, on, hn, hcn⟩ := HK.out.c1.n.base (by intro e; have := congrArg List.length e; simp at this; rw [this] at hxa; simp at hxa)
         have hAn := HEQ.out.n.trans hn
         clear hn
         subst hAn
         have HD0 := Lib.hid (HK.out.g0 HEQ.out)
         have HD1 := Lib.hid (strs_at hcn hxa)
         clear hcn hs1 hsg
         have HLN : Hid ((linesC c)[c.names.length + (c.links.length + (c.pfx.length + k))]? = some ([kPolicy, xa, Lib.itoa x1, kEq] ++ (l.take l.length).map (segTx c))) := Lib.hid (by rw [lines4 hlt, polW, hxg, plcW, List.take_length]; simp only [getN_nat hxa])
         have q0 : wr.cell? ⟨b, o + k * 3, none⟩ = some (.int .i64 (x : Int)) := hc 0 _ rfl
         have q1 : wr.cell? ⟨b, o + k * 3 + 1, none⟩ = some (.int .i64 x1) := hc 1 _ rfl
         have q2 : wr.cell? ⟨b, o + k * 3 + 2, none⟩ = some (.slice A2 l.length ca) := hc 2 _ rfl
         have hxl : (x : Int) < (c.names.length : Int) := by omega
         clear hc hxa hnn hv0 hv1 hxg
         go_wp2_with fail
         have HX1 : Hid ((wr.alloc (.cells #[.int .i64 (x : Int), .int .i64 x1, .slice A2 l.length ca] 76)).heap[wr.heap.size]? = some (.cells #[.int .i64 (x : Int), .int .i64 x1, .slice A2 l.length ca] 76 (0, 0))) := Lib.hid (heap_alloc_new _ _)
         have HP1 := Lib.hid (HPW.out.up (below_box wr (.cells #[.int .i64 (x : Int), .int .i64 x1, .slice A2 l.length ca] 76)))
         obtain ⟨W1, hW1⟩ : ∃ W, W = wr.alloc (.cells #[.int .i64 (x : Int), .int .i64 x1, .slice A2 l.length ca] 76) := ⟨_, rfl⟩
         rw [← hW1] at HX1 HP1 ⊢
         clear hW1
         generalize wr.heap.size = lbk at *
         have HX2 : Hid (W1.drew.heap[lbk]? = _) := Lib.hid HX1.out
         have HP2 := Lib.hid (HP1.out.up (below_drw2 W1))
         refine wp_region_held_drew (S := (fun w' => w'.cell? ⟨w.heap.size, 0, none⟩ = some (.slice (some ⟨bn, on, none⟩) c.names.length r.cN) ∧ w'.cell? ⟨bn, on + x, none⟩ = some (.string ⟨xa.toArray⟩) ∧ w'.cell? ⟨lbk, 0, none⟩ = some (.int .i64 (x : Int)) ∧ w'.cell? ⟨lbk, 1, none⟩ = some (.int .i64 x1) ∧ w'.cell? ⟨lbk, 2, none⟩ = some (.slice A2 l.length ca))) (by kernel_rfl) ?_ (fun hHeld => ?_)
         ·exact s2_3 HP2.out.b HD0.out HD1.out HX2.out
         (refine takeL (i := 0) (v := ?_) rfl (by kernel_rfl) (by decide +kernel) (by decide +kernel) (fun _ _ _ h => h) (Or.inl ⟨by rfl, ?_⟩) (by assumption) ?_; rotate_left; (focus (intro w9 hS9; (try dsimp only at hS9); go_simp; (try with_reducible rfl); done)))
         (try simp only [Act.put, List.setIfInBounds_toArray, List.set_cons_zero, List.set_cons_succ])
         (refine takeL (i := 1) (v := ?_) rfl (by kernel_rfl) (by decide +kernel) (by decide +kernel) (fun _ _ _ h => h) (Or.inl ⟨by rfl, ?_⟩) (by assumption) ?_; rotate_left; (focus (intro w9 hS9; (try dsimp only at hS9); go_simp; (try with_reducible rfl); done)))
         (try simp only [Act.put, List.setIfInBounds_toArray, List.set_cons_zero, List.set_cons_succ])
         (refine takeL (i := 2) (v := ?_) rfl (by kernel_rfl) (by decide +kernel) (by decide +kernel) (fun _ _ _ h => h) (Or.inl ⟨by rfl, ?_⟩) (by assumption) ?_; rotate_left; (focus (intro w9 hS9; (try dsimp only at hS9); go_simp; (try with_reducible rfl); done)))
         (try simp only [Act.put, List.setIfInBounds_toArray, List.set_cons_zero, List.set_cons_succ])
         (refine takeL (i := 3) (v := ?_) rfl (by kernel_rfl) (by decide +kernel) (by decide +kernel) (fun _ _ _ h => h) (Or.inl ⟨by rfl, ?_⟩) (by assumption) ?_; rotate_left; (focus (intro w9 hS9; (try dsimp only at hS9); go_simp; (try with_reducible rfl); done)))
         (try simp only [Act.put, List.setIfInBounds_toArray, List.set_cons_zero, List.set_cons_succ])
         (refine takeL (i := 4) (v := ?_) rfl (by kernel_rfl) (by decide +kernel) (by decide +kernel) (fun _ _ _ h => h) (Or.inl ⟨by rfl, ?_⟩) (by assumption) ?_; rotate_left; (focus (intro w9 hS9; (try dsimp only at hS9); go_simp; (try with_reducible rfl); done)))
         (try simp only [Act.put, List.setIfInBounds_toArray, List.set_cons_zero, List.set_cons_succ])
         (refine takeL (i := 5) (v := ?_) rfl (by kernel_rfl) (by decide +kernel) (by decide +kernel) (fun _ _ _ h => h) (Or.inl ⟨by rfl, ?_⟩) (by assumption) ?_; rotate_left; (focus (intro w9 hS9; (try dsimp only at hS9); go_simp; (try with_reducible rfl); done)))
         (try simp only [Act.put, List.setIfInBounds_toArray, List.set_cons_zero, List.set_cons_succ])
         (refine takeL (i := 6) (v := ?_) rfl (by kernel_rfl) (by decide +kernel) (by decide +kernel) (fun _ _ _ h => h) (Or.inl ⟨by rfl, ?_⟩) (by assumption) ?_; rotate_left; (focus (intro w9 hS9; (try dsimp only at hS9); go_simp; (try with_reducible rfl); done)))
         (try simp only [Act.put, List.setIfInBounds_toArray, List.set_cons_zero, List.set_cons_succ])
         (refine takeL (i := 7) (v := ?_) rfl (by kernel_rfl) (by decide +kernel) (by decide +kernel) (fun _ _ _ h => h) (Or.inl ⟨by rfl, ?_⟩) (by assumption) ?_; rotate_left; (focus (intro w9 hS9; (try dsimp only at hS9); go_simp; (try with_reducible rfl); done)))
         (try simp only [Act.put, List.setIfInBounds_toArray, List.set_cons_zero, List.set_cons_succ])
         (refine takeL (i := 8) (v := ?_) rfl (by kernel_rfl) (by decide +kernel) (by decide +kernel) (fun _ _ _ h => h) (Or.inl ⟨by rfl, ?_⟩) (by assumption) ?_; rotate_left; (focus (intro w9 hS9; (try dsimp only at hS9); go_simp; (try with_reducible rfl); done)))
         (try simp only [Act.put, List.setIfInBounds_toArray, List.set_cons_zero, List.set_cons_succ])
         refine wpAnyH_ready (rs := [9]) (by decide +kernel) (by simp) ?_
         refine consL rfl (fun K hK => ?_) ?_
         ·(first | (go_at_call 15; (refine (strconv_Itoa x1 (by omega) (by omega) W1.drew.heap.size W1.drew (tab_up HT0.out HP2.out.b HP2.out.b.size)).mono ?_); rintro e W3 ⟨rfl, hb3⟩; have HX3 := Lib.hid ((hb3.block lbk (lt_of_heap HX2.out)).trans HX2.out); have HP3 := Lib.hid (HP2.out.up hb3)) | (go_simp; first | done | (first | (go_at_call 15; (refine (strconv_Itoa x1 (by omega) (by omega) W1.drew.heap.size W1.drew (tab_up HT0.out HP2.out.b HP2.out.b.size)).mono ?_); rintro e W3 ⟨rfl, hb3⟩; have HX3 := Lib.hid ((hb3.block lbk (lt_of_heap HX2.out)).trans HX2.out); have HP3 := Lib.hid (HP2.out.up hb3)))) | go_simp)
          (first | (with_reducible refine hK.out _ _ ?_ ?_) | (go_wp2_with fail; refine hK.out _ _ ?_ ?_))
          (focus (exact s2_3 HP3.out.b HD0.out HD1.out HX3.out))
          clear hK K hHeld
          intro hHeld
          (try simp only [Act.put, List.setIfInBounds_toArray, List.set_cons_zero, List.set_cons_succ])
          refine wpAnyH_ready (rs := [10]) (by decide +kernel) (by simp) ?_
          refine consL rfl (fun K hK => ?_) ?_
          ·have HX4 := Lib.hid (((below_box W3 (.cells #[.string ⟨#[112, 111, 108, 105, 99, 121]⟩, .string ⟨xa.toArray⟩, .string ⟨(Lib.itoa x1).toArray⟩, .string ⟨#[61]⟩] 9)).block lbk (lt_of_heap HX3.out)).trans HX3.out)
           have HP4 := Lib.hid (HP3.out.up (below_box W3 (.cells #[.string ⟨#[112, 111, 108, 105, 99, 121]⟩, .string ⟨xa.toArray⟩, .string ⟨(Lib.itoa x1).toArray⟩, .string ⟨#[61]⟩] 9)))
           (first | fail | (go_simp; first | done | (first | fail)) | go_simp)
           (first | (with_reducible refine hK.out _ _ ?_ ?_) | (go_wp2_with fail; refine hK.out _ _ ?_ ?_))
           (focus (exact s2_3 HP4.out.b HD0.out HD1.out HX4.out))
           clear hK K hHeld
           intro hHeld
           (try simp only [Act.put, List.setIfInBounds_toArray, List.set_cons_zero, List.set_cons_succ])
           (refine takeL (i := 11) (v := ?_) rfl (by kernel_rfl) (by decide +kernel) (by decide +kernel) (fun _ _ _ h => h) (Or.inl ⟨by rfl, ?_⟩) (by assumption) ?_; rotate_left; (focus (intro w9 hS9; (try dsimp only at hS9); go_simp; (try with_reducible rfl); done)))
           (try simp only [Act.put, List.setIfInBounds_toArray, List.set_cons_zero, List.set_cons_succ])
           refine wpAnyH_done (by decide +kernel) ?_ _
           clear hHeld
           have f2 : (W3.alloc (.cells #[.string ⟨#[112, 111, 108, 105, 99, 121]⟩, .string ⟨xa.toArray⟩, .string ⟨(Lib.itoa x1).toArray⟩, .string ⟨#[61]⟩] 9)).cell? ⟨lbk, 2, none⟩ = some (.slice A2 l.length ca) := Lib.cell_of_heap HX4.out 2
           have HO0 : Hid ((W3.alloc (.cells #[.string ⟨#[112, 111, 108, 105, 99, 121]⟩, .string ⟨xa.toArray⟩, .string ⟨(Lib.itoa x1).toArray⟩, .string ⟨#[61]⟩] 9)).ownsRow W0.heap.size 9 1 (.slice (some ⟨W3.heap.size, 0, none⟩) 4 4) (4 + 0) (([kPolicy, xa, Lib.itoa x1, kEq] ++ (l.take 0).map (segTx c)).map strW)) := Lib.hid (World.ownsRow_lit W3 _ 4 HP3.out.b.size (by decide) rfl)
           have hlbk := lt_of_heap HX4.out
           go_wp2_with fail
           clear f2
           go_loopw [13, 142] (fun v i wr => ∃ j : Nat, j ≤ l.length ∧ i = .int .i64 j ∧ Hid (wr.ownsRow W0.heap.size 9 1 v (4 + j) (([kPolicy, xa, Lib.itoa x1, kEq] ++ (l.take j).map (segTx c)).map strW)) ∧ Hid (PW w n r c W0 (c.names.length + (c.links.length + (c.pfx.length + k))) wr)) (fun _ i _ => l.length - (intOf i).toNat)
           case atStart => exact ⟨0, Nat.zero_le _, rfl, HO0, HP4⟩
           case round =>
            clear HO0 HP1 HP2 HP3 HP4 HX1 HX2 HX3 HX4
            obtain ⟨j, hj, rfl, HO, HPW⟩ := hrel
            have HKR := Lib.hid (HK.out.up HPW.out.b)
            have hws := HPW.out.b.size
            have hlt3 := HKR.out.lt
            have hne3 := Nat.ne_of_lt hlt3
            have hne4 := Nat.ne_of_gt hlt3
            by_cases hlj : j < l.length
            ·obtain ⟨b2, o2, hA, hc⟩ := (HG.out.below HPW.out.b).flat 2 (fun _ => rfl) (by decide) hlj
             have hsb := HSG.out _ (List.getElem_mem hlj)
             have HTK : Hid ((l.take (j + 1)).map (segTx c) = (l.take j).map (segTx c) ++ [segTx c l[j]]) := Lib.hid (by rw [List.take_succ_eq_append_getElem hlj, List.map_append]; rfl)
             subst hA
             generalize l[j] = s at hc hsb HTK
             obtain ⟨s0, s1⟩ := s
             have e0 : wr.cell? ⟨b2, o2 + j * 2, none⟩ = some (.int .i64 s0) := hc 0 _ rfl
             have e1 : wr.cell? ⟨b2, o2 + j * 2 + 1, none⟩ = some (.int .i64 s1) := hc 1 _ rfl
             clear hc
             have p0 : wr.cell? ⟨w.heap.size, 0, none⟩ = some (.slice (some ⟨bn, on, none⟩) c.names.length r.cN) := HKR.out.g0 HEQ.out
             have p1 : wr.cell? ⟨w.heap.size, 1, none⟩ = some (.slice AL c.lnames.length r.cL) := HKR.out.g1 HEQ.out
             have p2 : wr.cell? ⟨w.heap.size, 2, none⟩ = some (.int .i64 n) := HKR.out.g2
             have p3 : wr.cell? ⟨w.heap.size, 3, none⟩ = some (.slice AO ol r.cO) := HKR.out.g3 HEQ.out
             have p4 : wr.cell? ⟨w.heap.size, 4, none⟩ = some (.slice AK c.links.length r.cK) := HKR.out.g4 HEQ.out
             have p5 : wr.cell? ⟨w.heap.size, 5, none⟩ = some (.slice AP c.pfx.length r.cP) := HKR.out.g5 HEQ.out
             have p6 : wr.cell? ⟨w.heap.size, 6, none⟩ = some (.slice (some ⟨b, o, none⟩) c.pols.length r.cQ) := HKR.out.g6 HEQ.out
             have p7 : wr.cell? ⟨w.heap.size, 7, none⟩ = some (.slice AD c.dems.length r.cD) := HKR.out.g7 HEQ.out
             obtain ⟨p8, p9, p10, p11, p12⟩ := HKR.out.gt HEQ.out
             have HBS := Lib.hid (HPW.out.up (below_box wr (.cells #[.int .i64 s0, .int .i64 s1] 78)))
             have HOS := Lib.hid (own_up HO.out (below_box wr (.cells #[.int .i64 s0, .int .i64 s1] 78)))
             have HSC : Hid (Calls Tryz.prog 17 #[.agg #[.slice (some ⟨bn, on, none⟩) c.names.length r.cN, .slice AL c.lnames.length r.cL, .int .i64 n, .slice AO ol r.cO, .slice AK c.links.length r.cK, .slice AP c.pfx.length r.cP, .slice (some ⟨b, o, none⟩) c.pols.length r.cQ, .slice AD c.dems.length r.cD, .int .i64 t0, .int .i64 t1, .int .i64 t2, .int .i64 t3, .int .i64 t4], .agg #[.int .i64 s0, .int .i64 s1]] (wr.alloc (.cells #[.int .i64 s0, .int .i64 s1] 78)) fun e w' => e = .returned (.string ⟨(segTx c (s0, s1)).toArray⟩) ∧ Below (wr.alloc (.cells #[.int .i64 s0, .int .i64 s1] 78)).heap.size (wr.alloc (.cells #[.int .i64 s0, .int .i64 s1] 78)) w') := Lib.hid (HSX.out (s0, s1) _ (by rw [HOK.out.ln]; exact hsb) (HK.out.up HBS.out.b).c1 (tab_up HT0.out HBS.out.b HBS.out.b.size))
             clear hsb
             go_wp2_with (first | (go_at_call 17; (with_reducible refine HSC.out.mono ?_); rintro e w6 ⟨rfl, hb6⟩; have HO6 := Lib.hid (own_up HOS.out hb6); have HP6 := Lib.hid (HBS.out.up hb6); clear hb6) | (at_builtin; refine wpList_append_own _ rfl _ _ 23 rfl W0.heap.size 9 i0 (.string ⟨#[]⟩) 1 16 Tryz.underlying23 hi hz0 hz1 hz2 rfl (by decide) _ _ _ rfl (HO6.out.alloc _) ⟨_, 0, none⟩ 1 1 [strW (segTx c (s0, s1))] rfl rfl (cell_one_new _ _ _) ?c2 ?c3 ?c4 ?c5 ?_))
             case c2 => intro u hu; simp at hu; subst hu; rfl
             case c3 => unfold maxLen; omega
             case c4 => omega
             case c5 => have := HP6.out.b.size; simp; omega
             intro v' w7 hown' hgrow _
             have HO7 : Hid (w7.ownsRow W0.heap.size 9 1 v' (4 + (j + 1)) (([kPolicy, xa, Lib.itoa x1, kEq] ++ (l.take (j + 1)).map (segTx c)).map strW)) := Lib.hid (by have h9 := hown'; rw [HTK.out]; simpa [Nat.add_assoc] using h9)
             have HP7 : Hid (PW w n r c W0 (c.names.length + (c.links.length + (c.pfx.length + k))) w7) := Lib.hid ⟨HP6.out.p.grown HO6.out hgrow, (HP6.out.b.alloc HP6.out.b.size _).grown hgrow (by have := HP6.out.b.size; simp; omega) (fun q hq => (HO6.out.lt q hq).1)⟩
             clear hown' hgrow
             go_wp2_with fail
             go_roundw
             case rel => exact ⟨j + 1, by omega, by go_num, HO7, HP7⟩
             case measure => simp [intOf]; omega
            ·obtain rfl : j = l.length := by omega
             obtain ⟨A8, c8, rfl, hn8, hm8, hr8⟩ := rd_of_own HO.out
             have HR8 := Lib.hid hr8
             unfold maxLen at hm8
             have HW8 : Hid (([kPolicy, xa, Lib.itoa x1, kEq] ++ (l.take l.length).map (segTx c)).length = 4 + l.length) := Lib.hid (by rw [List.take_length]; simp; omega)
             clear hr8
             go_wp2_with (go_at_call 14; (refine (HPW.out.line HFF.out HLN.out HW8.out HR8.out (by simp) (by rw [HW8.out]; omega) (by rw [HW8.out]; omega)).mono ?_); rintro e w9 ⟨rfl, hp9, hk9⟩; have HP9 := Lib.hid hp9; clear hp9 hk9)
             go_roundw
             case rel => exact ⟨k + 1, by omega, by go_num, HP9⟩
             case measure => simp [intOf]; omega
          exact AllReadyH.nil
         exact AllReadyH.nil
        ·obtain rfl : k = c.pols.length := by omega
         have p7 : wr.cell? ⟨w.heap.size, 7, none⟩ = some (.slice AD c.dems.length r.cD) := HKR.out.g7 HEQ.out
         go_wp2_with fail
         clear p7
         go_loopw [159] (fun i wr => ∃ k : Nat, k ≤ c.dems.length ∧ i = .int .i64 k ∧ Hid (PW w n r c W0 (c.names.length + (c.links.length + (c.pfx.length + (c.pols.length + k)))) wr)) (fun i _ => c.dems.length - (intOf i).toNat)
         case atStart => exact ⟨0, Nat.zero_le _, rfl, HPW⟩
         case round =>
          clear HPW
          obtain ⟨k, hk, rfl, HPW⟩ := hrel
          have HKR := Lib.hid (HK.out.up HPW.out.b)
          have hws := HPW.out.b.size
          have hlt3 := HKR.out.lt
          have hne3 := Nat.ne_of_lt hlt3
          have hne4 := Nat.ne_of_gt hlt3
          by_cases hlt : k < c.dems.length
          ·obtain ⟨b, o, hA, hc⟩ := HKR.out.c1.d.flat 4 (fun _ => rfl) (by decide) hlt
           have hA2 := HEQ.out.d.trans hA
           clear hA
           subst hA2
           have hdm := HOK.out.dem (List.getElem_mem hlt)
           have hxg : c.dems.getD k (0, 0, 0, 0) = c.dems[k] := by rw [List.getD_eq_getElem?_getD, List.getElem?_eq_getElem hlt]; rfl
           generalize c.dems[k] = p at hc hdm hxg
           obtain ⟨xv, yv, am, pr⟩ := p
           simp only at hdm
           obtain ⟨_, hv, hu, ham, hpr⟩ := hdm
           obtain ⟨x, rfl, hx⟩ := nat_of hv
           obtain ⟨y, rfl, hy⟩ := nat_of hu
           have hnn := HOK.out.nn
           obtain ⟨xa, hxa⟩ := get_some (l := c.names) (k := x) (by omega)
           obtain ⟨xb, hxb⟩ := get_some (l := c.names) (k := y) (by omega)
           obtain ⟨bn, on, hn, hcn⟩ := HK.out.c1.n.base (by intro e; have := congrArg List.length e; simp at this; rw [this] at hxa; simp at hxa)
           have hAn := HEQ.out.n.trans hn
           clear hn
           subst hAn
           have HD0 := Lib.hid (HK.out.g0 HEQ.out)
           have HD1 := Lib.hid (strs_at hcn hxa)
           have HD2 := Lib.hid (strs_at hcn hxb)
           clear hcn
           have HLN : Hid ((linesC c)[c.names.length + (c.links.length + (c.pfx.length + (c.pols.length + k)))]? = some [kDemand, kFrom, xa, kTo, xb, kAmount, Lib.itoa am, kPriority, Lib.itoa pr]) := Lib.hid (by rw [lines5 hlt, demW, hxg, dmdW]; simp only [getN_nat hxa, getN_nat hxb])
           have q0 : wr.cell? ⟨b, o + k * 4, none⟩ = some (.int .i64 (x : Int)) := hc 0 _ rfl
           have q1 : wr.cell? ⟨b, o + k * 4 + 1, none⟩ = some (.int .i64 (y : Int)) := hc 1 _ rfl
           have q2 : wr.cell? ⟨b, o + k * 4 + 2, none⟩ = some (.int .i64 am) := hc 2 _ rfl
           have q3 : wr.cell? ⟨b, o + k * 4 + 3, none⟩ = some (.int .i64 pr) := hc 3 _ rfl
           have hxl : (x : Int) < (c.names.length : Int) := by omega
           have hyl : (y : Int) < (c.names.length : Int) := by omega
           clear hc hxa hxb hnn hv hu hxg
           go_wp2_with fail
           have HX1 : Hid ((wr.alloc (.cells #[.int .i64 (x : Int), .int .i64 (y : Int), .int .i64 am, .int .i64 pr] 81)).heap[wr.heap.size]? = some (.cells #[.int .i64 (x : Int), .int .i64 (y : Int), .int .i64 am, .int .i64 pr] 81 (0, 0))) := Lib.hid (heap_alloc_new _ _)
           have HP1 := Lib.hid (HPW.out.up (below_box wr (.cells #[.int .i64 (x : Int), .int .i64 (y : Int), .int .i64 am, .int .i64 pr] 81)))
           obtain ⟨W1, hW1⟩ : ∃ W, W = wr.alloc (.cells #[.int .i64 (x : Int), .int .i64 (y : Int), .int .i64 am, .int .i64 pr] 81) := ⟨_, rfl⟩
           rw [← hW1] at HX1 HP1 ⊢
           clear hW1
           generalize wr.heap.size = lbk at *
           have HX2 : Hid (W1.drew.heap[lbk]? = _) := Lib.hid HX1.out
           have HP2 := Lib.hid (HP1.out.up (below_drw2 W1))
           refine wp_region_held_drew (S := (fun w' => w'.cell? ⟨w.heap.size, 0, none⟩ = some (.slice (some ⟨bn, on, none⟩) c.names.length r.cN) ∧ w'.cell? ⟨bn, on + x, none⟩ = some (.string ⟨xa.toArray⟩) ∧ w'.cell? ⟨bn, on + y, none⟩ = some (.string ⟨xb.toArray⟩) ∧ w'.cell? ⟨lbk, 0, none⟩ = some (.int .i64 (x : Int)) ∧ w'.cell? ⟨lbk, 1, none⟩ = some (.int .i64 (y : Int)) ∧ w'.cell? ⟨lbk, 2, none⟩ = some (.int .i64 am) ∧ w'.cell? ⟨lbk, 3, none⟩ = some (.int .i64 pr))) (by kernel_rfl) ?_ (fun hHeld => ?_)
           ·exact s3_4 HP2.out.b HD0.out HD1.out HD2.out HX2.out
           (refine takeL (i := 0) (v := ?_) rfl (by kernel_rfl) (by decide +kernel) (by decide +kernel) (fun _ _ _ h => h) (Or.inl ⟨by rfl, ?_⟩) (by assumption) ?_; rotate_left; (focus (intro w9 hS9; (try dsimp only at hS9); go_simp; (try with_reducible rfl); done)))
           (try simp only [Act.put, List.setIfInBounds_toArray, List.set_cons_zero, List.set_cons_succ])
           (refine takeL (i := 1) (v := ?_) rfl (by kernel_rfl) (by decide +kernel) (by decide +kernel) (fun _ _ _ h => h) (Or.inl ⟨by rfl, ?_⟩) (by assumption) ?_; rotate_left; (focus (intro w9 hS9; (try dsimp only at hS9); go_simp; (try with_reducible rfl); done)))
           (try simp only [Act.put, List.setIfInBounds_toArray, List.set_cons_zero, List.set_cons_succ])
           (refine takeL (i := 2) (v := ?_) rfl (by kernel_rfl) (by decide +kernel) (by decide +kernel) (fun _ _ _ h => h) (Or.inl ⟨by rfl, ?_⟩) (by assumption) ?_; rotate_left; (focus (intro w9 hS9; (try dsimp only at hS9); go_simp; (try with_reducible rfl); done)))
           (try simp only [Act.put, List.setIfInBounds_toArray, List.set_cons_zero, List.set_cons_succ])
           (refine takeL (i := 3) (v := ?_) rfl (by kernel_rfl) (by decide +kernel) (by decide +kernel) (fun _ _ _ h => h) (Or.inl ⟨by rfl, ?_⟩) (by assumption) ?_; rotate_left; (focus (intro w9 hS9; (try dsimp only at hS9); go_simp; (try with_reducible rfl); done)))
           (try simp only [Act.put, List.setIfInBounds_toArray, List.set_cons_zero, List.set_cons_succ])
           (refine takeL (i := 4) (v := ?_) rfl (by kernel_rfl) (by decide +kernel) (by decide +kernel) (fun _ _ _ h => h) (Or.inl ⟨by rfl, ?_⟩) (by assumption) ?_; rotate_left; (focus (intro w9 hS9; (try dsimp only at hS9); go_simp; (try with_reducible rfl); done)))
           (try simp only [Act.put, List.setIfInBounds_toArray, List.set_cons_zero, List.set_cons_succ])
           (refine takeL (i := 5) (v := ?_) rfl (by kernel_rfl) (by decide +kernel) (by decide +kernel) (fun _ _ _ h => h) (Or.inl ⟨by rfl, ?_⟩) (by assumption) ?_; rotate_left; (focus (intro w9 hS9; (try dsimp only at hS9); go_simp; (try with_reducible rfl); done)))
           (try simp only [Act.put, List.setIfInBounds_toArray, List.set_cons_zero, List.set_cons_succ])
           (refine takeL (i := 6) (v := ?_) rfl (by kernel_rfl) (by decide +kernel) (by decide +kernel) (fun _ _ _ h => h) (Or.inl ⟨by rfl, ?_⟩) (by assumption) ?_; rotate_left; (focus (intro w9 hS9; (try dsimp only at hS9); go_simp; (try with_reducible rfl); done)))
           (try simp only [Act.put, List.setIfInBounds_toArray, List.set_cons_zero, List.set_cons_succ])
           (refine takeL (i := 7) (v := ?_) rfl (by kernel_rfl) (by decide +kernel) (by decide +kernel) (fun _ _ _ h => h) (Or.inl ⟨by rfl, ?_⟩) (by assumption) ?_; rotate_left; (focus (intro w9 hS9; (try dsimp only at hS9); go_simp; (try with_reducible rfl); done)))
           (try simp only [Act.put, List.setIfInBounds_toArray, List.set_cons_zero, List.set_cons_succ])
           (refine takeL (i := 8) (v := ?_) rfl (by kernel_rfl) (by decide +kernel) (by decide +kernel) (fun _ _ _ h => h) (Or.inl ⟨by rfl, ?_⟩) (by assumption) ?_; rotate_left; (focus (intro w9 hS9; (try dsimp only at hS9); go_simp; (try with_reducible rfl); done)))
           (try simp only [Act.put, List.setIfInBounds_toArray, List.set_cons_zero, List.set_cons_succ])
           (refine takeL (i := 9) (v := ?_) rfl (by kernel_rfl) (by decide +kernel) (by decide +kernel) (fun _ _ _ h => h) (Or.inl ⟨by rfl, ?_⟩) (by assumption) ?_; rotate_left; (focus (intro w9 hS9; (try dsimp only at hS9); go_simp; (try with_reducible rfl); done)))
           (try simp only [Act.put, List.setIfInBounds_toArray, List.set_cons_zero, List.set_cons_succ])
           (refine takeL (i := 10) (v := ?_) rfl (by kernel_rfl) (by decide +kernel) (by decide +kernel) (fun _ _ _ h => h) (Or.inl ⟨by rfl, ?_⟩) (by assumption) ?_; rotate_left; (focus (intro w9 hS9; (try dsimp only at hS9); go_simp; (try with_reducible rfl); done)))
           (try simp only [Act.put, List.setIfInBounds_toArray, List.set_cons_zero, List.set_cons_succ])
           (refine takeL (i := 11) (v := ?_) rfl (by kernel_rfl) (by decide +kernel) (by decide +kernel) (fun _ _ _ h => h) (Or.inl ⟨by rfl, ?_⟩) (by assumption) ?_; rotate_left; (focus (intro w9 hS9; (try dsimp only at hS9); go_simp; (try with_reducible rfl); done)))
           (try simp only [Act.put, List.setIfInBounds_toArray, List.set_cons_zero, List.set_cons_succ])
           (refine takeL (i := 12) (v := ?_) rfl (by kernel_rfl) (by decide +kernel) (by decide +kernel) (fun _ _ _ h => h) (Or.inl ⟨by rfl, ?_⟩) (by assumption) ?_; rotate_left; (focus (intro w9 hS9; (try dsimp only at hS9); go_simp; (try with_reducible rfl); done)))
           (try simp only [Act.put, List.setIfInBounds_toArray, List.set_cons_zero, List.set_cons_succ])
           (refine takeL (i := 13) (v := ?_) rfl (by kernel_rfl) (by decide +kernel) (by decide +kernel) (fun _ _ _ h => h) (Or.inl ⟨by rfl, ?_⟩) (by assumption) ?_; rotate_left; (focus (intro w9 hS9; (try dsimp only at hS9); go_simp; (try with_reducible rfl); done)))
           (try simp only [Act.put, List.setIfInBounds_toArray, List.set_cons_zero, List.set_cons_succ])
           (refine takeL (i := 14) (v := ?_) rfl (by kernel_rfl) (by decide +kernel) (by decide +kernel) (fun _ _ _ h => h) (Or.inl ⟨by rfl, ?_⟩) (by assumption) ?_; rotate_left; (focus (intro w9 hS9; (try dsimp only at hS9); go_simp; (try with_reducible rfl); done)))
           (try simp only [Act.put, List.setIfInBounds_toArray, List.set_cons_zero, List.set_cons_succ])
           (refine takeL (i := 16) (v := ?_) rfl (by kernel_rfl) (by decide +kernel) (by decide +kernel) (fun _ _ _ h => h) (Or.inl ⟨by rfl, ?_⟩) (by assumption) ?_; rotate_left; (focus (intro w9 hS9; (try dsimp only at hS9); go_simp; (try with_reducible rfl); done)))
           (try simp only [Act.put, List.setIfInBounds_toArray, List.set_cons_zero, List.set_cons_succ])
           (refine takeL (i := 17) (v := ?_) rfl (by kernel_rfl) (by decide +kernel) (by decide +kernel) (fun _ _ _ h => h) (Or.inl ⟨by rfl, ?_⟩) (by assumption) ?_; rotate_left; (focus (intro w9 hS9; (try dsimp only at hS9); go_simp; (try with_reducible rfl); done)))
           (try simp only [Act.put, List.setIfInBounds_toArray, List.set_cons_zero, List.set_cons_succ])
           (refine takeL (i := 18) (v := ?_) rfl (by kernel_rfl) (by decide +kernel) (by decide +kernel) (fun _ _ _ h => h) (Or.inl ⟨by rfl, ?_⟩) (by assumption) ?_; rotate_left; (focus (intro w9 hS9; (try dsimp only at hS9); go_simp; (try with_reducible rfl); done)))
           (try simp only [Act.put, List.setIfInBounds_toArray, List.set_cons_zero, List.set_cons_succ])
           refine wpAnyH_ready (rs := [15]) (by decide +kernel) (by simp) ?_
           refine consL rfl (fun K hK => ?_) ?_
           ·(first | (go_at_call 15; (refine (strconv_Itoa am (by omega) (by omega) W1.drew.heap.size W1.drew (tab_up HT0.out HP2.out.b HP2.out.b.size)).mono ?_); rintro e W3 ⟨rfl, hb3⟩; have HX3 := Lib.hid ((hb3.block lbk (lt_of_heap HX2.out)).trans HX2.out); have HP3 := Lib.hid (HP2.out.up hb3)) | (go_simp; first | done | (first | (go_at_call 15; (refine (strconv_Itoa am (by omega) (by omega) W1.drew.heap.size W1.drew (tab_up HT0.out HP2.out.b HP2.out.b.size)).mono ?_); rintro e W3 ⟨rfl, hb3⟩; have HX3 := Lib.hid ((hb3.block lbk (lt_of_heap HX2.out)).trans HX2.out); have HP3 := Lib.hid (HP2.out.up hb3)))) | go_simp)
            (first | (with_reducible refine hK.out _ _ ?_ ?_) | (go_wp2_with fail; refine hK.out _ _ ?_ ?_))
            (focus (exact s3_4 HP3.out.b HD0.out HD1.out HD2.out HX3.out))
            clear hK K hHeld
            intro hHeld
            (try simp only [Act.put, List.setIfInBounds_toArray, List.set_cons_zero, List.set_cons_succ])
            refine wpAnyH_ready (rs := [19]) (by decide +kernel) (by simp) ?_
            refine consL rfl (fun K hK => ?_) ?_
            ·(first | (go_at_call 15; (refine (strconv_Itoa pr (by omega) (by omega) W3.heap.size W3 (tab_up HT0.out HP3.out.b HP3.out.b.size)).mono ?_); rintro e W4 ⟨rfl, hb4⟩; have HX4 := Lib.hid ((hb4.block lbk (lt_of_heap HX3.out)).trans HX3.out); have HP4 := Lib.hid (HP3.out.up hb4)) | (go_simp; first | done | (first | (go_at_call 15; (refine (strconv_Itoa pr (by omega) (by omega) W3.heap.size W3 (tab_up HT0.out HP3.out.b HP3.out.b.size)).mono ?_); rintro e W4 ⟨rfl, hb4⟩; have HX4 := Lib.hid ((hb4.block lbk (lt_of_heap HX3.out)).trans HX3.out); have HP4 := Lib.hid (HP3.out.up hb4)))) | go_simp)
             (first | (with_reducible refine hK.out _ _ ?_ ?_) | (go_wp2_with fail; refine hK.out _ _ ?_ ?_))
             (focus (exact s3_4 HP4.out.b HD0.out HD1.out HD2.out HX4.out))
             clear hK K hHeld
             intro hHeld
             (try simp only [Act.put, List.setIfInBounds_toArray, List.set_cons_zero, List.set_cons_succ])
             refine wpAnyH_ready (rs := [20]) (by decide +kernel) (by simp) ?_
             refine consL rfl (fun K hK => ?_) ?_
             ·have HX5 := Lib.hid (((below_box W4 (.cells #[.string ⟨#[100, 101, 109, 97, 110, 100]⟩, .string ⟨#[102, 114, 111, 109]⟩, .string ⟨xa.toArray⟩, .string ⟨#[116, 111]⟩, .string ⟨xb.toArray⟩, .string ⟨#[97, 109, 111, 117, 110, 116]⟩, .string ⟨(Lib.itoa am).toArray⟩, .string ⟨#[112, 114, 105, 111, 114, 105, 116, 121]⟩, .string ⟨(Lib.itoa pr).toArray⟩] 9)).block lbk (lt_of_heap HX4.out)).trans HX4.out)
              have HP5 := Lib.hid (HP4.out.up (below_box W4 (.cells #[.string ⟨#[100, 101, 109, 97, 110, 100]⟩, .string ⟨#[102, 114, 111, 109]⟩, .string ⟨xa.toArray⟩, .string ⟨#[116, 111]⟩, .string ⟨xb.toArray⟩, .string ⟨#[97, 109, 111, 117, 110, 116]⟩, .string ⟨(Lib.itoa am).toArray⟩, .string ⟨#[112, 114, 105, 111, 114, 105, 116, 121]⟩, .string ⟨(Lib.itoa pr).toArray⟩] 9)))
              (first | fail | (go_simp; first | done | (first | fail)) | go_simp)
              (first | (with_reducible refine hK.out _ _ ?_ ?_) | (go_wp2_with fail; refine hK.out _ _ ?_ ?_))
              (focus (exact s3_4 HP5.out.b HD0.out HD1.out HD2.out HX5.out))
              clear hK K hHeld
              intro hHeld
              (try simp only [Act.put, List.setIfInBounds_toArray, List.set_cons_zero, List.set_cons_succ])
              refine wpAnyH_ready (rs := [21]) (by decide +kernel) (by simp) ?_
              refine consL rfl (fun K hK => ?_) ?_
              ·(first | (go_at_call 14; (refine (HP5.out.line HFF.out HLN.out rfl (rd_lit _ _ _) (by simp) (by simp) (by simp)).mono ?_); rintro e W6 ⟨rfl, hp6, hk6⟩; have HP6 := Lib.hid hp6; have HX6 := Lib.hid (hk6 lbk _ _ _ HX5.out (by decide) (by decide)); clear hp6 hk6) | (go_simp; first | done | (first | (go_at_call 14; (refine (HP5.out.line HFF.out HLN.out rfl (rd_lit _ _ _) (by simp) (by simp) (by simp)).mono ?_); rintro e W6 ⟨rfl, hp6, hk6⟩; have HP6 := Lib.hid hp6; have HX6 := Lib.hid (hk6 lbk _ _ _ HX5.out (by decide) (by decide)); clear hp6 hk6))) | go_simp)
               (first | (with_reducible refine hK.out _ _ ?_ ?_) | (go_wp2_with fail; refine hK.out _ _ ?_ ?_))
               (focus (exact s3_4 HP6.out.b HD0.out HD1.out HD2.out HX6.out))
               clear hK K hHeld
               intro hHeld
               (try simp only [Act.put, List.setIfInBounds_toArray, List.set_cons_zero, List.set_cons_succ])
               refine wpAnyH_done (by decide +kernel) ?_ _
               clear hHeld
               go_wp2_with fail
               go_roundw
               case rel => exact ⟨k + 1, by omega, by go_num, HP6⟩
               case measure => simp [intOf]; omega
              exact AllReadyH.nil
             exact AllReadyH.nil
            exact AllReadyH.nil
           exact AllReadyH.nil
          ·obtain rfl : k = c.dems.length := by omega
           have HTB : Hid ((wr.alloc (.cells (tNames.map strW).toArray 9)).heap[wr.heap.size]? = some (.cells (tNames.map strW).toArray 9 (0, 0))) := Lib.hid (heap_alloc_new _ _)
           have HP1 := Lib.hid (HPW.out.up (below_box wr (.cells (tNames.map strW).toArray 9)))
           go_wp2_with (go_at_call 18; refine (timerNames2 _).mono ?_; rintro e w6 ⟨rfl, rfl⟩)
           generalize (wr.alloc (.cells (tNames.map strW).toArray 9)) = W1 at *
           generalize wr.heap.size = tb at *
           clear HPW HKR
           go_loopw [188] (fun i wr => ∃ k : Nat, k ≤ 5 ∧ i = .int .i64 k ∧ Hid (PW w n r c W0 (c.names.length + (c.links.length + (c.pfx.length + (c.pols.length + (c.dems.length + k))))) wr) ∧ Hid (wr.heap[tb]? = some (.cells (tNames.map strW).toArray 9 (0, 0)))) (fun i _ => 5 - (intOf i).toNat)
           case atStart => exact ⟨0, Nat.zero_le _, rfl, HP1, HTB⟩
           case round =>
            clear HP1 HTB
            obtain ⟨k, hk, rfl, HPW, HTB⟩ := hrel
            have HKR := Lib.hid (HK.out.up HPW.out.b)
            have hws := HPW.out.b.size
            have hlt3 := HKR.out.lt
            have hne3 := Nat.ne_of_lt hlt3
            have hne4 := Nat.ne_of_gt hlt3
            have hlt5 := lt_of_heap HTB.out
            rcases (by omega : k = 0 ∨ k = 1 ∨ k = 2 ∨ k = 3 ∨ k = 4 ∨ k = 5) with rfl | rfl | rfl | rfl | rfl | rfl
            ·have d0 : wr.cell? ⟨tb, 0, none⟩ = some (.string ⟨#[104, 101, 108, 108, 111]⟩) := Lib.cell_of_heap HTB.out 0
             have htm := HOK.out.tim (k := 0) (by omega)
             have het : t0 = c.tm.getD 0 0 := HEQ.out.t0
             rw [← het] at htm
             have HET := Lib.hid het
             clear het
             obtain ⟨p8, p9, p10, p11, p12⟩ := HKR.out.gt HEQ.out
             have HLN : Hid ((linesC c)[c.names.length + (c.links.length + (c.pfx.length + (c.pols.length + (c.dems.length + 0))))]? = some [kTimer, [104, 101, 108, 108, 111], kEq, Lib.itoa t0]) := Lib.hid (by rw [lines6 (k := 0) (by omega), timW, ← HET.out]; rfl)
             go_wp2_with (first | (go_at_call 15; (refine (strconv_Itoa t0 (by omega) (by omega) wr.heap.size wr (tab_up HT0.out HPW.out.b HPW.out.b.size)).mono ?_); rintro e w6 ⟨rfl, hb6⟩; have HP6 := Lib.hid ((HPW.out.up hb6).up (below_box w6 (.cells #[.string ⟨#[116, 105, 109, 101, 114]⟩, .string ⟨#[104, 101, 108, 108, 111]⟩, .string ⟨#[61]⟩, .string ⟨(Lib.itoa t0).toArray⟩] 9))); have HT6 := Lib.hid (((below_box w6 (.cells #[.string ⟨#[116, 105, 109, 101, 114]⟩, .string ⟨#[104, 101, 108, 108, 111]⟩, .string ⟨#[61]⟩, .string ⟨(Lib.itoa t0).toArray⟩] 9)).block tb (Nat.lt_of_lt_of_le hlt5 hb6.size)).trans ((hb6.block tb hlt5).trans HTB.out)); clear hb6) | (go_at_call 14; (refine (HP6.out.line HFF.out HLN.out rfl (rd_lit _ _ _) (by simp) (by simp) (by simp)).mono ?_); rintro e w8 ⟨rfl, hp8, hk8⟩; have HP8 := Lib.hid hp8; have HT8 := Lib.hid (hk8 tb _ _ _ HT6.out (by decide) (by decide)); clear hp8 hk8))
             go_roundw
             case rel => exact ⟨1, by omega, by go_num, HP8, HT8⟩
             case measure => simp [intOf]
            ·have d0 : wr.cell? ⟨tb, 1, none⟩ = some (.string ⟨#[100, 101, 97, 100]⟩) := Lib.cell_of_heap HTB.out 1
             have htm := HOK.out.tim (k := 1) (by omega)
             have het : t1 = c.tm.getD 1 0 := HEQ.out.t1
             rw [← het] at htm
             have HET := Lib.hid het
             clear het
             obtain ⟨p8, p9, p10, p11, p12⟩ := HKR.out.gt HEQ.out
             have HLN : Hid ((linesC c)[c.names.length + (c.links.length + (c.pfx.length + (c.pols.length + (c.dems.length + 1))))]? = some [kTimer, [100, 101, 97, 100], kEq, Lib.itoa t1]) := Lib.hid (by rw [lines6 (k := 1) (by omega), timW, ← HET.out]; rfl)
             go_wp2_with (first | (go_at_call 15; (refine (strconv_Itoa t1 (by omega) (by omega) wr.heap.size wr (tab_up HT0.out HPW.out.b HPW.out.b.size)).mono ?_); rintro e w6 ⟨rfl, hb6⟩; have HP6 := Lib.hid ((HPW.out.up hb6).up (below_box w6 (.cells #[.string ⟨#[116, 105, 109, 101, 114]⟩, .string ⟨#[100, 101, 97, 100]⟩, .string ⟨#[61]⟩, .string ⟨(Lib.itoa t1).toArray⟩] 9))); have HT6 := Lib.hid (((below_box w6 (.cells #[.string ⟨#[116, 105, 109, 101, 114]⟩, .string ⟨#[100, 101, 97, 100]⟩, .string ⟨#[61]⟩, .string ⟨(Lib.itoa t1).toArray⟩] 9)).block tb (Nat.lt_of_lt_of_le hlt5 hb6.size)).trans ((hb6.block tb hlt5).trans HTB.out)); clear hb6) | (go_at_call 14; (refine (HP6.out.line HFF.out HLN.out rfl (rd_lit _ _ _) (by simp) (by simp) (by simp)).mono ?_); rintro e w8 ⟨rfl, hp8, hk8⟩; have HP8 := Lib.hid hp8; have HT8 := Lib.hid (hk8 tb _ _ _ HT6.out (by decide) (by decide)); clear hp8 hk8))
             go_roundw
             case rel => exact ⟨2, by omega, by go_num, HP8, HT8⟩
             case measure => simp [intOf]
            ·have d0 : wr.cell? ⟨tb, 2, none⟩ = some (.string ⟨#[100, 101, 116, 101, 99, 116]⟩) := Lib.cell_of_heap HTB.out 2
             have htm := HOK.out.tim (k := 2) (by omega)
             have het : t2 = c.tm.getD 2 0 := HEQ.out.t2
             rw [← het] at htm
             have HET := Lib.hid het
             clear het
             obtain ⟨p8, p9, p10, p11, p12⟩ := HKR.out.gt HEQ.out
             have HLN : Hid ((linesC c)[c.names.length + (c.links.length + (c.pfx.length + (c.pols.length + (c.dems.length + 2))))]? = some [kTimer, [100, 101, 116, 101, 99, 116], kEq, Lib.itoa t2]) := Lib.hid (by rw [lines6 (k := 2) (by omega), timW, ← HET.out]; rfl)
             go_wp2_with (first | (go_at_call 15; (refine (strconv_Itoa t2 (by omega) (by omega) wr.heap.size wr (tab_up HT0.out HPW.out.b HPW.out.b.size)).mono ?_); rintro e w6 ⟨rfl, hb6⟩; have HP6 := Lib.hid ((HPW.out.up hb6).up (below_box w6 (.cells #[.string ⟨#[116, 105, 109, 101, 114]⟩, .string ⟨#[100, 101, 116, 101, 99, 116]⟩, .string ⟨#[61]⟩, .string ⟨(Lib.itoa t2).toArray⟩] 9))); have HT6 := Lib.hid (((below_box w6 (.cells #[.string ⟨#[116, 105, 109, 101, 114]⟩, .string ⟨#[100, 101, 116, 101, 99, 116]⟩, .string ⟨#[61]⟩, .string ⟨(Lib.itoa t2).toArray⟩] 9)).block tb (Nat.lt_of_lt_of_le hlt5 hb6.size)).trans ((hb6.block tb hlt5).trans HTB.out)); clear hb6) | (go_at_call 14; (refine (HP6.out.line HFF.out HLN.out rfl (rd_lit _ _ _) (by simp) (by simp) (by simp)).mono ?_); rintro e w8 ⟨rfl, hp8, hk8⟩; have HP8 := Lib.hid hp8; have HT8 := Lib.hid (hk8 tb _ _ _ HT6.out (by decide) (by decide)); clear hp8 hk8))
             go_roundw
             case rel => exact ⟨3, by omega, by go_num, HP8, HT8⟩
             case measure => simp [intOf]
            ·have d0 : wr.cell? ⟨tb, 3, none⟩ = some (.string ⟨#[103, 97, 116, 104, 101, 114]⟩) := Lib.cell_of_heap HTB.out 3
             have htm := HOK.out.tim (k := 3) (by omega)
             have het : t3 = c.tm.getD 3 0 := HEQ.out.t3
             rw [← het] at htm
             have HET := Lib.hid het
             clear het
             obtain ⟨p8, p9, p10, p11, p12⟩ := HKR.out.gt HEQ.out
             have HLN : Hid ((linesC c)[c.names.length + (c.links.length + (c.pfx.length + (c.pols.length + (c.dems.length + 3))))]? = some [kTimer, [103, 97, 116, 104, 101, 114], kEq, Lib.itoa t3]) := Lib.hid (by rw [lines6 (k := 3) (by omega), timW, ← HET.out]; rfl)
             go_wp2_with (first | (go_at_call 15; (refine (strconv_Itoa t3 (by omega) (by omega) wr.heap.size wr (tab_up HT0.out HPW.out.b HPW.out.b.size)).mono ?_); rintro e w6 ⟨rfl, hb6⟩; have HP6 := Lib.hid ((HPW.out.up hb6).up (below_box w6 (.cells #[.string ⟨#[116, 105, 109, 101, 114]⟩, .string ⟨#[103, 97, 116, 104, 101, 114]⟩, .string ⟨#[61]⟩, .string ⟨(Lib.itoa t3).toArray⟩] 9))); have HT6 := Lib.hid (((below_box w6 (.cells #[.string ⟨#[116, 105, 109, 101, 114]⟩, .string ⟨#[103, 97, 116, 104, 101, 114]⟩, .string ⟨#[61]⟩, .string ⟨(Lib.itoa t3).toArray⟩] 9)).block tb (Nat.lt_of_lt_of_le hlt5 hb6.size)).trans ((hb6.block tb hlt5).trans HTB.out)); clear hb6) | (go_at_call 14; (refine (HP6.out.line HFF.out HLN.out rfl (rd_lit _ _ _) (by simp) (by simp) (by simp)).mono ?_); rintro e w8 ⟨rfl, hp8, hk8⟩; have HP8 := Lib.hid hp8; have HT8 := Lib.hid (hk8 tb _ _ _ HT6.out (by decide) (by decide)); clear hp8 hk8))
             go_roundw
             case rel => exact ⟨4, by omega, by go_num, HP8, HT8⟩
             case measure => simp [intOf]
            ·have d0 : wr.cell? ⟨tb, 4, none⟩ = some (.string ⟨#[104, 111, 108, 100]⟩) := Lib.cell_of_heap HTB.out 4
             have htm := HOK.out.tim (k := 4) (by omega)
             have het : t4 = c.tm.getD 4 0 := HEQ.out.t4
             rw [← het] at htm
             have HET := Lib.hid het
             clear het
             obtain ⟨p8, p9, p10, p11, p12⟩ := HKR.out.gt HEQ.out
             have HLN : Hid ((linesC c)[c.names.length + (c.links.length + (c.pfx.length + (c.pols.length + (c.dems.length + 4))))]? = some [kTimer, [104, 111, 108, 100], kEq, Lib.itoa t4]) := Lib.hid (by rw [lines6 (k := 4) (by omega), timW, ← HET.out]; rfl)
             go_wp2_with (first | (go_at_call 15; (refine (strconv_Itoa t4 (by omega) (by omega) wr.heap.size wr (tab_up HT0.out HPW.out.b HPW.out.b.size)).mono ?_); rintro e w6 ⟨rfl, hb6⟩; have HP6 := Lib.hid ((HPW.out.up hb6).up (below_box w6 (.cells #[.string ⟨#[116, 105, 109, 101, 114]⟩, .string ⟨#[104, 111, 108, 100]⟩, .string ⟨#[61]⟩, .string ⟨(Lib.itoa t4).toArray⟩] 9))); have HT6 := Lib.hid (((below_box w6 (.cells #[.string ⟨#[116, 105, 109, 101, 114]⟩, .string ⟨#[104, 111, 108, 100]⟩, .string ⟨#[61]⟩, .string ⟨(Lib.itoa t4).toArray⟩] 9)).block tb (Nat.lt_of_lt_of_le hlt5 hb6.size)).trans ((hb6.block tb hlt5).trans HTB.out)); clear hb6) | (go_at_call 14; (refine (HP6.out.line HFF.out HLN.out rfl (rd_lit _ _ _) (by simp) (by simp) (by simp)).mono ?_); rintro e w8 ⟨rfl, hp8, hk8⟩; have HP8 := Lib.hid hp8; have HT8 := Lib.hid (hk8 tb _ _ _ HT6.out (by decide) (by decide)); clear hp8 hk8))
             go_roundw
             case rel => exact ⟨5, by omega, by go_num, HP8, HT8⟩
             case measure => simp [intOf]
            ·have HPE := Lib.hid HPW.out.p
             rw [txt_end] at HPE
             have hne : printC c ≠ [] := by
              intro e
              have h1 := txt_succ (lines1 (c := c) (k := 0) (by have := HOK.out.nn; have := HOK.out.n1; omega))
              have h2 := txt_le c 1
              rw [h1, e, List.length_append] at h2
              simp [prnT] at h2
             go_wp2_with (go_at_call 19; refine (prn_String _ _ _ _ HPE.out hne).mono ?_; rintro e w9 ⟨rfl, hb9⟩)
             go_ret
             exact ⟨rfl, HK.out.hb.trans ((HPW.out.b.trans hb9).mono HK.out.hb.size)⟩
end Go.Proofs.YtfimacgmciogmaaGreatDoor
