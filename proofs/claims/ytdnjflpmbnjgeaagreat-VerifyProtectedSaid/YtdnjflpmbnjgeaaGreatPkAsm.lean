/-
  repair.assume (printed by gen_asm.py).
  What a node assumes to have failed, in plain Lean; assume's value answers so.
  repair.Covered: what it says, and the state of its loops.
-/
import Derived.Test.YtdnjflpmbnjgeaaGreatPkAsm0
import Derived.Test.YtdnjflpmbnjgeaaGreatPkInvR
import Derived.Test.YtdnjflpmbnjgeaaGreatPkFm
import Derived.Test.YtdnjflpmbnjgeaaGreatPkFe
set_option linter.unusedSimpArgs false
set_option linter.unusedVariables false
namespace Go.Proofs.YtdnjflpmbnjgeaaGreat
section
open Go.RowKit Go.Sort
def asrD : Nat → Nat
 | 0 => 14
 | 1 => 15
 | 2 => 16
 | 3 => 17
 | 4 => 18
 | 5 => 19
 | 6 => 5
 | 7 => 6
 | _ => 0
theorem asrD_lt : ∀ i, i < 8 → asrD i < 20 := by decide +kernel
theorem asrD_inj : ∀ i, i < 8 → ∀ j, j < 8 → asrD i = asrD j → i = j := by decide +kernel
def asrM : Nat → Option Obj
 | 6 => some (.cells #[.int .i64 0] 3)
 | 7 => some (.cells #[.int .i64 0] 3)
 | _ => none
def asrV (tv : Value) (a n h : Int) : Nat → Nat → Value
 | 0, _ => tv
 | 1, _ => .int .i64 a
 | 2, _ => .int .i64 n
 | 3, _ => tv
 | 4, _ => .int .i64 a
 | 5, _ => .int .i64 h
 | 6, x => .pointer (some ⟨x, 0, none⟩)
 | 7, x => .pointer (some ⟨x, 0, none⟩)
 | _, _ => undef
theorem asr_put (tv : Value) (a n h : Int) (xs : Nat → Nat) (T : Array Value) : putAll asrD (fun i => asrV tv a n h i (xs i)) 8 T = ((((((((T.setIfInBounds 14 (tv)).setIfInBounds 15 (.int .i64 a)).setIfInBounds 16 (.int .i64 n)).setIfInBounds 17 (tv)).setIfInBounds 18 (.int .i64 a)).setIfInBounds 19 (.int .i64 h)).setIfInBounds 5 (.pointer (some ⟨(xs 6), 0, none⟩))).setIfInBounds 6 (.pointer (some ⟨(xs 7), 0, none⟩))) := rfl
/-- assume's blocks, on the way. -/
structure AsmI (w : World) (A1 A2 : Option Addr) (c1 c2 : Nat) (t : Topo) (X : World) : Prop where
 tb : Bl 25 w.heap.size #[.int .i64 t.n, .slice A1 t.ov.length c1, .slice A2 t.ls.length c2] X
 ta : TAt X A1 A2 t
 hb : Below w.heap.size w X
theorem AsmI.up {w X Y : World} {A1 A2 : Option Addr} {c1 c2 : Nat} {t : Topo} (H : AsmI w A1 A2 c1 c2 t X) (hb : Below X.heap.size X Y) : AsmI w A1 A2 c1 c2 t Y := ⟨H.tb.up hb, H.ta.below hb, bQ H.hb hb⟩
structure AsmJ (w : World) (A1 A2 : Option Addr) (c1 c2 : Nat) (t : Topo) (a : Int) (b5 b6 x : Nat) (u : Value) (Y : World) : Prop where
 i : AsmI w A1 A2 c1 c2 t Y
 r5 : Bl 3 b5 #[.int .i64 (tail t a)] Y
 r6 : Bl 3 b6 #[.int .i64 (fZ t a)] Y
 r7 : Bl 79 x #[.int .i64 3, .int .i64 (lnk t a).g] Y
 r8 : Bl 79 (x + 1) #[.int .i64 2, .int .i64 (fZ t a)] Y
 r9 : Bl 79 (x + 1 + 1) #[.int .i64 1, .int .i64 (a / 2)] Y
 r11 : Bl 63 (x + 1 + 1 + 1) #[u] Y
theorem AsmJ.up {w X Y : World} {A1 A2 : Option Addr} {c1 c2 : Nat} {t : Topo} {a : Int} {b5 b6 x : Nat} {u : Value} (H : AsmJ w A1 A2 c1 c2 t a b5 b6 x u X) (hb : Below X.heap.size X Y) : AsmJ w A1 A2 c1 c2 t a b5 b6 x u Y := ⟨H.i.up hb, H.r5.up hb, H.r6.up hb, H.r7.up hb, H.r8.up hb, H.r9.up hb, H.r11.up hb⟩
theorem lnk_gbd {n : Int} {l : Lnk} (h : lnkOk n l = true) : 0 ≤ l.g ∧ l.g ≤ 64 := by
 simp only [lnkOk, inR, Bool.and_eq_true, decide_eq_true_eq] at h
 exact h.2
theorem Rd.setV {W : World} {b : Nat} {T : TypeId} {x v : Value} {A : Option Addr} {l : List Int} (h : Rd W A (l.map (Value.int .i64))) (hb : Bl T b #[x] W) (hx : ∀ n, x ≠ .int .i64 n) : Rd (W.setCell ⟨b, 0, none⟩ v) A (l.map (Value.int .i64)) := by
 rcases h with h | ⟨c, o, rfl, hc⟩
 ·exact .inl h
 ·refine .inr ⟨c, o, rfl, fun j u hu => ?_⟩
  have h1 := hc j u hu
  by_cases e : c = b
  ·subst e
   rw [Lib.cell_of_heap hb] at h1
   rw [List.getElem?_map] at hu
   obtain ⟨n, _, hn⟩ := Option.map_eq_some_iff.1 hu
   have h0 : o + j = 0 := by
    have := (Array.getElem?_eq_some_iff.1 h1).1
    simp at this
    omega
   rw [h0] at h1
   simp at h1
   exact absurd (h1.trans hn.symm) (hx n)
  ·exact (World.cell?_of_block (w := W) (Below.heap_setCell _ _ _ _ e)).trans h1
/-- The value that assume returns, and what it holds. -/
def AsmF (t : Topo) (a : Int) (f : Value) (w : World) : Prop :=
 ∃ (b13 b9 gs b7 b11 b8 b6 b12 : Nat) (Ag An : Option Addr) (lg cg ln cn : Nat) (dg dh : List Int), f = .func (.func 98) #[] #[.pointer (some ⟨b13, 0, none⟩), .pointer (some ⟨b9, 0, none⟩)] ∧
  AsmB t a (lnk t a).g (fZ t a) b13 b9 gs b7 b11 b8 b6 b12 Ag An lg cg ln cn dg dh w ∧
  (0 < (lnk t a).g → SR (sgFrom t (mask t [(3, (lnk t a).g)]) (tail t a)) dg) ∧ SR (sgFrom t (mask t [(2, fZ t a)]) (tail t a)) dh
theorem asm_end {w w3 : World} {A1 A2 : Option Addr} {c1 c2 : Nat} {t : Topo} {a : Int} {b5 b6 x : Nat} {Ag An : Option Addr} {lg cg cn : Nat} {dg dh : List Int} (HY : AsmJ w A1 A2 c1 c2 t a b5 b6 x (.slice Ag lg cg) w3)
    (hg : 0 < (lnk t a).g → lg = t.n.toNat ∧ dg.length = t.n.toNat ∧ Rd w3 Ag (dg.map (Value.int .i64))) (sg : 0 < (lnk t a).g → SR (sgFrom t (mask t [(3, (lnk t a).g)]) (tail t a)) dg) (hh : Rd w3 An (dh.map (Value.int .i64))) (sh : SR (sgFrom t (mask t [(2, fZ t a)]) (tail t a)) dh) :
    AsmF t a (.func (.func 98) #[] #[.pointer (some ⟨w3.heap.size + 1 + 1, 0, none⟩), .pointer (some ⟨x + 1 + 1, 0, none⟩)]) (((w3.alloc (.cells #[.slice An dh.length cn] 63)).alloc (.cells #[.func (.func 96) #[] #[.pointer (some ⟨x, 0, none⟩), .pointer (some ⟨x + 1 + 1 + 1, 0, none⟩)], .func (.func 97) #[] #[.pointer (some ⟨x + 1, 0, none⟩), .pointer (some ⟨b6, 0, none⟩), .pointer (some ⟨w3.heap.size, 0, none⟩)]] 139)).alloc (.cells #[.slice (some ⟨w3.heap.size + 1, 0, none⟩) 2 2] 140)) ∧ Below w.heap.size w (((w3.alloc (.cells #[.slice An dh.length cn] 63)).alloc (.cells #[.func (.func 96) #[] #[.pointer (some ⟨x, 0, none⟩), .pointer (some ⟨x + 1 + 1 + 1, 0, none⟩)], .func (.func 97) #[] #[.pointer (some ⟨x + 1, 0, none⟩), .pointer (some ⟨b6, 0, none⟩), .pointer (some ⟨w3.heap.size, 0, none⟩)]] 139)).alloc (.cells #[.slice (some ⟨w3.heap.size + 1, 0, none⟩) 2 2] 140)) := by
 have e1 := cQ w3 (.cells #[.slice An dh.length cn] 63)
 have e2 := cQ (w3.alloc (.cells #[.slice An dh.length cn] 63)) (.cells #[.func (.func 96) #[] #[.pointer (some ⟨x, 0, none⟩), .pointer (some ⟨x + 1 + 1 + 1, 0, none⟩)], .func (.func 97) #[] #[.pointer (some ⟨x + 1, 0, none⟩), .pointer (some ⟨b6, 0, none⟩), .pointer (some ⟨w3.heap.size, 0, none⟩)]] 139)
 have e3 := cQ ((w3.alloc (.cells #[.slice An dh.length cn] 63)).alloc (.cells #[.func (.func 96) #[] #[.pointer (some ⟨x, 0, none⟩), .pointer (some ⟨x + 1 + 1 + 1, 0, none⟩)], .func (.func 97) #[] #[.pointer (some ⟨x + 1, 0, none⟩), .pointer (some ⟨b6, 0, none⟩), .pointer (some ⟨w3.heap.size, 0, none⟩)]] 139)) (.cells #[.slice (some ⟨w3.heap.size + 1, 0, none⟩) 2 2] 140)
 have n1 := Bl.new w3 #[.slice An dh.length cn] 63
 have n2 := Bl.new (w3.alloc (.cells #[.slice An dh.length cn] 63)) #[.func (.func 96) #[] #[.pointer (some ⟨x, 0, none⟩), .pointer (some ⟨x + 1 + 1 + 1, 0, none⟩)], .func (.func 97) #[] #[.pointer (some ⟨x + 1, 0, none⟩), .pointer (some ⟨b6, 0, none⟩), .pointer (some ⟨w3.heap.size, 0, none⟩)]] 139
 have n3 := Bl.new ((w3.alloc (.cells #[.slice An dh.length cn] 63)).alloc (.cells #[.func (.func 96) #[] #[.pointer (some ⟨x, 0, none⟩), .pointer (some ⟨x + 1 + 1 + 1, 0, none⟩)], .func (.func 97) #[] #[.pointer (some ⟨x + 1, 0, none⟩), .pointer (some ⟨b6, 0, none⟩), .pointer (some ⟨w3.heap.size, 0, none⟩)]] 139)) #[.slice (some ⟨w3.heap.size + 1, 0, none⟩) 2 2] 140
 simp only [World.size_alloc] at n2 n3
 have H := ((HY.up e1).up e2).up e3
 exact ⟨⟨_, _, _, _, _, _, _, _, Ag, An, lg, cg, dh.length, cn, dg, dh, rfl, ⟨n3, n2.up e3, H.r9, H.r7, H.r11, H.r8, H.r6, (n1.up e2).up e3, fun y => ⟨(hg y).1, (hg y).2.1, (((hg y).2.2.below e1).below e2).below e3⟩, ⟨sh.len, sh.len, ((hh.below e1).below e2).below e3⟩⟩, sg, sh⟩, H.i.hb⟩
section
variable {w : World} {A1 A2 : Option Addr} {t : Topo}
set_option maxRecDepth 100000 in
set_option maxHeartbeats 8000000 in
theorem repair_assume (c1 c2 : Nat) (a : Int) (hv : valid t = true) (hT : TAt w A1 A2 t) (h0 : 0 ≤ a) (h1 : a < 2 * (t.ls.length : Int)) :
    Calls Tryz.prog 67 #[.agg #[.int .i64 t.n, .slice A1 t.ov.length c1, .slice A2 t.ls.length c2], .int .i64 a] w fun e w' => ∃ f, e = .returned f ∧ AsmF t a f w' ∧ Below w.heap.size w w' := by
 have hL := zQ hv
 have hbx := cQ w (.cells #[.int .i64 t.n, .slice A1 t.ov.length c1, .slice A2 t.ls.length c2] 25)
 have HX : Hid (AsmI w A1 A2 c1 c2 t (w.alloc (.cells #[.int .i64 t.n, .slice A1 t.ov.length c1, .slice A2 t.ls.length c2] 25))) := hU ⟨Bl.new _ _ _, hT.below hbx, hbx⟩
 have HV := hU hv
 have HT0 := hU hT
 have HL := hU hL
 have HA := hU (And.intro h0 h1)
 clear hL hbx hT hv h0 h1
 go_enter Tryz.func67, Tryz.ntmps67
 go_upto_region 1 with fail
 refine wp_region_mkT 8 asrD asrM (asrV (.agg #[.int .i64 t.n, .slice A1 t.ov.length c1, .slice A2 t.ls.length c2]) a (tail t a) (fZ t a)) (by kernel_rfl) (by kernel_rfl) (fun i j hi hj h => asrD_inj i hi j hj h) (fun i hi => by have := asrD_lt i hi; simp; omega) ?_ ?_
 ·intro L ac W xq i hi hst hr
  have HXW := hU ((HX.out.up (gQ _)).up hst.below)
  obtain ⟨y0, y1, y2, _⟩ := HXW.out.tb.c3
  match i, hi, hr with
  | 0, _, hr =>
   intro K hK
   have t2 : ac.tmps.getD 2 undef = .pointer (some ⟨w.heap.size, 0, none⟩) := (hst.old 2 (by decide +kernel)).trans rfl
   clear hst hr
   refine iQ _ rfl rfl ?_
   go_simp
   exact hK _ (Below.refl _ _)
  | 1, _, hr =>
   intro K hK
   have t1 : ac.tmps.getD 1 undef = .int .i64 a := (hst.old 1 (by decide +kernel)).trans rfl
   clear hst hr
   refine iQ _ rfl rfl ?_
   go_simp
   exact hK _ (Below.refl _ _)
  | 2, _, hr =>
   intro K hK
   have t14 : ac.tmps.getD 14 undef = .agg #[.int .i64 t.n, .slice A1 t.ov.length c1, .slice A2 t.ls.length c2] := hst.val 0 (by omega) (rU hr 0)
   have t15 : ac.tmps.getD 15 undef = .int .i64 a := hst.val 1 (by omega) (rU hr 1)
   clear hst hr
   refine iQ _ rfl rfl ?_
   go_simp
   with_reducible refine (graph_Tail _ _ _ _ t a _ HXW.out.ta.ls HA.out.1 HA.out.2 (by have := HL.out; omega)).mono ?_
   rintro e w9 ⟨rfl, hb⟩
   exact hK w9 hb
  | 3, _, hr =>
   intro K hK
   have t2 : ac.tmps.getD 2 undef = .pointer (some ⟨w.heap.size, 0, none⟩) := (hst.old 2 (by decide +kernel)).trans rfl
   clear hst hr
   refine iQ _ rfl rfl ?_
   go_simp
   exact hK _ (Below.refl _ _)
  | 4, _, hr =>
   intro K hK
   have t1 : ac.tmps.getD 1 undef = .int .i64 a := (hst.old 1 (by decide +kernel)).trans rfl
   clear hst hr
   refine iQ _ rfl rfl ?_
   go_simp
   exact hK _ (Below.refl _ _)
  | 5, _, hr =>
   intro K hK
   have t17 : ac.tmps.getD 17 undef = .agg #[.int .i64 t.n, .slice A1 t.ov.length c1, .slice A2 t.ls.length c2] := hst.val 3 (by omega) (rU hr 3)
   have t18 : ac.tmps.getD 18 undef = .int .i64 a := hst.val 4 (by omega) (rU hr 4)
   clear hst hr
   refine iQ _ rfl rfl ?_
   go_simp
   with_reducible refine (graph_Head _ _ _ _ t a _ HXW.out.ta.ls HA.out.1 HA.out.2 (by have := HL.out; omega)).mono ?_
   rintro e w9 ⟨rfl, hb⟩
   exact hK w9 hb
  | 6, _, hr =>
   intro K hK
   clear hst hr
   refine iQ _ rfl rfl ?_
   go_simp
   exact hK
  | 7, _, hr =>
   intro K hK
   clear hst hr
   refine iQ _ rfl rfl ?_
   go_simp
   exact hK
  | m + 8, hi, _ => exact absurd hi (by omega)
 ·intro W xs hbl hblk hinj
  simp only [asr_put, List.setIfInBounds_toArray, List.set_cons_zero, List.set_cons_succ]
  obtain ⟨l5, h5⟩ := hblk 6 _ (by omega) rfl
  obtain ⟨l6, h6⟩ := hblk 7 _ (by omega) rfl
  have h56 : xs 6 ≠ xs 7 := fun e => absurd (hinj 6 7 (by omega) (by omega) (by simp [asrM]) (by simp [asrM]) e) (by omega)
  generalize xs 6 = b5 at *
  generalize xs 7 = b6 at *
  replace HX := hU ((HX.out.up (gQ _)).up hbl)
  have HB5 := hU (show Bl 3 b5 #[.int .i64 0] W from h5)
  have HB6 := hU (show Bl 3 b6 #[.int .i64 0] W from h6)
  have H56 := hU h56
  have h65 := h56.symm
  have HLT := hU (show w.heap.size ≠ b5 ∧ w.heap.size ≠ b6 ∧ w.heap.size ≤ b5 ∧ w.heap.size ≤ b6 by
   have hs : (w.alloc (.cells #[.int .i64 t.n, .slice A1 t.ov.length c1, .slice A2 t.ls.length c2] 25)).drew.heap.size = w.heap.size + 1 := by simp
   omega)
  clear hbl hblk hinj h5 h6 l5 l6
  obtain ⟨s5, f5⟩ := HB5.out.c1
  obtain ⟨s6, f6⟩ := HB6.out.c1
  go_upto_region 2 with fail
  refine kQ (fun Y => AsmI w A1 A2 c1 c2 t Y ∧ Bl 3 b5 #[.int .i64 (tail t a)] Y ∧ Bl 3 b6 #[.int .i64 (fZ t a)] Y) ⟨?_, ((HB5.out.set 0 _ rfl).other H56.out _), ((HB6.out.other H56.out.symm _).set 0 _ rfl)⟩ ?_
  ·have hb := (HX.out.hb.setCell (p := ⟨b5, 0, none⟩) HLT.out.2.2.1 (.int .i64 (tail t a))).setCell (p := ⟨b6, 0, none⟩) HLT.out.2.2.2 (.int .i64 (fZ t a))
   exact ⟨(HX.out.tb.other HLT.out.1 _).other HLT.out.2.1 _, HT0.out.below hb, hb⟩
  clear HX HB5 HB6 s5 f5 s6 f6 h65
  rintro X ⟨hX, hB5, hB6⟩
  have HX := hU hX
  have HB5 := hU hB5
  have HB6 := hU hB6
  clear hX hB5 hB6
  obtain ⟨y0, y1, y2, _⟩ := HX.out.tb.c3
  obtain ⟨s6, _⟩ := HB6.out.c1
  obtain ⟨lb, lo, hA2, hla⟩ := HX.out.ta.ls.arc HA.out.1 HA.out.2
  have d6 := hla.q6
  clear hla
  subst hA2
  have hll := HL.out
  have h2 : a / 2 < (t.ls.length : Int) := by have := HA.out.2; omega
  have h3 : (0 : Int) ≤ a / 2 := by have := HA.out.1; omega
  have ha0 := HA.out.1
  have ha1 := HA.out.2
  have hlt6 : b6 < X.heap.size := HB6.out.lt
  have hne6 : b6 ≠ X.heap.size := Nat.ne_of_lt hlt6
  have hne6' : X.heap.size ≠ b6 := hne6.symm
  go_upto_region 7 with fail
  refine kQ (fun Y => AsmJ w A1 (some ⟨lb, lo, none⟩) c1 c2 t a b5 b6 X.heap.size (.slice none 0 0) Y) ?_ ?_
  ·have e1 := cQ X (.cells #[.int .i64 3, .int .i64 (lnk t a).g] 79)
   have e2 := cQ (X.alloc (.cells #[.int .i64 3, .int .i64 (lnk t a).g] 79)) (.cells #[.int .i64 2, .int .i64 (fZ t a)] 79)
   have e3 := cQ ((X.alloc (.cells #[.int .i64 3, .int .i64 (lnk t a).g] 79)).alloc (.cells #[.int .i64 2, .int .i64 (fZ t a)] 79)) (.cells #[.int .i64 1, .int .i64 (a / 2)] 79)
   have e4 := cQ (((X.alloc (.cells #[.int .i64 3, .int .i64 (lnk t a).g] 79)).alloc (.cells #[.int .i64 2, .int .i64 (fZ t a)] 79)).alloc (.cells #[.int .i64 1, .int .i64 (a / 2)] 79)) (.cells #[.slice none 0 0] 63)
   have n1 := Bl.new X #[.int .i64 3, .int .i64 (lnk t a).g] 79
   have n2 := Bl.new (X.alloc (.cells #[.int .i64 3, .int .i64 (lnk t a).g] 79)) #[.int .i64 2, .int .i64 (fZ t a)] 79
   have n3 := Bl.new ((X.alloc (.cells #[.int .i64 3, .int .i64 (lnk t a).g] 79)).alloc (.cells #[.int .i64 2, .int .i64 (fZ t a)] 79)) #[.int .i64 1, .int .i64 (a / 2)] 79
   have n4 := Bl.new (((X.alloc (.cells #[.int .i64 3, .int .i64 (lnk t a).g] 79)).alloc (.cells #[.int .i64 2, .int .i64 (fZ t a)] 79)).alloc (.cells #[.int .i64 1, .int .i64 (a / 2)] 79)) #[.slice none 0 0] 63
   simp only [World.size_alloc] at n2 n3 n4
   exact ⟨(((HX.out.up e1).up e2).up e3).up e4, (((HB5.out.up e1).up e2).up e3).up e4, (((HB6.out.up e1).up e2).up e3).up e4, ((n1.up e2).up e3).up e4, (n2.up e3).up e4, n3.up e4, n4⟩
  have HSX := hU (show b5 < X.heap.size ∧ b6 < X.heap.size ∧ w.heap.size < X.heap.size from ⟨HB5.out.lt, HB6.out.lt, HX.out.tb.lt⟩)
  have hgk : 0 ≤ (lnk t a).g ∧ (lnk t a).g ≤ 64 := lnk_gbd (valid_lnk HV.out (lnk_at HA.out.1 HA.out.2).2)
  have HC2 : Hid (compOk t 2 (fZ t a) = true ∧ isN t.n (tail t a) = true) := hU ⟨by rw [compOk2]; exact isN_true.2 (head_bd HV.out HA.out.1 HA.out.2), isN_true.2 (tail_bdO HV.out HA.out.1 HA.out.2)⟩
  clear HX HB5 HB6 y0 y1 y2 s6 d6 hll h2 h3 ha0 ha1 hlt6 hne6 hne6'
  generalize X.heap.size = x at *
  rintro Y hY
  have HY := hU hY
  clear hY
  obtain ⟨p0, p1, _⟩ := HY.out.r7.c2
  by_cases hg : 0 < (lnk t a).g
  ·have H1 := hU (asm_1 (w := Y) c1 c2 w.heap.size b5 3 (lnk t a).g (tail t a) HV.out (by rw [compOk3]; simp; omega) HC2.out.2 HY.out.i.ta (by have := HL.out; omega) HY.out.i.tb HY.out.r5)
   go_upto_region 9 with (go_at_call 95; (with_reducible refine H1.out.mono ?_); rintro e w2 ⟨Ag, cg, dg, rfl, hd, hs, hb⟩; have HD := hU hd; have HSR := hU hs; replace HY := hU (HY.out.up hb); clear hd hs hb H1 p0 p1; obtain ⟨u0, u1⟩ := HY.out.r11.c1)
   have HSG : Hid (0 < (lnk t a).g → SR (sgFrom t (mask t [(3, (lnk t a).g)]) (tail t a)) dg) := hU fun _ => HSR.out
   refine kQ (fun Y => AsmJ w A1 (some ⟨lb, lo, none⟩) c1 c2 t a b5 b6 x (.slice Ag dg.length cg) Y ∧ (0 < (lnk t a).g → dg.length = t.n.toNat ∧ dg.length = t.n.toNat ∧ Rd Y Ag (dg.map (Value.int .i64)))) ⟨?_, fun _ => ⟨HSR.out.len, HSR.out.len, HD.out.setV HY.out.r11 (by intro n h; cases h)⟩⟩ ?_
   ·have hx := HSX.out
    have hb := HY.out.i.hb.setCell (p := ⟨x + 1 + 1 + 1, 0, none⟩) (show w.heap.size ≤ x + 1 + 1 + 1 by omega) (.slice Ag dg.length cg)
    exact ⟨⟨HY.out.i.tb.other (by omega) _, HT0.out.below hb, hb⟩, HY.out.r5.other (by omega) _, HY.out.r6.other (by omega) _, HY.out.r7.other (by omega) _, HY.out.r8.other (by omega) _, HY.out.r9.other (by omega) _, HY.out.r11.set 0 _ rfl⟩
   clear HY u0 u1 HD HSR
   rintro Z ⟨hY, hG⟩
   have HY := hU hY
   have HGD := hU hG
   clear hY hG
   obtain ⟨p0, p1, _⟩ := HY.out.r8.c2
   have H2 := hU (asm_1 (w := Z) c1 c2 w.heap.size b5 2 (fZ t a) (tail t a) HV.out HC2.out.1 HC2.out.2 HY.out.i.ta (by have := HL.out; omega) HY.out.i.tb HY.out.r5)
   go_wp2_with (go_at_call 95; (with_reducible refine H2.out.mono ?_); rintro e w3 ⟨An, cn, dh, rfl, hd, hs, hb⟩; have HD2 := hU hd; have HSR2 := hU hs; replace HY := hU (HY.out.up hb); replace HGD := hU (fun x => (⟨(HGD.out x).1, (HGD.out x).2.1, (HGD.out x).2.2.below hb⟩ : _ ∧ _ ∧ _)); clear hd hs hb H2 p0 p1)
   go_ret
   obtain ⟨hF, hB⟩ := asm_end HY.out HGD.out HSG.out HD2.out HSR2.out
   exact ⟨_, rfl, hF, hB⟩
  ·go_upto_region 9 with fail
   have HSG : Hid (0 < (lnk t a).g → SR (sgFrom t (mask t [(3, (lnk t a).g)]) (tail t a)) []) := hU fun h => absurd h hg
   refine kQ (fun Y => AsmJ w A1 (some ⟨lb, lo, none⟩) c1 c2 t a b5 b6 x (.slice none 0 0) Y ∧ (0 < (lnk t a).g → 0 = t.n.toNat ∧ ([] : List Int).length = t.n.toNat ∧ Rd Y none (([] : List Int).map (Value.int .i64)))) ⟨HY.out, fun h => absurd h hg⟩ ?_
   clear HY p0 p1
   rintro Z ⟨hY, hG⟩
   have HY := hU hY
   have HGD := hU hG
   clear hY hG
   obtain ⟨p0, p1, _⟩ := HY.out.r8.c2
   have H2 := hU (asm_1 (w := Z) c1 c2 w.heap.size b5 2 (fZ t a) (tail t a) HV.out HC2.out.1 HC2.out.2 HY.out.i.ta (by have := HL.out; omega) HY.out.i.tb HY.out.r5)
   go_wp2_with (go_at_call 95; (with_reducible refine H2.out.mono ?_); rintro e w3 ⟨An, cn, dh, rfl, hd, hs, hb⟩; have HD2 := hU hd; have HSR2 := hU hs; replace HY := hU (HY.out.up hb); replace HGD := hU (fun x => (⟨(HGD.out x).1, (HGD.out x).2.1, (HGD.out x).2.2.below hb⟩ : _ ∧ _ ∧ _)); clear hd hs hb H2 p0 p1)
   go_ret
   obtain ⟨hF, hB⟩ := asm_end HY.out HGD.out HSG.out HD2.out HSR2.out
   exact ⟨_, rfl, hF, hB⟩
end
open Classical in
/-- What a node assumes to have failed. -/
noncomputable def asmV (t : Topo) (a d : Int) : Int × Int :=
 if 0 < (lnk t a).g ∧ reach t (mask t [(3, (lnk t a).g)]) (tail t a) d then (3, (lnk t a).g)
 else if d ≠ fZ t a ∧ reach t (mask t [(2, fZ t a)]) (tail t a) d then (2, fZ t a) else (1, a / 2)
theorem asm_val {t : Topo} {a d : Int} {dg dh : List Int} (hv : valid t = true) (hn : isN t.n (tail t a) = true) (hd : isN t.n d = true)
    (sg : 0 < (lnk t a).g → SR (sgFrom t (mask t [(3, (lnk t a).g)]) (tail t a)) dg) (sh : SR (sgFrom t (mask t [(2, fZ t a)]) (tail t a)) dh) :
    asmP t a (lnk t a).g (fZ t a) dg dh d = asmV t a d := by
 obtain ⟨h0, h1⟩ := isN_true.1 hd
 have h2 : d < ((sgFrom t (mask t [(2, fZ t a)]) (tail t a)).N : Int) := by show d < (t.n.toNat : Int); omega
 have e2 := (sh.iff (sgFrom_ok hv hn) h0 h2).trans rchFrom
 have e1 : ((decide (0 < (lnk t a).g) && decide (0 ≤ dD dg d)) = true) ↔ (0 < (lnk t a).g ∧ reach t (mask t [(3, (lnk t a).g)]) (tail t a) d) := by
  rw [Bool.and_eq_true, decide_eq_true_eq, decide_eq_true_eq]
  constructor
  ·rintro ⟨g1, g2⟩
   exact ⟨g1, (((sg g1).iff (sgFrom_ok hv hn) h0 h2).trans rchFrom).1 g2⟩
  ·rintro ⟨g1, g2⟩
   exact ⟨g1, (((sg g1).iff (sgFrom_ok hv hn) h0 h2).trans rchFrom).2 g2⟩
 have e3 : ((decide (d ≠ fZ t a) && decide (0 ≤ dD dh d)) = true) ↔ (d ≠ fZ t a ∧ reach t (mask t [(2, fZ t a)]) (tail t a) d) := by
  rw [Bool.and_eq_true, decide_eq_true_eq, decide_eq_true_eq, e2]
 unfold asmP asmV
 by_cases c1 : (0 < (lnk t a).g ∧ reach t (mask t [(3, (lnk t a).g)]) (tail t a) d)
 ·rw [if_pos (e1.2 c1), if_pos c1]
 ·rw [if_neg (fun h => c1 (e1.1 h)), if_neg c1]
  by_cases c2 : (d ≠ fZ t a ∧ reach t (mask t [(2, fZ t a)]) (tail t a) d)
  ·rw [if_pos (e3.2 c2), if_pos c2]
  ·rw [if_neg (fun h => c2 (e3.1 h)), if_neg c2]
theorem AsmF.up {t : Topo} {a : Int} {f : Value} {w w' : World} (h : AsmF t a f w) (hb : Below w.heap.size w w') : AsmF t a f w' := by
 obtain ⟨b13, b9, gs, b7, b11, b8, b6, b12, Ag, An, lg, cg, ln, cn, dg, dh, he, hB, sg, sh⟩ := h
 exact ⟨b13, b9, gs, b7, b11, b8, b6, b12, Ag, An, lg, cg, ln, cn, dg, dh, he, hB.up hb, sg, sh⟩
/-- Such a value answers so, now and later. -/
theorem AsmF.call {t : Topo} {a : Int} {f : Value} {w : World} (h : AsmF t a f w) (hv : valid t = true) (h0 : 0 ≤ a) (h1 : a < 2 * (t.ls.length : Int)) :
    ∃ p q : Value, f = .func (.func 98) #[] #[p, q] ∧ ∀ d, isN t.n d = true → ∀ W, Below w.heap.size w W → Calls Tryz.prog 98 #[.int .i64 d, p, q] W (RetCp W (asmV t a d).1 (asmV t a d).2) := by
 obtain ⟨b13, b9, gs, b7, b11, b8, b6, b12, Ag, An, lg, cg, ln, cn, dg, dh, he, hB, sg, sh⟩ := h
 refine ⟨_, _, he, fun d hd W hb => ?_⟩
 have hn := iZ hv
 have := asm_4 d (by omega) hd (hB.up hb)
 rwa [asm_val hv (isN_true.2 (tail_bdO hv h0 h1)) hd sg sh] at this
/-- What it answers is a component of the topology. -/
theorem asmV_bd {t : Topo} {a d : Int} (hv : valid t = true) (h0 : 0 ≤ a) (h1 : a < 2 * (t.ls.length : Int)) : 1 ≤ (asmV t a d).1 ∧ (asmV t a d).1 ≤ 3 ∧ 0 ≤ (asmV t a d).2 ∧ (asmV t a d).2 ≤ 256 := by
 have hg := lnk_gbd (valid_lnk hv (lnk_at h0 h1).2)
 have hh := head_bd hv h0 h1
 have hn := iZ hv
 have hl := zQ hv
 unfold asmV
 split
 ·exact ⟨by omega, by omega, by omega, by show (lnk t a).g ≤ 256; omega⟩
 ·split
  ·exact ⟨by omega, by omega, hh.1, by show fZ t a ≤ 256; omega⟩
  ·exact ⟨by omega, by omega, by show 0 ≤ a / 2; omega, by show a / 2 ≤ 256; omega⟩
/-- An arc of a component, with its tail left: what its tail assumes holds the component. -/
def covA (t : Topo) (k m a : Int) : Prop := part t k m (a / 2) = true → ¬ (k = 2 ∧ m = tail t a) → ∀ d, 0 ≤ d → d < t.n → reach t (mask t [(k, m)]) (tail t a) d → yQ t k m (asmV t a d).1 (asmV t a d).2 = true
/-- All points of local repair assume a component that holds what failed. -/
def covP (t : Topo) (k m : Int) : Prop := gZ t k m = true ∧ ∀ a, 0 ≤ a → a < 2 * (t.ls.length : Int) → covA t k m a
/-- A map is no block of cells. -/
theorem Bl.kpm {T : TypeId} {b mb : Nat} {cs : Array Value} {w w' : World} {es : Array MapEntry} {cl : Nat} (h : Bl T b cs w) (hK : Kp [mb] w w') (hm : w.heap[mb]? = some (.map es cl)) : Bl T b cs w' :=
 h.kp hK (by
  rw [List.mem_singleton]
  rintro rfl
  have := h.symm.trans hm
  cases this)
theorem Rd.kpm {A : Option Addr} {mb : Nat} {xs : List Value} {w w' : World} {es : Array MapEntry} {cl : Nat} (h : Rd w A xs) (hK : Kp [mb] w w') (hm : w.heap[mb]? = some (.map es cl)) : Rd w' A xs := by
 rcases h with h | ⟨c, o, rfl, hc⟩
 ·exact .inl h
 ·refine .inr ⟨c, o, rfl, fun j u hu => ?_⟩
  have h1 := hc j u hu
  have hlt : c < w.heap.size := by
   rcases Nat.lt_or_ge c w.heap.size with h2 | h2
   ·exact h2
   ·simp [World.cell?, Array.getElem?_eq_none h2] at h1
  by_cases e : c = mb
  ·subst e
   simp [World.cell?, hm] at h1
  ·rw [World.cell?_of_block (w := w) (hK.blk c hlt (by simpa using e))]
   exact h1
theorem asmB_kpm {t : Topo} {arc g h : Int} {b13 b9 gs b7 b11 b8 b6 b12 : Nat} {Ag An : Option Addr} {lg cg ln cn : Nat} {dg dh : List Int} {w w' : World} {mb : Nat} {es : Array MapEntry} {cl : Nat} (H : AsmB t arc g h b13 b9 gs b7 b11 b8 b6 b12 Ag An lg cg ln cn dg dh w) (hK : Kp [mb] w w') (hm : w.heap[mb]? = some (.map es cl)) : AsmB t arc g h b13 b9 gs b7 b11 b8 b6 b12 Ag An lg cg ln cn dg dh w' :=
 ⟨H.r13.kpm hK hm, H.rgs.kpm hK hm, H.r9.kpm hK hm, H.r7.kpm hK hm, H.r11.kpm hK hm, H.r8.kpm hK hm, H.r6.kpm hK hm, H.r12.kpm hK hm, fun x => ⟨(H.hg x).1, (H.hg x).2.1, (H.hg x).2.2.kpm hK hm⟩, ⟨H.hh.1, H.hh.2.1, H.hh.2.2.kpm hK hm⟩⟩
theorem AsmF.kpm {t : Topo} {a : Int} {f : Value} {mb : Nat} {w w' : World} {es : Array MapEntry} {cl : Nat} (h : AsmF t a f w) (hK : Kp [mb] w w') (hm : w.heap[mb]? = some (.map es cl)) : AsmF t a f w' := by
 obtain ⟨b13, b9, gs, b7, b11, b8, b6, b12, Ag, An, lg, cg, ln, cn, dg, dh, he, H, sg, sh⟩ := h
 exact ⟨b13, b9, gs, b7, b11, b8, b6, b12, Ag, An, lg, cg, ln, cn, dg, dh, he, asmB_kpm H hK hm, sg, sh⟩
theorem AsmF.form {t : Topo} {a : Int} {f : Value} {w : World} (h : AsmF t a f w) : ∃ p q, f = .func (.func 98) #[] #[p, q] := by
 obtain ⟨b13, b9, gs, b7, b11, b8, b6, b12, Ag, An, lg, cg, ln, cn, dg, dh, he, _⟩ := h
 exact ⟨_, _, he⟩
theorem AsmF.call2 {t : Topo} {a : Int} {p q : Value} {w : World} (h : AsmF t a (.func (.func 98) #[] #[p, q]) w) (hv : valid t = true) (h0 : 0 ≤ a) (h1 : a < 2 * (t.ls.length : Int)) (d : Int) (hd : isN t.n d = true) :
    Calls Tryz.prog 98 #[.int .i64 d, p, q] w (RetCp w (asmV t a d).1 (asmV t a d).2) := by
 obtain ⟨p', q', he, hc⟩ := h.call hv h0 h1
 have h2 := hc d hd w (Below.refl _ _)
 simp only [Value.func.injEq, true_and, Array.mk.injEq, List.cons.injEq, and_true] at he
 rw [he.1, he.2]
 exact h2
/-- Covered's memory. -/
structure CvW (w : World) (A1 A2 : Option Addr) (c1 c2 : Nat) (t : Topo) (k m : Int) (A : Option Addr) (mb : Nat) (f : Int × Int → Option Bool) (Y : World) : Prop where
 tb : Bl 25 w.heap.size #[.int .i64 t.n, .slice A1 t.ov.length c1, .slice A2 t.ls.length c2] Y
 cb : Bl 79 (w.heap.size + 1) #[.int .i64 k, .int .i64 m] Y
 hb : Below w.heap.size w Y
 rd : Rd Y A ((mask t [(k, m)]).map Value.bool)
 fm : FM Tryz.prog 79 enc2 Value.bool mb f Y
 ok : ∀ c b, f c = some b → b = yQ t k m c.1 c.2
 lt : w.heap.size + 1 < mb
theorem FM.isMap {α β : Type} {P : Program} {k : TypeId} {enc : α → Value} {ev : β → Value} {b : Nat} {f : α → Option β} {w : World} (h : FM P k enc ev b f w) : ∃ es cl, w.heap[b]? = some (.map es cl) := by
 obtain ⟨L, ⟨es, clock, hb, _⟩, _⟩ := h
 exact ⟨es, clock, hb⟩
section
variable {w Y Z : World} {A1 A2 A : Option Addr} {c1 c2 mb : Nat} {t : Topo} {k m : Int} {f : Int × Int → Option Bool}
theorem CvW.up (H : CvW w A1 A2 c1 c2 t k m A mb f Y) (hb : Below Y.heap.size Y Z) : CvW w A1 A2 c1 c2 t k m A mb f Z :=
 ⟨H.tb.up hb, H.cb.up hb, bQ H.hb hb, H.rd.below hb, H.fm.up hb, H.ok, H.lt⟩
theorem CvW.put (H : CvW w A1 A2 c1 c2 t k m A mb f Y) {c : Int × Int} {v : Bool} (hv : v = yQ t k m c.1 c.2) (hg : Y.grownBy Z (some mb)) (hf : FM Tryz.prog 79 enc2 Value.bool mb (fun x => if x = c then some v else f x) Z) :
    CvW w A1 A2 c1 c2 t k m A mb (fun x => if x = c then some v else f x) Z := by
 obtain ⟨es, cl, hm⟩ := H.fm.isMap
 have hl := H.lt
 refine ⟨H.tb.kpm (kp_of hg) hm, H.cb.kpm (kp_of hg) hm, H.hb.grown hg H.hb.size (fun k e => by cases e; omega), H.rd.kpm (kp_of hg) hm, hf, fun x b h => ?_, H.lt⟩
 by_cases e : x = c
 ·subst e; simp at h; exact h ▸ hv
 ·rw [if_neg e] at h; exact H.ok x b h
end
theorem covA_no {t : Topo} {k m a : Int} (h : part t k m (a / 2) = false) : covA t k m a := fun h1 => by rw [h] at h1; cases h1
theorem mask_atN {t : Topo} {k m : Int} {j : Nat} (h : j < 2 * t.ls.length) : (mask t [(k, m)])[j]? = some (part t k m ((j : Int) / 2)) := by
 simp [mask, h, partA]
end
end Go.Proofs.YtdnjflpmbnjgeaaGreat
