/-
  repair.assume (printed by gen_asm.py).
  What a node assumes to have failed, in plain Lean; assume's value answers so.
-/
import Derived.Test.YtdnjflpmbnjgeaaPkAsm0
import Derived.Test.YtdnjflpmbnjgeaaMkR
namespace Go.Proofs.Ytdnjflpmbnjgeaa
set_option linter.unusedSimpArgs false
set_option linter.unusedVariables false
open Go.RowKit Go.Sort
def asrD : Nat → Nat
  | 0 => 14
  | 1 => 15
  | 2 => 16
  | 3 => 17
  | 4 => 18
  | 5 => 19
  | 6 => 5
  | 7 => 6
  | _ => 0
theorem asrD_lt : ∀ i, i < 8 → asrD i < 20 := by decide +kernel
theorem asrD_inj : ∀ i, i < 8 → ∀ j, j < 8 → asrD i = asrD j → i = j := by decide +kernel
def asrM : Nat → Option Obj
  | 6 => some (.cells #[.int .i64 0] 3)
  | 7 => some (.cells #[.int .i64 0] 3)
  | _ => none
def asrV (tv : Value) (a n h : Int) : Nat → Nat → Value
  | 0, _ => tv
  | 1, _ => .int .i64 a
  | 2, _ => .int .i64 n
  | 3, _ => tv
  | 4, _ => .int .i64 a
  | 5, _ => .int .i64 h
  | 6, x => .pointer (some ⟨x, 0, none⟩)
  | 7, x => .pointer (some ⟨x, 0, none⟩)
  | _, _ => undef
theorem asr_put (tv : Value) (a n h : Int) (xs : Nat → Nat) (T : Array Value) : putAll asrD (fun i => asrV tv a n h i (xs i)) 8 T = ((((((((T.setIfInBounds 14 (tv)).setIfInBounds 15 (.int .i64 a)).setIfInBounds 16 (.int .i64 n)).setIfInBounds 17 (tv)).setIfInBounds 18 (.int .i64 a)).setIfInBounds 19 (.int .i64 h)).setIfInBounds 5 (.pointer (some ⟨(xs 6), 0, none⟩))).setIfInBounds 6 (.pointer (some ⟨(xs 7), 0, none⟩))) := rfl
/-- assume's blocks, on the way. -/
structure AsmI (w : World) (A1 A2 : Option Addr) (c1 c2 : Nat) (t : Topo) (X : World) : Prop where
  tb : Bl 25 w.heap.size #[.int .i64 t.n, .slice A1 t.ov.length c1, .slice A2 t.ls.length c2] X
  ta : TAt X A1 A2 t
  hb : Below w.heap.size w X
theorem AsmI.up {w X Y : World} {A1 A2 : Option Addr} {c1 c2 : Nat} {t : Topo} (H : AsmI w A1 A2 c1 c2 t X) (hb : Below X.heap.size X Y) : AsmI w A1 A2 c1 c2 t Y := ⟨H.tb.up hb, H.ta.below hb, below_next H.hb hb⟩
structure AsmJ (w : World) (A1 A2 : Option Addr) (c1 c2 : Nat) (t : Topo) (a : Int) (b5 b6 x : Nat) (u : Value) (Y : World) : Prop where
  i : AsmI w A1 A2 c1 c2 t Y
  r5 : Bl 3 b5 #[.int .i64 (tail t a)] Y
  r6 : Bl 3 b6 #[.int .i64 (head t a)] Y
  r7 : Bl 77 x #[.int .i64 3, .int .i64 (lnk t a).g] Y
  r8 : Bl 77 (x + 1) #[.int .i64 2, .int .i64 (head t a)] Y
  r9 : Bl 77 (x + 1 + 1) #[.int .i64 1, .int .i64 (a / 2)] Y
  r11 : Bl 58 (x + 1 + 1 + 1) #[u] Y
theorem AsmJ.up {w X Y : World} {A1 A2 : Option Addr} {c1 c2 : Nat} {t : Topo} {a : Int} {b5 b6 x : Nat} {u : Value} (H : AsmJ w A1 A2 c1 c2 t a b5 b6 x u X) (hb : Below X.heap.size X Y) : AsmJ w A1 A2 c1 c2 t a b5 b6 x u Y := ⟨H.i.up hb, H.r5.up hb, H.r6.up hb, H.r7.up hb, H.r8.up hb, H.r9.up hb, H.r11.up hb⟩
theorem lnk_gbd {n : Int} {l : Lnk} (h : lnkOk n l = true) : 0 ≤ l.g ∧ l.g ≤ 64 := by
  simp only [lnkOk, inR, Bool.and_eq_true, decide_eq_true_eq] at h
  exact h.2
theorem Rd.setV {W : World} {b : Nat} {T : TypeId} {x v : Value} {A : Option Addr} {l : List Int} (h : Rd W A (l.map (Value.int .i64))) (hb : Bl T b #[x] W) (hx : ∀ n, x ≠ .int .i64 n) : Rd (W.setCell ⟨b, 0, none⟩ v) A (l.map (Value.int .i64)) := by
  rcases h with h | ⟨c, o, rfl, hc⟩
  · exact .inl h
  · refine .inr ⟨c, o, rfl, fun j u hu => ?_⟩
    have h1 := hc j u hu
    by_cases e : c = b
    · subst e
      rw [Lib.cell_of_heap hb] at h1
      rw [List.getElem?_map] at hu
      obtain ⟨n, _, hn⟩ := Option.map_eq_some_iff.1 hu
      have h0 : o + j = 0 := by
        have := (Array.getElem?_eq_some_iff.1 h1).1
        simp at this
        omega
      rw [h0] at h1
      simp at h1
      exact absurd (h1.trans hn.symm) (hx n)
    · exact (World.cell?_of_block (w := W) (Below.heap_setCell _ _ _ _ e)).trans h1
/-- The value that assume returns, and what it holds. -/
def AsmF (t : Topo) (a : Int) (f : Value) (w : World) : Prop :=
  ∃ (b13 b9 gs b7 b11 b8 b6 b12 : Nat) (Ag An : Option Addr) (lg cg ln cn : Nat) (dg dh : List Int), f = .func (.func 70) #[] #[.pointer (some ⟨b13, 0, none⟩), .pointer (some ⟨b9, 0, none⟩)] ∧
    AsmB t a (lnk t a).g (head t a) b13 b9 gs b7 b11 b8 b6 b12 Ag An lg cg ln cn dg dh w ∧
    (0 < (lnk t a).g → SR (sgFrom t (mask t [(3, (lnk t a).g)]) (tail t a)) dg) ∧ SR (sgFrom t (mask t [(2, head t a)]) (tail t a)) dh
theorem asm_end {w w3 : World} {A1 A2 : Option Addr} {c1 c2 : Nat} {t : Topo} {a : Int} {b5 b6 x : Nat} {Ag An : Option Addr} {lg cg cn : Nat} {dg dh : List Int} (HY : AsmJ w A1 A2 c1 c2 t a b5 b6 x (.slice Ag lg cg) w3)
    (hg : 0 < (lnk t a).g → lg = t.n.toNat ∧ dg.length = t.n.toNat ∧ Rd w3 Ag (dg.map (Value.int .i64))) (sg : 0 < (lnk t a).g → SR (sgFrom t (mask t [(3, (lnk t a).g)]) (tail t a)) dg) (hh : Rd w3 An (dh.map (Value.int .i64))) (sh : SR (sgFrom t (mask t [(2, head t a)]) (tail t a)) dh) :
    AsmF t a (.func (.func 70) #[] #[.pointer (some ⟨w3.heap.size + 1 + 1, 0, none⟩), .pointer (some ⟨x + 1 + 1, 0, none⟩)]) (((w3.alloc (.cells #[.slice An dh.length cn] 58)).alloc (.cells #[.func (.func 68) #[] #[.pointer (some ⟨x, 0, none⟩), .pointer (some ⟨x + 1 + 1 + 1, 0, none⟩)], .func (.func 69) #[] #[.pointer (some ⟨x + 1, 0, none⟩), .pointer (some ⟨b6, 0, none⟩), .pointer (some ⟨w3.heap.size, 0, none⟩)]] 128)).alloc (.cells #[.slice (some ⟨w3.heap.size + 1, 0, none⟩) 2 2] 129)) ∧ Below w.heap.size w (((w3.alloc (.cells #[.slice An dh.length cn] 58)).alloc (.cells #[.func (.func 68) #[] #[.pointer (some ⟨x, 0, none⟩), .pointer (some ⟨x + 1 + 1 + 1, 0, none⟩)], .func (.func 69) #[] #[.pointer (some ⟨x + 1, 0, none⟩), .pointer (some ⟨b6, 0, none⟩), .pointer (some ⟨w3.heap.size, 0, none⟩)]] 128)).alloc (.cells #[.slice (some ⟨w3.heap.size + 1, 0, none⟩) 2 2] 129)) := by
  have e1 := below_box w3 (.cells #[.slice An dh.length cn] 58)
  have e2 := below_box (w3.alloc (.cells #[.slice An dh.length cn] 58)) (.cells #[.func (.func 68) #[] #[.pointer (some ⟨x, 0, none⟩), .pointer (some ⟨x + 1 + 1 + 1, 0, none⟩)], .func (.func 69) #[] #[.pointer (some ⟨x + 1, 0, none⟩), .pointer (some ⟨b6, 0, none⟩), .pointer (some ⟨w3.heap.size, 0, none⟩)]] 128)
  have e3 := below_box ((w3.alloc (.cells #[.slice An dh.length cn] 58)).alloc (.cells #[.func (.func 68) #[] #[.pointer (some ⟨x, 0, none⟩), .pointer (some ⟨x + 1 + 1 + 1, 0, none⟩)], .func (.func 69) #[] #[.pointer (some ⟨x + 1, 0, none⟩), .pointer (some ⟨b6, 0, none⟩), .pointer (some ⟨w3.heap.size, 0, none⟩)]] 128)) (.cells #[.slice (some ⟨w3.heap.size + 1, 0, none⟩) 2 2] 129)
  have n1 := Bl.new w3 #[.slice An dh.length cn] 58
  have n2 := Bl.new (w3.alloc (.cells #[.slice An dh.length cn] 58)) #[.func (.func 68) #[] #[.pointer (some ⟨x, 0, none⟩), .pointer (some ⟨x + 1 + 1 + 1, 0, none⟩)], .func (.func 69) #[] #[.pointer (some ⟨x + 1, 0, none⟩), .pointer (some ⟨b6, 0, none⟩), .pointer (some ⟨w3.heap.size, 0, none⟩)]] 128
  have n3 := Bl.new ((w3.alloc (.cells #[.slice An dh.length cn] 58)).alloc (.cells #[.func (.func 68) #[] #[.pointer (some ⟨x, 0, none⟩), .pointer (some ⟨x + 1 + 1 + 1, 0, none⟩)], .func (.func 69) #[] #[.pointer (some ⟨x + 1, 0, none⟩), .pointer (some ⟨b6, 0, none⟩), .pointer (some ⟨w3.heap.size, 0, none⟩)]] 128)) #[.slice (some ⟨w3.heap.size + 1, 0, none⟩) 2 2] 129
  simp only [World.size_alloc] at n2 n3
  have H := ((HY.up e1).up e2).up e3
  exact ⟨⟨_, _, _, _, _, _, _, _, Ag, An, lg, cg, dh.length, cn, dg, dh, rfl, ⟨n3, n2.up e3, H.r9, H.r7, H.r11, H.r8, H.r6, (n1.up e2).up e3, fun y => ⟨(hg y).1, (hg y).2.1, (((hg y).2.2.below e1).below e2).below e3⟩, ⟨sh.len, sh.len, ((hh.below e1).below e2).below e3⟩⟩, sg, sh⟩, H.i.hb⟩
section
variable {w : World} {A1 A2 : Option Addr} {t : Topo}
set_option maxRecDepth 100000 in
set_option maxHeartbeats 8000000 in
theorem repair_assume (c1 c2 : Nat) (a : Int) (hv : valid t = true) (hT : TAt w A1 A2 t) (h0 : 0 ≤ a) (h1 : a < 2 * (t.ls.length : Int)) :
    Calls Try.prog 50 #[.agg #[.int .i64 t.n, .slice A1 t.ov.length c1, .slice A2 t.ls.length c2], .int .i64 a] w fun e w' => ∃ f, e = .returned f ∧ AsmF t a f w' ∧ Below w.heap.size w w' := by
  have hL := valid_ls hv
  have hbx := below_box w (.cells #[.int .i64 t.n, .slice A1 t.ov.length c1, .slice A2 t.ls.length c2] 25)
  have HX : Hid (AsmI w A1 A2 c1 c2 t (w.alloc (.cells #[.int .i64 t.n, .slice A1 t.ov.length c1, .slice A2 t.ls.length c2] 25))) := Lib.hid ⟨Bl.new _ _ _, hT.below hbx, hbx⟩
  have HV := Lib.hid hv
  have HT0 := Lib.hid hT
  have HL := Lib.hid hL
  have HA := Lib.hid (And.intro h0 h1)
  clear hL hbx hT hv h0 h1
  go_enter Try.func50, Try.ntmps50
  go_upto_region 1 with fail
  refine wp_region_mkT 8 asrD asrM (asrV (.agg #[.int .i64 t.n, .slice A1 t.ov.length c1, .slice A2 t.ls.length c2]) a (tail t a) (head t a)) (by kernel_rfl) (by kernel_rfl) (fun i j hi hj h => asrD_inj i hi j hj h) (fun i hi => by have := asrD_lt i hi; simp; omega) ?_ ?_
  · intro L ac W xq i hi hst hr
    have HXW := Lib.hid ((HX.out.up (below_drwV _)).up hst.below)
    obtain ⟨y0, y1, y2, _⟩ := HXW.out.tb.c3
    match i, hi, hr with
    | 0, _, hr =>
      intro K hK
      have t2 : ac.tmps.getD 2 undef = .pointer (some ⟨w.heap.size, 0, none⟩) := (hst.old 2 (by decide +kernel)).trans rfl
      clear hst hr
      refine wpOp_at _ rfl rfl ?_
      go_simp
      exact hK _ (Below.refl _ _)
    | 1, _, hr =>
      intro K hK
      have t1 : ac.tmps.getD 1 undef = .int .i64 a := (hst.old 1 (by decide +kernel)).trans rfl
      clear hst hr
      refine wpOp_at _ rfl rfl ?_
      go_simp
      exact hK _ (Below.refl _ _)
    | 2, _, hr =>
      intro K hK
      have t14 : ac.tmps.getD 14 undef = .agg #[.int .i64 t.n, .slice A1 t.ov.length c1, .slice A2 t.ls.length c2] := hst.val 0 (by omega) (ready_dep hr (e := ⟨0, .data⟩) rfl (by simp) rfl)
      have t15 : ac.tmps.getD 15 undef = .int .i64 a := hst.val 1 (by omega) (ready_dep hr (e := ⟨1, .data⟩) rfl (by simp) rfl)
      clear hst hr
      refine wpOp_at _ rfl rfl ?_
      go_simp
      with_reducible refine (graph_Tail _ _ _ _ t a _ HXW.out.ta.ls HA.out.1 HA.out.2 (by have := HL.out; omega)).mono ?_
      rintro e w9 ⟨rfl, hb⟩
      exact hK w9 hb
    | 3, _, hr =>
      intro K hK
      have t2 : ac.tmps.getD 2 undef = .pointer (some ⟨w.heap.size, 0, none⟩) := (hst.old 2 (by decide +kernel)).trans rfl
      clear hst hr
      refine wpOp_at _ rfl rfl ?_
      go_simp
      exact hK _ (Below.refl _ _)
    | 4, _, hr =>
      intro K hK
      have t1 : ac.tmps.getD 1 undef = .int .i64 a := (hst.old 1 (by decide +kernel)).trans rfl
      clear hst hr
      refine wpOp_at _ rfl rfl ?_
      go_simp
      exact hK _ (Below.refl _ _)
    | 5, _, hr =>
      intro K hK
      have t17 : ac.tmps.getD 17 undef = .agg #[.int .i64 t.n, .slice A1 t.ov.length c1, .slice A2 t.ls.length c2] := hst.val 3 (by omega) (ready_dep hr (e := ⟨3, .data⟩) rfl (by simp) rfl)
      have t18 : ac.tmps.getD 18 undef = .int .i64 a := hst.val 4 (by omega) (ready_dep hr (e := ⟨4, .data⟩) rfl (by simp) rfl)
      clear hst hr
      refine wpOp_at _ rfl rfl ?_
      go_simp
      with_reducible refine (graph_Head _ _ _ _ t a _ HXW.out.ta.ls HA.out.1 HA.out.2 (by have := HL.out; omega)).mono ?_
      rintro e w9 ⟨rfl, hb⟩
      exact hK w9 hb
    | 6, _, hr =>
      intro K hK
      clear hst hr
      refine wpOp_at _ rfl rfl ?_
      go_simp
      exact hK
    | 7, _, hr =>
      intro K hK
      clear hst hr
      refine wpOp_at _ rfl rfl ?_
      go_simp
      exact hK
    | m + 8, hi, _ => exact absurd hi (by omega)
  · intro W xs hbl hblk hinj
    simp only [asr_put, List.setIfInBounds_toArray, List.set_cons_zero, List.set_cons_succ]
    obtain ⟨l5, h5⟩ := hblk 6 _ (by omega) rfl
    obtain ⟨l6, h6⟩ := hblk 7 _ (by omega) rfl
    have h56 : xs 6 ≠ xs 7 := fun e => absurd (hinj 6 7 (by omega) (by omega) (by simp [asrM]) (by simp [asrM]) e) (by omega)
    generalize xs 6 = b5 at *
    generalize xs 7 = b6 at *
    replace HX := Lib.hid ((HX.out.up (below_drwV _)).up hbl)
    have HB5 := Lib.hid (show Bl 3 b5 #[.int .i64 0] W from h5)
    have HB6 := Lib.hid (show Bl 3 b6 #[.int .i64 0] W from h6)
    have H56 := Lib.hid h56
    have h65 := h56.symm
    have HLT := Lib.hid (show w.heap.size ≠ b5 ∧ w.heap.size ≠ b6 ∧ w.heap.size ≤ b5 ∧ w.heap.size ≤ b6 by
      have hs : (w.alloc (.cells #[.int .i64 t.n, .slice A1 t.ov.length c1, .slice A2 t.ls.length c2] 25)).drew.heap.size = w.heap.size + 1 := by simp
      omega)
    clear hbl hblk hinj h5 h6 l5 l6
    obtain ⟨s5, f5⟩ := HB5.out.c1
    obtain ⟨s6, f6⟩ := HB6.out.c1
    go_upto_region 2 with fail
    refine wp_named5 (fun Y => AsmI w A1 A2 c1 c2 t Y ∧ Bl 3 b5 #[.int .i64 (tail t a)] Y ∧ Bl 3 b6 #[.int .i64 (head t a)] Y) ⟨?_, ((HB5.out.set 0 _ rfl).other H56.out _), ((HB6.out.other H56.out.symm _).set 0 _ rfl)⟩ ?_
    · have hb := (HX.out.hb.setCell (p := ⟨b5, 0, none⟩) HLT.out.2.2.1 (.int .i64 (tail t a))).setCell (p := ⟨b6, 0, none⟩) HLT.out.2.2.2 (.int .i64 (head t a))
      exact ⟨(HX.out.tb.other HLT.out.1 _).other HLT.out.2.1 _, HT0.out.below hb, hb⟩
    clear HX HB5 HB6 s5 f5 s6 f6 h65
    rintro X ⟨hX, hB5, hB6⟩
    have HX := Lib.hid hX
    have HB5 := Lib.hid hB5
    have HB6 := Lib.hid hB6
    clear hX hB5 hB6
    obtain ⟨y0, y1, y2, _⟩ := HX.out.tb.c3
    obtain ⟨s6, _⟩ := HB6.out.c1
    obtain ⟨lb, lo, hA2, hla⟩ := HX.out.ta.ls.arc HA.out.1 HA.out.2
    have d6 := hla.q6
    clear hla
    subst hA2
    have hll := HL.out
    have h2 : a / 2 < (t.ls.length : Int) := by have := HA.out.2; omega
    have h3 : (0 : Int) ≤ a / 2 := by have := HA.out.1; omega
    have ha0 := HA.out.1
    have ha1 := HA.out.2
    have hlt6 : b6 < X.heap.size := HB6.out.lt
    have hne6 : b6 ≠ X.heap.size := Nat.ne_of_lt hlt6
    have hne6' : X.heap.size ≠ b6 := hne6.symm
    go_upto_region 7 with fail
    refine wp_named5 (fun Y => AsmJ w A1 (some ⟨lb, lo, none⟩) c1 c2 t a b5 b6 X.heap.size (.slice none 0 0) Y) ?_ ?_
    · have e1 := below_box X (.cells #[.int .i64 3, .int .i64 (lnk t a).g] 77)
      have e2 := below_box (X.alloc (.cells #[.int .i64 3, .int .i64 (lnk t a).g] 77)) (.cells #[.int .i64 2, .int .i64 (head t a)] 77)
      have e3 := below_box ((X.alloc (.cells #[.int .i64 3, .int .i64 (lnk t a).g] 77)).alloc (.cells #[.int .i64 2, .int .i64 (head t a)] 77)) (.cells #[.int .i64 1, .int .i64 (a / 2)] 77)
      have e4 := below_box (((X.alloc (.cells #[.int .i64 3, .int .i64 (lnk t a).g] 77)).alloc (.cells #[.int .i64 2, .int .i64 (head t a)] 77)).alloc (.cells #[.int .i64 1, .int .i64 (a / 2)] 77)) (.cells #[.slice none 0 0] 58)
      have n1 := Bl.new X #[.int .i64 3, .int .i64 (lnk t a).g] 77
      have n2 := Bl.new (X.alloc (.cells #[.int .i64 3, .int .i64 (lnk t a).g] 77)) #[.int .i64 2, .int .i64 (head t a)] 77
      have n3 := Bl.new ((X.alloc (.cells #[.int .i64 3, .int .i64 (lnk t a).g] 77)).alloc (.cells #[.int .i64 2, .int .i64 (head t a)] 77)) #[.int .i64 1, .int .i64 (a / 2)] 77
      have n4 := Bl.new (((X.alloc (.cells #[.int .i64 3, .int .i64 (lnk t a).g] 77)).alloc (.cells #[.int .i64 2, .int .i64 (head t a)] 77)).alloc (.cells #[.int .i64 1, .int .i64 (a / 2)] 77)) #[.slice none 0 0] 58
      simp only [World.size_alloc] at n2 n3 n4
      exact ⟨(((HX.out.up e1).up e2).up e3).up e4, (((HB5.out.up e1).up e2).up e3).up e4, (((HB6.out.up e1).up e2).up e3).up e4, ((n1.up e2).up e3).up e4, (n2.up e3).up e4, n3.up e4, n4⟩
    have HSX := Lib.hid (show b5 < X.heap.size ∧ b6 < X.heap.size ∧ w.heap.size < X.heap.size from ⟨HB5.out.lt, HB6.out.lt, HX.out.tb.lt⟩)
    have hgk : 0 ≤ (lnk t a).g ∧ (lnk t a).g ≤ 64 := lnk_gbd (valid_lnk HV.out (lnk_at HA.out.1 HA.out.2).2)
    have HC2 : Hid (compOk t 2 (head t a) = true ∧ isN t.n (tail t a) = true) := Lib.hid ⟨by rw [compOk2]; exact isN_true.2 (head_bd HV.out HA.out.1 HA.out.2), isN_true.2 (tail_bdO HV.out HA.out.1 HA.out.2)⟩
    clear HX HB5 HB6 y0 y1 y2 s6 d6 hll h2 h3 ha0 ha1 hlt6 hne6 hne6'
    generalize X.heap.size = x at *
    rintro Y hY
    have HY := Lib.hid hY
    clear hY
    obtain ⟨p0, p1, _⟩ := HY.out.r7.c2
    by_cases hg : 0 < (lnk t a).g
    · have H1 := Lib.hid (asm_1 (w := Y) c1 c2 w.heap.size b5 3 (lnk t a).g (tail t a) HV.out (by rw [compOk3]; simp; omega) HC2.out.2 HY.out.i.ta (by have := HL.out; omega) HY.out.i.tb HY.out.r5)
      go_upto_region 9 with (go_at_call 67; (with_reducible refine H1.out.mono ?_); rintro e w2 ⟨Ag, cg, dg, rfl, hd, hs, hb⟩; have HD := Lib.hid hd; have HSR := Lib.hid hs; replace HY := Lib.hid (HY.out.up hb); clear hd hs hb H1 p0 p1; obtain ⟨u0, u1⟩ := HY.out.r11.c1)
      have HSG : Hid (0 < (lnk t a).g → SR (sgFrom t (mask t [(3, (lnk t a).g)]) (tail t a)) dg) := Lib.hid fun _ => HSR.out
      refine wp_named5 (fun Y => AsmJ w A1 (some ⟨lb, lo, none⟩) c1 c2 t a b5 b6 x (.slice Ag dg.length cg) Y ∧ (0 < (lnk t a).g → dg.length = t.n.toNat ∧ dg.length = t.n.toNat ∧ Rd Y Ag (dg.map (Value.int .i64)))) ⟨?_, fun _ => ⟨HSR.out.len, HSR.out.len, HD.out.setV HY.out.r11 (by intro n h; cases h)⟩⟩ ?_
      · have hx := HSX.out
        have hb := HY.out.i.hb.setCell (p := ⟨x + 1 + 1 + 1, 0, none⟩) (show w.heap.size ≤ x + 1 + 1 + 1 by omega) (.slice Ag dg.length cg)
        exact ⟨⟨HY.out.i.tb.other (by omega) _, HT0.out.below hb, hb⟩, HY.out.r5.other (by omega) _, HY.out.r6.other (by omega) _, HY.out.r7.other (by omega) _, HY.out.r8.other (by omega) _, HY.out.r9.other (by omega) _, HY.out.r11.set 0 _ rfl⟩
      clear HY u0 u1 HD HSR
      rintro Z ⟨hY, hG⟩
      have HY := Lib.hid hY
      have HGD := Lib.hid hG
      clear hY hG
      obtain ⟨p0, p1, _⟩ := HY.out.r8.c2
      have H2 := Lib.hid (asm_1 (w := Z) c1 c2 w.heap.size b5 2 (head t a) (tail t a) HV.out HC2.out.1 HC2.out.2 HY.out.i.ta (by have := HL.out; omega) HY.out.i.tb HY.out.r5)
      go_wp2_with (go_at_call 67; (with_reducible refine H2.out.mono ?_); rintro e w3 ⟨An, cn, dh, rfl, hd, hs, hb⟩; have HD2 := Lib.hid hd; have HSR2 := Lib.hid hs; replace HY := Lib.hid (HY.out.up hb); replace HGD := Lib.hid (fun x => (⟨(HGD.out x).1, (HGD.out x).2.1, (HGD.out x).2.2.below hb⟩ : _ ∧ _ ∧ _)); clear hd hs hb H2 p0 p1)
      go_ret
      obtain ⟨hF, hB⟩ := asm_end HY.out HGD.out HSG.out HD2.out HSR2.out
      exact ⟨_, rfl, hF, hB⟩
    · go_upto_region 9 with fail
      have HSG : Hid (0 < (lnk t a).g → SR (sgFrom t (mask t [(3, (lnk t a).g)]) (tail t a)) []) := Lib.hid fun h => absurd h hg
      refine wp_named5 (fun Y => AsmJ w A1 (some ⟨lb, lo, none⟩) c1 c2 t a b5 b6 x (.slice none 0 0) Y ∧ (0 < (lnk t a).g → 0 = t.n.toNat ∧ ([] : List Int).length = t.n.toNat ∧ Rd Y none (([] : List Int).map (Value.int .i64)))) ⟨HY.out, fun h => absurd h hg⟩ ?_
      clear HY p0 p1
      rintro Z ⟨hY, hG⟩
      have HY := Lib.hid hY
      have HGD := Lib.hid hG
      clear hY hG
      obtain ⟨p0, p1, _⟩ := HY.out.r8.c2
      have H2 := Lib.hid (asm_1 (w := Z) c1 c2 w.heap.size b5 2 (head t a) (tail t a) HV.out HC2.out.1 HC2.out.2 HY.out.i.ta (by have := HL.out; omega) HY.out.i.tb HY.out.r5)
      go_wp2_with (go_at_call 67; (with_reducible refine H2.out.mono ?_); rintro e w3 ⟨An, cn, dh, rfl, hd, hs, hb⟩; have HD2 := Lib.hid hd; have HSR2 := Lib.hid hs; replace HY := Lib.hid (HY.out.up hb); replace HGD := Lib.hid (fun x => (⟨(HGD.out x).1, (HGD.out x).2.1, (HGD.out x).2.2.below hb⟩ : _ ∧ _ ∧ _)); clear hd hs hb H2 p0 p1)
      go_ret
      obtain ⟨hF, hB⟩ := asm_end HY.out HGD.out HSG.out HD2.out HSR2.out
      exact ⟨_, rfl, hF, hB⟩
end
end Go.Proofs.Ytdnjflpmbnjgeaa
namespace Go.Proofs.Ytdnjflpmbnjgeaa
set_option linter.unusedSimpArgs false
set_option linter.unusedVariables false
open Go.RowKit Go.Sort
open Classical in
/-- What a node assumes to have failed. -/
noncomputable def asmV (t : Topo) (a d : Int) : Int × Int :=
  if 0 < (lnk t a).g ∧ reach t (mask t [(3, (lnk t a).g)]) (tail t a) d then (3, (lnk t a).g)
  else if d ≠ head t a ∧ reach t (mask t [(2, head t a)]) (tail t a) d then (2, head t a) else (1, a / 2)
theorem asm_val {t : Topo} {a d : Int} {dg dh : List Int} (hv : valid t = true) (hn : isN t.n (tail t a) = true) (hd : isN t.n d = true)
    (sg : 0 < (lnk t a).g → SR (sgFrom t (mask t [(3, (lnk t a).g)]) (tail t a)) dg) (sh : SR (sgFrom t (mask t [(2, head t a)]) (tail t a)) dh) :
    asmP t a (lnk t a).g (head t a) dg dh d = asmV t a d := by
  obtain ⟨h0, h1⟩ := isN_true.1 hd
  have h2 : d < ((sgFrom t (mask t [(2, head t a)]) (tail t a)).N : Int) := by show d < (t.n.toNat : Int); omega
  have e2 := (sh.iff (sgFrom_ok hv hn) h0 h2).trans rchFrom
  have e1 : ((decide (0 < (lnk t a).g) && decide (0 ≤ dD dg d)) = true) ↔ (0 < (lnk t a).g ∧ reach t (mask t [(3, (lnk t a).g)]) (tail t a) d) := by
    rw [Bool.and_eq_true, decide_eq_true_eq, decide_eq_true_eq]
    constructor
    · rintro ⟨g1, g2⟩
      exact ⟨g1, (((sg g1).iff (sgFrom_ok hv hn) h0 h2).trans rchFrom).1 g2⟩
    · rintro ⟨g1, g2⟩
      exact ⟨g1, (((sg g1).iff (sgFrom_ok hv hn) h0 h2).trans rchFrom).2 g2⟩
  have e3 : ((decide (d ≠ head t a) && decide (0 ≤ dD dh d)) = true) ↔ (d ≠ head t a ∧ reach t (mask t [(2, head t a)]) (tail t a) d) := by
    rw [Bool.and_eq_true, decide_eq_true_eq, decide_eq_true_eq, e2]
  unfold asmP asmV
  by_cases c1 : (0 < (lnk t a).g ∧ reach t (mask t [(3, (lnk t a).g)]) (tail t a) d)
  · rw [if_pos (e1.2 c1), if_pos c1]
  · rw [if_neg (fun h => c1 (e1.1 h)), if_neg c1]
    by_cases c2 : (d ≠ head t a ∧ reach t (mask t [(2, head t a)]) (tail t a) d)
    · rw [if_pos (e3.2 c2), if_pos c2]
    · rw [if_neg (fun h => c2 (e3.1 h)), if_neg c2]
theorem AsmF.up {t : Topo} {a : Int} {f : Value} {w w' : World} (h : AsmF t a f w) (hb : Below w.heap.size w w') : AsmF t a f w' := by
  obtain ⟨b13, b9, gs, b7, b11, b8, b6, b12, Ag, An, lg, cg, ln, cn, dg, dh, he, hB, sg, sh⟩ := h
  exact ⟨b13, b9, gs, b7, b11, b8, b6, b12, Ag, An, lg, cg, ln, cn, dg, dh, he, hB.up hb, sg, sh⟩
/-- Such a value answers so, now and later. -/
theorem AsmF.call {t : Topo} {a : Int} {f : Value} {w : World} (h : AsmF t a f w) (hv : valid t = true) (h0 : 0 ≤ a) (h1 : a < 2 * (t.ls.length : Int)) :
    ∃ p q : Value, f = .func (.func 70) #[] #[p, q] ∧ ∀ d, isN t.n d = true → ∀ W, Below w.heap.size w W → Calls Try.prog 70 #[.int .i64 d, p, q] W (RetCp W (asmV t a d).1 (asmV t a d).2) := by
  obtain ⟨b13, b9, gs, b7, b11, b8, b6, b12, Ag, An, lg, cg, ln, cn, dg, dh, he, hB, sg, sh⟩ := h
  refine ⟨_, _, he, fun d hd W hb => ?_⟩
  have hn := valid_n hv
  have := asm_4 d (by omega) hd (hB.up hb)
  rwa [asm_val hv (isN_true.2 (tail_bdO hv h0 h1)) hd sg sh] at this
/-- What it answers is a component of the topology. -/
theorem asmV_bd {t : Topo} {a d : Int} (hv : valid t = true) (h0 : 0 ≤ a) (h1 : a < 2 * (t.ls.length : Int)) : 1 ≤ (asmV t a d).1 ∧ (asmV t a d).1 ≤ 3 ∧ 0 ≤ (asmV t a d).2 ∧ (asmV t a d).2 ≤ 256 := by
  have hg := lnk_gbd (valid_lnk hv (lnk_at h0 h1).2)
  have hh := head_bd hv h0 h1
  have hn := valid_n hv
  have hl := valid_ls hv
  unfold asmV
  split
  · exact ⟨by omega, by omega, by omega, by show (lnk t a).g ≤ 256; omega⟩
  · split
    · exact ⟨by omega, by omega, hh.1, by show head t a ≤ 256; omega⟩
    · exact ⟨by omega, by omega, by show 0 ≤ a / 2; omega, by show a / 2 ≤ 256; omega⟩
end Go.Proofs.Ytdnjflpmbnjgeaa
