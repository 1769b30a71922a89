/-
  verify.newGuard (printed by gen_gd.py).
-/
import Derived.Test.YtdnjflpmbnjgeaaGreatPkVyEz
set_option linter.unusedSimpArgs false
set_option linter.unusedVariables false
namespace Go.Proofs.YtdnjflpmbnjgeaaGreat
section
open Go.RowKit Go.Sort
def gd5D : Nat → Nat
 | 0 => 26
 | 1 => 27
 | 2 => 28
 | 3 => 29
 | 4 => 30
 | 5 => 31
 | 6 => 32
 | 7 => 25
 | 8 => 33
 | 9 => 34
 | 10 => 8
 | 11 => 9
 | _ => 0
theorem gd5D_lt : ∀ i, i < 12 → gd5D i < 35 := by decide +kernel
theorem gd5D_inj : ∀ i, i < 12 → ∀ j, j < 12 → gd5D i = gd5D j → i = j := by decide +kernel
def gd5V (g sm eb : Nat) (p l : Int) (ok : Bool) : Nat → Nat → Value
 | 0, _ => .pointer (some ⟨g, 0, none⟩)
 | 1, _ => .pointer (some ⟨g, 0, none⟩)
 | 2, _ => .pointer (some ⟨g, 9, none⟩)
 | 3, _ => .map (some sm)
 | 4, _ => .pointer (some ⟨eb, 4, none⟩)
 | 5, _ => .int .i64 p
 | 6, _ => .tuple #[.int .i64 l, .bool ok]
 | 7, _ => .tuple #[.int .i64 l, .bool ok]
 | 8, _ => .int .i64 l
 | 9, _ => .bool ok
 | 10, _ => .int .i64 l
 | 11, _ => .bool ok
 | _, _ => undef
theorem gd5_put (g sm eb : Nat) (p l : Int) (ok : Bool) (xs : Nat → Nat) (T : Array Value) : putAll gd5D (fun i => gd5V g sm eb p l ok i (xs i)) 12 T = ((((((((((((T.setIfInBounds 26 (.pointer (some ⟨g, 0, none⟩))).setIfInBounds 27 (.pointer (some ⟨g, 0, none⟩))).setIfInBounds 28 (.pointer (some ⟨g, 9, none⟩))).setIfInBounds 29 (.map (some sm))).setIfInBounds 30 (.pointer (some ⟨eb, 4, none⟩))).setIfInBounds 31 (.int .i64 p)).setIfInBounds 32 (.tuple #[.int .i64 l, .bool ok])).setIfInBounds 25 (.tuple #[.int .i64 l, .bool ok])).setIfInBounds 33 (.int .i64 l)).setIfInBounds 34 (.bool ok)).setIfInBounds 8 (.int .i64 l)).setIfInBounds 9 (.bool ok)) := rfl
def gd7D : Nat → Nat
 | 0 => 42
 | 1 => 43
 | 2 => 44
 | 3 => 45
 | 4 => 46
 | 5 => 47
 | 6 => 48
 | 7 => 49
 | _ => 0
theorem gd7D_lt : ∀ i, i < 8 → gd7D i < 50 := by decide +kernel
theorem gd7D_inj : ∀ i, i < 8 → ∀ j, j < 8 → gd7D i = gd7D j → i = j := by decide +kernel
def gd7V (g sm eb : Nat) (p x : Int) : Nat → Nat → Value
 | 0, _ => .pointer (some ⟨g, 0, none⟩)
 | 1, _ => .pointer (some ⟨g, 0, none⟩)
 | 2, _ => .pointer (some ⟨g, 9, none⟩)
 | 3, _ => .map (some sm)
 | 4, _ => .pointer (some ⟨eb, 4, none⟩)
 | 5, _ => .int .i64 p
 | 6, _ => .pointer (some ⟨eb, 0, none⟩)
 | 7, _ => .int .i64 x
 | _, _ => undef
theorem gd7_put (g sm eb : Nat) (p x : Int) (xs : Nat → Nat) (T : Array Value) : putAll gd7D (fun i => gd7V g sm eb p x i (xs i)) 8 T = ((((((((T.setIfInBounds 42 (.pointer (some ⟨g, 0, none⟩))).setIfInBounds 43 (.pointer (some ⟨g, 0, none⟩))).setIfInBounds 44 (.pointer (some ⟨g, 9, none⟩))).setIfInBounds 45 (.map (some sm))).setIfInBounds 46 (.pointer (some ⟨eb, 4, none⟩))).setIfInBounds 47 (.int .i64 p)).setIfInBounds 48 (.pointer (some ⟨eb, 0, none⟩))).setIfInBounds 49 (.int .i64 x)) := rfl
theorem sentF_same {tr : List Ev} {e : Ev} (h : e.k ≠ 1 ∨ sentF tr e.p ≠ none) : sentF (tr ++ [e]) = sentF tr := by
 funext id
 rw [sentF_snoc]
 cases hs : sentF tr id with
 | some x => rfl
 | none =>
  rw [if_neg]
  rintro ⟨h1, h2⟩
  rcases h with h | h
  ·exact h h1
  ·rw [h2] at h; exact h hs
theorem sentF_put {tr : List Ev} {e : Ev} (h : e.k = 1) (hn : sentF tr e.p = none) : sentF (tr ++ [e]) = fun x => if x = e.p then some e.t else sentF tr x := by
 funext id
 rw [sentF_snoc]
 by_cases h1 : id = e.p
 ·rw [if_pos h1, h1, hn, if_pos ⟨h, rfl⟩]
 ·rw [if_neg h1]
  cases hs : sentF tr id with
  | some x => rfl
  | none => rw [if_neg]; rintro ⟨_, h3⟩; exact h1 h3.symm
section
variable {w : World}
set_option maxRecDepth 100000 in
set_option maxHeartbeats 16000000 in
theorem vy_newGuard (F : FaN) (tr : List Ev) (A1 A2 O C : Option Addr) (c1 c2 co ct : Nat) (hT : TAt w A1 A2 F.t) (hO : Rd w O (F.out.flatMap outL)) (hE : RdE w C tr) (hv : valid F.t = true) (hout : ∀ o ∈ F.out, outOk F.t o = true) (htm : timOk F = true) (hlt : tr.length ≤ 100000) (hok : trOk tr = true) (hnm : tr.all (xQ F.t) = true) :
    Calls Tryz.prog 10 #[.agg #[.int .i64 F.t.n, .slice A1 F.t.ov.length c1, .slice A2 F.t.ls.length c2, .int .i64 F.det, .int .i64 F.ga, .int .i64 F.ho, .slice O F.out.length co], .slice C tr.length ct] w (RetGd F tr A1 A2 O c1 c2 co w) := by
 have HT := hU hT
 have HO := hU hO
 have HTR := hU hE
 have HV := hU hv
 have HOUT := hU hout
 have HTM := hU htm
 have HLT := hU hlt
 have HOK := hU hok
 have HNM := hU hnm
 have HN := hU (iZ hv)
 have HLL := hU (zQ hv)
 have HX := hU (Bl.new w #[.int .i64 F.t.n, .slice A1 F.t.ov.length c1, .slice A2 F.t.ls.length c2, .int .i64 F.det, .int .i64 F.ga, .int .i64 F.ho, .slice O F.out.length co] 28)
 obtain ⟨f0, f1, f2, f3, f4, f5, f6, _⟩ := HX.out.c7
 have HB := hU (cQ w (.cells #[.int .i64 F.t.n, .slice A1 F.t.ov.length c1, .slice A2 F.t.ls.length c2, .int .i64 F.det, .int .i64 F.ga, .int .i64 F.ho, .slice O F.out.length co] 28))
 have hmm := @run_makeMap Tryz.prog
 clear hT hO hE hv hout htm hok hnm
 go_enter Tryz.func10, Tryz.ntmps10
 go_upto_region 2 with fail
 refine kQ (fun Y => Bl 28 w.heap.size #[.int .i64 F.t.n, .slice A1 F.t.ov.length c1, .slice A2 F.t.ls.length c2, .int .i64 F.det, .int .i64 F.ga, .int .i64 F.ho, .slice O F.out.length co] Y ∧ Below w.heap.size w Y ∧ GdW F A1 A2 O c1 c2 co (w.heap.size + 1 + 1) (w.heap.size + 1) false none [] 0 (sentF []) Y) ?_ ?_
 ·have e1 := cQ (w.alloc (.cells #[.int .i64 F.t.n, .slice A1 F.t.ov.length c1, .slice A2 F.t.ls.length c2, .int .i64 F.det, .int .i64 F.ga, .int .i64 F.ho, .slice O F.out.length co] 28)) (.map #[] 0)
  have e2 := cQ ((w.alloc (.cells #[.int .i64 F.t.n, .slice A1 F.t.ov.length c1, .slice A2 F.t.ls.length c2, .int .i64 F.det, .int .i64 F.ga, .int .i64 F.ho, .slice O F.out.length co] 28)).alloc (.map #[] 0)) (.cells (gdV F A1 A2 O c1 c2 co false (.slice none 0 0) (w.heap.size + 1)) 72)
  have m1 := FM.made Tryz.prog 3 enc1 (Value.int .i64 : Int → Value) (w.alloc (.cells #[.int .i64 F.t.n, .slice A1 F.t.ov.length c1, .slice A2 F.t.ls.length c2, .int .i64 F.det, .int .i64 F.ga, .int .i64 F.ho, .slice O F.out.length co] 28))
  have n2 := Bl.new ((w.alloc (.cells #[.int .i64 F.t.n, .slice A1 F.t.ov.length c1, .slice A2 F.t.ls.length c2, .int .i64 F.det, .int .i64 F.ga, .int .i64 F.ho, .slice O F.out.length co] 28)).alloc (.map #[] 0)) (gdV F A1 A2 O c1 c2 co false (.slice none 0 0) (w.heap.size + 1)) 72
  simp only [World.size_alloc] at m1 n2
  exact ⟨(HX.out.up e1).up e2, bQ (bQ HB.out e1) e2, ⟨n2, m1.up e2, .inl rfl⟩⟩
 clear HX HB f0 f1 f2 f3 f4 f5 f6 hmm
 obtain ⟨g, hg⟩ : ∃ g, g = w.heap.size + 1 + 1 := ⟨_, rfl⟩
 obtain ⟨sm, hsm⟩ : ∃ sm, sm = w.heap.size + 1 := ⟨_, rfl⟩
 rw [← hg, ← hsm]
 have HGS := hU (show w.heap.size ≤ g ∧ w.heap.size ≤ sm ∧ w.heap.size ≠ g ∧ w.heap.size ≠ sm ∧ g ≠ sm by omega)
 clear hg hsm
 rintro Y ⟨h1, h2, h3⟩
 have HX := hU h1
 have HB := hU h2
 have HG := hU h3
 clear h1 h2 h3
 go_wp2_with fail
 go_loopw [21] (fun i wr => ∃ k : Nat, k ≤ tr.length ∧ i = .int .i64 k ∧ Hid (Bl 28 w.heap.size #[.int .i64 F.t.n, .slice A1 F.t.ov.length c1, .slice A2 F.t.ls.length c2, .int .i64 F.det, .int .i64 F.ga, .int .i64 F.ho, .slice O F.out.length co] wr) ∧ Hid (Below w.heap.size w wr) ∧ Hid (GdW F A1 A2 O c1 c2 co g sm false none [] 0 (sentF (tr.take k)) wr)) (fun i _ => tr.length - (intOf i).toNat)
 case atStart => exact ⟨0, Nat.zero_le _, rfl, HX, HB, HG⟩
 case round =>
  clear HX HB HG
  obtain ⟨k, hk, rfl, HX, HB, HG⟩ := hrel
  by_cases hlt : k < tr.length
  ·have hlt' : (k : Int) < (tr.length : Int) := by omega
   obtain ⟨bz, oz, ev, hAz, hev, hcz⟩ := (HTR.out.below HB.out).at_ hlt
   have HTK : Hid (tr.take (k + 1) = tr.take k ++ [ev]) := hU (by rw [List.take_add_one, hev]; rfl)
   have HEV : Hid (evOk ev = true) := hU (by
    have h1 := trOk_at HOK.out hlt
    unfold goodE at h1
    rw [getD_at hev, Bool.and_eq_true] at h1
    exact h1.1)
   obtain ⟨x, kd, n, ar, p, r⟩ := ev
   obtain ⟨z0, z1, z2, z3, z4, z5⟩ := hcz
   simp only at z0 z1 z2 z3 z4 z5
   clear hev
   subst hAz
   go_upto_region 5 with fail
   obtain ⟨eb, heb⟩ : ∃ eb, eb = wr.heap.size := ⟨_, rfl⟩
   refine kQ (fun Y => Bl 28 w.heap.size #[.int .i64 F.t.n, .slice A1 F.t.ov.length c1, .slice A2 F.t.ls.length c2, .int .i64 F.det, .int .i64 F.ga, .int .i64 F.ho, .slice O F.out.length co] Y ∧ Below w.heap.size w Y ∧ GdW F A1 A2 O c1 c2 co g sm false none [] 0 (sentF (tr.take k)) Y ∧ Bl 43 eb #[.int .i64 x, .int .i64 kd, .int .i64 n, .int .i64 ar, .int .i64 p, .int .i64 r] Y) ⟨HX.out.up (cQ wr _), bQ HB.out (cQ wr _), HG.out.up (cQ wr _), by rw [heb]; exact Bl.new wr _ _⟩ ?_
   rw [← heb]
   clear heb HX HB HG z0 z1 z2 z3 z4 z5
   rintro Y ⟨h1, h2, h3, h4⟩
   have HX := hU h1
   have HB := hU h2
   have HG := hU h3
   have HE := hU h4
   clear h1 h2 h3 h4
   have HJp : Hid (inJ p) := hU ((evJ HEV.out).2.2.2.1)
   obtain ⟨e0, e1, e2, e3, e4, e5, _⟩ := HE.out.c6
   have s9 := HG.out.gb.cell 9 rfl
   cases hsn : sentF (tr.take k) p with
   | none =>
    refine wp_region_all 12 [0, 1, 2, 3, 4, 5, 6, 7, 8, 10, 9, 11] gd5D (fun _ => none) (gd5V g sm eb p 0 false) (by kernel_rfl) rfl (by kernel_rfl) (fun i j hi hj h => gd5D_inj i hi j hj h) (fun i hi => by have := gd5D_lt i hi; simp; omega) ?_ ?_
    ·intro L ac W xq i hi hst hr
     have HXG := hU ((HG.out.up (gQ _)).up hst.below)
     have HXE := hU ((HE.out.up (gQ _)).up hst.below)
     obtain ⟨e0, e1, e2, e3, e4, e5, _⟩ := HXE.out.c6
     have s9 := HXG.out.gb.cell 9 rfl
     have hlk := HXG.out.fm.look key_int Tryz.underlying70 (zero_intV _) p (keyJ HJp.out) (enc1_inj p) true
     simp only [hsn, Option.map_none, Option.map_some, Option.getD_none, Option.getD_some, Option.isSome_none, Option.isSome_some, if_true, enc1] at hlk
     match i, hi, hr with
     | 0, _, hr =>
      intro K hK
      have t5 : ac.tmps.getD 5 undef = .pointer (some ⟨g, 0, none⟩) := (hst.old 5 (by decide +kernel)).trans rfl
      clear hst hr
      refine iQ _ rfl rfl ?_
      go_simp
      exact hK _ (Below.refl _ _)
     | 1, _, hr =>
      intro K hK
      have t26 : ac.tmps.getD 26 undef = .pointer (some ⟨g, 0, none⟩) := hst.val 0 (by omega) (rU hr 0)
      clear hst hr
      refine iQ _ rfl rfl ?_
      go_simp
      exact hK _ (Below.refl _ _)
     | 2, _, hr =>
      intro K hK
      have t27 : ac.tmps.getD 27 undef = .pointer (some ⟨g, 0, none⟩) := hst.val 1 (by omega) (rU hr 1)
      clear hst hr
      refine iQ _ rfl rfl ?_
      go_simp
      exact hK _ (Below.refl _ _)
     | 3, _, hr =>
      intro K hK
      have t28 : ac.tmps.getD 28 undef = .pointer (some ⟨g, 9, none⟩) := hst.val 2 (by omega) (rU hr 2)
      clear hst hr
      refine iQ _ rfl rfl ?_
      go_simp
      exact hK _ (Below.refl _ _)
     | 4, _, hr =>
      intro K hK
      have t7 : ac.tmps.getD 7 undef = .pointer (some ⟨eb, 0, none⟩) := (hst.old 7 (by decide +kernel)).trans rfl
      clear hst hr
      refine iQ _ rfl rfl ?_
      go_simp
      exact hK _ (Below.refl _ _)
     | 5, _, hr =>
      intro K hK
      have t30 : ac.tmps.getD 30 undef = .pointer (some ⟨eb, 4, none⟩) := hst.val 4 (by omega) (rU hr 4)
      clear hst hr
      refine iQ _ rfl rfl ?_
      go_simp
      exact hK _ (Below.refl _ _)
     | 6, _, hr =>
      intro K hK
      have t29 : ac.tmps.getD 29 undef = .map (some sm) := hst.val 3 (by omega) (rU hr 3)
      have t31 : ac.tmps.getD 31 undef = .int .i64 p := hst.val 5 (by omega) (rU hr 5)
      clear hst hr
      refine iQ _ rfl rfl ?_
      go_simp
      exact hK _ (Below.refl _ _)
     | 7, _, hr =>
      intro K hK
      have t32 : ac.tmps.getD 32 undef = .tuple #[.int .i64 0, .bool false] := hst.val 6 (by omega) (rU hr 6)
      clear hst hr
      refine iQ _ rfl rfl ?_
      go_simp
      exact hK _ (Below.refl _ _)
     | 8, _, hr =>
      intro K hK
      have t25 : ac.tmps.getD 25 undef = .tuple #[.int .i64 0, .bool false] := hst.val 7 (by omega) (rU hr 7)
      clear hst hr
      refine iQ _ rfl rfl ?_
      go_simp
      exact hK _ (Below.refl _ _)
     | 9, _, hr =>
      intro K hK
      have t25 : ac.tmps.getD 25 undef = .tuple #[.int .i64 0, .bool false] := hst.val 7 (by omega) (rU hr 7)
      clear hst hr
      refine iQ _ rfl rfl ?_
      go_simp
      exact hK _ (Below.refl _ _)
     | 10, _, hr =>
      intro K hK
      have t33 : ac.tmps.getD 33 undef = .int .i64 0 := hst.val 8 (by omega) (rU hr 8)
      clear hst hr
      refine iQ _ rfl rfl ?_
      go_simp
      exact hK _ (Below.refl _ _)
     | 11, _, hr =>
      intro K hK
      have t34 : ac.tmps.getD 34 undef = .bool false := hst.val 9 (by omega) (rU hr 9)
      clear hst hr
      refine iQ _ rfl rfl ?_
      go_simp
      exact hK _ (Below.refl _ _)
     | m + 12, hi, _ => exact absurd hi (by omega)
    ·intro W xs hbl hblk hinj
     simp only [gd5_put, List.setIfInBounds_toArray, List.set_cons_zero, List.set_cons_succ]
     replace HG := hU ((HG.out.up (gQ _)).up hbl)
     replace HE := hU ((HE.out.up (gQ _)).up hbl)
     replace HX := hU ((HX.out.up (gQ _)).up hbl)
     replace HB := hU (bQ (bQ HB.out (gQ _)) hbl)
     clear hbl hblk hinj
     obtain ⟨e0, e1, e2, e3, e4, e5, _⟩ := HE.out.c6
     have s9 := HG.out.gb.cell 9 rfl
     by_cases hk1 : kd = 1
     ·subst hk1
      have HSN : Hid (sentF (tr.take (k + 1)) = fun y => if y = p then some x else sentF (tr.take k) y) := hU (by rw [HTK.out]; exact sentF_put rfl hsn)
      clear hsn
      go_upto_region 7 with fail
      refine wp_region_mkT 8 gd7D (fun _ => none) (gd7V g sm eb p x) (by kernel_rfl) (by kernel_rfl) (fun i j hi hj h => gd7D_inj i hi j hj h) (fun i hi => by have := gd7D_lt i hi; simp; omega) ?_ ?_
      ·intro L ac W xq i hi hst hr
       have HXG := hU ((HG.out.up (gQ _)).up hst.below)
       have HXE := hU ((HE.out.up (gQ _)).up hst.below)
       obtain ⟨e0, e1, e2, e3, e4, e5, _⟩ := HXE.out.c6
       have s9 := HXG.out.gb.cell 9 rfl
       match i, hi, hr with
       | 0, _, hr =>
        intro K hK
        have t5 : ac.tmps.getD 5 undef = .pointer (some ⟨g, 0, none⟩) := (hst.old 5 (by decide +kernel)).trans rfl
        clear hst hr
        refine iQ _ rfl rfl ?_
        go_simp
        exact hK _ (Below.refl _ _)
       | 1, _, hr =>
        intro K hK
        have t42 : ac.tmps.getD 42 undef = .pointer (some ⟨g, 0, none⟩) := hst.val 0 (by omega) (rU hr 0)
        clear hst hr
        refine iQ _ rfl rfl ?_
        go_simp
        exact hK _ (Below.refl _ _)
       | 2, _, hr =>
        intro K hK
        have t43 : ac.tmps.getD 43 undef = .pointer (some ⟨g, 0, none⟩) := hst.val 1 (by omega) (rU hr 1)
        clear hst hr
        refine iQ _ rfl rfl ?_
        go_simp
        exact hK _ (Below.refl _ _)
       | 3, _, hr =>
        intro K hK
        have t44 : ac.tmps.getD 44 undef = .pointer (some ⟨g, 9, none⟩) := hst.val 2 (by omega) (rU hr 2)
        clear hst hr
        refine iQ _ rfl rfl ?_
        go_simp
        exact hK _ (Below.refl _ _)
       | 4, _, hr =>
        intro K hK
        have t7 : ac.tmps.getD 7 undef = .pointer (some ⟨eb, 0, none⟩) := (hst.old 7 (by decide +kernel)).trans rfl
        clear hst hr
        refine iQ _ rfl rfl ?_
        go_simp
        exact hK _ (Below.refl _ _)
       | 5, _, hr =>
        intro K hK
        have t46 : ac.tmps.getD 46 undef = .pointer (some ⟨eb, 4, none⟩) := hst.val 4 (by omega) (rU hr 4)
        clear hst hr
        refine iQ _ rfl rfl ?_
        go_simp
        exact hK _ (Below.refl _ _)
       | 6, _, hr =>
        intro K hK
        have t7 : ac.tmps.getD 7 undef = .pointer (some ⟨eb, 0, none⟩) := (hst.old 7 (by decide +kernel)).trans rfl
        clear hst hr
        refine iQ _ rfl rfl ?_
        go_simp
        exact hK _ (Below.refl _ _)
       | 7, _, hr =>
        intro K hK
        have t48 : ac.tmps.getD 48 undef = .pointer (some ⟨eb, 0, none⟩) := hst.val 6 (by omega) (rU hr 6)
        clear hst hr
        refine iQ _ rfl rfl ?_
        go_simp
        exact hK _ (Below.refl _ _)
       | m + 8, hi, _ => exact absurd hi (by omega)
      ·intro W xs hbl hblk hinj
       simp only [gd7_put, List.setIfInBounds_toArray, List.set_cons_zero, List.set_cons_succ]
       replace HG := hU ((HG.out.up (gQ _)).up hbl)
       replace HX := hU ((HX.out.up (gQ _)).up hbl)
       replace HB := hU (bQ (bQ HB.out (gQ _)) hbl)
       clear hbl hblk hinj e0 e1 e2 e3 e4 e5 s9
       have e0 := trivial
       have e1 := trivial
       have e2 := trivial
       have e3 := trivial
       have e4 := trivial
       have e5 := trivial
       have s9 := trivial
       obtain ⟨w9, hu, hf9, hg9⟩ := HG.out.fm.put key_int Tryz.underlying70 p x (keyJ HJp.out) (enc1_inj p) (evI_inj x)
       unfold enc1 at hu
       go_upto_region 8 with fail
       clear hu
       have HG2 := hU (HG.out.put hg9 hf9)
       rw [← HSN.out] at HG2
       obtain ⟨es, cl0, hmp⟩ := HG.out.fm.isMap
       replace HX := hU (HX.out.kpm (kp_of hg9) hmp)
       have HGR := hU hg9
       clear hf9 hg9 hmp e0 e1 e2 e3 e4 e5 s9
       go_wp2_with fail
       go_round
       case rel => exact ⟨k + 1, by omega, by go_num, HX, hU (HB.out.grown HGR.out HB.out.size (fun k e => by cases e; exact HGS.out.2.1)), HG2⟩
       case measure => simp [intOf]; omega
     ·have HSN : Hid (sentF (tr.take (k + 1)) = sentF (tr.take k)) := hU (by rw [HTK.out]; exact sentF_same (.inl hk1))
      have hkb : (kd == 1) = false := by simp [hk1]
      clear hsn hk1
      rw [← HSN.out] at HG
      go_wp2_with fail
      go_round
      case rel => exact ⟨k + 1, by omega, by go_num, HX, HB, HG⟩
      case measure => simp [intOf]; omega
   | some l =>
    refine wp_region_all 12 [0, 1, 2, 3, 4, 5, 6, 7, 8, 10, 9, 11] gd5D (fun _ => none) (gd5V g sm eb p l true) (by kernel_rfl) rfl (by kernel_rfl) (fun i j hi hj h => gd5D_inj i hi j hj h) (fun i hi => by have := gd5D_lt i hi; simp; omega) ?_ ?_
    ·intro L ac W xq i hi hst hr
     have HXG := hU ((HG.out.up (gQ _)).up hst.below)
     have HXE := hU ((HE.out.up (gQ _)).up hst.below)
     obtain ⟨e0, e1, e2, e3, e4, e5, _⟩ := HXE.out.c6
     have s9 := HXG.out.gb.cell 9 rfl
     have hlk := HXG.out.fm.look key_int Tryz.underlying70 (zero_intV _) p (keyJ HJp.out) (enc1_inj p) true
     simp only [hsn, Option.map_none, Option.map_some, Option.getD_none, Option.getD_some, Option.isSome_none, Option.isSome_some, if_true, enc1] at hlk
     match i, hi, hr with
     | 0, _, hr =>
      intro K hK
      have t5 : ac.tmps.getD 5 undef = .pointer (some ⟨g, 0, none⟩) := (hst.old 5 (by decide +kernel)).trans rfl
      clear hst hr
      refine iQ _ rfl rfl ?_
      go_simp
      exact hK _ (Below.refl _ _)
     | 1, _, hr =>
      intro K hK
      have t26 : ac.tmps.getD 26 undef = .pointer (some ⟨g, 0, none⟩) := hst.val 0 (by omega) (rU hr 0)
      clear hst hr
      refine iQ _ rfl rfl ?_
      go_simp
      exact hK _ (Below.refl _ _)
     | 2, _, hr =>
      intro K hK
      have t27 : ac.tmps.getD 27 undef = .pointer (some ⟨g, 0, none⟩) := hst.val 1 (by omega) (rU hr 1)
      clear hst hr
      refine iQ _ rfl rfl ?_
      go_simp
      exact hK _ (Below.refl _ _)
     | 3, _, hr =>
      intro K hK
      have t28 : ac.tmps.getD 28 undef = .pointer (some ⟨g, 9, none⟩) := hst.val 2 (by omega) (rU hr 2)
      clear hst hr
      refine iQ _ rfl rfl ?_
      go_simp
      exact hK _ (Below.refl _ _)
     | 4, _, hr =>
      intro K hK
      have t7 : ac.tmps.getD 7 undef = .pointer (some ⟨eb, 0, none⟩) := (hst.old 7 (by decide +kernel)).trans rfl
      clear hst hr
      refine iQ _ rfl rfl ?_
      go_simp
      exact hK _ (Below.refl _ _)
     | 5, _, hr =>
      intro K hK
      have t30 : ac.tmps.getD 30 undef = .pointer (some ⟨eb, 4, none⟩) := hst.val 4 (by omega) (rU hr 4)
      clear hst hr
      refine iQ _ rfl rfl ?_
      go_simp
      exact hK _ (Below.refl _ _)
     | 6, _, hr =>
      intro K hK
      have t29 : ac.tmps.getD 29 undef = .map (some sm) := hst.val 3 (by omega) (rU hr 3)
      have t31 : ac.tmps.getD 31 undef = .int .i64 p := hst.val 5 (by omega) (rU hr 5)
      clear hst hr
      refine iQ _ rfl rfl ?_
      go_simp
      exact hK _ (Below.refl _ _)
     | 7, _, hr =>
      intro K hK
      have t32 : ac.tmps.getD 32 undef = .tuple #[.int .i64 l, .bool true] := hst.val 6 (by omega) (rU hr 6)
      clear hst hr
      refine iQ _ rfl rfl ?_
      go_simp
      exact hK _ (Below.refl _ _)
     | 8, _, hr =>
      intro K hK
      have t25 : ac.tmps.getD 25 undef = .tuple #[.int .i64 l, .bool true] := hst.val 7 (by omega) (rU hr 7)
      clear hst hr
      refine iQ _ rfl rfl ?_
      go_simp
      exact hK _ (Below.refl _ _)
     | 9, _, hr =>
      intro K hK
      have t25 : ac.tmps.getD 25 undef = .tuple #[.int .i64 l, .bool true] := hst.val 7 (by omega) (rU hr 7)
      clear hst hr
      refine iQ _ rfl rfl ?_
      go_simp
      exact hK _ (Below.refl _ _)
     | 10, _, hr =>
      intro K hK
      have t33 : ac.tmps.getD 33 undef = .int .i64 l := hst.val 8 (by omega) (rU hr 8)
      clear hst hr
      refine iQ _ rfl rfl ?_
      go_simp
      exact hK _ (Below.refl _ _)
     | 11, _, hr =>
      intro K hK
      have t34 : ac.tmps.getD 34 undef = .bool true := hst.val 9 (by omega) (rU hr 9)
      clear hst hr
      refine iQ _ rfl rfl ?_
      go_simp
      exact hK _ (Below.refl _ _)
     | m + 12, hi, _ => exact absurd hi (by omega)
    ·intro W xs hbl hblk hinj
     simp only [gd5_put, List.setIfInBounds_toArray, List.set_cons_zero, List.set_cons_succ]
     replace HG := hU ((HG.out.up (gQ _)).up hbl)
     replace HE := hU ((HE.out.up (gQ _)).up hbl)
     replace HX := hU ((HX.out.up (gQ _)).up hbl)
     replace HB := hU (bQ (bQ HB.out (gQ _)) hbl)
     clear hbl hblk hinj
     obtain ⟨e0, e1, e2, e3, e4, e5, _⟩ := HE.out.c6
     have s9 := HG.out.gb.cell 9 rfl
     have HSN : Hid (sentF (tr.take (k + 1)) = sentF (tr.take k)) := hU (by rw [HTK.out]; exact sentF_same (.inr (by rw [hsn]; simp)))
     clear hsn
     rw [← HSN.out] at HG
     cases hkb : (kd == 1) <;>
     (go_wp2_with fail
      go_round
      case rel => exact ⟨k + 1, by omega, by go_num, HX, HB, HG⟩
      case measure => simp [intOf]; omega)
  ·obtain rfl : k = tr.length := by omega
   rw [List.take_length] at HG
   obtain ⟨f0, f1, f2, f3, f4, f5, f6, _⟩ := HX.out.c7
   by_cases hol : F.out.length = 1
   ·obtain ⟨oo, hoo⟩ := List.length_eq_one_iff.1 hol
    have HOL := hU hol
    have HOO := hU hoo
    have HDV : Hid (uQ F = mask F.t [(oo.k, oo.m)]) := hU (by unfold uQ; rw [hoo])
    have HOK1 : Hid (outOk F.t oo = true) := hU (HOUT.out oo (by rw [hoo]; simp))
    have hon := row_at (s := 4) (k := 0) (x := oo) (fun _ => rfl) (by omega) (HO.out.below HB.out) (by rw [hoo]; rfl)
    obtain ⟨bo, po, hOz, hco⟩ := hon
    have o0 := hco 0 (.int .i64 oo.fr) rfl
    have o1 := hco 1 (.int .i64 oo.tu) rfl
    have o2 := hco 2 (.int .i64 oo.k) rfl
    have o3 := hco 3 (.int .i64 oo.m) rfl
    rw [show po + 0 * 4 = po by omega] at o0 o1 o2 o3
    rw [hOz, hol] at f6
    have HOZ := hU hOz
    clear hco hOz hol hoo
    go_upto_region 12 with fail
    obtain ⟨ob, hob⟩ : ∃ ob, ob = wr.heap.size := ⟨_, rfl⟩
    refine kQ (fun Y => Bl 28 w.heap.size #[.int .i64 F.t.n, .slice A1 F.t.ov.length c1, .slice A2 F.t.ls.length c2, .int .i64 F.det, .int .i64 F.ga, .int .i64 F.ho, .slice O F.out.length co] Y ∧ Below w.heap.size w Y ∧ GdW F A1 A2 O c1 c2 co g sm false none [] 0 (sentF tr) Y ∧ Bl 81 ob #[.int .i64 oo.fr, .int .i64 oo.tu, .int .i64 oo.k, .int .i64 oo.m] Y ∧ ob ≠ g) ⟨HX.out.up (cQ wr _), bQ HB.out (cQ wr _), HG.out.up (cQ wr _), by rw [hob]; exact Bl.new wr _ _, by rw [hob]; exact (Nat.ne_of_lt HG.out.gb.lt).symm⟩ ?_
    rw [← hob]
    clear hob HX HB HG f0 f1 f2 f3 f4 f5 f6 o0 o1 o2 o3
    rintro Y ⟨h1, h2, h3, h4, h5⟩
    have HX := hU h1
    have HB := hU h2
    have HG := hU h3
    have HOB := hU h4
    have HNG := hU h5
    clear h1 h2 h3 h4 h5
    obtain ⟨f0, f1, f2, f3, f4, f5, f6, _⟩ := HX.out.c7
    obtain ⟨o0, o1, o2, o3, _⟩ := HOB.out.c4
    have HM := hU (component_Mask F.t A1 A2 c1 c2 oo.k oo.m _ (HT.out.below HB.out) (by have := HLL.out; omega))
    have HU : Hid (unionV F.t [(oo.k, oo.m)] = (mask F.t [(oo.k, oo.m)], 0)) := hU (by
     have h1 := HOK1.out
     unfold outOk gZ at h1
     simp only [Bool.and_eq_true] at h1
     simp [unionV, h1.1.1.1, h1.1.1.2])
    go_upto_region 13 with (go_at_call 35; (with_reducible refine HM.out.mono ?_); rintro e w2 ⟨Am, cm, rfl, hr, hb, hfr⟩; have HFR : Hid (∀ p, Am = some p → w.heap.size ≤ p.block) := hU (fun p hp => Nat.le_trans HB.out.size (hfr p hp)); clear hfr; rw [HU.out] at hr ⊢; have HR := hU hr; replace HX := hU (HX.out.up hb); replace HOB := hU (HOB.out.up hb); replace HG := hU (HG.out.up hb); replace HB := hU (bQ HB.out hb); clear hr hb HM f0 f1 f2 f3 f4 f5 f6 o0 o1 o2 o3; obtain ⟨f0, f1, f2, f3, f4, f5, f6, _⟩ := HX.out.c7; obtain ⟨o0, o1, o2, o3, _⟩ := HOB.out.c4; have s8 := HG.out.gb.cell 8 rfl; have t8 := HG.out.gb.frz 8)
    have HML := hU (show (mask F.t [(oo.k, oo.m)]).length ≠ 1 by rw [mask_length]; omega)
    refine kQ (fun Y => Bl 28 w.heap.size #[.int .i64 F.t.n, .slice A1 F.t.ov.length c1, .slice A2 F.t.ls.length c2, .int .i64 F.det, .int .i64 F.ga, .int .i64 F.ho, .slice O F.out.length co] Y ∧ Below w.heap.size w Y ∧ GdW F A1 A2 O c1 c2 co g sm false Am (mask F.t [(oo.k, oo.m)]) cm (sentF tr) Y ∧ Bl 81 ob #[.int .i64 oo.fr, .int .i64 oo.tu, .int .i64 oo.k, .int .i64 oo.m] Y) ⟨HX.out.other HGS.out.2.2.1 _, HB.out.setCell (p := ⟨g, 8, none⟩) HGS.out.1 _, HG.out.setD HR.out HML.out HGS.out.2.2.2.2.symm, HOB.out.other HNG.out _⟩ ?_
    clear HX HB HG HOB HR f0 f1 f2 f3 f4 f5 f6 o0 o1 o2 o3 s8 t8
    rintro Y ⟨h1, h2, h3, h4⟩
    have HX := hU h1
    have HB := hU h2
    have HG := hU h3
    have HOB := hU h4
    clear h1 h2 h3 h4
    obtain ⟨f0, f1, f2, f3, f4, f5, f6, _⟩ := HX.out.c7
    go_wp2_with fail
    go_loopw [11, 75] (fun y i wr => ∃ k : Nat, k ≤ F.t.ls.length ∧ y = .int .i64 (maxD (F.t.ls.take k)) ∧ i = .int .i64 k ∧ Hid (Bl 28 w.heap.size #[.int .i64 F.t.n, .slice A1 F.t.ov.length c1, .slice A2 F.t.ls.length c2, .int .i64 F.det, .int .i64 F.ga, .int .i64 F.ho, .slice O F.out.length co] wr) ∧ Hid (Below w.heap.size w wr) ∧ Hid (GdW F A1 A2 O c1 c2 co g sm false Am (mask F.t [(oo.k, oo.m)]) cm (sentF tr) wr) ∧ Hid (Bl 81 ob #[.int .i64 oo.fr, .int .i64 oo.tu, .int .i64 oo.k, .int .i64 oo.m] wr)) (fun _ i _ => F.t.ls.length - (intOf i).toNat)
    case atStart => exact ⟨0, Nat.zero_le _, rfl, rfl, HX, HB, HG, HOB⟩
    case round =>
     clear HX HB HG HOB
     obtain ⟨k, hk, rfl, rfl, HX, HB, HG, HOB⟩ := hrel
     by_cases hkl : k < F.t.ls.length
     ·have hkl' : (k : Int) < (F.t.ls.length : Int) := by omega
      obtain ⟨lb, lo, l, hA2, hl, hla⟩ := (HT.out.below HB.out).ls.at_ hkl
      have HTK : Hid (maxD (F.t.ls.take (k + 1)) = max (maxD (F.t.ls.take k)) l.dl) := hU (by rw [List.take_add_one, hl]; exact maxD_snoc _ _)
      obtain ⟨z0, z1, z2, z3, z4, z5, z6⟩ := hla
      have hll := HLL.out
      clear hl
      subst hA2
      go_wp2_with fail
      go_round
      case rel => exact ⟨k + 1, by omega, by rw [HTK.out]; congr 1; split <;> omega, by go_num, hU (HX.out.up (cQ _ _)), hU (bQ HB.out (cQ _ _)), hU (HG.out.up (cQ _ _)), hU (HOB.out.up (cQ _ _))⟩
      case measure => simp [intOf]; omega
     ·obtain rfl : k = F.t.ls.length := by omega
      rw [List.take_length]
      have hD : 0 ≤ maxD F.t.ls ∧ maxD F.t.ls ≤ 65536 := maxD_bd (n := F.t.n) F.t.ls 0 (fun l hl => by
       obtain ⟨i, hi, rfl⟩ := List.getElem_of_mem hl
       exact valid_lnk HV.out (List.getElem?_eq_getElem hi)) (by omega) (by omega)
      have hP : 0 ≤ F.t.n * maxD F.t.ls ∧ F.t.n * maxD F.t.ls ≤ 4194304 := ⟨Int.mul_nonneg (by have := HN.out; omega) hD.1, by
       have h1 := Int.mul_le_mul (show F.t.n ≤ 64 from HN.out.2) hD.2 hD.1 (by omega : (0 : Int) ≤ 64)
       omega⟩
      have hLV : leastV F.t = F.t.n * maxD F.t.ls + 4 := rfl
      obtain ⟨D, hDD⟩ : ∃ D, D = maxD F.t.ls := ⟨_, rfl⟩
      rw [← hDD] at hP hLV ⊢
      have HLV := hU hLV
      clear hD hDD
      obtain ⟨P, hPP⟩ : ∃ P, F.t.n * D = P := ⟨_, rfl⟩
      rw [hPP] at hP hLV
      have HPP := hU hPP
      have hw1 := IntWalk.wrap64_in P (by omega)
      have hw2 := IntWalk.wrap64_in (P + 4) (by omega)
      obtain ⟨f0, f1, f2, f3, f4, f5, f6, _⟩ := HX.out.c7
      obtain ⟨o0, o1, o2, o3, _⟩ := HOB.out.c4
      go_upto_region 20 with fail
      by_cases q1 : oo.tu = 0
      ·have b1 : (oo.tu != 0) = false := by simp [q1]
       by_cases q2 : F.t.n ≤ 32
       ·by_cases q3 : F.ga ≤ P + 4
        ·have HNO : Hid (¬ okP F tr) := hU (fun ⟨o, ho, h1, h2, h3, h4, _⟩ => by
          rw [HOO.out] at ho
          injection ho with ho
          subst ho
          rw [HLV.out, HPP.out] at h3 h4
          omega)
         go_wp2_with fail
         go_ret
         exact .mk rfl HDV.out HG.out ⟨fun h => (by cases h), fun h => absurd h HNO.out⟩ HGS.out.1 HGS.out.2.1 HB.out HFR.out
        ·by_cases q4 : F.ho ≤ P + 4
         ·have HNO : Hid (¬ okP F tr) := hU (fun ⟨o, ho, h1, h2, h3, h4, _⟩ => by
           rw [HOO.out] at ho
           injection ho with ho
           subst ho
           rw [HLV.out, HPP.out] at h3 h4
           omega)
          go_wp2_with fail
          go_ret
          exact .mk rfl HDV.out HG.out ⟨fun h => (by cases h), fun h => absurd h HNO.out⟩ HGS.out.1 HGS.out.2.1 HB.out HFR.out
         ·have HGO := hU (And.intro q1 (And.intro q2 (And.intro q3 q4)))
          go_upto_region 22 with fail
          clear q1 q2 q3 q4 b1 hw1 hw2 hP hLV hPP
          have HCV := hU (vy_converged F oo tr A1 A2 O C c1 c2 co ct (HT.out.below HB.out) ((HO.out).below HB.out) (HTR.out.below HB.out) HV.out HOO.out HLT.out HOK.out HNM.out)
          have HCO := hU (show gZ F.t oo.k oo.m = true by have h1 := HOK1.out; unfold outOk at h1; simp only [Bool.and_eq_true] at h1; exact h1.1.1)
          have s7 := HG.out.gb.cell 7 rfl
          have t7 := HG.out.gb.frz 7
          cases hcv : setC F.t oo.k oo.m (CkS.new F.t) tr with
          | false =>
           rw [hcv] at HCV
           have HNO : Hid (¬ okP F tr) := hU (fun ⟨o, ho, _, _, _, _, h5, _⟩ => by
            rw [HOO.out] at ho
            injection ho with ho
            subst ho
            rw [hcv] at h5
            cases h5)
           clear hcv
           go_wp2_with (go_at_call 36; (with_reducible refine HCV.out.mono ?_); rintro e w6 ⟨rfl, hb⟩; replace HX := hU (HX.out.up hb); replace HG := hU (HG.out.up hb); replace HOB := hU (HOB.out.up hb); replace HB := hU (bQ HB.out hb); clear hb HCV f0 f1 f2 f3 f4 f5 f6 o0 o1 o2 o3 s7 t7; have s7 := HG.out.gb.cell 7 rfl; have t7 := HG.out.gb.frz 7)
           go_ret
           exact .mk rfl HDV.out (HG.out.setO false HML.out HGS.out.2.2.2.2.symm) ⟨fun h => (by cases h), fun h => absurd h HNO.out⟩ HGS.out.1 HGS.out.2.1 (HB.out.setCell (p := ⟨g, 7, none⟩) HGS.out.1 _) HFR.out
          | true =>
           rw [hcv] at HCV
           have HCT := hU hcv
           clear hcv
           go_wp2_with (first | (go_at_call 36; (with_reducible refine HCV.out.mono ?_); rintro e w6 ⟨rfl, hb⟩; replace HX := hU (HX.out.up hb); replace HG := hU (HG.out.up hb); replace HOB := hU (HOB.out.up hb); replace HB := hU (bQ HB.out hb); clear hb HCV f0 f1 f2 f3 f4 f5 f6 o0 o1 o2 o3 s7 t7; obtain ⟨f0, f1, f2, f3, f4, f5, f6, _⟩ := HX.out.c7; obtain ⟨o0, o1, o2, o3, _⟩ := HOB.out.c4; have HCR := hU (repair_Covered (w := w6) c1 c2 oo.k oo.m HV.out (HT.out.below HB.out) (comp_inJ HCO.out))) | (go_at_call 37; (with_reducible refine HCR.out.mono ?_); rintro e w7 ⟨bc, rfl, hbc, hb⟩; have HBC := hU hbc; replace HG := hU (HG.out.up hb); replace HB := hU (bQ HB.out hb); clear hb hbc HCR f0 f1 f2 f3 f4 f5 f6 o0 o1 o2 o3; have s7 := HG.out.gb.cell 7 rfl; have t7 := HG.out.gb.frz 7))
           go_ret
           exact .mk rfl HDV.out (HG.out.setO bc HML.out HGS.out.2.2.2.2.symm) ⟨fun h => ⟨oo, HOO.out, HGO.out.1, HGO.out.2.1, by rw [HLV.out, HPP.out]; have := HGO.out.2.2.1; omega, by rw [HLV.out, HPP.out]; have := HGO.out.2.2.2; omega, HCT.out, HBC.out.1 h⟩, fun ⟨o, ho, _, _, _, _, _, h6⟩ => HBC.out.2 (by rw [HOO.out] at ho; injection ho with ho; subst ho; exact h6)⟩ HGS.out.1 HGS.out.2.1 (HB.out.setCell (p := ⟨g, 7, none⟩) HGS.out.1 _) HFR.out
       ·have HNO : Hid (¬ okP F tr) := hU (fun ⟨o, ho, h1, h2, h3, h4, _⟩ => by
         rw [HOO.out] at ho
         injection ho with ho
         subst ho
         rw [HLV.out, HPP.out] at h3 h4
         omega)
        go_wp2_with fail
        go_ret
        exact .mk rfl HDV.out HG.out ⟨fun h => (by cases h), fun h => absurd h HNO.out⟩ HGS.out.1 HGS.out.2.1 HB.out HFR.out
      ·have b1 : (oo.tu != 0) = true := by simp [q1]
       have HNO : Hid (¬ okP F tr) := hU (fun ⟨o, ho, h1, h2, h3, h4, _⟩ => by
        rw [HOO.out] at ho
        injection ho with ho
        subst ho
        rw [HLV.out, HPP.out] at h3 h4
        omega)
       go_wp2_with fail
       go_ret
       exact .mk rfl HDV.out HG.out ⟨fun h => (by cases h), fun h => absurd h HNO.out⟩ HGS.out.1 HGS.out.2.1 HB.out HFR.out
   ·have hne : ((F.out.length : Int) != 1) = true := by rw [bne_iff_ne]; omega
    have HDV : Hid (uQ F = []) := hU (by
     unfold uQ
     split
     ·rename_i o ho; rw [ho] at hol; exact absurd rfl hol
     ·rfl)
    have HNO : Hid (¬ okP F tr) := hU (fun ⟨o, ho, _⟩ => hol (by rw [ho]; rfl))
    clear hol
    go_wp2_with fail
    go_ret
    exact .mk rfl HDV.out HG.out ⟨fun h => (by cases h), fun h => absurd h HNO.out⟩ HGS.out.1 HGS.out.2.1 HB.out (fun p hp => by cases hp)
end
end
end Go.Proofs.YtdnjflpmbnjgeaaGreat
