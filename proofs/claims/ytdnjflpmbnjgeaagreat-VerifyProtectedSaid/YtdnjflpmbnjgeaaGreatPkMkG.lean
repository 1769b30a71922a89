/-
  A drawn region of operations that read, or make memory, in whatever order: of each value a fact is known that lasts.
  waypointref56.Protected, verify.Protected (printed by gen_vs7.py).
  verify.Protected (printed by gen_vs8.py).
-/
import Derived.Test.YtdnjflpmbnjgeaaGreatPkInvR
import Derived.Test.YtdnjflpmbnjgeaaGreatVs6
import Derived.Test.YtdnjflpmbnjgeaaGreatPkRz
set_option linter.unusedVariables false
set_option linter.unusedSimpArgs false
namespace Go.Proofs.YtdnjflpmbnjgeaaGreat
section
open Go.RowKit Go.Sort Go.MapKept
section
variable {P : Program} {Q : Exit → Act → World → Prop}
structure MkG (n : Nat) (d : Nat → Nat) (G : Nat → Value → World → Prop) (w0 : World) (a0 : Act) (L : Array Bool) (a : Act) (w : World) (x : Nat → Value) : Prop where
 below : Below w0.heap.size w0 w
 defers : a.defers = a0.defers
 size : a.tmps.size = a0.tmps.size
 old : ∀ j, (∀ i, i < n → d i ≠ j) → a.tmps.getD j undef = a0.tmps.getD j undef
 val : ∀ i, i < n → L.getD i false = true → a.tmps.getD (d i) undef = x i
 fact : ∀ i, i < n → L.getD i false = true → G i (x i) w
theorem wp_region_mkG {l : List Oper} (n : Nat) (d : Nat → Nat) (G : Nat → Value → World → Prop) {id : Nat} {a : Act} {w : World} (hm : P.follows .mixedOrders = true) (hB : tailOk l.toArray n = true)
    (hd : ∀ i j, i < n → j < n → d i = d j → i = j) (hds : ∀ i, i < n → d i < a.tmps.size) (up : ∀ i v W W', i < n → G i v W → Below W.heap.size W W' → G i v W')
    (hs : ∀ L b W x i, i < n → MkG n d G w.drew a L b W x → i ∈ Region.ready .any l.toArray L → ∀ K : Act → World → Prop, (∀ v W', Below W.heap.size W W' → G i v W' → K (b.put (some (d i)) v) W') → wpOp P l.toArray Q i K b W)
    (hQ : ∀ (W : World) (x : Nat → Value), Below w.drew.heap.size w.drew W → (∀ i, i < n → G i (x i) W) → wpList P l.toArray Q (l.drop n) { tmps := putAll d x n a.tmps, defers := a.defers } W) : (Code.region id l.toArray true).wp P Q a w := by
 refine wp_region_inv_tail n (fun L b W => ∃ x, MkG n d G w.drew a L b W x) hm hB ?_ ?_ ?_
 ·refine ⟨fun _ => undef, ⟨Below.refl _ _, rfl, rfl, fun _ _ => rfl, fun i _ h => ?_, fun i _ h => ?_⟩⟩
  all_goals (rw [getD_replicate_false] at h; cases h)
 ·rintro L b W i inv ⟨x, hx⟩ hi hr
  have hl := getD_both (ready_mem.1 hr).2.1
  have hiL : i < L.size := by rw [inv.size]; exact (ready_mem.1 hr).1
  have hsz : d i < b.tmps.size := by rw [hx.size]; exact hds i hi
  refine hs L b W x i hi hx hr _ fun v W' hb hg => ⟨fun j => if j = i then v else x j, bQ hx.below hb, hx.defers, by simp [Act.put, hx.size], fun j hj => ?_, fun j hj hlj => ?_, fun j hj hlj => ?_⟩
  ·show (b.tmps.setIfInBounds (d i) _).getD j undef = _
   rw [getD_setV hsz, if_neg (hj i hi)]
   exact hx.old j hj
  ·show (b.tmps.setIfInBounds (d i) _).getD (d j) undef = _
   rw [getD_setL hiL] at hlj
   rw [getD_setV hsz]
   by_cases e : i = j
   ·subst e; simp
   ·rw [if_neg (fun e2 => e (hd i j hi hj e2)), if_neg (fun e2 => e e2.symm)]
    rw [if_neg e] at hlj
    exact hx.val j hj hlj
  ·rw [getD_setL hiL] at hlj
   show G j (if j = i then v else x j) W'
   by_cases e : j = i
   ·subst e; rw [if_pos rfl]; exact hg
   ·rw [if_neg e]
    rw [if_neg (fun e2 => e e2.symm)] at hlj
    exact up j _ _ _ hj (hx.fact j hj hlj) hb
 ·rintro L b W ⟨x, h⟩ rfl
  obtain ⟨tm, df⟩ := b
  have h1 : df = a.defers := h.defers
  have h2 : tm = putAll d x n a.tmps := tmps_eq hd hds h.size h.old fun i hi => h.val i hi (dQ hi)
  subst h1 h2
  exact hQ W x h.below fun i hi => h.fact i hi (dQ hi)
end
end
section
open Go.RowKit Go.Sort
theorem vy_parts {F : FaN} {ps : List PkN} {tr : List Ev} (h : vyOk F ps tr = true) : valid F.t = true ∧ timOk F = true ∧ (∀ o ∈ F.out, outOk F.t o = true) ∧ pksOk F.t [] ps = true ∧ trOk tr = true ∧ tr.all (xQ F.t) = true := by
 unfold vyOk at h
 simp only [Bool.and_eq_true] at h
 exact ⟨h.1.1, h.1.2, List.all_eq_true.1 h.2.1, h.2.2.1, h.2.2.2.1, h.2.2.2.2⟩
theorem first_pk (ps : List PkN) (id : Int) : (pkOf ps id = none ∧ ∀ p ∈ ps, p.id ≠ id) ∨ ∃ (k : Nat) (p : PkN), pkOf ps id = some p ∧ ps[k]? = some p ∧ p.id = id ∧ ∀ q ∈ ps.take k, q.id ≠ id := by
 cases h : pkOf ps id with
 | none =>
  refine .inl ⟨rfl, fun p hp e => ?_⟩
  exact List.find?_eq_none.1 h p hp (by simp [e])
 | some p =>
  obtain ⟨h1, ls, bs, h2, h3⟩ := List.find?_eq_some_iff_append.1 h
  refine .inr ⟨ls.length, p, rfl, by rw [h2]; simp, by simpa using h1, fun q hq => ?_⟩
  rw [h2, List.take_left] at hq
  have := h3 q hq
  simpa using this
/-- What Protected returns. -/
def PrQ (F : FaN) (ps : List PkN) (tr : List Ev) (id : Int) (b : Bool) (x : Int) : Prop :=
 (vyOk F ps tr = false ∧ b = false ∧ x = 1) ∨ (vyOk F ps tr = true ∧ pkOf ps id = none ∧ b = false ∧ x = 8) ∨ ∃ p, vyOk F ps tr = true ∧ pkOf ps id = some p ∧ x = 0 ∧ (b = true ↔ protP F tr p)
theorem PrQ.same {F : FaN} {ps : List PkN} {tr : List Ev} {id : Int} {b c : Bool} {x y : Int} (h : PrQ F ps tr id b x) (g : PrQ F ps tr id c y) : b = c ∧ x = y := by
 rcases h with ⟨h1, h2, h3⟩ | ⟨h1, h2, h3, h4⟩ | ⟨p, h1, h2, h3, h4⟩
 ·rcases g with ⟨g1, g2, g3⟩ | ⟨g1, g2, g3, g4⟩ | ⟨q, g1, g2, g3, g4⟩
  ·exact ⟨h2.trans g2.symm, h3.trans g3.symm⟩
  ·rw [h1] at g1; cases g1
  ·rw [h1] at g1; cases g1
 ·rcases g with ⟨g1, g2, g3⟩ | ⟨g1, g2, g3, g4⟩ | ⟨q, g1, g2, g3, g4⟩
  ·rw [h1] at g1; cases g1
  ·exact ⟨h3.trans g3.symm, h4.trans g4.symm⟩
  ·rw [h2] at g2; cases g2
 ·rcases g with ⟨g1, g2, g3⟩ | ⟨g1, g2, g3, g4⟩ | ⟨q, g1, g2, g3, g4⟩
  ·rw [h1] at g1; cases g1
  ·rw [h2] at g2; cases g2
  ·rw [h2] at g2
   injection g2 with g2
   subst g2
   exact ⟨Bool.eq_iff_iff.2 (h4.trans g4.symm), h3.trans g3.symm⟩
def RetPr (F : FaN) (ps : List PkN) (tr : List Ev) (id : Int) (w : World) (e : Ending) (w' : World) : Prop :=
 ∃ (b : Bool) (x : Int), e = .returned (.tuple #[.bool b, .int .i64 x]) ∧ PrQ F ps tr id b x ∧ Below w.heap.size w w'
section
variable {w : World}
set_option maxRecDepth 100000 in
set_option maxHeartbeats 16000000 in
theorem ref56_Protected (F : FaN) (ps : List PkN) (tr : List Ev) (id : Int) (A1 A2 O B C : Option Addr) (c1 c2 co cp ct : Nat) (hT : TAt w A1 A2 F.t) (hO : Rd w O (F.out.flatMap outL)) (hP : Rd w B (ps.flatMap pkL)) (hE : RdE w C tr)
    (hl : F.t.ls.length ≤ 100000) (hlo : F.out.length ≤ 100000) (hlp : ps.length ≤ 100000) (hlt : tr.length ≤ 100000) (hid : ∀ p ∈ ps, inJ p.id ∧ p.sn ≤ 1000000) :
    Calls Tryz.prog 7 #[.agg #[.int .i64 F.t.n, .slice A1 F.t.ov.length c1, .slice A2 F.t.ls.length c2, .int .i64 F.det, .int .i64 F.ga, .int .i64 F.ho, .slice O F.out.length co], .slice B ps.length cp, .slice C tr.length ct, .int .i64 id] w (RetPr F ps tr id w) := by
 have HX := hU (Bl.new w #[.int .i64 F.t.n, .slice A1 F.t.ov.length c1, .slice A2 F.t.ls.length c2, .int .i64 F.det, .int .i64 F.ga, .int .i64 F.ho, .slice O F.out.length co] 28)
 have HB := hU (cQ w (.cells #[.int .i64 F.t.n, .slice A1 F.t.ov.length c1, .slice A2 F.t.ls.length c2, .int .i64 F.det, .int .i64 F.ga, .int .i64 F.ho, .slice O F.out.length co] 28))
 obtain ⟨f0, f1, f2, f3, f4, f5, f6, _⟩ := HX.out.c7
 have HVA := hU (fun (W : World) (hW : Below w.heap.size w W) => ref56_Valid (w := W) F ps tr A1 A2 O B C c1 c2 co cp ct (hT.below hW) (hO.below hW) (hP.below hW) (hE.below hW) hl hlo hlp hlt)
 cases hvy : vyOk F ps tr with
 | false =>
  have HQ : Hid (PrQ F ps tr id false 1) := hU (.inl ⟨hvy, rfl, rfl⟩)
  rw [hvy] at HVA
  clear hT hO hP hE hl hlo hlp hlt hid hvy
  go_enter Tryz.func7, Tryz.ntmps7
  go_wp2_with (go_at_call 12; (with_reducible refine (HVA.out _ HB.out).mono ?_); rintro e w2 ⟨rfl, hb⟩; replace HX := hU (HX.out.up hb); replace HB := hU (bQ HB.out hb); clear hb; clear f0 f1 f2 f3 f4 f5 f6; obtain ⟨f0, f1, f2, f3, f4, f5, f6, _⟩ := HX.out.c7)
  go_ret2
  exact ⟨false, 1, rfl, HQ.out, HB.out⟩
 | true =>
  rw [hvy] at HVA
  obtain ⟨hv, htm, hout, hpk, hok, hnm⟩ := vy_parts hvy
  have HIX := hU (fun (W : World) (hW : Below w.heap.size w W) => ref56_index (w := W) (B := B) ps cp id (hP.below hW) hlp)
  rcases first_pk ps id with ⟨h1, h2⟩ | ⟨k, P, h1, h2, h3, h4⟩
  ·have HQ : Hid (PrQ F ps tr id false 8) := hU (.inr (.inl ⟨hvy, h1, rfl, rfl⟩))
   rw [ixOf_none h2] at HIX
   clear hT hO hP hE hl hlo hlp hlt hid hvy hv htm hout hpk hok hnm h1 h2
   go_enter Tryz.func7, Tryz.ntmps7
   go_wp2_with (first | (go_at_call 12; (with_reducible refine (HVA.out _ HB.out).mono ?_); rintro e w2 ⟨rfl, hb⟩; replace HX := hU (HX.out.up hb); replace HB := hU (bQ HB.out hb); clear hb; clear f0 f1 f2 f3 f4 f5 f6; obtain ⟨f0, f1, f2, f3, f4, f5, f6, _⟩ := HX.out.c7) | (go_at_call 13; (with_reducible refine (HIX.out _ HB.out).mono ?_); rintro e w2 ⟨rfl, hb⟩; replace HX := hU (HX.out.up hb); replace HB := hU (bQ HB.out hb); clear hb; clear f0 f1 f2 f3 f4 f5 f6; obtain ⟨f0, f1, f2, f3, f4, f5, f6, _⟩ := HX.out.c7))
   go_ret2
   exact ⟨false, 8, rfl, HQ.out, HB.out⟩
  ·have HQ : Hid (∀ b : Bool, (b = true ↔ protP F tr P) → PrQ F ps tr id b 0) := hU (fun b h => .inr (.inr ⟨P, hvy, h1, rfl, h⟩))
   rw [ixOf_some h4 h2 h3] at HIX
   have hkl : k < ps.length := (List.getElem?_eq_some_iff.1 h2).1
   have hkl' : (k : Int) < (ps.length : Int) := by omega
   have HPO := hU (pks_out ps [] hpk k P h2).2.2
   have HSG := hU (fun (W : World) (hW : Below w.heap.size w W) => ref56_Single (w := W) F tr A1 A2 O C c1 c2 co ct hv (hT.below hW) (hO.below hW) (hE.below hW) hlo hlt hnm)
   have HSF := hU (fun (o : OutN) (hoo : F.out = [o]) (W : World) (hW : Below w.heap.size w W) => ref56_Safe (w := W) F tr P o A1 A2 O C c1 c2 co ct hv (hT.below hW) (hO.below hW) (hE.below hW) hlt hoo (hout o (by rw [hoo]; exact List.mem_singleton.2 rfl)) htm HPO.out.1 HPO.out.2 (hid P (List.mem_of_getElem? h2)).2)
   have HPI := hU (fun (o : OutN) (hoo : F.out = [o]) => protP_iff (tr := tr) (P := P) hoo (by have := hout o (by rw [hoo]; exact List.mem_singleton.2 rfl); unfold outOk at this; simp only [Bool.and_eq_true] at this; exact (inR_true.1 this.1.2).1) (by unfold timOk at htm; simp only [Bool.and_eq_true] at htm; exact (inR_true.1 htm.1).1))
   obtain ⟨bz, oz, hAz, hcz⟩ := row_at (s := 6) (fun _ => rfl) (by omega) hP h2
   have HZ := hU hcz
   subst hAz
   clear hT hO hP hE hl hlo hid hvy hv htm hout hpk hok hnm h1 h2 h3 h4 hcz hkl
   go_enter Tryz.func7, Tryz.ntmps7
   go_upto_region 6 with (first | (go_at_call 12; (with_reducible refine (HVA.out _ HB.out).mono ?_); rintro e w2 ⟨rfl, hb⟩; replace HX := hU (HX.out.up hb); replace HB := hU (bQ HB.out hb); clear hb; clear f0 f1 f2 f3 f4 f5 f6; obtain ⟨f0, f1, f2, f3, f4, f5, f6, _⟩ := HX.out.c7) | (go_at_call 13; (with_reducible refine (HIX.out _ HB.out).mono ?_); rintro e w2 ⟨rfl, hb⟩; replace HX := hU (HX.out.up hb); replace HB := hU (bQ HB.out hb); clear hb; clear f0 f1 f2 f3 f4 f5 f6; obtain ⟨f0, f1, f2, f3, f4, f5, f6, _⟩ := HX.out.c7))
   have z0 := aQ HB.out (HZ.out 0 (.int .i64 P.id) rfl)
   have z1 := aQ HB.out (HZ.out 1 (.int .i64 P.src) rfl)
   have z2 := aQ HB.out (HZ.out 2 (.int .i64 P.dst) rfl)
   have z3 := aQ HB.out (HZ.out 3 (.int .i64 P.fl) rfl)
   have z4 := aQ HB.out (HZ.out 4 (.slice P.st P.sn P.sc) rfl)
   have z5 := aQ HB.out (HZ.out 5 (.int .i64 P.hops) rfl)
   rw [Nat.add_zero] at z0
   by_cases hokp : okP F tr
   ·have HOP := hU hokp
    obtain ⟨o, hoo, _⟩ := hokp
    have HPI2 := hU (HPI.out o hoo)
    replace HSF := hU (HSF.out o hoo)
    have HS1 : Hid (∀ d os, Calls Tryz.prog 14 #[.agg #[.int .i64 F.t.n, .slice A1 F.t.ov.length c1, .slice A2 F.t.ls.length c2, .int .i64 F.det, .int .i64 F.ga, .int .i64 F.ho, .slice O F.out.length co], .slice C tr.length ct] (grow (redrawn w2 d) os) fun e w'' => e = .returned (.bool true) ∧ ∃ p : Regrown, w'' = grow (redrawn w2 p.d) p.os) := hU fun d os => Calls.regrown_of ((HSG.out _ (HB.out.trans ((below_regrown _ d os).mono HB.out.size))).mono fun e w9 H => RetBP.yes H HOP.out)
    clear hoo HSG HPI
    by_cases hs : safeQ F tr P o
    ·have HSS := hU hs
     have HYES : Hid (PrQ F ps tr id true 0) := hU (HQ.out true ⟨fun _ => HPI2.out.2 ⟨HOP.out, hs⟩, fun _ => rfl⟩)
     have HS2 : Hid (∀ W, Below w2.heap.size w2 W → ∀ d os, Calls Tryz.prog 15 #[.agg #[.int .i64 F.t.n, .slice A1 F.t.ov.length c1, .slice A2 F.t.ls.length c2, .int .i64 F.det, .int .i64 F.ga, .int .i64 F.ho, .slice O F.out.length co], .agg #[.int .i64 P.id, .int .i64 P.src, .int .i64 P.dst, .int .i64 P.fl, .slice P.st P.sn P.sc, .int .i64 P.hops], .slice C tr.length ct] (grow (redrawn W d) os) fun e w'' => e = .returned (.bool true) ∧ ∃ p : Regrown, w'' = grow (redrawn W p.d) p.os) := hU fun W hW d os => Calls.regrown_of ((HSF.out _ (bQ (bQ HB.out hW) (below_regrown _ d os))).mono fun e w9 H => RetBP.yes H HSS.out)
     clear hs HSF
     obtain ⟨P1, P2, P3, P4, P5, P6, P7, P8, P9, P10, P11, P12, P13, -⟩ := kU f0 (kU f1 (kU f2 (kU f3 (kU f4 (kU f5 (kU f6 (kU z0 (kU z1 (kU z2 (kU z3 (kU z4 (kU z5 trivial))))))))))))
     refine wp_region_quiet_below (by kernel_rfl) (by kernel_rfl) ?_
     repeat (go_big_quiet_step ((first | (with_reducible exact HS1.out _ _) | (with_reducible exact HS2.out _ (Below.refl _ _) _ _))))
     refine wpQuiet_nil ?_
     intro W4 hb
     replace hb := eQ hb
     clear P1 P2 P3 P4 P5 P6 P7 P8 P9 P10 P11 P12 P13
     have zU := uU hb f0 (uU hb f1 (uU hb f2 (uU hb f3 (uU hb f4 (uU hb f5 (uU hb f6 (uU hb z0 (uU hb z1 (uU hb z2 (uU hb z3 (uU hb z4 (uU hb z5 trivial)))))))))))); clear f0 f1 f2 f3 f4 f5 f6 z0 z1 z2 z3 z4 z5; obtain ⟨f0, f1, f2, f3, f4, f5, f6, z0, z1, z2, z3, z4, z5, -⟩ := zU
     replace HB := hU (bQ HB.out hb)
     clear hb
     go_wp2_with fail
     go_ret2
     exact ⟨true, 0, rfl, HYES.out, HB.out⟩
    ·have HSS := hU hs
     have HYES : Hid (PrQ F ps tr id false 0) := hU (HQ.out false ⟨fun h => (by cases h), fun h => absurd (HPI2.out.1 h).2 hs⟩)
     have HS2 : Hid (∀ W, Below w2.heap.size w2 W → ∀ d os, Calls Tryz.prog 15 #[.agg #[.int .i64 F.t.n, .slice A1 F.t.ov.length c1, .slice A2 F.t.ls.length c2, .int .i64 F.det, .int .i64 F.ga, .int .i64 F.ho, .slice O F.out.length co], .agg #[.int .i64 P.id, .int .i64 P.src, .int .i64 P.dst, .int .i64 P.fl, .slice P.st P.sn P.sc, .int .i64 P.hops], .slice C tr.length ct] (grow (redrawn W d) os) fun e w'' => e = .returned (.bool false) ∧ ∃ p : Regrown, w'' = grow (redrawn W p.d) p.os) := hU fun W hW d os => Calls.regrown_of ((HSF.out _ (bQ (bQ HB.out hW) (below_regrown _ d os))).mono fun e w9 H => RetBP.no H HSS.out)
     clear hs HSF
     obtain ⟨P1, P2, P3, P4, P5, P6, P7, P8, P9, P10, P11, P12, P13, -⟩ := kU f0 (kU f1 (kU f2 (kU f3 (kU f4 (kU f5 (kU f6 (kU z0 (kU z1 (kU z2 (kU z3 (kU z4 (kU z5 trivial))))))))))))
     refine wp_region_quiet_below (by kernel_rfl) (by kernel_rfl) ?_
     repeat (go_big_quiet_step ((first | (with_reducible exact HS1.out _ _) | (with_reducible exact HS2.out _ (Below.refl _ _) _ _))))
     refine wpQuiet_nil ?_
     intro W4 hb
     replace hb := eQ hb
     clear P1 P2 P3 P4 P5 P6 P7 P8 P9 P10 P11 P12 P13
     have zU := uU hb f0 (uU hb f1 (uU hb f2 (uU hb f3 (uU hb f4 (uU hb f5 (uU hb f6 (uU hb z0 (uU hb z1 (uU hb z2 (uU hb z3 (uU hb z4 (uU hb z5 trivial)))))))))))); clear f0 f1 f2 f3 f4 f5 f6 z0 z1 z2 z3 z4 z5; obtain ⟨f0, f1, f2, f3, f4, f5, f6, z0, z1, z2, z3, z4, z5, -⟩ := zU
     replace HB := hU (bQ HB.out hb)
     clear hb
     go_wp2_with fail
     go_ret2
     exact ⟨false, 0, rfl, HYES.out, HB.out⟩
   ·have HOP := hU hokp
    have HYES : Hid (PrQ F ps tr id false 0) := hU (HQ.out false ⟨fun h => (by cases h), fun h => absurd h.1 hokp⟩)
    have HS1 : Hid (∀ d os, Calls Tryz.prog 14 #[.agg #[.int .i64 F.t.n, .slice A1 F.t.ov.length c1, .slice A2 F.t.ls.length c2, .int .i64 F.det, .int .i64 F.ga, .int .i64 F.ho, .slice O F.out.length co], .slice C tr.length ct] (grow (redrawn w2 d) os) fun e w'' => e = .returned (.bool false) ∧ ∃ p : Regrown, w'' = grow (redrawn w2 p.d) p.os) := hU fun d os => Calls.regrown_of ((HSG.out _ (HB.out.trans ((below_regrown _ d os).mono HB.out.size))).mono fun e w9 H => RetBP.no H HOP.out)
    clear hokp HSG HPI HSF
    obtain ⟨P1, P2, P3, P4, P5, P6, P7, P8, P9, P10, P11, P12, P13, -⟩ := kU f0 (kU f1 (kU f2 (kU f3 (kU f4 (kU f5 (kU f6 (kU z0 (kU z1 (kU z2 (kU z3 (kU z4 (kU z5 trivial))))))))))))
    refine wp_region_quiet_below (by kernel_rfl) (by kernel_rfl) ?_
    repeat (go_big_quiet_step ((with_reducible exact HS1.out _ _)))
    refine wpQuiet_nil ?_
    intro W4 hb
    replace hb := eQ hb
    clear P1 P2 P3 P4 P5 P6 P7 P8 P9 P10 P11 P12 P13
    have zU := uU hb f0 (uU hb f1 (uU hb f2 (uU hb f3 (uU hb f4 (uU hb f5 (uU hb f6 (uU hb z0 (uU hb z1 (uU hb z2 (uU hb z3 (uU hb z4 (uU hb z5 trivial)))))))))))); clear f0 f1 f2 f3 f4 f5 f6 z0 z1 z2 z3 z4 z5; obtain ⟨f0, f1, f2, f3, f4, f5, f6, z0, z1, z2, z3, z4, z5, -⟩ := zU
    replace HB := hU (bQ HB.out hb)
    clear hb
    go_wp2_with fail
    go_ret2
    exact ⟨false, 0, rfl, HYES.out, HB.out⟩
end
def p7D : Nat → Nat
 | 0 => 27
 | 1 => 28
 | 2 => 29
 | 3 => 30
 | 4 => 31
 | _ => 0
theorem p7D_lt : ∀ i, i < 5 → p7D i < 32 := by decide +kernel
theorem p7D_inj : ∀ i, i < 5 → ∀ j, j < 5 → p7D i = p7D j → i = j := by decide +kernel
def p7V (F : FaN) (P : PkN) (tr : List Ev) (A1 A2 O C : Option Addr) (c1 c2 co ct : Nat) : Nat → Value
 | 0 => .agg #[.int .i64 F.t.n, .slice A1 F.t.ov.length c1, .slice A2 F.t.ls.length c2, .int .i64 F.det, .int .i64 F.ga, .int .i64 F.ho, .slice O F.out.length co]
 | 1 => .slice C tr.length ct
 | 3 => .agg #[.int .i64 P.id, .int .i64 P.src, .int .i64 P.dst, .int .i64 P.fl, .slice P.st P.sn P.sc, .int .i64 P.hops]
 | _ => undef
theorem p7_put (x : Nat → Value) (T : Array Value) : putAll p7D x 5 T = (((((T.setIfInBounds 27 (x 0)).setIfInBounds 28 (x 1)).setIfInBounds 29 (x 2)).setIfInBounds 30 (x 3)).setIfInBounds 31 (x 4)) := rfl
structure P7G (F : FaN) (P : PkN) (tr : List Ev) (A1 A2 O C : Option Addr) (c1 c2 co ct : Nat) (i : Nat) (v : Value) (W : World) : Prop where
 r : i = 0 ∨ i = 1 ∨ i = 3 → v = p7V F P tr A1 A2 O C c1 c2 co ct i
 g : i = 2 → ∃ (g sm : Nat) (ok : Bool) (Ad : Option Addr) (cd : Nat), v = .pointer (some ⟨g, 0, none⟩) ∧ GdW F A1 A2 O c1 c2 co g sm ok Ad (uQ F) cd (sentF tr) W ∧ (ok = true ↔ okP F tr)
 b : i = 4 → ∃ b : Bool, v = .bool b ∧ (b = true ↔ protP F tr P)
theorem P7G.up {F : FaN} {P : PkN} {tr : List Ev} {A1 A2 O C : Option Addr} {c1 c2 co ct i : Nat} {v : Value} {W W' : World} (h : P7G F P tr A1 A2 O C c1 c2 co ct i v W) (hb : Below W.heap.size W W') : P7G F P tr A1 A2 O C c1 c2 co ct i v W' :=
 ⟨h.r, fun e => by obtain ⟨g, sm, ok, Ad, cd, h1, h2, h3⟩ := h.g e; exact ⟨g, sm, ok, Ad, cd, h1, h2.up hb, h3⟩, h.b⟩
section
variable {w : World}
set_option maxRecDepth 100000 in
set_option maxHeartbeats 16000000 in
theorem vy_Protected (F : FaN) (ps : List PkN) (tr : List Ev) (id : Int) (A1 A2 O B C : Option Addr) (c1 c2 co cp ct : Nat) (hT : TAt w A1 A2 F.t) (hO : Rd w O (F.out.flatMap outL)) (hP : Rd w B (ps.flatMap pkL)) (hE : RdE w C tr)
    (hl : F.t.ls.length ≤ 100000) (hlo : F.out.length ≤ 100000) (hlp : ps.length ≤ 100000) (hlt : tr.length ≤ 100000) (hid : ∀ p ∈ ps, inJ p.id ∧ p.sn ≤ 1000000) :
    Calls Tryz.prog 6 #[.agg #[.int .i64 F.t.n, .slice A1 F.t.ov.length c1, .slice A2 F.t.ls.length c2, .int .i64 F.det, .int .i64 F.ga, .int .i64 F.ho, .slice O F.out.length co], .slice B ps.length cp, .slice C tr.length ct, .int .i64 id] w (RetPr F ps tr id w) := by
 have HX := hU (Bl.new w #[.int .i64 F.t.n, .slice A1 F.t.ov.length c1, .slice A2 F.t.ls.length c2, .int .i64 F.det, .int .i64 F.ga, .int .i64 F.ho, .slice O F.out.length co] 28)
 have HB := hU (cQ w (.cells #[.int .i64 F.t.n, .slice A1 F.t.ov.length c1, .slice A2 F.t.ls.length c2, .int .i64 F.det, .int .i64 F.ga, .int .i64 F.ho, .slice O F.out.length co] 28))
 obtain ⟨f0, f1, f2, f3, f4, f5, f6, _⟩ := HX.out.c7
 have HVA := hU (fun (W : World) (hW : Below w.heap.size w W) => vy_Valid (w := W) F ps tr A1 A2 O B C c1 c2 co cp ct (hT.below hW) (hO.below hW) (hP.below hW) (hE.below hW) hl hlo hlp hlt (fun p hp => (hid p hp).1))
 cases hvy : vyOk F ps tr with
 | false =>
  have HQ : Hid (PrQ F ps tr id false 1) := hU (.inl ⟨hvy, rfl, rfl⟩)
  rw [hvy] at HVA
  clear hT hO hP hE hl hlo hlp hlt hid hvy
  go_enter Tryz.func6, Tryz.ntmps6
  go_wp2_with (go_at_call 9; (with_reducible refine (HVA.out _ HB.out).mono ?_); rintro e w2 ⟨rfl, hb⟩; replace HX := hU (HX.out.up hb); replace HB := hU (bQ HB.out hb); clear hb; clear f0 f1 f2 f3 f4 f5 f6; obtain ⟨f0, f1, f2, f3, f4, f5, f6, _⟩ := HX.out.c7)
  go_ret2
  exact ⟨false, 1, rfl, HQ.out, HB.out⟩
 | true =>
  rw [hvy] at HVA
  have HPT := hU (vy_parts hvy)
  have HVY := hU hvy
  have HT := hU hT
  have HO := hU hO
  have HP := hU hP
  have HTR := hU hE
  have HID := hU hid
  have HLT := hU hlt
  clear hT hO hP hE hl hlo hid hvy hlt
  go_enter Tryz.func6, Tryz.ntmps6
  go_upto_region 3 with (go_at_call 9; (with_reducible refine (HVA.out _ HB.out).mono ?_); rintro e w2 ⟨rfl, hb⟩; replace HX := hU (HX.out.up hb); replace HB := hU (bQ HB.out hb); clear hb; clear f0 f1 f2 f3 f4 f5 f6; obtain ⟨f0, f1, f2, f3, f4, f5, f6, _⟩ := HX.out.c7)
  refine kQ (fun Y => Bl 28 w.heap.size #[.int .i64 F.t.n, .slice A1 F.t.ov.length c1, .slice A2 F.t.ls.length c2, .int .i64 F.det, .int .i64 F.ga, .int .i64 F.ho, .slice O F.out.length co] Y ∧ Below w.heap.size w Y) ⟨HX.out, HB.out⟩ ?_
  clear HX HB f0 f1 f2 f3 f4 f5 f6 HVA
  rintro Y ⟨h1, h2⟩
  have HX := hU h1
  have HB := hU h2
  clear h1 h2
  go_wp2_with fail
  go_loopw [19] (fun i wr => ∃ q : Nat, q ≤ ps.length ∧ i = .int .i64 q ∧ Hid (∀ p ∈ ps.take q, p.id ≠ id) ∧ Hid (Bl 28 w.heap.size #[.int .i64 F.t.n, .slice A1 F.t.ov.length c1, .slice A2 F.t.ls.length c2, .int .i64 F.det, .int .i64 F.ga, .int .i64 F.ho, .slice O F.out.length co] wr) ∧ Hid (Below w.heap.size w wr)) (fun i _ => ps.length - (intOf i).toNat)
  case atStart => exact ⟨0, Nat.zero_le _, rfl, hU (by simp), HX, HB⟩
  case round =>
   clear HX HB
   obtain ⟨q, hq, rfl, HK, HX, HB⟩ := hrel
   by_cases hql : q < ps.length
   ·have hql' : (q : Int) < (ps.length : Int) := by omega
    obtain ⟨P, hpp⟩ : ∃ P, ps[q]? = some P := ⟨_, List.getElem?_eq_getElem hql⟩
    obtain ⟨bz, oz, hAz, hcz⟩ := row_at (s := 6) (fun _ => rfl) (by omega) (HP.out.below HB.out) hpp
    have HTK : Hid (ps.take (q + 1) = ps.take q ++ [P]) := hU (by rw [List.take_add_one, hpp]; rfl)
    have HPP := hU hpp
    have z0 := hcz 0 (.int .i64 P.id) rfl
    have z1 := hcz 1 (.int .i64 P.src) rfl
    have z2 := hcz 2 (.int .i64 P.dst) rfl
    have z3 := hcz 3 (.int .i64 P.fl) rfl
    have z4 := hcz 4 (.slice P.st P.sn P.sc) rfl
    have z5 := hcz 5 (.int .i64 P.hops) rfl
    rw [Nat.add_zero] at z0
    clear hcz hpp
    subst hAz
    go_upto_region 6 with fail
    refine kQ (fun Y => Bl 28 w.heap.size #[.int .i64 F.t.n, .slice A1 F.t.ov.length c1, .slice A2 F.t.ls.length c2, .int .i64 F.det, .int .i64 F.ga, .int .i64 F.ho, .slice O F.out.length co] Y ∧ Below w.heap.size w Y ∧ Bl 49 wr.heap.size #[.int .i64 P.id, .int .i64 P.src, .int .i64 P.dst, .int .i64 P.fl, .slice P.st P.sn P.sc, .int .i64 P.hops] Y) ⟨HX.out.up (cQ _ _), bQ HB.out (cQ _ _), Bl.new _ _ _⟩ ?_
    generalize wr.heap.size = pb
    clear HX HB z0 z1 z2 z3 z4 z5
    rintro Y ⟨h1, h2, h3⟩
    have HX := hU h1
    have HB := hU h2
    have HZ := hU h3
    clear h1 h2 h3
    obtain ⟨z0, z1, z2, z3, z4, z5, _⟩ := HZ.out.c6
    by_cases he : P.id = id
    ·have heb : (P.id == id) = true := beq_iff_eq.2 he
     have HPK : Hid (pkOf ps id = some P) := hU (by
      rcases first_pk ps id with ⟨h1, h2⟩ | ⟨k, Q, h1, h2, h3, h4⟩
      ·exact absurd he (h2 P (List.mem_of_getElem? HPP.out))
      ·rw [h1]
       rcases Nat.lt_trichotomy k q with h | h | h
       ·exact absurd h3 (HK.out Q (by
         obtain ⟨h5, h6⟩ := List.getElem?_eq_some_iff.1 h2
         exact List.mem_take_iff_getElem.2 ⟨k, by omega, h6⟩))
       ·subst h
        exact h2.symm.trans HPP.out
       ·exact absurd he (h4 P (by
         obtain ⟨h5, h6⟩ := List.getElem?_eq_some_iff.1 HPP.out
         exact List.mem_take_iff_getElem.2 ⟨q, by omega, h6⟩)))
     have HPO := hU (pks_out ps [] HPT.out.2.2.2.1 q P HPP.out).2.2
     have HPI := hU (HID.out P (List.mem_of_getElem? HPP.out))
     have HW0 := hU (Below.refl Y.heap.size Y)
     clear he
     go_upto_region 7 with fail
     clear z0 z1 z2 z3 z4 z5
     refine wp_region_mkG 5 p7D (P7G F P tr A1 A2 O C c1 c2 co ct) (by kernel_rfl) (by kernel_rfl) (fun i j hi hj h => p7D_inj i hi j hj h) (fun i hi => by have := p7D_lt i hi; simp; omega) (fun i v W W' _ h hb => h.up hb) ?_ ?_
     ·intro L ac W xq i hi hst hr K9 hK
      have HXW := hU ((HX.out.up (gQ _)).up hst.below)
      have HZW := hU ((HZ.out.up (gQ _)).up hst.below)
      have HBW := hU (bQ (bQ HB.out (gQ _)) hst.below)
      obtain ⟨f0, f1, f2, f3, f4, f5, f6, _⟩ := HXW.out.c7
      obtain ⟨z0, z1, z2, z3, z4, z5, _⟩ := HZW.out.c6
      match i, hi, hr, hK with
      | 0, _, hr, hK =>
       have q4 : ac.tmps.getD 4 undef = .pointer (some ⟨w.heap.size, 0, none⟩) := (hst.old 4 (by decide +kernel)).trans rfl
       clear hst hr
       refine iQ _ rfl rfl ?_
       go_simp
       exact hK _ _ (Below.refl _ _) ⟨fun _ => rfl, fun e => absurd e (by decide), fun e => absurd e (by decide)⟩
      | 1, _, hr, hK =>
       have q2 : ac.tmps.getD 2 undef = .slice C tr.length ct := (hst.old 2 (by decide +kernel)).trans rfl
       clear hst hr
       refine iQ _ rfl rfl ?_
       go_simp
       exact hK _ _ (Below.refl _ _) ⟨fun _ => rfl, fun e => absurd e (by decide), fun e => absurd e (by decide)⟩
      | 2, _, hr, hK =>
       have s27 : ac.tmps.getD 27 undef = .agg #[.int .i64 F.t.n, .slice A1 F.t.ov.length c1, .slice A2 F.t.ls.length c2, .int .i64 F.det, .int .i64 F.ga, .int .i64 F.ho, .slice O F.out.length co] := (hst.val 0 (by omega) (rU hr 0)).trans ((hst.fact 0 (by omega) (rU hr 0)).r (by decide))
       have s28 : ac.tmps.getD 28 undef = .slice C tr.length ct := (hst.val 1 (by omega) (rU hr 1)).trans ((hst.fact 1 (by omega) (rU hr 1)).r (by decide))
       clear hst hr
       refine iQ _ rfl rfl ?_
       go_simp
       (with_reducible refine (vy_newGuard (w := W) F tr A1 A2 O C c1 c2 co ct (HT.out.below HBW.out) (HO.out.below HBW.out) (HTR.out.below HBW.out) HPT.out.1 HPT.out.2.2.1 HPT.out.2.1 HLT.out HPT.out.2.2.2.2.1 HPT.out.2.2.2.2.2).mono ?_)
       rintro e w4 ⟨g, sm, ok, Ad, cd, rfl, h1, h2, _, _, hb4, _⟩
       exact hK _ w4 hb4 ⟨fun e => absurd e (by decide), fun _ => ⟨_, _, _, _, _, rfl, h1, h2⟩, fun e => absurd e (by decide)⟩
      | 3, _, hr, hK =>
       have q11 : ac.tmps.getD 11 undef = .pointer (some ⟨pb, 0, none⟩) := (hst.old 11 (by decide +kernel)).trans rfl
       clear hst hr
       refine iQ _ rfl rfl ?_
       go_simp
       exact hK _ _ (Below.refl _ _) ⟨fun _ => rfl, fun e => absurd e (by decide), fun e => absurd e (by decide)⟩
      | 4, _, hr, hK =>
       obtain ⟨g, sm, ok, Ad, cd, hv, hG, hok⟩ := (hst.fact 2 (by omega) (rU hr 2)).g rfl
       have s29 : ac.tmps.getD 29 undef = .pointer (some ⟨g, 0, none⟩) := (hst.val 2 (by omega) (rU hr 2)).trans hv
       have s30 : ac.tmps.getD 30 undef = .agg #[.int .i64 P.id, .int .i64 P.src, .int .i64 P.dst, .int .i64 P.fl, .slice P.st P.sn P.sc, .int .i64 P.hops] := (hst.val 3 (by omega) (rU hr 3)).trans ((hst.fact 3 (by omega) (rU hr 3)).r (by decide))
       have HGG := hU hG
       have HOO := hU hok
       clear hv hG hok
       clear hst hr
       refine iQ _ rfl rfl ?_
       go_simp
       (with_reducible refine (gd_protects (w := W) F tr P A1 A2 O Ad c1 c2 co cd g sm ok (HT.out.below HBW.out) (HO.out.below HBW.out) HPT.out.1 HPT.out.2.2.1 HPT.out.2.1 HGG.out HOO.out ⟨HPO.out.1, HPO.out.2, HPI.out.1, HPI.out.2⟩).mono ?_)
       rintro e w4 ⟨b, rfl, hb, hb4⟩
       exact hK _ w4 hb4 ⟨fun e => absurd e (by decide), fun e => absurd e (by decide), fun _ => ⟨_, rfl, hb⟩⟩
      | m + 5, hi, _, _ => exact absurd hi (by omega)
     ·intro W xs hbl hf
      have hbw := bQ (gQ Y) hbl
      have v0 : xs 0 = .agg #[.int .i64 F.t.n, .slice A1 F.t.ov.length c1, .slice A2 F.t.ls.length c2, .int .i64 F.det, .int .i64 F.ga, .int .i64 F.ho, .slice O F.out.length co] := (hf 0 (by omega)).r (by decide)
      have v1 : xs 1 = .slice C tr.length ct := (hf 1 (by omega)).r (by decide)
      obtain ⟨g, sm, ok, Ad, cd, v2, _, _⟩ := (hf 2 (by omega)).g rfl
      have v3 : xs 3 = .agg #[.int .i64 P.id, .int .i64 P.src, .int .i64 P.dst, .int .i64 P.fl, .slice P.st P.sn P.sc, .int .i64 P.hops] := (hf 3 (by omega)).r (by decide)
      obtain ⟨b, v4, hb⟩ := (hf 4 (by omega)).b rfl
      have HQ : Hid (PrQ F ps tr id b 0) := hU (.inr (.inr ⟨P, HVY.out, HPK.out, rfl, hb⟩))
      simp only [p7_put, v0, v1, v2, v3, v4, List.setIfInBounds_toArray, List.set_cons_zero, List.set_cons_succ]
      replace HB := hU (bQ HB.out hbw)
      clear hf hbl hbw v0 v1 v2 v3 v4 hb
      go_wp2_with fail
      go_ret2
      exact ⟨b, 0, rfl, HQ.out, HB.out⟩
    ·have heb : (P.id == id) = false := beq_eq_false_iff_ne.2 he
     have HE := hU he
     clear he
     go_wp2_with fail
     go_roundw
     case rel => exact ⟨q + 1, by omega, by go_num, hU (by rw [HTK.out]; intro p hp; rcases List.mem_append.1 hp with hp | hp; exact HK.out p hp; rw [List.mem_singleton.1 hp]; exact HE.out), HX, HB⟩
     case measure => simp [intOf]; omega
   ·obtain rfl : q = ps.length := by omega
    have HQ : Hid (PrQ F ps tr id false 8) := hU (by
     have h9 := HK.out
     rw [List.take_length] at h9
     refine .inr (.inl ⟨HVY.out, ?_, rfl, rfl⟩)
     rcases first_pk ps id with ⟨h1, h2⟩ | ⟨k, Q, h1, h2, h3, h4⟩
     ·exact h1
     ·exact absurd h3 (h9 Q (List.mem_of_getElem? h2)))
    go_wp2_with fail
    go_ret2
    exact ⟨false, 8, rfl, HQ.out, HB.out⟩
end
end
end Go.Proofs.YtdnjflpmbnjgeaaGreat
