/-
  spf.check, spf.Dist.
  Reachability in plain Lean: what a search finds, forwards and backwards.
-/
import Derived.Test.YtdnjflpmbnjgeaaGreatSpfR
import Derived.Laws.EntriesVeiled
set_option linter.unusedSimpArgs false
set_option linter.unusedVariables false
namespace Go.Proofs.YtdnjflpmbnjgeaaGreat
section
open Go.RowKit Go.Sort
section
variable {w : World} {A1 A2 D : Option Addr} {t : Topo} {dn : List Bool}
set_option maxRecDepth 100000 in
set_option maxHeartbeats 2000000 in
theorem spf_check (c1 c2 dl dc : Nat) (An : Option Addr) (cn : Nat) (ns : List Int) (hv : valid t = true) (hT : TAt w A1 A2 t) (hdl : dl = 0 ∨ dl = 2 * t.ls.length) (hn : Rd w An (ns.map (Value.int .i64))) (hl : ns.length ≤ 100) :
    Calls Tryz.prog 90 #[.agg #[.int .i64 t.n, .slice A1 t.ov.length c1, .slice A2 t.ls.length c2], .slice D dl dc, .slice An ns.length cn] w fun e w' => e = .returned (.int .i64 (if ns.all (isN t.n) = true then 0 else 2)) ∧ Below w.heap.size w w' := by
 have hL := zQ hv
 have hX := TBox.start c1 c2 hT
 obtain ⟨b0, b1, b2⟩ := hX.cells
 have HX := hU hX
 have HV := hU hv
 have HR := hU hn
 have hfit : (decide (dl = 0) || decide (dl = 2 * t.ls.length)) = true := by rcases hdl with h | h <;> simp [h]
 have HF := hU hfit
 generalize hres : (if ns.all (isN t.n) = true then (0 : Int) else 2) = res
 have HRES := hU hres
 clear hX hT hn hv hdl hfit hres
 go_enter Tryz.func90, Tryz.ntmps90
 go_wp2_with (first | (go_at_call 29; refine (topology_Valid t _ _ _ _ _ HX.out.ta.ls).mono ?_; rw [HV.out]; rintro e w1 ⟨rfl, hb⟩; replace HX := hU (HX.out.up hb); clear hb b0 b1 b2; obtain ⟨b0, b1, b2⟩ := HX.out.cells) | (go_at_call 69; refine (graph_Fits t _ _ _ _ _ _ _ _ (by omega)).mono ?_; rw [HF.out]; rintro e w2 ⟨rfl, hb⟩; replace HX := hU (HX.out.up hb); clear hb b0 b1 b2))
 go_loopw [20] (fun i wr => ∃ k : Nat, k ≤ ns.length ∧ i = .int .i64 k ∧ Hid (TBox w A1 A2 c1 c2 t wr) ∧ Hid ((ns.take k).all (isN t.n) = true)) (fun i _ => ns.length - (intOf i).toNat)
 case atStart => exact ⟨0, Nat.zero_le _, rfl, HX, hU rfl⟩
 case round =>
  clear HX
  obtain ⟨k, hk, rfl, HX, HK⟩ := hrel
  by_cases hlt : k < ns.length
  ·have hlt' : (k : Int) < (ns.length : Int) := by omega
   obtain ⟨bz, oz, a, rfl, haz, caz⟩ := ints_at (HR.out.below HX.out.hb) hlt
   obtain ⟨b0, b1, b2⟩ := HX.out.cells
   have HTK : Hid (ns.take (k + 1) = ns.take k ++ [a]) := hU (by rw [List.take_add_one, haz]; rfl)
   have HM : Hid (a ∈ ns) := hU (List.mem_of_getElem? haz)
   clear haz
   cases hi : isN t.n a with
   | true =>
    go_wp2_with (go_at_call 32; refine (cZ _ _ _ _ _).mono ?_; rw [hi]; rintro e w3 ⟨rfl, hb⟩; replace HX := hU (HX.out.up hb); clear hb b0 b1 b2 caz)
    go_roundw
    case rel => exact ⟨k + 1, by omega, by go_num, HX, hU (by rw [HTK.out, List.all_append, HK.out]; simp [hi])⟩
    case measure => simp [intOf]; omega
   | false =>
    have HR2 : Hid (¬ ns.all (isN t.n) = true) := hU (fun h => by
     have := List.all_eq_true.1 h a HM.out
     rw [hi] at this; cases this)
    go_wp2_with (go_at_call 32; refine (cZ _ _ _ _ _).mono ?_; rw [hi]; rintro e w3 ⟨rfl, hb⟩; replace HX := hU (HX.out.up hb); clear hb b0 b1 b2 caz)
    go_ret
    exact ⟨by rw [← HRES.out, if_neg HR2.out]; rfl, HX.out.hb⟩
  ·obtain rfl : k = ns.length := by omega
   go_wp2_with fail
   go_ret
   exact ⟨by have := HK.out; rw [List.take_length] at this; rw [← HRES.out, if_pos this]; rfl, HX.out.hb⟩
theorem spf_check1 (c1 c2 dl dc : Nat) (An : Option Addr) (cn : Nat) (d : Int) (hv : valid t = true) (hT : TAt w A1 A2 t) (hdl : dl = 0 ∨ dl = 2 * t.ls.length) (hn : Rd w An [.int .i64 d]) (hd : isN t.n d = true) :
    Calls Tryz.prog 90 #[.agg #[.int .i64 t.n, .slice A1 t.ov.length c1, .slice A2 t.ls.length c2], .slice D dl dc, .slice An 1 cn] w fun e w' => e = .returned (.int .i64 0) ∧ Below w.heap.size w w' := by
 have h := spf_check (D := D) c1 c2 dl dc An cn [d] hv hT hdl hn (by simp)
 simpa [hd] using h
theorem rd_new1 (w : World) (x : Value) (T : TypeId) : Rd (w.alloc (.cells #[x] T)) (some ⟨w.heap.size, 0, none⟩) [x] := by
 refine .inr ⟨w.heap.size, 0, rfl, fun j u hu => ?_⟩
 rw [Lib.cell_of_heap (heap_alloc_new w _)]
 simpa using hu
/-- What a box of a topology becomes. -/
theorem Dist_follow (ab g n cap : Nat) (vl : List Value) (L : Nat → List Int) (B : Nat) (w : World) (hb : Bl 131 ab #[.slice (some ⟨g, 0, none⟩) n cap] w) (F : Fan w B g n cap vl L) (i : Int) (h0 : 0 ≤ i) (h1 : i < (n : Int)) : ∃ A c, ∀ W, Below w.heap.size w W → Rd W A ((L i.toNat).map (Value.int .i64)) ∧ Calls Tryz.prog 100 #[.int .i64 i, .pointer (some ⟨ab, 0, none⟩)] W fun e w' => e = .returned (.slice A (L i.toNat).length c) ∧ Below W.heap.size W w' := by
 obtain ⟨v, hv, hc, ho⟩ := F.at_ (show i.toNat < n by omega)
 obtain ⟨A, c, rfl, _, _, hr⟩ := rd_of_own ho
 refine ⟨A, c, fun W hW => ⟨hr.below hW, ?_⟩⟩
 have q0 := aQ hW (hb.cell 0 rfl)
 have q1 := aQ hW hc
 clear hb F hv hc ho hr hW
 go_enter Tryz.func100, Tryz.ntmps100
 go_wp2_with fail
 go_ret
 exact ⟨rfl, Below.refl _ _⟩
theorem Dist_end (tb c1 c2 : Nat) (w : World) (hv : valid t = true) (hT : TAt w A1 A2 t) (hb : Bl 25 tb #[.int .i64 t.n, .slice A1 t.ov.length c1, .slice A2 t.ls.length c2] w) (a : Int) (h0 : 0 ≤ a) (h1 : a < 2 * (t.ls.length : Int)) : ∀ W, Below w.heap.size w W → Calls Tryz.prog 101 #[.int .i64 a, .pointer (some ⟨tb, 0, none⟩)] W fun e w' => e = .returned (.int .i64 (tail t a)) ∧ Below W.heap.size W w' := by
 intro W hW
 have hL := zQ hv
 obtain ⟨q0, q1, q2, _⟩ := (hb.up hW).c3
 have HT := hU (hT.below hW)
 clear hb hT hv hW
 go_enter Tryz.func101, Tryz.ntmps101
 go_wp2_with (go_at_call 55; refine (graph_Tail _ _ _ _ t _ _ HT.out.ls h0 h1 (by omega)).mono ?_; rintro e w1 ⟨rfl, hb⟩)
 go_ret
 exact ⟨rfl, hb⟩
set_option maxRecDepth 100000 in
set_option maxHeartbeats 4000000 in
theorem spf_Dist (c1 c2 dc : Nat) (d : Int) (hv : valid t = true) (hd : isN t.n d = true) (hT : TAt w A1 A2 t) (hD : Rd w D (dn.map Value.bool)) (hdl : dn.length = 0 ∨ dn.length = 2 * t.ls.length) :
    Calls Tryz.prog 70 #[.agg #[.int .i64 t.n, .slice A1 t.ov.length c1, .slice A2 t.ls.length c2], .slice D dn.length dc, .int .i64 d] w fun e w' => ∃ (A : Option Addr) (c : Nat) (dist : List Int), e = .returned (.tuple #[.slice A dist.length c, .int .i64 0]) ∧ Rd w' A (dist.map (Value.int .i64)) ∧ SR (sgDist t dn d) dist ∧ Below w.heap.size w w' := by
 have hL := zQ hv
 have hX := TBox.start c1 c2 hT
 obtain ⟨b0, b1, b2⟩ := hX.cells
 have HX := hU hX
 have HV := hU hv
 have HD := hU hD
 have HDL := hU hdl
 have HI := hU hd
 have HBX := hU (Bl.new w #[.int .i64 t.n, .slice A1 t.ov.length c1, .slice A2 t.ls.length c2] 25)
 clear hX hT hv hd hD hdl
 go_enter Tryz.func70, Tryz.ntmps70
 have hsz : (w.alloc (.cells #[.int .i64 t.n, .slice A1 t.ov.length c1, .slice A2 t.ls.length c2] 25)).heap.size = w.heap.size + 1 := by simp
 have HR1 := hU (rd_new1 (w.alloc (.cells #[.int .i64 t.n, .slice A1 t.ov.length c1, .slice A2 t.ls.length c2] 25)) (.int .i64 d) 3)
 rw [hsz] at HR1
 clear hsz
 go_upto_region 5 with (first | (go_at_call 90; (with_reducible refine (spf_check1 _ _ _ _ _ _ d HV.out (HX.out.ta.below (cQ _ _)) HDL.out HR1.out HI.out).mono ?_); rintro e w2 ⟨rfl, hb⟩; replace HX := hU ((HX.out.up (cQ _ _)).up hb); replace HBX := hU ((HBX.out.up (cQ _ _)).up hb); clear hb b0 b1 b2; obtain ⟨b0, b1, b2⟩ := HX.out.cells) | (go_at_call 99; refine (graph_Entering t _ _ _ _ _ HX.out.ta (by omega) HV.out).mono ?_; rintro e w3 ⟨g, n, cap, vl, hn, rfl, hF, hb⟩; replace HX := hU (HX.out.up hb); replace HBX := hU (HBX.out.up hb); have HF := hU hF; have HNN := hU hn; clear hF hb hn b0 b1 b2))
 obtain ⟨ab, hab⟩ : ∃ ab, ab = w3.heap.size := ⟨_, rfl⟩
 refine wp_named3 (fun X => TBox w A1 A2 c1 c2 t X ∧ Bl 25 w.heap.size #[.int .i64 t.n, .slice A1 t.ov.length c1, .slice A2 t.ls.length c2] X ∧ Bl 131 w3.heap.size #[.slice (some ⟨g, 0, none⟩) n cap] X ∧ (∃ B, Fan X B g n cap vl (inN t (2 * t.ls.length)))) ⟨HX.out.up (cQ _ _), HBX.out.up (cQ _ _), Bl.new w3 _ _, ⟨_, HF.out.up (cQ _ _)⟩⟩ ?_
 rintro X ⟨hx1, hx2, hx3, ⟨B, hx4⟩⟩
 rw [← hab] at hx3 ⊢
 clear hab HF HX HBX
 have HX := hU hx1
 have HBX := hU hx2
 have HAB := hU hx3
 have HFN := hU hx4
 obtain ⟨b0, b1, b2⟩ := HX.out.cells
 clear hx1 hx2 hx3 hx4
 have HRUN := hU (fun W (hW : Below X.heap.size X W) => spf_runDist (w := W) (A1 := A1) (A2 := A2) (D := D) (t := t) (dn := dn) (c1 := c1) (c2 := c2) (dc := dc) (r := d) (cF := .pointer (some ⟨ab, 0, none⟩)) (cE := .pointer (some ⟨w.heap.size, 0, none⟩)) HV.out HI.out (HX.out.ta.below hW) (HD.out.below (HX.out.hb.trans (hW.mono HX.out.hb.size))) HDL.out
  (fun i h0 h1 => by
   have := Dist_follow ab g n cap vl _ B W (HAB.out.up hW) (HFN.out.up hW) i h0 (by have := HNN.out; omega)
   rw [show inN t (2 * t.ls.length) i.toNat = (sgDist t dn d).arcs i by unfold inN sgDist; simp only; congr 1; funext a; unfold inP; rw [show ((i.toNat : Nat) : Int) = i by omega]] at this
   exact this)
  (fun W' hW' a h0 h1 => Dist_end w.heap.size c1 c2 W HV.out (HX.out.ta.below hW) (HBX.out.up hW) a h0 h1 W' hW'))
 go_upto_region 6 with fail
 have HX6 := hU (cQ X (.cells #[.int .i64 t.n, .slice A1 t.ov.length c1, .slice A2 t.ls.length c2, .slice D dn.length dc, .int .i64 d, .func (.func 100) #[] #[.pointer (some ⟨ab, 0, none⟩)], .func (.func 101) #[] #[.pointer (some ⟨w.heap.size, 0, none⟩)]] 136))
 clear b0 b1 b2
 go_wp2_with (go_at_call 94; (with_reducible refine (HRUN.out _ HX6.out).mono ?_); rintro e w9 ⟨A, c, dist, rfl, hr, hsr, hb⟩)
 go_ret2
 exact ⟨A, c, dist, rfl, hr, hsr, bQ HX.out.hb (HX6.out.trans (hb.mono HX6.out.size))⟩
end
end
section
/-- The nodes that a search reaches. -/
inductive RchG (G : SG) : Int → Prop
 | base : RchG G G.r
 | step (m a : Int) : RchG G m → G.pass m → a ∈ G.arcs m → G.up a = true → RchG G (G.en a)
theorem SR.reach {G : SG} (hG : G.Ok) {dist : List Int} (h : SR G dist) : ∀ (k : Nat) (i : Int), 0 ≤ i → i < (G.N : Int) → 0 ≤ dD dist i → dD dist i ≤ (k : Int) → RchG G i := by
 intro k
 induction k with
 | zero =>
  intro i h0 h1 h2 h3
  rcases h.td i h0 h1 h2 with ⟨rfl, _⟩ | ⟨m, a, m0, m1, m2, _, ha, _, _, hx⟩
  ·exact .base
  ·have := (hG.en m m0 m1 a ha).2.2.1; omega
 | succ k ih =>
  intro i h0 h1 h2 h3
  rcases h.td i h0 h1 h2 with ⟨rfl, _⟩ | ⟨m, a, m0, m1, m2, hp, ha, hu, he, hx⟩
  ·exact .base
  ·have := (hG.en m m0 m1 a ha).2.2.1
   rw [← he]
   exact .step m a (ih m m0 m1 m2 (by omega)) hp ha hu
theorem RchG.found {G : SG} (hG : G.Ok) {dist : List Int} (h : SR G dist) {i : Int} (hr : RchG G i) : 0 ≤ i ∧ i < (G.N : Int) ∧ 0 ≤ dD dist i := by
 induction hr with
 | base => exact ⟨hG.r0, hG.r1, by rw [h.rt]; exact Int.le_refl _⟩
 | step m a _ hp ha hu ih =>
  obtain ⟨m0, m1, m2⟩ := ih
  have he := hG.en m m0 m1 a ha
  exact ⟨he.1, he.2.1, h.cl m m0 m1 m2 hp a ha hu⟩
theorem SR.iff {G : SG} (hG : G.Ok) {dist : List Int} (h : SR G dist) {i : Int} (h0 : 0 ≤ i) (h1 : i < (G.N : Int)) : 0 ≤ dD dist i ↔ RchG G i :=
 ⟨fun h2 => h.reach hG (dD dist i).toNat i h0 h1 h2 (by omega), fun h2 => (h2.found hG h).2.2⟩
/-- The graph of a search from a node. -/
def sgFrom (t : Topo) (dn : List Bool) (r : Int) : SG := ⟨t.n.toNat, r, fun n => ups (fun a => tail t a == n) (2 * t.ls.length), fun a => fZ t a, upB dn, fun a => cost t a, fun n => over t n⟩
theorem sgFrom_ok {t : Topo} {dn : List Bool} {r : Int} (hv : valid t = true) (hr : isN t.n r = true) : (sgFrom t dn r).Ok := by
 have hN := iZ hv
 have h := isN_true.1 hr
 refine ⟨?_, h.1, ?_, fun n h0 h1 a ha => ?_⟩
 ·show t.n.toNat ≤ 64
  omega
 ·show r < (t.n.toNat : Int)
  omega
 ·have h2 := mem_ups.1 ha
  have h3 := arc_ends2 hv h2.1 (by omega)
  have h4 := cost_bd hv h2.1 (by omega)
  show 0 ≤ fZ t a ∧ fZ t a < (t.n.toNat : Int) ∧ 1 ≤ cost t a ∧ cost t a ≤ 65535
  omega
/-- An arc of a topology that is not down. -/
def arcU (t : Topo) (dn : List Bool) (a : Int) : Prop := 0 ≤ a ∧ a < 2 * (t.ls.length : Int) ∧ upB dn a = true
/-- A way over one arc or more, from a node to another one; no node between them is overloaded. -/
inductive Thru (t : Topo) (dn : List Bool) (s : Int) : Int → Prop
 | one (a : Int) : arcU t dn a → tail t a = s → Thru t dn s (fZ t a)
 | more (a : Int) : arcU t dn a → Thru t dn s (tail t a) → over t (tail t a) = false → Thru t dn s (fZ t a)
inductive Back (t : Topo) (dn : List Bool) (d : Int) : Int → Prop
 | one (a : Int) : arcU t dn a → fZ t a = d → Back t dn d (tail t a)
 | more (a : Int) : arcU t dn a → Back t dn d (fZ t a) → over t (fZ t a) = false → Back t dn d (tail t a)
theorem Thru.cons {t : Topo} {dn : List Bool} {a x : Int} (ha : arcU t dn a) (ho : over t (fZ t a) = false) (h : Thru t dn (fZ t a) x) : Thru t dn (tail t a) x := by
 induction h with
 | one b hb he => exact .more b hb (by rw [he]; exact .one a ha rfl) (by rw [he]; exact ho)
 | more b hb _ hob ih => exact .more b hb ih hob
theorem Back.cons {t : Topo} {dn : List Bool} {a x : Int} (ha : arcU t dn a) (ho : over t (tail t a) = false) (h : Back t dn (tail t a) x) : Back t dn (fZ t a) x := by
 induction h with
 | one b hb he => exact .more b hb (by rw [he]; exact .one a ha rfl) (by rw [he]; exact ho)
 | more b hb _ hob ih => exact .more b hb ih hob
theorem Back.thru {t : Topo} {dn : List Bool} {d x : Int} (h : Back t dn d x) : Thru t dn x d := by
 induction h with
 | one a ha he => rw [← he]; exact .one a ha rfl
 | more a ha _ ho ih => exact Thru.cons ha ho ih
theorem Thru.back {t : Topo} {dn : List Bool} {s x : Int} (h : Thru t dn s x) : Back t dn x s := by
 induction h with
 | one a ha he => rw [← he]; exact .one a ha rfl
 | more a ha _ ho ih => exact Back.cons ha ho ih
/-- A node is reached from another one. -/
def reach (t : Topo) (dn : List Bool) (s d : Int) : Prop := s = d ∨ Thru t dn s d
theorem rchDist {t : Topo} {dn : List Bool} {d x : Int} : RchG (sgDist t dn d) x ↔ reach t dn x d := by
 constructor
 ·intro h
  induction h with
  | base => exact .inl rfl
  | step m a _ hp ha hu ih =>
   have h2 := mem_ups.1 ha
   have ha : arcU t dn a := ⟨h2.1, by omega, hu⟩
   have hm : fZ t a = m := by simpa using h2.2.2
   right
   show Thru t dn (tail t a) d
   rcases ih with e | ih
   ·exact Back.thru (.one a ha (by rw [hm]; exact e))
   ·rcases hp with e | ho
    ·exact Back.thru (.one a ha (by rw [hm]; exact e))
    ·exact Thru.cons ha (by rw [hm]; exact ho) (by rw [hm]; exact ih)
 ·rintro (rfl | h)
  ·exact .base
  ·replace h := h.back
   induction h with
   | one a ha he => exact .step (G := sgDist t dn d) d a .base (.inl rfl) (mem_ups.2 ⟨ha.1, by have := ha.2.1; omega, by simpa using he⟩) ha.2.2
   | more a ha _ ho ih => exact .step (G := sgDist t dn d) (fZ t a) a ih (.inr ho) (mem_ups.2 ⟨ha.1, by have := ha.2.1; omega, by simp⟩) ha.2.2
theorem rchFrom {t : Topo} {dn : List Bool} {s x : Int} : RchG (sgFrom t dn s) x ↔ reach t dn s x := by
 constructor
 ·intro h
  induction h with
  | base => exact .inl rfl
  | step m a _ hp ha hu ih =>
   have h2 := mem_ups.1 ha
   have ha : arcU t dn a := ⟨h2.1, by omega, hu⟩
   have hm : tail t a = m := by simpa using h2.2.2
   right
   show Thru t dn s (fZ t a)
   rcases ih with e | ih
   ·exact .one a ha (by rw [hm]; exact e.symm)
   ·rcases hp with e | ho
    ·exact .one a ha (by rw [hm]; exact e)
    ·exact .more a ha (by rw [hm]; exact ih) (by rw [hm]; exact ho)
 ·rintro (rfl | h)
  ·exact .base
  ·induction h with
   | one a ha he => exact .step (G := sgFrom t dn s) s a .base (.inl rfl) (mem_ups.2 ⟨ha.1, by have := ha.2.1; omega, by simpa using he⟩) ha.2.2
   | more a ha _ ho ih => exact .step (G := sgFrom t dn s) (tail t a) a ih (.inr ho) (mem_ups.2 ⟨ha.1, by have := ha.2.1; omega, by simp⟩) ha.2.2
end
end Go.Proofs.YtdnjflpmbnjgeaaGreat
