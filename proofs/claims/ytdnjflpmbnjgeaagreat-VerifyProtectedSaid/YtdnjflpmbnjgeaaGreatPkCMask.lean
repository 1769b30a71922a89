/-
  component.Mask, waypointref10.Union, Mask, SameBools: what each returns.
  component.Within, waypointref10.Within: what each returns, for every topology and two components.
-/
import Derived.Test.YtdnjflpmbnjgeaaGreatCUn
namespace Go.Proofs.YtdnjflpmbnjgeaaGreat
section
open Go.RowKit Go.Sort
theorem RetBE.next {w0 w w' : World} {r : List Bool × Int} {e : Ending} (h : RetBE w r e w') (hb : Below w0.heap.size w0 w) : RetBE w0 r e w' := by
 obtain ⟨A, c, h0, h1, h2, h3⟩ := h
 exact ⟨A, c, h0, h1, bQ hb h2, fun p hp => Nat.le_trans hb.size (h3 p hp)⟩
theorem rdP_one {w : World} {g : Nat} {k m : Int} (s0 : w.cell? ⟨g, 0, none⟩ = some (.int .i64 k)) (s1 : w.cell? ⟨g, 1, none⟩ = some (.int .i64 m)) : RdP w (some ⟨g, 0, none⟩) [(k, m)] := by
 refine .inr ⟨g, 0, rfl, fun j p hp => ?_⟩
 match j, hp with
 | 0, hp => simp at hp; subst hp; exact ⟨s0, s1⟩
 | j + 1, hp => simp at hp
theorem rdP_new {w : World} {g : Nat} {k m : Int} {T : TypeId} (h : w.heap.size = g) : RdP (w.alloc (.cells #[.int .i64 k, .int .i64 m] T)) (some ⟨g, 0, none⟩) [(k, m)] := by
 subst h
 exact rdP_one (by simp) (by simp)
set_option maxHeartbeats 1000000 in
theorem component_Mask (t : Topo) (A1 A2 : Option Addr) (c1 c2 : Nat) (k m : Int) (w : World) (hT : TAt w A1 A2 t) (hn : t.ls.length ≤ 100000) :
    Calls Tryz.prog 35 #[.agg #[.int .i64 t.n, .slice A1 t.ov.length c1, .slice A2 t.ls.length c2], .agg #[.int .i64 k, .int .i64 m]] w (RetBE w (unionV t [(k, m)])) := by
 have hb0 := cQ w (.cells #[.int .i64 t.n, .slice A1 t.ov.length c1, .slice A2 t.ls.length c2] 25)
 have hb1 := cQ (w.alloc (.cells #[.int .i64 t.n, .slice A1 t.ov.length c1, .slice A2 t.ls.length c2] 25)) (.cells #[.int .i64 k, .int .i64 m] 79)
 have HB := bQ hb0 hb1
 have HT := hT.below HB
 have b0 := aQ hb1 (box0 w (.int .i64 t.n) (.slice A1 t.ov.length c1) (.slice A2 t.ls.length c2) 25)
 have b1 := aQ hb1 (box1 w (.int .i64 t.n) (.slice A1 t.ov.length c1) (.slice A2 t.ls.length c2) 25)
 have b2 := aQ hb1 (box2 w (.int .i64 t.n) (.slice A1 t.ov.length c1) (.slice A2 t.ls.length c2) 25)
 have s0 : ((w.alloc (.cells #[.int .i64 t.n, .slice A1 t.ov.length c1, .slice A2 t.ls.length c2] 25)).alloc (.cells #[.int .i64 k, .int .i64 m] 79)).cell? ⟨w.heap.size + 1, 0, none⟩ = some (.int .i64 k) := by simp
 have s1 : ((w.alloc (.cells #[.int .i64 t.n, .slice A1 t.ov.length c1, .slice A2 t.ls.length c2] 25)).alloc (.cells #[.int .i64 k, .int .i64 m] 79)).cell? ⟨w.heap.size + 1, 1, none⟩ = some (.int .i64 m) := by simp
 clear hb0 hb1 hT
 have HT' := hU HT
 have HB' := hU HB
 clear HT HB
 go_enter Tryz.func35, Tryz.ntmps35
 go_wp2_with fail
 refine (component_Union t A1 A2 c1 c2 _ 1 [(k, m)] _ (HT'.out.below (cQ _ _)) (rdP_new (by simp)) hn (by simp)).mono ?_
 rintro e w2 ⟨A, c, rfl, hr, hb, hfr⟩
 have HFR : Hid (∀ p, A = some p → w.heap.size ≤ p.block) := hU (fun p hp => Nat.le_trans (bQ HB'.out (cQ _ _)).size (hfr p hp))
 clear hfr
 go_wp2_with fail
 go_ret2
 exact ⟨A, c, rfl, hr, bQ (bQ HB'.out (cQ _ _)) hb, HFR.out⟩
theorem bools_at {w : World} {A : Option Addr} {xs : List Bool} {k : Nat} (h : Rd w A (xs.map Value.bool)) (hk : k < xs.length) : ∃ b o x, A = some ⟨b, o, none⟩ ∧ xs[k]? = some x ∧ w.cell? ⟨b, o + k, none⟩ = some (.bool x) := by
 obtain ⟨b, o, hA, hc⟩ := h.at_ (k := k) (u := .bool xs[k]) (by simp [hk])
 exact ⟨b, o, xs[k], hA, List.getElem?_eq_getElem hk, hc⟩
end
section
open Go.RowKit Go.Shelf
attribute [local go_sem] Oper.semAt_some
/-- Is a component within another one? -/
def withP (t : Topo) (k m k2 m2 : Int) : Nat → Bool
 | 0 => true
 | j + 1 => withP t k m k2 m2 j && (!part t k m (j : Int) || part t k2 m2 (j : Int))
def yQ (t : Topo) (k m k2 m2 : Int) : Bool := gZ t k m && gZ t k2 m2 && withP t k m k2 m2 t.ls.length
theorem withP_true {t : Topo} {k m k2 m2 : Int} : ∀ {n : Nat}, withP t k m k2 m2 n = true ↔ ∀ j, j < n → part t k m (j : Int) = true → part t k2 m2 (j : Int) = true
 | 0 => by simp [withP]
 | n + 1 => by
  rw [withP, Bool.and_eq_true, withP_true]
  constructor
  ·rintro ⟨h1, h2⟩ j hj hp
   by_cases e : j = n
   ·subst e; simpa [hp] using h2
   ·exact h1 j (by omega) hp
  ·intro h
   refine ⟨fun j hj => h j (by omega), ?_⟩
   cases hp : part t k m (n : Int) with
   | false => rfl
   | true => simpa using h n (by omega) hp
/-- The boxes of Within: the topology, both components, the result. -/
structure QBox (w : World) (A1 A2 : Option Addr) (c1 c2 : Nat) (t : Topo) (k m k2 m2 : Int) (v : Bool) (wr : World) : Prop where
 b0 : wr.cell? ⟨w.heap.size, 0, none⟩ = some (.int .i64 t.n)
 b1 : wr.cell? ⟨w.heap.size, 1, none⟩ = some (.slice A1 t.ov.length c1)
 b2 : wr.cell? ⟨w.heap.size, 2, none⟩ = some (.slice A2 t.ls.length c2)
 s0 : wr.cell? ⟨w.heap.size + 1, 0, none⟩ = some (.int .i64 k)
 s1 : wr.cell? ⟨w.heap.size + 1, 1, none⟩ = some (.int .i64 m)
 r0 : wr.cell? ⟨w.heap.size + 1 + 1, 0, none⟩ = some (.int .i64 k2)
 r1 : wr.cell? ⟨w.heap.size + 1 + 1, 1, none⟩ = some (.int .i64 m2)
 zb : wr.heap[w.heap.size + 1 + 1 + 1]? = some (.cells #[.bool v] 4 (0, 0))
 hb : Below w.heap.size w wr
theorem QBox.z0 {w : World} {A1 A2 : Option Addr} {c1 c2 : Nat} {t : Topo} {k m k2 m2 : Int} {v : Bool} {wr : World} (h : QBox w A1 A2 c1 c2 t k m k2 m2 v wr) : wr.cell? ⟨w.heap.size + 1 + 1 + 1, 0, none⟩ = some (.bool v) := by rw [Lib.cell_of_heap h.zb]; rfl
theorem QBox.zf {w : World} {A1 A2 : Option Addr} {c1 c2 : Nat} {t : Topo} {k m k2 m2 : Int} {v : Bool} {wr : World} (h : QBox w A1 A2 c1 c2 t k m k2 m2 v wr) : wr.frozen? ⟨w.heap.size + 1 + 1 + 1, 0, none⟩ = false := Lib.frozen_of_heap h.zb _
theorem QBox.up {w : World} {A1 A2 : Option Addr} {c1 c2 : Nat} {t : Topo} {k m k2 m2 : Int} {v : Bool} {wr w' : World} (h : QBox w A1 A2 c1 c2 t k m k2 m2 v wr) (hb : Below wr.heap.size wr w') : QBox w A1 A2 c1 c2 t k m k2 m2 v w' :=
 ⟨aQ hb h.b0, aQ hb h.b1, aQ hb h.b2, aQ hb h.s0, aQ hb h.s1, aQ hb h.r0, aQ hb h.r1, (hb.block _ (kZ h.zb)).trans h.zb, bQ h.hb hb⟩
theorem below_qbox (w : World) (o1 o2 o3 o4 : Obj) : Below w.heap.size w ((((w.alloc o1).alloc o2).alloc o3).alloc o4) :=
 (((cQ w o1).alloc (by simp) o2).alloc (by simp; omega) o3).alloc (by simp; omega) o4
theorem new0 {g : Nat} (w : World) (x y : Value) (T : TypeId) (h : w.heap.size = g) : (w.alloc (.cells #[x, y] T)).cell? ⟨g, 0, none⟩ = some x := by subst h; simp
theorem new1 {g : Nat} (w : World) (x y : Value) (T : TypeId) (h : w.heap.size = g) : (w.alloc (.cells #[x, y] T)).cell? ⟨g, 1, none⟩ = some y := by subst h; simp
theorem QBox.start (w : World) (A1 A2 : Option Addr) (c1 c2 : Nat) (t : Topo) (k m k2 m2 : Int) : QBox w A1 A2 c1 c2 t k m k2 m2 false ((((w.alloc (.cells #[.int .i64 t.n, .slice A1 t.ov.length c1, .slice A2 t.ls.length c2] 25)).alloc (.cells #[.int .i64 k, .int .i64 m] 79)).alloc (.cells #[.int .i64 k2, .int .i64 m2] 79)).alloc (.cells #[.bool false] 4)) := by
 have u1 : Below (w.alloc (.cells #[.int .i64 t.n, .slice A1 t.ov.length c1, .slice A2 t.ls.length c2] 25)).heap.size (w.alloc (.cells #[.int .i64 t.n, .slice A1 t.ov.length c1, .slice A2 t.ls.length c2] 25)) ((((w.alloc (.cells #[.int .i64 t.n, .slice A1 t.ov.length c1, .slice A2 t.ls.length c2] 25)).alloc (.cells #[.int .i64 k, .int .i64 m] 79)).alloc (.cells #[.int .i64 k2, .int .i64 m2] 79)).alloc (.cells #[.bool false] 4)) := ((cQ _ _).alloc (by simp) _).alloc (by simp) _
 have u2 : Below ((w.alloc (.cells #[.int .i64 t.n, .slice A1 t.ov.length c1, .slice A2 t.ls.length c2] 25)).alloc (.cells #[.int .i64 k, .int .i64 m] 79)).heap.size ((w.alloc (.cells #[.int .i64 t.n, .slice A1 t.ov.length c1, .slice A2 t.ls.length c2] 25)).alloc (.cells #[.int .i64 k, .int .i64 m] 79)) ((((w.alloc (.cells #[.int .i64 t.n, .slice A1 t.ov.length c1, .slice A2 t.ls.length c2] 25)).alloc (.cells #[.int .i64 k, .int .i64 m] 79)).alloc (.cells #[.int .i64 k2, .int .i64 m2] 79)).alloc (.cells #[.bool false] 4)) := (cQ _ _).alloc (by simp) _
 have u3 : Below (((w.alloc (.cells #[.int .i64 t.n, .slice A1 t.ov.length c1, .slice A2 t.ls.length c2] 25)).alloc (.cells #[.int .i64 k, .int .i64 m] 79)).alloc (.cells #[.int .i64 k2, .int .i64 m2] 79)).heap.size (((w.alloc (.cells #[.int .i64 t.n, .slice A1 t.ov.length c1, .slice A2 t.ls.length c2] 25)).alloc (.cells #[.int .i64 k, .int .i64 m] 79)).alloc (.cells #[.int .i64 k2, .int .i64 m2] 79)) ((((w.alloc (.cells #[.int .i64 t.n, .slice A1 t.ov.length c1, .slice A2 t.ls.length c2] 25)).alloc (.cells #[.int .i64 k, .int .i64 m] 79)).alloc (.cells #[.int .i64 k2, .int .i64 m2] 79)).alloc (.cells #[.bool false] 4)) := cQ _ _
 have e1 : ((w.alloc (.cells #[.int .i64 t.n, .slice A1 t.ov.length c1, .slice A2 t.ls.length c2] 25)).alloc (.cells #[.int .i64 k, .int .i64 m] 79)).cell? ⟨w.heap.size + 1, 0, none⟩ = some (.int .i64 k) := by simp
 have e2 : ((w.alloc (.cells #[.int .i64 t.n, .slice A1 t.ov.length c1, .slice A2 t.ls.length c2] 25)).alloc (.cells #[.int .i64 k, .int .i64 m] 79)).cell? ⟨w.heap.size + 1, 1, none⟩ = some (.int .i64 m) := by simp
 have e3 : (((w.alloc (.cells #[.int .i64 t.n, .slice A1 t.ov.length c1, .slice A2 t.ls.length c2] 25)).alloc (.cells #[.int .i64 k, .int .i64 m] 79)).alloc (.cells #[.int .i64 k2, .int .i64 m2] 79)).cell? ⟨w.heap.size + 1 + 1, 0, none⟩ = some (.int .i64 k2) := new0 _ _ _ _ (by simp)
 have e4 : (((w.alloc (.cells #[.int .i64 t.n, .slice A1 t.ov.length c1, .slice A2 t.ls.length c2] 25)).alloc (.cells #[.int .i64 k, .int .i64 m] 79)).alloc (.cells #[.int .i64 k2, .int .i64 m2] 79)).cell? ⟨w.heap.size + 1 + 1, 1, none⟩ = some (.int .i64 m2) := new1 _ _ _ _ (by simp)
 refine ⟨aQ u1 (box0 ..), aQ u1 (box1 ..), aQ u1 (box2 ..), aQ u2 e1, aQ u2 e2, aQ u3 e3, aQ u3 e4, ?_, below_qbox _ _ _ _ _⟩
 have := heap_alloc_new (((w.alloc (.cells #[.int .i64 t.n, .slice A1 t.ov.length c1, .slice A2 t.ls.length c2] 25)).alloc (.cells #[.int .i64 k, .int .i64 m] 79)).alloc (.cells #[.int .i64 k2, .int .i64 m2] 79)) (.cells #[.bool false] 4)
 rwa [World.size_alloc, World.size_alloc, World.size_alloc] at this
/-- The marks of one component, read at the even arcs. -/
theorem mask_even {t : Topo} {k m : Int} {n : Nat} (h : n < t.ls.length) : (mask t [(k, m)])[2 * n]? = some (part t k m (n : Int)) := by
 have : 2 * n < 2 * t.ls.length := by omega
 simp [mask, this, partA]
theorem mask_length (t : Topo) (l : List (Int × Int)) : (mask t l).length = 2 * t.ls.length := by simp [mask]
theorem grown_on {w w' w'' : World} {row0 row : Option Nat} (h : w.grownBy w' row0) (g : w'.grownBy w'' row) (hr : ∀ r, row = some r → w.heap.size ≤ r) : w.grownBy w'' row0 :=
 ⟨g.os.trans h.os, g.tape.trans h.tape, g.output.trans h.output, Nat.le_trans h.size g.size, fun k hk hne => (g.block k (Nat.lt_of_lt_of_le hk h.size) (fun e => by have := hr k e.symm; omega)).trans (h.block k hk hne)⟩
theorem grown_none {w w' w'' : World} {R : Nat} (h : w.grownBy w' none) (g : w'.grownBy w'' (some R)) : w.grownBy w'' (some R) :=
 ⟨g.os.trans h.os, g.tape.trans h.tape, g.output.trans h.output, Nat.le_trans h.size g.size, fun k hk hne => (g.block k (Nat.lt_of_lt_of_le hk h.size) hne).trans (h.block k hk (by simp))⟩
theorem ownFrom_read {β : Type} {W0 : World} (p : β → Prop) : OwnFrom W0.heap.size (fun (s : β) W => W0.grownBy W none ∧ p s) := by
 rintro s W W' row ⟨h1, h2⟩ hg hr
 exact ⟨grown_on h1 hg (fun r e => (hr r e).1), h2⟩
theorem ownFrom_ret {β : Type} {W0 : World} {R : Nat} (hR : R < W0.heap.size) (c : Code) (o : Obj) (p : β → Prop) : OwnFrom W0.heap.size (fun (s : β) W => c = .ret ∧ W0.grownBy W (some R) ∧ W.heap[R]? = some o ∧ p s) := by
 rintro s W W' row ⟨h0, h1, h2, h3⟩ hg hr
 refine ⟨h0, grown_on h1 hg (fun r e => (hr r e).1), (hg.block R (Nat.lt_of_lt_of_le hR h1.size) (fun e => ?_)).trans h2, h3⟩
 have := (hr R e.symm).1
 omega
theorem within_yes {t : Topo} {k m k2 m2 : Int} (h : ∀ x ∈ linksK t k m t.ls.length, part t k2 m2 x.1 = true) : withP t k m k2 m2 t.ls.length = true := by
 rw [withP_true]
 intro j hj hp
 have h1 := linksK_any t k m (j : Int) (by omega)
 rw [hp, List.any_eq_true] at h1
 obtain ⟨x, hx, e⟩ := h1
 have := h x hx
 rwa [show x.1 = (j : Int) by simpa using e] at this
theorem within_no {t : Topo} {k m k2 m2 : Int} {j : Nat} (hj : j ≤ t.ls.length) {x : Lk t.ls.length} (hx : x ∈ linksK t k m j) (h : part t k2 m2 x.1 = false) : withP t k m k2 m2 t.ls.length = false := by
 rw [← Bool.not_eq_true, withP_true]
 intro hh
 have hm : x.1 ∈ linksL t k m j := by rw [← linksK_val t k m j hj]; exact List.mem_map.2 ⟨x, hx, rfl⟩
 obtain ⟨h0, h1, h2⟩ := mem_ups.1 hm
 have := hh x.1.toNat (by omega) (by rw [show ((x.1.toNat : Nat) : Int) = x.1 by omega]; exact h2)
 rw [show ((x.1.toNat : Nat) : Int) = x.1 by omega, h] at this
 cases this
set_option maxRecDepth 100000 in
set_option maxHeartbeats 4000000 in
theorem component_Within (t : Topo) (A1 A2 : Option Addr) (c1 c2 : Nat) (k m k2 m2 : Int) (w : World) (hT : TAt w A1 A2 t) (hn : t.ls.length ≤ 100000) :
    Calls Tryz.prog 68 #[.agg #[.int .i64 t.n, .slice A1 t.ov.length c1, .slice A2 t.ls.length c2], .agg #[.int .i64 k, .int .i64 m], .agg #[.int .i64 k2, .int .i64 m2]] w fun e w' => e = .returned (.bool (yQ t k m k2 m2)) ∧ Below w.heap.size w w' := by
 have HTw := hU hT
 clear hT
 have H4 := hU (QBox.start w A1 A2 c1 c2 t k m k2 m2)
 have b0 := H4.out.b0
 have b1 := H4.out.b1
 have b2 := H4.out.b2
 have s0 := H4.out.s0
 have s1 := H4.out.s1
 have r0 := H4.out.r0
 have r1 := H4.out.r1
 have z0 := H4.out.z0
 have zf := H4.out.zf
 cases hv : gZ t k m with
 | false =>
  have HR : Hid (yQ t k m k2 m2 = false) := hU (by simp [yQ, hv])
  go_enter Tryz.func68, Tryz.ntmps68
  go_wp2_with (go_at_call 31; refine (component_Valid t _ _ _ _ _ _ _ (HTw.out.below H4.out.hb)).mono ?_; rintro e w1 ⟨rfl, hb⟩; replace H4 := hU (H4.out.up hb); clear hb b0 b1 b2 s0 s1 r0 r1 z0 zf; have b0 := H4.out.b0; have b1 := H4.out.b1; have b2 := H4.out.b2; have s0 := H4.out.s0; have s1 := H4.out.s1; have r0 := H4.out.r0; have r1 := H4.out.r1; have z0 := H4.out.z0; have zf := H4.out.zf; have hz : w.heap.size + 1 + 1 + 1 < w1.heap.size := kZ H4.out.zb; have hz1 : w.heap.size + 1 + 1 + 1 ≠ w1.heap.size := (by omega); have hz2 : w1.heap.size ≠ w.heap.size + 1 + 1 + 1 := (by omega); have hy0 : w.heap.size < w1.heap.size := (by omega); have hy1 : w.heap.size ≠ w1.heap.size := (by omega); have hy2 : w1.heap.size ≠ w.heap.size := (by omega); have hy3 : w.heap.size + 1 < w1.heap.size := (by omega); have hy4 : w.heap.size + 1 ≠ w1.heap.size := (by omega); have hy5 : w1.heap.size ≠ w.heap.size + 1 := (by omega))
  refine bodyPost_ret (v := .bool false) (by simp [results, Tryz.results68, go_sem, z0]) rfl ⟨by rw [HR.out], H4.out.hb.setCell (p := ⟨w.heap.size + 1 + 1 + 1, 0, none⟩) (by show w.heap.size ≤ w.heap.size + 1 + 1 + 1; omega) _⟩
 | true =>
  have hval := compV_valid hv
  have HKI := hU (compV_kind hv)
  cases hc : gZ t k2 m2 with
  | false =>
   have HR : Hid (yQ t k m k2 m2 = false) := hU (by simp [yQ, hc])
   have HU : Hid (unionV t [(k2, m2)] = ([], 1)) := hU (unionV_bad (List.mem_singleton.2 rfl) (by simpa [gZ, hval] using hc))
   go_enter Tryz.func68, Tryz.ntmps68
   go_wp2_with (first | (go_at_call 31; refine (component_Valid t _ _ _ _ _ _ _ (HTw.out.below H4.out.hb)).mono ?_; rintro e w1 ⟨rfl, hb⟩; replace H4 := hU (H4.out.up hb); clear hb b0 b1 b2 s0 s1 r0 r1 z0 zf; have b0 := H4.out.b0; have b1 := H4.out.b1; have b2 := H4.out.b2; have s0 := H4.out.s0; have s1 := H4.out.s1; have r0 := H4.out.r0; have r1 := H4.out.r1; have z0 := H4.out.z0; have zf := H4.out.zf; have hz : w.heap.size + 1 + 1 + 1 < w1.heap.size := kZ H4.out.zb; have hz1 : w.heap.size + 1 + 1 + 1 ≠ w1.heap.size := (by omega); have hz2 : w1.heap.size ≠ w.heap.size + 1 + 1 + 1 := (by omega); have hy0 : w.heap.size < w1.heap.size := (by omega); have hy1 : w.heap.size ≠ w1.heap.size := (by omega); have hy2 : w1.heap.size ≠ w.heap.size := (by omega); have hy3 : w.heap.size + 1 < w1.heap.size := (by omega); have hy4 : w.heap.size + 1 ≠ w1.heap.size := (by omega); have hy5 : w1.heap.size ≠ w.heap.size + 1 := (by omega)) | (go_at_call 35; have hM := component_Mask t A1 A2 c1 c2 k2 m2 _ (HTw.out.below H4.out.hb) hn; rw [HU.out] at hM; refine hM.mono ?_; clear hM; rintro e w2 ⟨A, c, rfl, _, hb, _⟩; replace H4 := hU (H4.out.up hb); clear hb hz hz1 hz2 hy0 hy1 hy2 hy3 hy4 hy5 b0 b1 b2 s0 s1 r0 r1 z0 zf; have b0 := H4.out.b0; have b1 := H4.out.b1; have b2 := H4.out.b2; have s0 := H4.out.s0; have s1 := H4.out.s1; have r0 := H4.out.r0; have r1 := H4.out.r1; have z0 := H4.out.z0; have zf := H4.out.zf; have hz : w.heap.size + 1 + 1 + 1 < w2.heap.size := kZ H4.out.zb; have hz1 : w.heap.size + 1 + 1 + 1 ≠ w2.heap.size := (by omega); have hz2 : w2.heap.size ≠ w.heap.size + 1 + 1 + 1 := (by omega); have hy0 : w.heap.size < w2.heap.size := (by omega); have hy1 : w.heap.size ≠ w2.heap.size := (by omega); have hy2 : w2.heap.size ≠ w.heap.size := (by omega); have hy3 : w.heap.size + 1 < w2.heap.size := (by omega); have hy4 : w.heap.size + 1 ≠ w2.heap.size := (by omega); have hy5 : w2.heap.size ≠ w.heap.size + 1 := (by omega)))
   refine bodyPost_ret (v := .bool false) (by have zz : ((w2.setCell ⟨w.heap.size + 1 + 1 + 1, 0, none⟩ (.bool false)).alloc (.cells #[.slice A 0 c] 22)).cell? ⟨w.heap.size + 1 + 1 + 1, 0, none⟩ = some (.bool false) := aQ (cQ _ _) (World.cell?_setCell_same w2 ⟨w.heap.size + 1 + 1 + 1, 0, none⟩ (.bool false) z0); simp [results, Tryz.results68, go_sem, zz]) rfl ⟨by rw [HR.out], (H4.out.hb.setCell (p := ⟨w.heap.size + 1 + 1 + 1, 0, none⟩) (by show w.heap.size ≤ w.heap.size + 1 + 1 + 1; omega) _).alloc (by simp; omega) _⟩
  | true =>
   have HU : Hid (unionV t [(k2, m2)] = (mask t [(k2, m2)], 0)) := hU (unionV_ok hval (fun p hp => by
    simp at hp
    subst hp
    simpa [gZ, hval] using hc))
   have HML := hU (mask_length t [(k2, m2)])
   have HME : Hid (∀ n, n < t.ls.length → (mask t [(k2, m2)])[2 * n]? = some (part t k2 m2 (n : Int))) := hU fun n h => mask_even h
   have HR : Hid (yQ t k m k2 m2 = withP t k m k2 m2 t.ls.length) := hU (by simp [yQ, hv, hc])
   obtain ⟨xs, hxs⟩ : ∃ xs, xs = mask t [(k2, m2)] := ⟨_, rfl⟩
   rw [← hxs] at HU HML HME
   clear hxs hc
   refine (callsIn_wide (n := 3)).1 ?_
   refine callsIn_of_wp_marks Tryz.func68 rfl trivial ?_ rfl
   simp only [Tryz.ntmps68, List.size_toArray, List.length_cons, List.length_nil, Nat.reduceAdd, Nat.reduceSub, Array.replicate_succ, Array.replicate_zero, List.push_toArray, List.append_toArray, List.nil_append, List.cons_append]
   gi_wp2_with (first | (refine ⟨trivial, ?_⟩; gi_at_call 31; refine (callsIn_wide.2 (component_Valid t _ _ _ _ _ _ _ (HTw.out.below H4.out.hb))).mono ?_; rintro e w1 ⟨rfl, hb⟩; replace H4 := hU (H4.out.up hb); clear hb b0 b1 b2 s0 s1 r0 r1 z0 zf; have b0 := H4.out.b0; have b1 := H4.out.b1; have b2 := H4.out.b2; have s0 := H4.out.s0; have s1 := H4.out.s1; have r0 := H4.out.r0; have r1 := H4.out.r1; have z0 := H4.out.z0; have zf := H4.out.zf; have hz : w.heap.size + 1 + 1 + 1 < w1.heap.size := kZ H4.out.zb; have hz1 : w.heap.size + 1 + 1 + 1 ≠ w1.heap.size := (by omega); have hz2 : w1.heap.size ≠ w.heap.size + 1 + 1 + 1 := (by omega); have hy0 : w.heap.size < w1.heap.size := (by omega); have hy1 : w.heap.size ≠ w1.heap.size := (by omega); have hy2 : w1.heap.size ≠ w.heap.size := (by omega); have hy3 : w.heap.size + 1 < w1.heap.size := (by omega); have hy4 : w.heap.size + 1 ≠ w1.heap.size := (by omega); have hy5 : w1.heap.size ≠ w.heap.size + 1 := (by omega)) | (refine ⟨trivial, ?_⟩; gi_at_call 35; have hM := component_Mask t A1 A2 c1 c2 k2 m2 _ (HTw.out.below H4.out.hb) hn; rw [HU.out] at hM; refine (callsIn_wide.2 hM).mono ?_; clear hM; rintro e w2 ⟨A, c, rfl, ra, hb, hfr⟩; clear hfr; replace H4 := hU (H4.out.up hb); clear hb hz hz1 hz2 hy0 hy1 hy2 hy3 hy4 hy5 b0 b1 b2 s0 s1 r0 r1 z0 zf; have b0 := H4.out.b0; have b1 := H4.out.b1; have b2 := H4.out.b2; have s0 := H4.out.s0; have s1 := H4.out.s1; have r0 := H4.out.r0; have r1 := H4.out.r1; have z0 := H4.out.z0; have zf := H4.out.zf; have hz : w.heap.size + 1 + 1 + 1 < w2.heap.size := kZ H4.out.zb; have hz1 : w.heap.size + 1 + 1 + 1 ≠ w2.heap.size := (by omega); have hz2 : w2.heap.size ≠ w.heap.size + 1 + 1 + 1 := (by omega); have hy0 : w.heap.size < w2.heap.size := (by omega); have hy1 : w.heap.size ≠ w2.heap.size := (by omega); have hy2 : w2.heap.size ≠ w.heap.size := (by omega); have hy3 : w.heap.size + 1 < w2.heap.size := (by omega); have hy4 : w.heap.size + 1 ≠ w2.heap.size := (by omega); have hy5 : w2.heap.size ≠ w.heap.size + 1 := (by omega)) | (refine ⟨trivial, ?_⟩; gi_at_call 89; refine (links_in _ _ trivial rfl _ _ _ _ _ _).mono ?_; rintro e w5 ⟨rfl, rfl⟩))
   have hbW : Below w2.heap.size w2 (((w2.alloc (.cells #[.slice A xs.length c] 22)).alloc (.cells #[.int .i64 t.n, .slice A1 t.ov.length c1, .slice A2 t.ls.length c2] 25)).alloc (.cells #[.int .i64 k, .int .i64 m] 79)) := ((cQ _ _).alloc (by simp) _).alloc (by simp; omega) _
   have hd3 : (((w2.alloc (.cells #[.slice A xs.length c] 22)).alloc (.cells #[.int .i64 t.n, .slice A1 t.ov.length c1, .slice A2 t.ls.length c2] 25)).alloc (.cells #[.int .i64 k, .int .i64 m] 79)).heap[w2.heap.size]? = some (.cells #[.slice A xs.length c] 22 (0, 0)) := (Below.heap_alloc _ _ _ (by simp; omega)).trans ((Below.heap_alloc _ _ _ (by simp)).trans (heap_alloc_new _ _))
   have hcT : (((w2.alloc (.cells #[.slice A xs.length c] 22)).alloc (.cells #[.int .i64 t.n, .slice A1 t.ov.length c1, .slice A2 t.ls.length c2] 25)).alloc (.cells #[.int .i64 k, .int .i64 m] 79)).cell? ⟨w2.heap.size + 1, 2, none⟩ = some (.slice A2 t.ls.length c2) := by
    have := aQ (cQ ((w2.alloc (.cells #[.slice A xs.length c] 22)).alloc (.cells #[.int .i64 t.n, .slice A1 t.ov.length c1, .slice A2 t.ls.length c2] 25)) (.cells #[.int .i64 k, .int .i64 m] 79)) (box2 (w2.alloc (.cells #[.slice A xs.length c] 22)) (.int .i64 t.n) (.slice A1 t.ov.length c1) (.slice A2 t.ls.length c2) 25)
    rwa [World.size_alloc] at this
   have hBc : (((w2.alloc (.cells #[.slice A xs.length c] 22)).alloc (.cells #[.int .i64 t.n, .slice A1 t.ov.length c1, .slice A2 t.ls.length c2] 25)).alloc (.cells #[.int .i64 k, .int .i64 m] 79)).heap[w2.heap.size + 1 + 1]? = some (.cells #[.int .i64 k, .int .i64 m] 79 (0, 0)) := by
    have := heap_alloc_new ((w2.alloc (.cells #[.slice A xs.length c] 22)).alloc (.cells #[.int .i64 t.n, .slice A1 t.ov.length c1, .slice A2 t.ls.length c2] 25)) (.cells #[.int .i64 k, .int .i64 m] 79)
    rwa [World.size_alloc, World.size_alloc] at this
   have hs3 : (((w2.alloc (.cells #[.slice A xs.length c] 22)).alloc (.cells #[.int .i64 t.n, .slice A1 t.ov.length c1, .slice A2 t.ls.length c2] 25)).alloc (.cells #[.int .i64 k, .int .i64 m] 79)).heap.size = w2.heap.size + 3 := by simp
   obtain ⟨W3, hW3⟩ : ∃ W3, W3 = (((w2.alloc (.cells #[.slice A xs.length c] 22)).alloc (.cells #[.int .i64 t.n, .slice A1 t.ov.length c1, .slice A2 t.ls.length c2] 25)).alloc (.cells #[.int .i64 k, .int .i64 m] 79)) := ⟨_, rfl⟩
   rw [← hW3] at hbW hd3 hcT hBc hs3 ⊢
   have hB3 : Below w.heap.size w W3 := bQ H4.out.hb hbW
   have hc0 : W3.cell? ⟨w2.heap.size + 1 + 1, 0, none⟩ = some (.int .i64 k) := by rw [Lib.cell_of_heap hBc]; rfl
   have hc1 : W3.cell? ⟨w2.heap.size + 1 + 1, 1, none⟩ = some (.int .i64 m) := by rw [Lib.cell_of_heap hBc]; rfl
   have HZ := hU ((hbW.block _ hz).trans H4.out.zb)
   have HRA := hU (ra.below hbW)
   have HD3 := hU hd3
   clear hW3 b0 b1 b2 s0 s1 r0 r1 z0 zf ra hd3 H4 hv hval
   refine wpIn_rangeFunc_ownG rfl (by omega) (gf := 111) (lb := #[.pointer (some ⟨w2.heap.size + 1, 0, none⟩), .pointer (some ⟨w2.heap.size + 1 + 1, 0, none⟩)]) rfl trivial (enters_of Tryz.func111 (by kernel_rfl) rfl)
    (links_stops Fence.wide 2 trivial rfl (by omega) (w2.heap.size + 1) (w2.heap.size + 1 + 1) w.heap.size t A2 c2 k m HKI.out hn w W3 rfl HTw.out.ls hB3 (by omega) (by omega) hcT hc0 hc1) Kq.trans (Kq_b (by omega) (by omega)) (Below.refl _ _) (fun _ => rfl)
    (fun pre W => W3.grownBy W none ∧ ∀ x ∈ pre, part t k2 m2 x.1 = true)
    (fun c pre W => c = .ret ∧ W3.grownBy W (some (w.heap.size + 1 + 1 + 1)) ∧ W.heap[w.heap.size + 1 + 1 + 1]? = some (.cells #[.bool false] 4 (0, 0)) ∧ ∃ x ∈ pre, part t k2 m2 x.1 = false)
    (ownFrom_read _)
    (fun c => ownFrom_ret (by omega) c _ _)
    ⟨grown_refl _ _, fun x hx => by simp at hx⟩
    (fun (x : Lk t.ls.length) => { tmps := #[.agg #[.int .i64 t.n, .slice A1 t.ov.length c1, .slice A2 t.ls.length c2], .agg #[.int .i64 k, .int .i64 m], .agg #[.int .i64 k2, .int .i64 m2], .pointer (some ⟨w.heap.size, 0, none⟩), .pointer (some ⟨w.heap.size + 1, 0, none⟩), .pointer (some ⟨w.heap.size + 1 + 1, 0, none⟩), .pointer (some ⟨w.heap.size + 1 + 1 + 1, 0, none⟩), .pointer (some ⟨w2.heap.size, 0, none⟩), .int .i64 0, .int .i64 x.1, .agg #[.int .i64 t.n, .slice A1 t.ov.length c1, .slice A2 t.ls.length c2], .agg #[.int .i64 k, .int .i64 m], .bool true, .bool false, .tuple #[.slice A xs.length c, .int .i64 0], .agg #[.int .i64 t.n, .slice A1 t.ov.length c1, .slice A2 t.ls.length c2], .agg #[.int .i64 k2, .int .i64 m2], .tuple #[.slice A xs.length c, .int .i64 0], .slice A xs.length c, .int .i64 0, .int .i64 0, .bool false, .agg #[.int .i64 t.n, .slice A1 t.ov.length c1, .slice A2 t.ls.length c2], .agg #[.int .i64 k, .int .i64 m], .func (.func 111) #[] #[.pointer (some ⟨w2.heap.size + 1, 0, none⟩), .pointer (some ⟨w2.heap.size + 1 + 1, 0, none⟩)], .int .i64 x.1, undef, undef, undef, undef, undef, undef], defers := [] }) ?assign ?body ?done ?stop
   case assign =>
    intro l x W K hK
    gi_wp2
    exact hK
   case body =>
    rintro lp pre x W ⟨hg, hm⟩ _
    obtain ⟨xn, hxn⟩ : ∃ xn : Nat, x.1 = (xn : Int) := ⟨x.1.toNat, by have := x.2.1; omega⟩
    have hxl : xn < t.ls.length := by have := x.2.2; omega
    have c7 : W.cell? ⟨w2.heap.size, 0, none⟩ = some (.slice A xs.length c) := by
     rw [Lib.cell_of_heap ((hg.block _ (kZ HD3.out) (by simp)).trans HD3.out)]; rfl
    have hzb := (hg.block _ (kZ HZ.out) (by simp)).trans HZ.out
    have z0 : W.cell? ⟨w.heap.size + 1 + 1 + 1, 0, none⟩ = some (.bool false) := by rw [Lib.cell_of_heap hzb]; rfl
    have zf : W.frozen? ⟨w.heap.size + 1 + 1 + 1, 0, none⟩ = false := Lib.frozen_of_heap hzb _
    have hrw : Rd W A (xs.map Value.bool) := HRA.out.keep fun p hp => World.cell?_of_block (hg.block p.block hp (by simp))
    obtain ⟨b, o, y, rfl, hy, cy⟩ := bools_at (k := 2 * xn) hrw (by have := HML.out; omega)
    obtain rfl : y = part t k2 m2 (xn : Int) := by
     have := HME.out xn hxl
     rw [hy] at this
     exact Option.some.inj this
    have HG := hU hg
    have HM := hU hm
    have HXN := hU hxn
    have HZB := hU hzb
    have hxb : (xn : Int) ≤ 100000 := by omega
    have i1 : 2 * (xn : Int) < (xs.length : Int) := by have := HML.out; omega
    have e1 : (2 * (xn : Int)).toNat = 2 * xn := by omega
    simp only [hxn]
    clear hg hm hxn hy hrw hzb
    cases hp : part t k2 m2 (xn : Int) with
    | true =>
     rw [hp] at cy
     have HP := hU hp
     gi_wp2
     refine ⟨KeepsFrom.refl _ _, ⟨Below.refl _ _, rfl⟩, HG.out, fun x' hx' => ?_⟩
     rcases List.mem_append.1 hx' with h | h
     ·exact HM.out x' h
     ·rw [List.mem_singleton.1 h, HXN.out]; exact HP.out
    | false =>
     rw [hp] at cy
     have HP := hU hp
     gi_wp2
     refine ⟨KeepsFrom.of_grownBy (grown_set W _ 0 _) (fun j e => by cases e; omega), rfl, grown_none HG.out (grown_set W _ 0 _), ?_, x, by simp, by rw [HXN.out]; exact HP.out⟩
     exact heap_setCell_same _ _ _ _ _ _ HZB.out
   case done =>
    rintro D ys W hD rfl ⟨hg, hm⟩ hK
    have HM : Hid (withP t k m k2 m2 t.ls.length = true) := hU (within_yes hm)
    have hzb := (hg.block _ (kZ HZ.out) (by simp)).trans HZ.out
    have z0 : W.cell? ⟨w.heap.size + 1 + 1 + 1, 0, none⟩ = some (.bool false) := by rw [Lib.cell_of_heap hzb]; rfl
    have zf : W.frozen? ⟨w.heap.size + 1 + 1 + 1, 0, none⟩ = false := Lib.frozen_of_heap hzb _
    have HG := hU hg
    have HK : Hid ((W.setCell ⟨w.heap.size + 1 + 1 + 1, 0, none⟩ (.bool true)).heap[D]? = some (.deferred (some []))) := hU ((Below.heap_setCell _ _ _ _ (by show D ≠ w.heap.size + 1 + 1 + 1; omega)).trans hK)
    have HZB := hU hzb
    clear hg hm hK hzb
    gi_wp2
    have hz3 : ((W.setCell ⟨w.heap.size + 1 + 1 + 1, 0, none⟩ (.bool true)).putObj D (.deferred none)).heap[w.heap.size + 1 + 1 + 1]? = some (.cells #[.bool true] 4 (0, 0)) := (World.putObj_heap_other (by omega)).trans (heap_setCell_same _ _ _ _ _ _ HZB.out)
    have hz4 := Lib.cell_of_heap hz3 (j := 0)
    refine ⟨by simp, .inl ⟨_, _, rfl, run_takeDeferred HK.out, ?_⟩⟩
    exact ⟨.bool true, by simp [results, Tryz.results68, go_sem, hz4], by rw [HR.out, HM.out], ((hB3.grown HG.out (by omega) (fun k e => by cases e)).setCell (p := ⟨w.heap.size + 1 + 1 + 1, 0, none⟩) (by show w.heap.size ≤ w.heap.size + 1 + 1 + 1; omega) _).grown (grownBy_putObj' _ D _) (by have := HG.out.size; simp; omega) (fun k e => by cases e; omega)⟩
   case stop =>
    rintro D c pre W hD ⟨j, hj, rfl⟩ ⟨rfl, hg, hzb, x, hx, hp⟩ hK
    have HM : Hid (withP t k m k2 m2 t.ls.length = false) := hU (within_no hj hx hp)
    have HG := hU hg
    have HK := hU hK
    have HZB := hU hzb
    clear hg hK hzb hx hp
    gi_wp2
    have hz3 : (W.putObj D (.deferred none)).heap[w.heap.size + 1 + 1 + 1]? = some (.cells #[.bool false] 4 (0, 0)) := (World.putObj_heap_other (by omega)).trans HZB.out
    have hz4 := Lib.cell_of_heap hz3 (j := 0)
    refine ⟨by simp, .inl ⟨_, _, rfl, run_takeDeferred HK.out, ?_⟩⟩
    exact ⟨.bool false, by simp [results, Tryz.results68, go_sem, hz4], by rw [HR.out, HM.out], (hB3.grown HG.out (by omega) (fun k e => by cases e; omega)).grown (grownBy_putObj' _ D _) (by have := HG.out.size; omega) (fun k e => by cases e; omega)⟩
end
end Go.Proofs.YtdnjflpmbnjgeaaGreat
